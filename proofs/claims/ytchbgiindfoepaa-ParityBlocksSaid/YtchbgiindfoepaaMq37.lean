import Derived.Lib.SlBytesConst
import Derived.Lib.SlBytesRow
import Derived.Test.YtchbgiindfoepaaMq36
import Derived.Test.YtchbgiindfoepaaMq25
import Derived.Test.YtchbgiindfoepaaMq34
import Derived.Test.YtchbgiindfoepaaMq8
import Derived.Test.YtchbgiindfoepaaMq23
/- The walk of confluxlaw13.two and alive (printed by gen_alive13.py). -/
namespace Go.Proofs.Ytchbgiindfoepaa
open Go.RowKit

def ba13 : List UInt8 := [128, 96, 255, 255, 0, 0, 0, 2, 0, 0, 0, 3, 97, 98]
def bb13 : List UInt8 := [128, 96, 0, 0, 0, 0, 0, 2, 0, 0, 0, 3, 98]
def ca13 : Array Value := #[.int .u8 128, .int .u8 96, .int .u8 255, .int .u8 255, .int .u8 0, .int .u8 0, .int .u8 0, .int .u8 2, .int .u8 0, .int .u8 0, .int .u8 0, .int .u8 3, .int .u8 97, .int .u8 98]
def cb13 : Array Value := #[.int .u8 128, .int .u8 96, .int .u8 0, .int .u8 0, .int .u8 0, .int .u8 0, .int .u8 0, .int .u8 2, .int .u8 0, .int .u8 0, .int .u8 0, .int .u8 3, .int .u8 98]
abbrev two13 : List (List UInt8) := [ba13, bb13]
def rep13 : Rep_ := ⟨⟨0, 0, 0, 0, 0, 0, 0, 3, [3, 98]⟩, 65535, ⟨13835058055282163712#64, 0#64⟩⟩
def repb13 : Rep_ := ⟨⟨0, 96, 0, 0, 0, 2, 0, 1, [98]⟩, 0, ⟨9223372036854775808#64, 0#64⟩⟩
def repa13 : Rep_ := ⟨⟨0, 96, 0, 0, 0, 2, 0, 2, [97, 98]⟩, 65535, ⟨9223372036854775808#64, 0#64⟩⟩
theorem rep13_hi : ((rep13.m.hi.toNat : Nat) : Int) = 13835058055282163712 := by decide +kernel
theorem mk_two13 : mkP two13 = .ok rep13 := by rfl
theorem mk_b13 : mkP [bb13] = .ok repb13 := by rfl
theorem mk_a13 : mkP [ba13] = .ok repa13 := by rfl
theorem mk_nil13 : mkP [] = .error 4 := by rfl
theorem some_1_13 : someR two13 [1] = .ok repb13 := by unfold someR; rw [if_pos (by decide)]; exact mk_b13
theorem some_11_13 : someR two13 [1, 1] = .error 1 := by unfold someR; rw [if_neg (by decide)]
theorem some_01_13 : someR two13 [0, 1] = .ok rep13 := by unfold someR; rw [if_pos (by decide)]; exact mk_two13
theorem some_0_13 : someR two13 [0] = .ok repa13 := by unfold someR; rw [if_pos (by decide)]; exact mk_a13
theorem block13 : blockL two13 [[0, 1], [0]] [] = .ok [rep13, repa13] := by
  unfold blockL; rw [some_01_13]
  show blockL two13 [[0]] [rep13] = _
  unfold blockL; rw [some_0_13]
  rfl
theorem nmb13 : (nmb rep13).length = 2 := mkP_count mk_two13
theorem holds13 : holdsB rep13 two13 = true := holds_self mk_two13
theorem holds13a : holdsB rep13 [ba13] = false := holds_count mk_two13 (by decide)
theorem lib_bytes {w : World} {b o n c : Nat} {l : List UInt8} (h : Bytes w (.slice (some ⟨b, o, none⟩) n c) l) : Lib.Bytes w b o ⟨l.toArray⟩ := by
  intro i hi
  have hl : i < l.length := by simpa [ByteArray.size] using hi
  have hn := (Sl.len h).1
  rw [List.length_map] at hn
  obtain ⟨b', o', e, -, hc⟩ := Sl.at_ h (k := i) (by omega)
  cases e
  have := hc i (B8 l[i]) (by rw [List.getElem?_map, List.getElem?_eq_getElem hl]; rfl)
  rw [this]
  rfl
theorem bytes2 {w : World} {v : Value} {x y : UInt8} (h : Bytes w v [x, y]) : ∃ b o c, v = .slice (some ⟨b, o, none⟩) 2 c ∧ w.cell? ⟨b, o, none⟩ = some (.int .u8 (x.toNat : Nat)) ∧ w.cell? ⟨b, o + 1, none⟩ = some (.int .u8 (y.toNat : Nat)) := by
  obtain ⟨a, c, rfl⟩ := Sl.shape h
  obtain ⟨b, o, rfl, -, hc⟩ := Sl.at_ h (k := 0) (by simp)
  exact ⟨b, o, c, rfl, hc 0 _ rfl, hc 1 _ rfl⟩
set_option maxRecDepth 100000 in
set_option maxHeartbeats 4000000 in
theorem l13two_any {w : World} : Calls Try.prog 69 #[] w fun e w' => ∃ a, e = .returned (.slice a 2 2) ∧ BRows w' (.slice a 2 2) two13 ∧ Fr [] w w' := by
  have k1 := Lib.run_convert_bytes_const (P := Try.prog) w 25 5 ca13 14 14 Try.underlying25 Try.underlying5
  obtain ⟨w1, e1, hF1, hB1⟩ := const_block w ca13 5 (ca13.size, ca13.size + 1) 14 rfl (by unfold maxLen; omega)
  rw [e1] at k1
  have k2 := Lib.run_convert_bytes_const (P := Try.prog) w1 25 5 cb13 13 13 Try.underlying25 Try.underlying5
  obtain ⟨w2, e2, hF2, hB2⟩ := const_block w1 cb13 5 (cb13.size, cb13.size + 1) 13 rfl (by unfold maxLen; omega)
  rw [e2] at k2
  have HA : Hid (Bytes w2 (.slice (some ⟨w.heap.size, 0, none⟩) 14 14) ba13) := Lib.hid (Sl.keep hB1 hF2)
  have HB : Hid (Bytes w2 (.slice (some ⟨w1.heap.size, 0, none⟩) 13 13) bb13) := Lib.hid hB2
  have HF := Lib.hid (hF1.trans hF2)
  clear e1 hF1 hB1 e2 hF2 hB2
  unfold ca13 at k1
  unfold cb13 at k2
  go_enter Try.func69, Try.ntmps69
  go_wp2_with fail
  go_ret
  have hal : allB w2 [.slice (some ⟨w.heap.size, 0, none⟩) 14 14, .slice (some ⟨w1.heap.size, 0, none⟩) 13 13] two13 := ⟨HA.out, HB.out, trivial⟩
  have hb := brows_made 25 2 hal rfl (by unfold maxLen; omega)
  exact ⟨_, rfl, hb, HF.out.trans ((Fr.refl [] w2).alloc _)⟩
set_option maxRecDepth 100000 in
set_option maxHeartbeats 16000000 in
theorem l13alive_any {w : World} : Calls Try.prog 26 #[] w fun e w' => e = .returned (.bool true) ∧ Fr [] w w' := by
  go_enter Try.func26, Try.ntmps26
  go_wp2_with fail
  refine l13two_any.mono ?_
  rintro e w1 ⟨ap, rfl, hP, hF⟩
  have HP := Lib.hid hP; have HF := Lib.hid hF
  clear hP hF
  go_wp2_with fail
  refine (pMake_any HP.out).mono ?_
  rintro e w2 ⟨hF, ⟨r, v', hm, rfl, hv⟩ | ⟨kk, hm, -, -⟩⟩
  rotate_left
  · rw [mk_two13] at hm; cases hm
  rw [mk_two13] at hm
  cases hm
  obtain ⟨vb, rfl, hb, -⟩ := hv
  obtain ⟨b2, o2, c2, rfl, hc20, hc21⟩ := bytes2 hb
  have HF := Lib.hid (HF.out.trans hF)
  have HP := Lib.hid (HP.out.keep hF)
  have HB := Lib.hid hb
  clear hb hF
  go_upto_region 3 with (refine wpList_store_row rfl 58 (.tmp 2) (.tmp 18) rfl w2.heap.size rfl _ _ rfl 58 (Box.new w2 58 rpz) (by kernel_rfl) rfl (by simp [Value.oneCell']) ?_; intro w3 hY hG; have hFn := ((Fr.refl [] w2).alloc _).step hG (by simp); have HFn := Lib.hid hFn; have HY := Lib.hid hY; clear hG hFn hY)
  have hF := HFn.out
  have HF := Lib.hid (HF.out.trans hF)
  have HP := Lib.hid (HP.out.keep hF)
  have HB := Lib.hid (Sl.keep HB.out hF)
  have HR := HY
  clear hF HFn HY
  generalize hg2 : w2.heap.size = g2 at *
  clear hg2
  go_wp2_with fail
  refine (pMake_any (BRows.nil w3)).mono ?_
  rintro e w4 ⟨hF, ⟨r, v', hm, -, -⟩ | ⟨kk, hm, -, rfl⟩⟩
  · rw [mk_nil13] at hm; cases hm
  rw [mk_nil13] at hm
  cases hm
  have HF := Lib.hid (HF.out.trans hF)
  have HP := Lib.hid (HP.out.keep hF)
  have HB := Lib.hid (Sl.keep HB.out hF)
  have HR := Lib.hid (HR.out.keep hF)
  clear hF
  go_upto_region 4 with (refine wpList_store_row rfl 58 (.tmp 4) (.tmp 22) rfl w4.heap.size rfl _ _ rfl 58 (Box.new w4 58 rpz) (by kernel_rfl) rfl (by simp [Value.oneCell']) ?_; intro w5 hY hG; have hFn := ((Fr.refl [] w4).alloc _).step hG (by simp); have HFn := Lib.hid hFn; have HY := Lib.hid hY; clear hG hFn hY)
  have hF := HFn.out
  have HF := Lib.hid (HF.out.trans hF)
  have HP := Lib.hid (HP.out.keep hF)
  have HB := Lib.hid (Sl.keep HB.out hF)
  have HR := Lib.hid (HR.out.keep hF)
  clear hF HFn HY
  obtain ⟨w6, e4, hF, hB4, hs4⟩ := one_new w5 #[.int .i64 1] 3
  have HI4 : Hid (Ints w6 (.slice (some ⟨w5.heap.size, 0, none⟩) 1 1) [1]) := Lib.hid (Sl_block hB4 (n := 1) rfl (by unfold maxLen; omega))
  have E4 := Lib.hid e4
  have HF := Lib.hid (HF.out.trans hF)
  have HP := Lib.hid (HP.out.keep hF)
  have HB := Lib.hid (Sl.keep HB.out hF)
  have HR := Lib.hid (HR.out.keep hF)
  clear hF e4 hB4 hs4
  go_wp2_with fail
  rw [E4.out]
  clear E4
  refine (pSome_any HP.out HI4.out (by decide) (by decide)).mono ?_
  rintro e w7 ⟨hF, ⟨r, v', hm, rfl, hv⟩ | ⟨kk, hm, -, -⟩⟩
  rotate_left
  · rw [some_1_13] at hm; cases hm
  rw [some_1_13] at hm
  cases hm
  obtain ⟨vb, rfl, hb, -⟩ := hv
  obtain ⟨a7, c7, rfl⟩ := Sl.shape hb
  rw [List.length_map] at hb ⊢
  have HF := Lib.hid (HF.out.trans hF)
  have HP := Lib.hid (HP.out.keep hF)
  have HB := Lib.hid (Sl.keep HB.out hF)
  have HR := Lib.hid (HR.out.keep hF)
  clear hb hF HI4
  go_upto_region 5 with (refine wpList_store_row rfl 58 (.tmp 6) (.tmp 28) rfl w7.heap.size rfl _ _ rfl 58 (Box.new w7 58 rpz) (by kernel_rfl) rfl (by simp [Value.oneCell']) ?_; intro w8 hY hG; have hFn := ((Fr.refl [] w7).alloc _).step hG (by simp); have HFn := Lib.hid hFn; have HY := Lib.hid hY; clear hG hFn hY)
  have hF := HFn.out
  have HF := Lib.hid (HF.out.trans hF)
  have HP := Lib.hid (HP.out.keep hF)
  have HB := Lib.hid (Sl.keep HB.out hF)
  have HR := Lib.hid (HR.out.keep hF)
  have HS := HY
  clear hF HFn HY
  generalize hg7 : w7.heap.size = g7 at *
  clear hg7
  obtain ⟨w9, e5, hF, hB5, hs5⟩ := one_new w8 #[.int .i64 1, .int .i64 1] 3
  have HI5 : Hid (Ints w9 (.slice (some ⟨w8.heap.size, 0, none⟩) 2 2) [1, 1]) := Lib.hid (Sl_block hB5 (n := 2) rfl (by unfold maxLen; omega))
  have E5 := Lib.hid e5
  have HF := Lib.hid (HF.out.trans hF)
  have HP := Lib.hid (HP.out.keep hF)
  have HB := Lib.hid (Sl.keep HB.out hF)
  have HR := Lib.hid (HR.out.keep hF)
  have HS := Lib.hid (HS.out.keep hF)
  clear hF e5 hB5 hs5
  go_wp2_with fail
  rw [E5.out]
  clear E5
  refine (pSome_any HP.out HI5.out (by decide) (by decide)).mono ?_
  rintro e w10 ⟨hF, ⟨r, v', hm, -, -⟩ | ⟨kk, hm, -, rfl⟩⟩
  · rw [some_11_13] at hm; cases hm
  rw [some_11_13] at hm
  cases hm
  have HF := Lib.hid (HF.out.trans hF)
  have HP := Lib.hid (HP.out.keep hF)
  have HB := Lib.hid (Sl.keep HB.out hF)
  have HR := Lib.hid (HR.out.keep hF)
  have HS := Lib.hid (HS.out.keep hF)
  clear hF HI5
  go_upto_region 6 with (refine wpList_store_row rfl 58 (.tmp 8) (.tmp 34) rfl w10.heap.size rfl _ _ rfl 58 (Box.new w10 58 rpz) (by kernel_rfl) rfl (by simp [Value.oneCell']) ?_; intro w11 hY hG; have hFn := ((Fr.refl [] w10).alloc _).step hG (by simp); have HFn := Lib.hid hFn; have HY := Lib.hid hY; clear hG hFn hY)
  have hF := HFn.out
  have HF := Lib.hid (HF.out.trans hF)
  have HP := Lib.hid (HP.out.keep hF)
  have HB := Lib.hid (Sl.keep HB.out hF)
  have HR := Lib.hid (HR.out.keep hF)
  have HS := Lib.hid (HS.out.keep hF)
  clear hF HFn HY
  obtain ⟨w12, e6, hF, hB6, hs6⟩ := one_new w11 #[.int .i64 0, .int .i64 1] 3
  have HI6 : Hid (Ints w12 (.slice (some ⟨w11.heap.size, 0, none⟩) 2 2) [0, 1]) := Lib.hid (Sl_block hB6 (n := 2) rfl (by unfold maxLen; omega))
  have E6 := Lib.hid e6
  have HF := Lib.hid (HF.out.trans hF)
  have HP := Lib.hid (HP.out.keep hF)
  have HB := Lib.hid (Sl.keep HB.out hF)
  have HR := Lib.hid (HR.out.keep hF)
  have HS := Lib.hid (HS.out.keep hF)
  clear hF e6 hB6
  have HS6 := Lib.hid hs6
  clear hs6
  obtain ⟨w13, e7, hF, hB7, hs7⟩ := one_new w12 #[.int .i64 0] 3
  have HI7 : Hid (Ints w13 (.slice (some ⟨w12.heap.size, 0, none⟩) 1 1) [0]) := Lib.hid (Sl_block hB7 (n := 1) rfl (by unfold maxLen; omega))
  have E7 := Lib.hid e7
  have HF := Lib.hid (HF.out.trans hF)
  have HP := Lib.hid (HP.out.keep hF)
  have HB := Lib.hid (Sl.keep HB.out hF)
  have HR := Lib.hid (HR.out.keep hF)
  have HS := Lib.hid (HS.out.keep hF)
  have HI6 := Lib.hid (Sl.keep HI6.out hF)
  rw [HS6.out] at HI7
  rw [HS6.out] at hs7
  have HS7 := Lib.hid hs7
  clear hF e7 hB7 hs7
  obtain ⟨w14, e8, hF, hB8, -⟩ := one_new w13 #[.slice (some ⟨w11.heap.size, 0, none⟩) 2 2, .slice (some ⟨w11.heap.size + 1, 0, none⟩) 1 1] 53
  have HSH : Hid (SlOf Ints w14 (.slice (some ⟨w13.heap.size, 0, none⟩) 2 2) [[0, 1], [0]]) := Lib.hid (by
    refine ⟨_, Sl_block hB8 (n := 2) rfl (by unfold maxLen; omega), rfl, fun i x y hx hy => ?_⟩
    have hi : i < 2 := (List.getElem?_eq_some_iff.1 hy).1
    rcases (by omega : i = 0 ∨ i = 1) with rfl | rfl
    · cases hx; cases hy; exact Sl.keep HI6.out hF
    · cases hx; cases hy; exact Sl.keep HI7.out hF)
  rw [HS7.out] at HSH
  have E8 := Lib.hid e8
  have HF := Lib.hid (HF.out.trans hF)
  have HP := Lib.hid (HP.out.keep hF)
  have HB := Lib.hid (Sl.keep HB.out hF)
  have HR := Lib.hid (HR.out.keep hF)
  have HS := Lib.hid (HS.out.keep hF)
  clear hF e8 hB8
  go_wp2_with fail
  rw [E6.out, E7.out, E8.out]
  clear E6 E7 E8
  refine (pBlock_any HP.out HSH.out (by decide) (by decide) (by decide)).mono ?_
  rintro e w15 ⟨hF, ⟨rs, v', B, hm, rfl, hO, hBB⟩ | ⟨kk, hm, -, -⟩⟩
  rotate_left
  · rw [block13] at hm; cases hm
  rw [block13] at hm
  cases hm
  obtain ⟨a15, c15, rfl⟩ := hO.shape
  have HO := Lib.hid hO.sl
  clear hO hBB HSH HI6 HI7
  have HF := Lib.hid (HF.out.trans hF)
  have HP := Lib.hid (HP.out.keep hF)
  have HB := Lib.hid (Sl.keep HB.out hF)
  have HR := Lib.hid (HR.out.keep hF)
  have HS := Lib.hid (HS.out.keep hF)
  clear hF
  go_wp2_with fail
  refine (pNumbers_any HO.out (by decide)).mono ?_
  rintro e w16 ⟨v16, B16, rfl, hN, hF⟩
  obtain ⟨a16, c16, rfl⟩ := hN.shape
  have HN := Lib.hid hN.sl
  have HF := Lib.hid (HF.out.trans hF)
  have HP := Lib.hid (HP.out.keep hF)
  have HB := Lib.hid (Sl.keep HB.out hF)
  have HR := Lib.hid (HR.out.keep hF)
  have HS := Lib.hid (HS.out.keep hF)
  have HO := Lib.hid (HO.out.keep Rep.rp hF)
  clear hF hN
  go_wp2_with (refine wpList_load_row_w rfl 58 (.tmp 2) rfl g2 rfl 58 _ _ HR.out Try.underlying58 rfl (by kernel_rfl) ?_)
  refine (pBytes_any (r := rep13) ⟨_, rfl, HB.out⟩ (by decide)).mono ?_
  rintro e w17 ⟨v17, rfl, hO, hF⟩
  obtain ⟨vx, rfl, hxb⟩ := hO
  obtain ⟨ax, cx, rfl⟩ : ∃ a c, vx = .slice a 2 c := Sl.shape hxb.bytes
  have HXB := Lib.hid hxb.bytes
  clear hxb
  have HF := Lib.hid (HF.out.trans hF)
  have HP := Lib.hid (HP.out.keep hF)
  have HB := Lib.hid (Sl.keep HB.out hF)
  have HR := Lib.hid (HR.out.keep hF)
  have HS := Lib.hid (HS.out.keep hF)
  have HO := Lib.hid (HO.out.keep Rep.rp hF)
  have HN := Lib.hid (HN.out.keep Rep.seq hF)
  clear hF
  obtain ⟨b16, o16, x16, y16, B17, e16, -, hy16, ⟨vn, rfl, hnq, -⟩, -, hrg⟩ := HN.out.at_ Rep.seq (i := 0) (by decide)
  subst e16
  cases hy16
  obtain ⟨an, cn, rfl⟩ : ∃ a c, vn = .slice a 2 c := by
    have := Sl.shape hnq
    rw [List.length_map, nmb13] at this
    exact this
  have HC16 : Hid (w17.cell? ⟨b16, o16, none⟩ = some (.slice an 2 cn)) := Lib.hid (by have := hrg 0 _ rfl; simpa using this)
  clear hnq hrg HO HN
  have heq : ∀ w : World, (Op.equalIn 10000 26 (.agg #[.int .u8 0, .int .u8 0, .int .u8 0, .int .u8 0, .int .u8 0, .int .u8 0, .int .u8 0, .int .u8 3]) (.agg #[.int .u8 0, .int .u8 0, .int .u8 0, .int .u8 0, .int .u8 0, .int .u8 0, .int .u8 0, .int .u8 3])).run Try.prog w = .ok true w := fun w => by
    have := eq_arr8 0 0 0 0 0 0 0 3 0 0 0 0 0 0 0 3 w
    simpa using this
  have HEQ := Lib.hid heq
  clear heq
  go_upto_region 9 with (refine wpList_store_row rfl 28 (.tmp 13) (.tmp 47) rfl w17.heap.size rfl _ _ rfl 28 (Box.new w17 28 (bc Bt.zero (.slice none 0 0))) (by kernel_rfl) rfl (by simp [bc, Value.oneCell']) ?_; intro w18 hY hG; have hF := ((Fr.refl [] w17).alloc _).step hG (by simp); have HY := Lib.hid hY; clear hG hY; have HF := Lib.hid (HF.out.trans hF); have HP := Lib.hid (HP.out.keep hF); have HB := Lib.hid (Sl.keep HB.out hF); have HR := Lib.hid (HR.out.keep hF); have HS := Lib.hid (HS.out.keep hF); have HXB := Lib.hid (Sl.keep HXB.out hF); have HC16 := Lib.hid (hF.cellSome HC16.out (by simp)); have HX := HY; clear hF HY)
  generalize hgx : w17.heap.size = gx at *
  clear hgx
  refine wp_region_T (fun w' => Fr [] w18.drew w') [] 87 #[false, false, false, false, false, false, false, false, false, false, false, false, false, false, false, false, false, false, false, false, false, false, false, false, false, false, false, false, false, false, false, false, false, false, false, false, false, false, false, false, false, false, false, false, false, false, false, false, false, false, false, false, false, false, false, false, false, false, false, false, false, false, false, false, false, false, false, false, false, false, false, false, false, false, false, false, false, false, false, false, false, false, false, false, false, false, false] (by as_aux_lemma => kernel_rfl) rfl rfl ?_
  simp only [List.append_eq, List.cons_append, List.nil_append]
  have hF := (Fr.refl [] w18).drew
  have HF := Lib.hid (HF.out.trans hF)
  have HP := Lib.hid (HP.out.keep hF)
  have HB := Lib.hid (Sl.keep HB.out hF)
  have HR := Lib.hid (HR.out.keep hF)
  have HS := Lib.hid (HS.out.keep hF)
  have HXB := Lib.hid (Sl.keep HXB.out hF)
  have HC16 := Lib.hid (hF.cellSome HC16.out (by simp))
  have HX := Lib.hid (HX.out.keep hF)
  clear hF
  have HSS : Hid (Fr [] w18.drew w18.drew) := Lib.hid (Fr.refl _ _)
  generalize w18.drew = wd at *
  refine wpAnyT_load (i := 0) (v := ?_) rfl (by as_aux_lemma => kernel_rfl) (by as_aux_lemma => kernel_rfl) (by as_aux_lemma => kernel_rfl) (by as_aux_lemma => kernel_rfl) (by as_aux_lemma => kernel_rfl) (fun _ _ _ h => h) HSS.out (by rfl) ?_ ?_
  rotate_left
  · intro w hSw; skip; go_simp; try with_reducible rfl
  simp only [Act.put, List.getElem_toArray, List.getElem_cons_zero, List.getElem_cons_succ, List.setIfInBounds_toArray, List.set_cons_zero, List.set_cons_succ]
  refine wpAnyT_load (i := 1) (v := ?_) rfl (by as_aux_lemma => kernel_rfl) (by as_aux_lemma => kernel_rfl) (by as_aux_lemma => kernel_rfl) (by as_aux_lemma => kernel_rfl) (by as_aux_lemma => kernel_rfl) (fun _ _ _ h => h) HSS.out (by rfl) ?_ ?_
  rotate_left
  · intro w hSw; skip; go_simp; try with_reducible rfl
  simp only [Act.put, List.getElem_toArray, List.getElem_cons_zero, List.getElem_cons_succ, List.setIfInBounds_toArray, List.set_cons_zero, List.set_cons_succ]
  refine wpAnyT_load (i := 2) (v := ?_) rfl (by as_aux_lemma => kernel_rfl) (by as_aux_lemma => kernel_rfl) (by as_aux_lemma => kernel_rfl) (by as_aux_lemma => kernel_rfl) (by as_aux_lemma => kernel_rfl) (fun _ _ _ h => h) HSS.out (by rfl) ?_ ?_
  rotate_left
  · intro w hSw; skip; go_simp; try with_reducible rfl
  simp only [Act.put, List.getElem_toArray, List.getElem_cons_zero, List.getElem_cons_succ, List.setIfInBounds_toArray, List.set_cons_zero, List.set_cons_succ]
  refine wpAnyT_load (i := 3) (v := ?_) rfl (by as_aux_lemma => kernel_rfl) (by as_aux_lemma => kernel_rfl) (by as_aux_lemma => kernel_rfl) (by as_aux_lemma => kernel_rfl) (by as_aux_lemma => kernel_rfl) (fun _ _ _ h => h) HSS.out (by rfl) ?_ ?_
  rotate_left
  · intro w hSw; skip; go_simp; try with_reducible rfl
  simp only [Act.put, List.getElem_toArray, List.getElem_cons_zero, List.getElem_cons_succ, List.setIfInBounds_toArray, List.set_cons_zero, List.set_cons_succ]
  refine wpAnyT_load (i := 4) (v := ?_) rfl (by as_aux_lemma => kernel_rfl) (by as_aux_lemma => kernel_rfl) (by as_aux_lemma => kernel_rfl) (by as_aux_lemma => kernel_rfl) (by as_aux_lemma => kernel_rfl) (fun _ _ _ h => h) HSS.out (by rfl) ?_ ?_
  rotate_left
  · intro w hSw; have x8 : w.cell? ⟨g2, 8, none⟩ = some (.int .u16 65535) := (HR.out.keep hSw).cell 8; go_simp; try with_reducible rfl
  simp only [Act.put, List.getElem_toArray, List.getElem_cons_zero, List.getElem_cons_succ, List.setIfInBounds_toArray, List.set_cons_zero, List.set_cons_succ]
  refine wpAnyT_load (i := 5) (v := ?_) rfl (by as_aux_lemma => kernel_rfl) (by as_aux_lemma => kernel_rfl) (by as_aux_lemma => kernel_rfl) (by as_aux_lemma => kernel_rfl) (by as_aux_lemma => kernel_rfl) (fun _ _ _ h => h) HSS.out (by rfl) ?_ ?_
  rotate_left
  · intro w hSw; skip; go_simp; try with_reducible rfl
  simp only [Act.put, List.getElem_toArray, List.getElem_cons_zero, List.getElem_cons_succ, List.setIfInBounds_toArray, List.set_cons_zero, List.set_cons_succ]
  refine wpAnyT_load (i := 6) (v := ?_) rfl (by as_aux_lemma => kernel_rfl) (by as_aux_lemma => kernel_rfl) (by as_aux_lemma => kernel_rfl) (by as_aux_lemma => kernel_rfl) (by as_aux_lemma => kernel_rfl) (fun _ _ _ h => h) HSS.out (by rfl) ?_ ?_
  rotate_left
  · intro w hSw; skip; go_simp; try with_reducible rfl
  simp only [Act.put, List.getElem_toArray, List.getElem_cons_zero, List.getElem_cons_succ, List.setIfInBounds_toArray, List.set_cons_zero, List.set_cons_succ]
  refine wpAnyT_load (i := 7) (v := ?_) rfl (by as_aux_lemma => kernel_rfl) (by as_aux_lemma => kernel_rfl) (by as_aux_lemma => kernel_rfl) (by as_aux_lemma => kernel_rfl) (by as_aux_lemma => kernel_rfl) (fun _ _ _ h => h) HSS.out (by rfl) ?_ ?_
  rotate_left
  · intro w hSw; skip; go_simp; try with_reducible rfl
  simp only [Act.put, List.getElem_toArray, List.getElem_cons_zero, List.getElem_cons_succ, List.setIfInBounds_toArray, List.set_cons_zero, List.set_cons_succ]
  refine wpAnyT_load (i := 8) (v := ?_) rfl (by as_aux_lemma => kernel_rfl) (by as_aux_lemma => kernel_rfl) (by as_aux_lemma => kernel_rfl) (by as_aux_lemma => kernel_rfl) (by as_aux_lemma => kernel_rfl) (fun _ _ _ h => h) HSS.out (by rfl) ?_ ?_
  rotate_left
  · intro w hSw; skip; go_simp; try with_reducible rfl
  simp only [Act.put, List.getElem_toArray, List.getElem_cons_zero, List.getElem_cons_succ, List.setIfInBounds_toArray, List.set_cons_zero, List.set_cons_succ]
  refine wpAnyT_load (i := 9) (v := ?_) rfl (by as_aux_lemma => kernel_rfl) (by as_aux_lemma => kernel_rfl) (by as_aux_lemma => kernel_rfl) (by as_aux_lemma => kernel_rfl) (by as_aux_lemma => kernel_rfl) (fun _ _ _ h => h) HSS.out (by rfl) ?_ ?_
  rotate_left
  · intro w hSw; have x9 : w.cell? ⟨g2, 9, none⟩ = some (.int .u64 ((rep13.m.hi.toNat : Nat) : Int)) := (HR.out.keep hSw).cell 9; rw [rep13_hi] at x9; go_simp; try with_reducible rfl
  simp only [Act.put, List.getElem_toArray, List.getElem_cons_zero, List.getElem_cons_succ, List.setIfInBounds_toArray, List.set_cons_zero, List.set_cons_succ]
  refine wpAnyT_load (i := 10) (v := ?_) rfl (by as_aux_lemma => kernel_rfl) (by as_aux_lemma => kernel_rfl) (by as_aux_lemma => kernel_rfl) (by as_aux_lemma => kernel_rfl) (by as_aux_lemma => kernel_rfl) (fun _ _ _ h => h) HSS.out (by rfl) ?_ ?_
  rotate_left
  · intro w hSw; skip; go_simp; try with_reducible rfl
  simp only [Act.put, List.getElem_toArray, List.getElem_cons_zero, List.getElem_cons_succ, List.setIfInBounds_toArray, List.set_cons_zero, List.set_cons_succ]
  refine wpAnyT_load (i := 11) (v := ?_) rfl (by as_aux_lemma => kernel_rfl) (by as_aux_lemma => kernel_rfl) (by as_aux_lemma => kernel_rfl) (by as_aux_lemma => kernel_rfl) (by as_aux_lemma => kernel_rfl) (fun _ _ _ h => h) HSS.out (by rfl) ?_ ?_
  rotate_left
  · intro w hSw; skip; go_simp; try with_reducible rfl
  simp only [Act.put, List.getElem_toArray, List.getElem_cons_zero, List.getElem_cons_succ, List.setIfInBounds_toArray, List.set_cons_zero, List.set_cons_succ]
  refine wpAnyT_load (i := 12) (v := ?_) rfl (by as_aux_lemma => kernel_rfl) (by as_aux_lemma => kernel_rfl) (by as_aux_lemma => kernel_rfl) (by as_aux_lemma => kernel_rfl) (by as_aux_lemma => kernel_rfl) (fun _ _ _ h => h) HSS.out (by rfl) ?_ ?_
  rotate_left
  · intro w hSw; skip; go_simp; try with_reducible rfl
  simp only [Act.put, List.getElem_toArray, List.getElem_cons_zero, List.getElem_cons_succ, List.setIfInBounds_toArray, List.set_cons_zero, List.set_cons_succ]
  refine wpAnyT_load (i := 13) (v := ?_) rfl (by as_aux_lemma => kernel_rfl) (by as_aux_lemma => kernel_rfl) (by as_aux_lemma => kernel_rfl) (by as_aux_lemma => kernel_rfl) (by as_aux_lemma => kernel_rfl) (fun _ _ _ h => h) HSS.out (by rfl) ?_ ?_
  rotate_left
  · intro w hSw; skip; go_simp; try with_reducible rfl
  simp only [Act.put, List.getElem_toArray, List.getElem_cons_zero, List.getElem_cons_succ, List.setIfInBounds_toArray, List.set_cons_zero, List.set_cons_succ]
  refine wpAnyT_load (i := 14) (v := ?_) rfl (by as_aux_lemma => kernel_rfl) (by as_aux_lemma => kernel_rfl) (by as_aux_lemma => kernel_rfl) (by as_aux_lemma => kernel_rfl) (by as_aux_lemma => kernel_rfl) (fun _ _ _ h => h) HSS.out (by rfl) ?_ ?_
  rotate_left
  · intro w hSw; have x11 : w.cell? ⟨g2, 11, none⟩ = some (.slice (some ⟨b2, o2, none⟩) 2 c2) := (HR.out.keep hSw).cell 11; go_simp; try with_reducible rfl
  simp only [Act.put, List.getElem_toArray, List.getElem_cons_zero, List.getElem_cons_succ, List.setIfInBounds_toArray, List.set_cons_zero, List.set_cons_succ]
  refine wpAnyT_load (i := 15) (v := ?_) rfl (by as_aux_lemma => kernel_rfl) (by as_aux_lemma => kernel_rfl) (by as_aux_lemma => kernel_rfl) (by as_aux_lemma => kernel_rfl) (by as_aux_lemma => kernel_rfl) (fun _ _ _ h => h) HSS.out (by rfl) ?_ ?_
  rotate_left
  · intro w hSw; have kcS := Lib.run_convert_whole (P := Try.prog) w 25 5 9 Try.underlying25 Try.underlying5 Try.underlying9 b2 o2 ⟨#[3, 98]⟩ (lib_bytes (Sl.keep HB.out hSw)) c2; simp only [show (ByteArray.mk #[3, 98]).size = 2 from rfl] at kcS; go_simp; try with_reducible rfl
  simp only [Act.put, List.getElem_toArray, List.getElem_cons_zero, List.getElem_cons_succ, List.setIfInBounds_toArray, List.set_cons_zero, List.set_cons_succ]
  refine wpAnyT_load (i := 16) (v := ?_) rfl (by as_aux_lemma => kernel_rfl) (by as_aux_lemma => kernel_rfl) (by as_aux_lemma => kernel_rfl) (by as_aux_lemma => kernel_rfl) (by as_aux_lemma => kernel_rfl) (fun _ _ _ h => h) HSS.out (by rfl) ?_ ?_
  rotate_left
  · intro w hSw; skip; go_simp; try with_reducible rfl
  simp only [Act.put, List.getElem_toArray, List.getElem_cons_zero, List.getElem_cons_succ, List.setIfInBounds_toArray, List.set_cons_zero, List.set_cons_succ]
  refine wpAnyT_load (i := 17) (v := ?_) rfl (by as_aux_lemma => kernel_rfl) (by as_aux_lemma => kernel_rfl) (by as_aux_lemma => kernel_rfl) (by as_aux_lemma => kernel_rfl) (by as_aux_lemma => kernel_rfl) (fun _ _ _ h => h) HSS.out (by rfl) ?_ ?_
  rotate_left
  · intro w hSw; skip; go_simp; try with_reducible rfl
  simp only [Act.put, List.getElem_toArray, List.getElem_cons_zero, List.getElem_cons_succ, List.setIfInBounds_toArray, List.set_cons_zero, List.set_cons_succ]
  refine wpAnyT_load (i := 18) (v := ?_) rfl (by as_aux_lemma => kernel_rfl) (by as_aux_lemma => kernel_rfl) (by as_aux_lemma => kernel_rfl) (by as_aux_lemma => kernel_rfl) (by as_aux_lemma => kernel_rfl) (fun _ _ _ h => h) HSS.out (by rfl) ?_ ?_
  rotate_left
  · intro w hSw; skip; go_simp; try with_reducible rfl
  simp only [Act.put, List.getElem_toArray, List.getElem_cons_zero, List.getElem_cons_succ, List.setIfInBounds_toArray, List.set_cons_zero, List.set_cons_succ]
  refine wpAnyT_load (i := 19) (v := ?_) rfl (by as_aux_lemma => kernel_rfl) (by as_aux_lemma => kernel_rfl) (by as_aux_lemma => kernel_rfl) (by as_aux_lemma => kernel_rfl) (by as_aux_lemma => kernel_rfl) (fun _ _ _ h => h) HSS.out (by rfl) ?_ ?_
  rotate_left
  · intro w hSw; skip; go_simp; try with_reducible rfl
  simp only [Act.put, List.getElem_toArray, List.getElem_cons_zero, List.getElem_cons_succ, List.setIfInBounds_toArray, List.set_cons_zero, List.set_cons_succ]
  refine wpAnyT_load (i := 20) (v := ?_) rfl (by as_aux_lemma => kernel_rfl) (by as_aux_lemma => kernel_rfl) (by as_aux_lemma => kernel_rfl) (by as_aux_lemma => kernel_rfl) (by as_aux_lemma => kernel_rfl) (fun _ _ _ h => h) HSS.out (by rfl) ?_ ?_
  rotate_left
  · intro w hSw; have x0 : w.cell? ⟨g2, 0, none⟩ = some (.int .u8 0) := (HR.out.keep hSw).cell 0; have x1 : w.cell? ⟨g2, 1, none⟩ = some (.int .u8 0) := (HR.out.keep hSw).cell 1; have x2 : w.cell? ⟨g2, 2, none⟩ = some (.int .u8 0) := (HR.out.keep hSw).cell 2; have x3 : w.cell? ⟨g2, 3, none⟩ = some (.int .u8 0) := (HR.out.keep hSw).cell 3; have x4 : w.cell? ⟨g2, 4, none⟩ = some (.int .u8 0) := (HR.out.keep hSw).cell 4; have x5 : w.cell? ⟨g2, 5, none⟩ = some (.int .u8 0) := (HR.out.keep hSw).cell 5; have x6 : w.cell? ⟨g2, 6, none⟩ = some (.int .u8 0) := (HR.out.keep hSw).cell 6; have x7 : w.cell? ⟨g2, 7, none⟩ = some (.int .u8 3) := (HR.out.keep hSw).cell 7; go_simp; try with_reducible rfl
  simp only [Act.put, List.getElem_toArray, List.getElem_cons_zero, List.getElem_cons_succ, List.setIfInBounds_toArray, List.set_cons_zero, List.set_cons_succ]
  refine wpAnyT_load (i := 21) (v := ?_) rfl (by as_aux_lemma => kernel_rfl) (by as_aux_lemma => kernel_rfl) (by as_aux_lemma => kernel_rfl) (by as_aux_lemma => kernel_rfl) (by as_aux_lemma => kernel_rfl) (fun _ _ _ h => h) HSS.out (by rfl) ?_ ?_
  rotate_left
  · intro w hSw; skip; go_simp; try with_reducible rfl
  simp only [Act.put, List.getElem_toArray, List.getElem_cons_zero, List.getElem_cons_succ, List.setIfInBounds_toArray, List.set_cons_zero, List.set_cons_succ]
  refine wpAnyT_load (i := 22) (v := ?_) rfl (by as_aux_lemma => kernel_rfl) (by as_aux_lemma => kernel_rfl) (by as_aux_lemma => kernel_rfl) (by as_aux_lemma => kernel_rfl) (by as_aux_lemma => kernel_rfl) (fun _ _ _ h => h) HSS.out (by rfl) ?_ ?_
  rotate_left
  · intro w hSw; have heq := HEQ.out; go_simp; try with_reducible rfl
  simp only [Act.put, List.getElem_toArray, List.getElem_cons_zero, List.getElem_cons_succ, List.setIfInBounds_toArray, List.set_cons_zero, List.set_cons_succ]
  refine wpAnyT_load (i := 23) (v := ?_) rfl (by as_aux_lemma => kernel_rfl) (by as_aux_lemma => kernel_rfl) (by as_aux_lemma => kernel_rfl) (by as_aux_lemma => kernel_rfl) (by as_aux_lemma => kernel_rfl) (fun _ _ _ h => h) HSS.out (by rfl) ?_ ?_
  rotate_left
  · intro w hSw; skip; go_simp; try with_reducible rfl
  simp only [Act.put, List.getElem_toArray, List.getElem_cons_zero, List.getElem_cons_succ, List.setIfInBounds_toArray, List.set_cons_zero, List.set_cons_succ]
  refine wpAnyT_load (i := 24) (v := ?_) rfl (by as_aux_lemma => kernel_rfl) (by as_aux_lemma => kernel_rfl) (by as_aux_lemma => kernel_rfl) (by as_aux_lemma => kernel_rfl) (by as_aux_lemma => kernel_rfl) (fun _ _ _ h => h) HSS.out (by rfl) ?_ ?_
  rotate_left
  · intro w hSw; skip; go_simp; try with_reducible rfl
  simp only [Act.put, List.getElem_toArray, List.getElem_cons_zero, List.getElem_cons_succ, List.setIfInBounds_toArray, List.set_cons_zero, List.set_cons_succ]
  refine wpAnyT_load (i := 25) (v := ?_) rfl (by as_aux_lemma => kernel_rfl) (by as_aux_lemma => kernel_rfl) (by as_aux_lemma => kernel_rfl) (by as_aux_lemma => kernel_rfl) (by as_aux_lemma => kernel_rfl) (fun _ _ _ h => h) HSS.out (by rfl) ?_ ?_
  rotate_left
  · intro w hSw; skip; go_simp; try with_reducible rfl
  simp only [Act.put, List.getElem_toArray, List.getElem_cons_zero, List.getElem_cons_succ, List.setIfInBounds_toArray, List.set_cons_zero, List.set_cons_succ]
  refine wpAnyT_load (i := 26) (v := ?_) rfl (by as_aux_lemma => kernel_rfl) (by as_aux_lemma => kernel_rfl) (by as_aux_lemma => kernel_rfl) (by as_aux_lemma => kernel_rfl) (by as_aux_lemma => kernel_rfl) (fun _ _ _ h => h) HSS.out (by rfl) ?_ ?_
  rotate_left
  · intro w hSw; skip; go_simp; try with_reducible rfl
  simp only [Act.put, List.getElem_toArray, List.getElem_cons_zero, List.getElem_cons_succ, List.setIfInBounds_toArray, List.set_cons_zero, List.set_cons_succ]
  refine wpAnyT_load (i := 27) (v := ?_) rfl (by as_aux_lemma => kernel_rfl) (by as_aux_lemma => kernel_rfl) (by as_aux_lemma => kernel_rfl) (by as_aux_lemma => kernel_rfl) (by as_aux_lemma => kernel_rfl) (fun _ _ _ h => h) HSS.out (by rfl) ?_ ?_
  rotate_left
  · intro w hSw; skip; go_simp; try with_reducible rfl
  simp only [Act.put, List.getElem_toArray, List.getElem_cons_zero, List.getElem_cons_succ, List.setIfInBounds_toArray, List.set_cons_zero, List.set_cons_succ]
  refine wpAnyT_load (i := 28) (v := ?_) rfl (by as_aux_lemma => kernel_rfl) (by as_aux_lemma => kernel_rfl) (by as_aux_lemma => kernel_rfl) (by as_aux_lemma => kernel_rfl) (by as_aux_lemma => kernel_rfl) (fun _ _ _ h => h) HSS.out (by rfl) ?_ ?_
  rotate_left
  · intro w hSw; skip; go_simp; try with_reducible rfl
  simp only [Act.put, List.getElem_toArray, List.getElem_cons_zero, List.getElem_cons_succ, List.setIfInBounds_toArray, List.set_cons_zero, List.set_cons_succ]
  refine wpAnyT_load (i := 29) (v := ?_) rfl (by as_aux_lemma => kernel_rfl) (by as_aux_lemma => kernel_rfl) (by as_aux_lemma => kernel_rfl) (by as_aux_lemma => kernel_rfl) (by as_aux_lemma => kernel_rfl) (fun _ _ _ h => h) HSS.out (by rfl) ?_ ?_
  rotate_left
  · intro w hSw; skip; go_simp; try with_reducible rfl
  simp only [Act.put, List.getElem_toArray, List.getElem_cons_zero, List.getElem_cons_succ, List.setIfInBounds_toArray, List.set_cons_zero, List.set_cons_succ]
  refine wpAnyT_load (i := 30) (v := ?_) rfl (by as_aux_lemma => kernel_rfl) (by as_aux_lemma => kernel_rfl) (by as_aux_lemma => kernel_rfl) (by as_aux_lemma => kernel_rfl) (by as_aux_lemma => kernel_rfl) (fun _ _ _ h => h) HSS.out (by rfl) ?_ ?_
  rotate_left
  · intro w hSw; skip; go_simp; try with_reducible rfl
  simp only [Act.put, List.getElem_toArray, List.getElem_cons_zero, List.getElem_cons_succ, List.setIfInBounds_toArray, List.set_cons_zero, List.set_cons_succ]
  refine wpAnyT_load (i := 31) (v := ?_) rfl (by as_aux_lemma => kernel_rfl) (by as_aux_lemma => kernel_rfl) (by as_aux_lemma => kernel_rfl) (by as_aux_lemma => kernel_rfl) (by as_aux_lemma => kernel_rfl) (fun _ _ _ h => h) HSS.out (by rfl) ?_ ?_
  rotate_left
  · intro w hSw; skip; go_simp; try with_reducible rfl
  simp only [Act.put, List.getElem_toArray, List.getElem_cons_zero, List.getElem_cons_succ, List.setIfInBounds_toArray, List.set_cons_zero, List.set_cons_succ]
  refine wpAnyT_load (i := 32) (v := ?_) rfl (by as_aux_lemma => kernel_rfl) (by as_aux_lemma => kernel_rfl) (by as_aux_lemma => kernel_rfl) (by as_aux_lemma => kernel_rfl) (by as_aux_lemma => kernel_rfl) (fun _ _ _ h => h) HSS.out (by rfl) ?_ ?_
  rotate_left
  · intro w hSw; skip; go_simp; try with_reducible rfl
  simp only [Act.put, List.getElem_toArray, List.getElem_cons_zero, List.getElem_cons_succ, List.setIfInBounds_toArray, List.set_cons_zero, List.set_cons_succ]
  refine wpAnyT_load (i := 33) (v := ?_) rfl (by as_aux_lemma => kernel_rfl) (by as_aux_lemma => kernel_rfl) (by as_aux_lemma => kernel_rfl) (by as_aux_lemma => kernel_rfl) (by as_aux_lemma => kernel_rfl) (fun _ _ _ h => h) HSS.out (by rfl) ?_ ?_
  rotate_left
  · intro w hSw; skip; go_simp; try with_reducible rfl
  simp only [Act.put, List.getElem_toArray, List.getElem_cons_zero, List.getElem_cons_succ, List.setIfInBounds_toArray, List.set_cons_zero, List.set_cons_succ]
  refine wpAnyT_load (i := 34) (v := ?_) rfl (by as_aux_lemma => kernel_rfl) (by as_aux_lemma => kernel_rfl) (by as_aux_lemma => kernel_rfl) (by as_aux_lemma => kernel_rfl) (by as_aux_lemma => kernel_rfl) (fun _ _ _ h => h) HSS.out (by rfl) ?_ ?_
  rotate_left
  · intro w hSw; have y8 : w.cell? ⟨g7, 8, none⟩ = some (.int .u16 0) := (HS.out.keep hSw).cell 8; go_simp; try with_reducible rfl
  simp only [Act.put, List.getElem_toArray, List.getElem_cons_zero, List.getElem_cons_succ, List.setIfInBounds_toArray, List.set_cons_zero, List.set_cons_succ]
  refine wpAnyT_load (i := 35) (v := ?_) rfl (by as_aux_lemma => kernel_rfl) (by as_aux_lemma => kernel_rfl) (by as_aux_lemma => kernel_rfl) (by as_aux_lemma => kernel_rfl) (by as_aux_lemma => kernel_rfl) (fun _ _ _ h => h) HSS.out (by rfl) ?_ ?_
  rotate_left
  · intro w hSw; skip; go_simp; try with_reducible rfl
  simp only [Act.put, List.getElem_toArray, List.getElem_cons_zero, List.getElem_cons_succ, List.setIfInBounds_toArray, List.set_cons_zero, List.set_cons_succ]
  refine wpAnyT_load (i := 36) (v := ?_) rfl (by as_aux_lemma => kernel_rfl) (by as_aux_lemma => kernel_rfl) (by as_aux_lemma => kernel_rfl) (by as_aux_lemma => kernel_rfl) (by as_aux_lemma => kernel_rfl) (fun _ _ _ h => h) HSS.out (by rfl) ?_ ?_
  rotate_left
  · intro w hSw; skip; go_simp; try with_reducible rfl
  simp only [Act.put, List.getElem_toArray, List.getElem_cons_zero, List.getElem_cons_succ, List.setIfInBounds_toArray, List.set_cons_zero, List.set_cons_succ]
  refine wpAnyT_load (i := 37) (v := ?_) rfl (by as_aux_lemma => kernel_rfl) (by as_aux_lemma => kernel_rfl) (by as_aux_lemma => kernel_rfl) (by as_aux_lemma => kernel_rfl) (by as_aux_lemma => kernel_rfl) (fun _ _ _ h => h) HSS.out (by rfl) ?_ ?_
  rotate_left
  · intro w hSw; skip; go_simp; try with_reducible rfl
  simp only [Act.put, List.getElem_toArray, List.getElem_cons_zero, List.getElem_cons_succ, List.setIfInBounds_toArray, List.set_cons_zero, List.set_cons_succ]
  refine wpAnyT_load (i := 38) (v := ?_) rfl (by as_aux_lemma => kernel_rfl) (by as_aux_lemma => kernel_rfl) (by as_aux_lemma => kernel_rfl) (by as_aux_lemma => kernel_rfl) (by as_aux_lemma => kernel_rfl) (fun _ _ _ h => h) HSS.out (by rfl) ?_ ?_
  rotate_left
  · intro w hSw; skip; go_simp; try with_reducible rfl
  simp only [Act.put, List.getElem_toArray, List.getElem_cons_zero, List.getElem_cons_succ, List.setIfInBounds_toArray, List.set_cons_zero, List.set_cons_succ]
  refine wpAnyT_load (i := 39) (v := ?_) rfl (by as_aux_lemma => kernel_rfl) (by as_aux_lemma => kernel_rfl) (by as_aux_lemma => kernel_rfl) (by as_aux_lemma => kernel_rfl) (by as_aux_lemma => kernel_rfl) (fun _ _ _ h => h) HSS.out (by rfl) ?_ ?_
  rotate_left
  · intro w hSw; skip; go_simp; try with_reducible rfl
  simp only [Act.put, List.getElem_toArray, List.getElem_cons_zero, List.getElem_cons_succ, List.setIfInBounds_toArray, List.set_cons_zero, List.set_cons_succ]
  refine wpAnyT_load (i := 40) (v := ?_) rfl (by as_aux_lemma => kernel_rfl) (by as_aux_lemma => kernel_rfl) (by as_aux_lemma => kernel_rfl) (by as_aux_lemma => kernel_rfl) (by as_aux_lemma => kernel_rfl) (fun _ _ _ h => h) HSS.out (by rfl) ?_ ?_
  rotate_left
  · intro w hSw; skip; go_simp; try with_reducible rfl
  simp only [Act.put, List.getElem_toArray, List.getElem_cons_zero, List.getElem_cons_succ, List.setIfInBounds_toArray, List.set_cons_zero, List.set_cons_succ]
  refine wpAnyT_load (i := 41) (v := ?_) rfl (by as_aux_lemma => kernel_rfl) (by as_aux_lemma => kernel_rfl) (by as_aux_lemma => kernel_rfl) (by as_aux_lemma => kernel_rfl) (by as_aux_lemma => kernel_rfl) (fun _ _ _ h => h) HSS.out (by rfl) ?_ ?_
  rotate_left
  · intro w hSw; skip; go_simp; try with_reducible rfl
  simp only [Act.put, List.getElem_toArray, List.getElem_cons_zero, List.getElem_cons_succ, List.setIfInBounds_toArray, List.set_cons_zero, List.set_cons_succ]
  refine wpAnyT_load (i := 42) (v := ?_) rfl (by as_aux_lemma => kernel_rfl) (by as_aux_lemma => kernel_rfl) (by as_aux_lemma => kernel_rfl) (by as_aux_lemma => kernel_rfl) (by as_aux_lemma => kernel_rfl) (fun _ _ _ h => h) HSS.out (by rfl) ?_ ?_
  rotate_left
  · intro w hSw; skip; go_simp; try with_reducible rfl
  simp only [Act.put, List.getElem_toArray, List.getElem_cons_zero, List.getElem_cons_succ, List.setIfInBounds_toArray, List.set_cons_zero, List.set_cons_succ]
  refine wpAnyT_load (i := 43) (v := ?_) rfl (by as_aux_lemma => kernel_rfl) (by as_aux_lemma => kernel_rfl) (by as_aux_lemma => kernel_rfl) (by as_aux_lemma => kernel_rfl) (by as_aux_lemma => kernel_rfl) (fun _ _ _ h => h) HSS.out (by rfl) ?_ ?_
  rotate_left
  · intro w hSw; skip; go_simp; try with_reducible rfl
  simp only [Act.put, List.getElem_toArray, List.getElem_cons_zero, List.getElem_cons_succ, List.setIfInBounds_toArray, List.set_cons_zero, List.set_cons_succ]
  refine wpAnyT_load (i := 44) (v := ?_) rfl (by as_aux_lemma => kernel_rfl) (by as_aux_lemma => kernel_rfl) (by as_aux_lemma => kernel_rfl) (by as_aux_lemma => kernel_rfl) (by as_aux_lemma => kernel_rfl) (fun _ _ _ h => h) HSS.out (by rfl) ?_ ?_
  rotate_left
  · intro w hSw; skip; go_simp; try with_reducible rfl
  simp only [Act.put, List.getElem_toArray, List.getElem_cons_zero, List.getElem_cons_succ, List.setIfInBounds_toArray, List.set_cons_zero, List.set_cons_succ]
  refine wpAnyT_load (i := 45) (v := ?_) rfl (by as_aux_lemma => kernel_rfl) (by as_aux_lemma => kernel_rfl) (by as_aux_lemma => kernel_rfl) (by as_aux_lemma => kernel_rfl) (by as_aux_lemma => kernel_rfl) (fun _ _ _ h => h) HSS.out (by rfl) ?_ ?_
  rotate_left
  · intro w hSw; skip; go_simp; try with_reducible rfl
  simp only [Act.put, List.getElem_toArray, List.getElem_cons_zero, List.getElem_cons_succ, List.setIfInBounds_toArray, List.set_cons_zero, List.set_cons_succ]
  refine wpAnyT_load (i := 46) (v := ?_) rfl (by as_aux_lemma => kernel_rfl) (by as_aux_lemma => kernel_rfl) (by as_aux_lemma => kernel_rfl) (by as_aux_lemma => kernel_rfl) (by as_aux_lemma => kernel_rfl) (fun _ _ _ h => h) HSS.out (by rfl) ?_ ?_
  rotate_left
  · intro w hSw; skip; go_simp; try with_reducible rfl
  simp only [Act.put, List.getElem_toArray, List.getElem_cons_zero, List.getElem_cons_succ, List.setIfInBounds_toArray, List.set_cons_zero, List.set_cons_succ]
  refine wpAnyT_load (i := 47) (v := ?_) rfl (by as_aux_lemma => kernel_rfl) (by as_aux_lemma => kernel_rfl) (by as_aux_lemma => kernel_rfl) (by as_aux_lemma => kernel_rfl) (by as_aux_lemma => kernel_rfl) (fun _ _ _ h => h) HSS.out (by rfl) ?_ ?_
  rotate_left
  · intro w hSw; skip; go_simp; try with_reducible rfl
  simp only [Act.put, List.getElem_toArray, List.getElem_cons_zero, List.getElem_cons_succ, List.setIfInBounds_toArray, List.set_cons_zero, List.set_cons_succ]
  refine wpAnyT_load (i := 48) (v := ?_) rfl (by as_aux_lemma => kernel_rfl) (by as_aux_lemma => kernel_rfl) (by as_aux_lemma => kernel_rfl) (by as_aux_lemma => kernel_rfl) (by as_aux_lemma => kernel_rfl) (fun _ _ _ h => h) HSS.out (by rfl) ?_ ?_
  rotate_left
  · intro w hSw; skip; go_simp; try with_reducible rfl
  simp only [Act.put, List.getElem_toArray, List.getElem_cons_zero, List.getElem_cons_succ, List.setIfInBounds_toArray, List.set_cons_zero, List.set_cons_succ]
  refine wpAnyT_load (i := 49) (v := ?_) rfl (by as_aux_lemma => kernel_rfl) (by as_aux_lemma => kernel_rfl) (by as_aux_lemma => kernel_rfl) (by as_aux_lemma => kernel_rfl) (by as_aux_lemma => kernel_rfl) (fun _ _ _ h => h) HSS.out (by rfl) ?_ ?_
  rotate_left
  · intro w hSw; skip; go_simp; try with_reducible rfl
  simp only [Act.put, List.getElem_toArray, List.getElem_cons_zero, List.getElem_cons_succ, List.setIfInBounds_toArray, List.set_cons_zero, List.set_cons_succ]
  refine wpAnyT_load (i := 50) (v := ?_) rfl (by as_aux_lemma => kernel_rfl) (by as_aux_lemma => kernel_rfl) (by as_aux_lemma => kernel_rfl) (by as_aux_lemma => kernel_rfl) (by as_aux_lemma => kernel_rfl) (fun _ _ _ h => h) HSS.out (by rfl) ?_ ?_
  rotate_left
  · intro w hSw; skip; go_simp; try with_reducible rfl
  simp only [Act.put, List.getElem_toArray, List.getElem_cons_zero, List.getElem_cons_succ, List.setIfInBounds_toArray, List.set_cons_zero, List.set_cons_succ]
  refine wpAnyT_load (i := 51) (v := ?_) rfl (by as_aux_lemma => kernel_rfl) (by as_aux_lemma => kernel_rfl) (by as_aux_lemma => kernel_rfl) (by as_aux_lemma => kernel_rfl) (by as_aux_lemma => kernel_rfl) (fun _ _ _ h => h) HSS.out (by rfl) ?_ ?_
  rotate_left
  · intro w hSw; skip; go_simp; try with_reducible rfl
  simp only [Act.put, List.getElem_toArray, List.getElem_cons_zero, List.getElem_cons_succ, List.setIfInBounds_toArray, List.set_cons_zero, List.set_cons_succ]
  refine wpAnyT_load (i := 52) (v := ?_) rfl (by as_aux_lemma => kernel_rfl) (by as_aux_lemma => kernel_rfl) (by as_aux_lemma => kernel_rfl) (by as_aux_lemma => kernel_rfl) (by as_aux_lemma => kernel_rfl) (fun _ _ _ h => h) HSS.out (by rfl) ?_ ?_
  rotate_left
  · intro w hSw; skip; go_simp; try with_reducible rfl
  simp only [Act.put, List.getElem_toArray, List.getElem_cons_zero, List.getElem_cons_succ, List.setIfInBounds_toArray, List.set_cons_zero, List.set_cons_succ]
  refine wpAnyT_load (i := 53) (v := ?_) rfl (by as_aux_lemma => kernel_rfl) (by as_aux_lemma => kernel_rfl) (by as_aux_lemma => kernel_rfl) (by as_aux_lemma => kernel_rfl) (by as_aux_lemma => kernel_rfl) (fun _ _ _ h => h) HSS.out (by rfl) ?_ ?_
  rotate_left
  · intro w hSw; skip; go_simp; try with_reducible rfl
  simp only [Act.put, List.getElem_toArray, List.getElem_cons_zero, List.getElem_cons_succ, List.setIfInBounds_toArray, List.set_cons_zero, List.set_cons_succ]
  refine wpAnyT_load (i := 54) (v := ?_) rfl (by as_aux_lemma => kernel_rfl) (by as_aux_lemma => kernel_rfl) (by as_aux_lemma => kernel_rfl) (by as_aux_lemma => kernel_rfl) (by as_aux_lemma => kernel_rfl) (fun _ _ _ h => h) HSS.out (by rfl) ?_ ?_
  rotate_left
  · intro w hSw; skip; go_simp; try with_reducible rfl
  simp only [Act.put, List.getElem_toArray, List.getElem_cons_zero, List.getElem_cons_succ, List.setIfInBounds_toArray, List.set_cons_zero, List.set_cons_succ]
  refine wpAnyT_load (i := 55) (v := ?_) rfl (by as_aux_lemma => kernel_rfl) (by as_aux_lemma => kernel_rfl) (by as_aux_lemma => kernel_rfl) (by as_aux_lemma => kernel_rfl) (by as_aux_lemma => kernel_rfl) (fun _ _ _ h => h) HSS.out (by rfl) ?_ ?_
  rotate_left
  · intro w hSw; skip; go_simp; try with_reducible rfl
  simp only [Act.put, List.getElem_toArray, List.getElem_cons_zero, List.getElem_cons_succ, List.setIfInBounds_toArray, List.set_cons_zero, List.set_cons_succ]
  refine wpAnyT_load (i := 56) (v := ?_) rfl (by as_aux_lemma => kernel_rfl) (by as_aux_lemma => kernel_rfl) (by as_aux_lemma => kernel_rfl) (by as_aux_lemma => kernel_rfl) (by as_aux_lemma => kernel_rfl) (fun _ _ _ h => h) HSS.out (by rfl) ?_ ?_
  rotate_left
  · intro w hSw; skip; go_simp; try with_reducible rfl
  simp only [Act.put, List.getElem_toArray, List.getElem_cons_zero, List.getElem_cons_succ, List.setIfInBounds_toArray, List.set_cons_zero, List.set_cons_succ]
  refine wpAnyT_load (i := 57) (v := ?_) rfl (by as_aux_lemma => kernel_rfl) (by as_aux_lemma => kernel_rfl) (by as_aux_lemma => kernel_rfl) (by as_aux_lemma => kernel_rfl) (by as_aux_lemma => kernel_rfl) (fun _ _ _ h => h) HSS.out (by rfl) ?_ ?_
  rotate_left
  · intro w hSw; skip; go_simp; try with_reducible rfl
  simp only [Act.put, List.getElem_toArray, List.getElem_cons_zero, List.getElem_cons_succ, List.setIfInBounds_toArray, List.set_cons_zero, List.set_cons_succ]
  refine wpAnyT_load (i := 58) (v := ?_) rfl (by as_aux_lemma => kernel_rfl) (by as_aux_lemma => kernel_rfl) (by as_aux_lemma => kernel_rfl) (by as_aux_lemma => kernel_rfl) (by as_aux_lemma => kernel_rfl) (fun _ _ _ h => h) HSS.out (by rfl) ?_ ?_
  rotate_left
  · intro w hSw; have n0 := hSw.cellSome HC16.out (by simp); go_simp; try with_reducible rfl
  simp only [Act.put, List.getElem_toArray, List.getElem_cons_zero, List.getElem_cons_succ, List.setIfInBounds_toArray, List.set_cons_zero, List.set_cons_succ]
  refine wpAnyT_load (i := 59) (v := ?_) rfl (by as_aux_lemma => kernel_rfl) (by as_aux_lemma => kernel_rfl) (by as_aux_lemma => kernel_rfl) (by as_aux_lemma => kernel_rfl) (by as_aux_lemma => kernel_rfl) (fun _ _ _ h => h) HSS.out (by rfl) ?_ ?_
  rotate_left
  · intro w hSw; skip; go_simp; try with_reducible rfl
  simp only [Act.put, List.getElem_toArray, List.getElem_cons_zero, List.getElem_cons_succ, List.setIfInBounds_toArray, List.set_cons_zero, List.set_cons_succ]
  refine wpAnyT_load (i := 60) (v := ?_) rfl (by as_aux_lemma => kernel_rfl) (by as_aux_lemma => kernel_rfl) (by as_aux_lemma => kernel_rfl) (by as_aux_lemma => kernel_rfl) (by as_aux_lemma => kernel_rfl) (fun _ _ _ h => h) HSS.out (by rfl) ?_ ?_
  rotate_left
  · intro w hSw; skip; go_simp; try with_reducible rfl
  simp only [Act.put, List.getElem_toArray, List.getElem_cons_zero, List.getElem_cons_succ, List.setIfInBounds_toArray, List.set_cons_zero, List.set_cons_succ]
  refine wpAnyT_load (i := 61) (v := ?_) rfl (by as_aux_lemma => kernel_rfl) (by as_aux_lemma => kernel_rfl) (by as_aux_lemma => kernel_rfl) (by as_aux_lemma => kernel_rfl) (by as_aux_lemma => kernel_rfl) (fun _ _ _ h => h) HSS.out (by rfl) ?_ ?_
  rotate_left
  · intro w hSw; skip; go_simp; try with_reducible rfl
  simp only [Act.put, List.getElem_toArray, List.getElem_cons_zero, List.getElem_cons_succ, List.setIfInBounds_toArray, List.set_cons_zero, List.set_cons_succ]
  refine wpAnyT_load (i := 62) (v := ?_) rfl (by as_aux_lemma => kernel_rfl) (by as_aux_lemma => kernel_rfl) (by as_aux_lemma => kernel_rfl) (by as_aux_lemma => kernel_rfl) (by as_aux_lemma => kernel_rfl) (fun _ _ _ h => h) HSS.out (by rfl) ?_ ?_
  rotate_left
  · intro w hSw; skip; go_simp; try with_reducible rfl
  simp only [Act.put, List.getElem_toArray, List.getElem_cons_zero, List.getElem_cons_succ, List.setIfInBounds_toArray, List.set_cons_zero, List.set_cons_succ]
  refine wpAnyT_load (i := 63) (v := ?_) rfl (by as_aux_lemma => kernel_rfl) (by as_aux_lemma => kernel_rfl) (by as_aux_lemma => kernel_rfl) (by as_aux_lemma => kernel_rfl) (by as_aux_lemma => kernel_rfl) (fun _ _ _ h => h) HSS.out (by rfl) ?_ ?_
  rotate_left
  · intro w hSw; have x0 : w.cell? ⟨g2, 0, none⟩ = some (.int .u8 0) := (HR.out.keep hSw).cell 0; have x1 : w.cell? ⟨g2, 1, none⟩ = some (.int .u8 0) := (HR.out.keep hSw).cell 1; have x2 : w.cell? ⟨g2, 2, none⟩ = some (.int .u8 0) := (HR.out.keep hSw).cell 2; have x3 : w.cell? ⟨g2, 3, none⟩ = some (.int .u8 0) := (HR.out.keep hSw).cell 3; have x4 : w.cell? ⟨g2, 4, none⟩ = some (.int .u8 0) := (HR.out.keep hSw).cell 4; have x5 : w.cell? ⟨g2, 5, none⟩ = some (.int .u8 0) := (HR.out.keep hSw).cell 5; have x6 : w.cell? ⟨g2, 6, none⟩ = some (.int .u8 0) := (HR.out.keep hSw).cell 6; have x7 : w.cell? ⟨g2, 7, none⟩ = some (.int .u8 3) := (HR.out.keep hSw).cell 7; have x8 : w.cell? ⟨g2, 8, none⟩ = some (.int .u16 65535) := (HR.out.keep hSw).cell 8; have x9 : w.cell? ⟨g2, 9, none⟩ = some (.int .u64 ((rep13.m.hi.toNat : Nat) : Int)) := (HR.out.keep hSw).cell 9; rw [rep13_hi] at x9; have x10 : w.cell? ⟨g2, 10, none⟩ = some (.int .u64 0) := (HR.out.keep hSw).cell 10; have x11 : w.cell? ⟨g2, 11, none⟩ = some (.slice (some ⟨b2, o2, none⟩) 2 c2) := (HR.out.keep hSw).cell 11; go_simp; try with_reducible rfl
  simp only [Act.put, List.getElem_toArray, List.getElem_cons_zero, List.getElem_cons_succ, List.setIfInBounds_toArray, List.set_cons_zero, List.set_cons_succ]
  refine wpAnyT_load (i := 64) (v := ?_) rfl (by as_aux_lemma => kernel_rfl) (by as_aux_lemma => kernel_rfl) (by as_aux_lemma => kernel_rfl) (by as_aux_lemma => kernel_rfl) (by as_aux_lemma => kernel_rfl) (fun _ _ _ h => h) HSS.out (by rfl) ?_ ?_
  rotate_left
  · intro w hSw; skip; go_simp; try with_reducible rfl
  simp only [Act.put, List.getElem_toArray, List.getElem_cons_zero, List.getElem_cons_succ, List.setIfInBounds_toArray, List.set_cons_zero, List.set_cons_succ]
  refine wpAnyT_one (i := 65) (by as_aux_lemma => kernel_rfl) rfl (fun K hK => ?_)
  rw [if_pos (by rfl)]
  go_simp
  refine (pHolds_any (r := rep13) ⟨_, rfl, Sl.keep HB.out HSS.out⟩ (HP.out.keep HSS.out) (by decide)).mono ?_
  rintro e w19 ⟨rfl, hF⟩
  rw [holds13]
  go_simp
  have HSS := Lib.hid (HSS.out.trans hF)
  clear hF
  refine hK.out _ _ (fun _ => HSS.out) ?_
  clear hK K
  simp only [Act.put, List.getElem_toArray, List.getElem_cons_zero, List.getElem_cons_succ, List.setIfInBounds_toArray, List.set_cons_zero, List.set_cons_succ]
  refine wpAnyT_load (i := 66) (v := ?_) rfl (by as_aux_lemma => kernel_rfl) (by as_aux_lemma => kernel_rfl) (by as_aux_lemma => kernel_rfl) (by as_aux_lemma => kernel_rfl) (by as_aux_lemma => kernel_rfl) (fun _ _ _ h => h) HSS.out (by rfl) ?_ ?_
  rotate_left
  · intro w hSw; skip; go_simp; try with_reducible rfl
  simp only [Act.put, List.getElem_toArray, List.getElem_cons_zero, List.getElem_cons_succ, List.setIfInBounds_toArray, List.set_cons_zero, List.set_cons_succ]
  refine wpAnyT_load (i := 67) (v := ?_) rfl (by as_aux_lemma => kernel_rfl) (by as_aux_lemma => kernel_rfl) (by as_aux_lemma => kernel_rfl) (by as_aux_lemma => kernel_rfl) (by as_aux_lemma => kernel_rfl) (fun _ _ _ h => h) HSS.out (by rfl) ?_ ?_
  rotate_left
  · intro w hSw; skip; go_simp; try with_reducible rfl
  simp only [Act.put, List.getElem_toArray, List.getElem_cons_zero, List.getElem_cons_succ, List.setIfInBounds_toArray, List.set_cons_zero, List.set_cons_succ]
  refine wpAnyT_load (i := 68) (v := ?_) rfl (by as_aux_lemma => kernel_rfl) (by as_aux_lemma => kernel_rfl) (by as_aux_lemma => kernel_rfl) (by as_aux_lemma => kernel_rfl) (by as_aux_lemma => kernel_rfl) (fun _ _ _ h => h) HSS.out (by rfl) ?_ ?_
  rotate_left
  · intro w hSw; have x0 : w.cell? ⟨g2, 0, none⟩ = some (.int .u8 0) := (HR.out.keep hSw).cell 0; have x1 : w.cell? ⟨g2, 1, none⟩ = some (.int .u8 0) := (HR.out.keep hSw).cell 1; have x2 : w.cell? ⟨g2, 2, none⟩ = some (.int .u8 0) := (HR.out.keep hSw).cell 2; have x3 : w.cell? ⟨g2, 3, none⟩ = some (.int .u8 0) := (HR.out.keep hSw).cell 3; have x4 : w.cell? ⟨g2, 4, none⟩ = some (.int .u8 0) := (HR.out.keep hSw).cell 4; have x5 : w.cell? ⟨g2, 5, none⟩ = some (.int .u8 0) := (HR.out.keep hSw).cell 5; have x6 : w.cell? ⟨g2, 6, none⟩ = some (.int .u8 0) := (HR.out.keep hSw).cell 6; have x7 : w.cell? ⟨g2, 7, none⟩ = some (.int .u8 3) := (HR.out.keep hSw).cell 7; have x8 : w.cell? ⟨g2, 8, none⟩ = some (.int .u16 65535) := (HR.out.keep hSw).cell 8; have x9 : w.cell? ⟨g2, 9, none⟩ = some (.int .u64 ((rep13.m.hi.toNat : Nat) : Int)) := (HR.out.keep hSw).cell 9; rw [rep13_hi] at x9; have x10 : w.cell? ⟨g2, 10, none⟩ = some (.int .u64 0) := (HR.out.keep hSw).cell 10; have x11 : w.cell? ⟨g2, 11, none⟩ = some (.slice (some ⟨b2, o2, none⟩) 2 c2) := (HR.out.keep hSw).cell 11; go_simp; try with_reducible rfl
  simp only [Act.put, List.getElem_toArray, List.getElem_cons_zero, List.getElem_cons_succ, List.setIfInBounds_toArray, List.set_cons_zero, List.set_cons_succ]
  refine wpAnyT_load (i := 69) (v := ?_) rfl (by as_aux_lemma => kernel_rfl) (by as_aux_lemma => kernel_rfl) (by as_aux_lemma => kernel_rfl) (by as_aux_lemma => kernel_rfl) (by as_aux_lemma => kernel_rfl) (fun _ _ _ h => h) HSS.out (by rfl) ?_ ?_
  rotate_left
  · intro w hSw; skip; go_simp; try with_reducible rfl
  simp only [Act.put, List.getElem_toArray, List.getElem_cons_zero, List.getElem_cons_succ, List.setIfInBounds_toArray, List.set_cons_zero, List.set_cons_succ]
  refine wpAnyT_load (i := 70) (v := ?_) rfl (by as_aux_lemma => kernel_rfl) (by as_aux_lemma => kernel_rfl) (by as_aux_lemma => kernel_rfl) (by as_aux_lemma => kernel_rfl) (by as_aux_lemma => kernel_rfl) (fun _ _ _ h => h) HSS.out (by rfl) ?_ ?_
  rotate_left
  · intro w hSw; skip; go_simp; try with_reducible rfl
  simp only [Act.put, List.getElem_toArray, List.getElem_cons_zero, List.getElem_cons_succ, List.setIfInBounds_toArray, List.set_cons_zero, List.set_cons_succ]
  refine wpAnyT_one (i := 71) (by as_aux_lemma => kernel_rfl) rfl (fun K hK => ?_)
  rw [if_pos (by rfl)]
  go_simp
  refine (pHolds_any (r := rep13) (ls := [ba13]) ⟨_, rfl, Sl.keep HB.out HSS.out⟩ ((HP.out.keep HSS.out).pre 1 (by omega) 2 (by omega) (by omega)) (by decide)).mono ?_
  rintro e w20 ⟨rfl, hF⟩
  rw [holds13a]
  go_simp
  have HSS := Lib.hid (HSS.out.trans hF)
  clear hF
  refine hK.out _ _ (fun _ => HSS.out) ?_
  clear hK K
  simp only [Act.put, List.getElem_toArray, List.getElem_cons_zero, List.getElem_cons_succ, List.setIfInBounds_toArray, List.set_cons_zero, List.set_cons_succ]
  refine wpAnyT_load (i := 72) (v := ?_) rfl (by as_aux_lemma => kernel_rfl) (by as_aux_lemma => kernel_rfl) (by as_aux_lemma => kernel_rfl) (by as_aux_lemma => kernel_rfl) (by as_aux_lemma => kernel_rfl) (fun _ _ _ h => h) HSS.out (by rfl) ?_ ?_
  rotate_left
  · intro w hSw; skip; go_simp; try with_reducible rfl
  simp only [Act.put, List.getElem_toArray, List.getElem_cons_zero, List.getElem_cons_succ, List.setIfInBounds_toArray, List.set_cons_zero, List.set_cons_succ]
  refine wpAnyT_load (i := 73) (v := ?_) rfl (by as_aux_lemma => kernel_rfl) (by as_aux_lemma => kernel_rfl) (by as_aux_lemma => kernel_rfl) (by as_aux_lemma => kernel_rfl) (by as_aux_lemma => kernel_rfl) (fun _ _ _ h => h) HSS.out (by rfl) ?_ ?_
  rotate_left
  · intro w hSw; skip; go_simp; try with_reducible rfl
  simp only [Act.put, List.getElem_toArray, List.getElem_cons_zero, List.getElem_cons_succ, List.setIfInBounds_toArray, List.set_cons_zero, List.set_cons_succ]
  refine wpAnyT_load (i := 74) (v := ?_) rfl (by as_aux_lemma => kernel_rfl) (by as_aux_lemma => kernel_rfl) (by as_aux_lemma => kernel_rfl) (by as_aux_lemma => kernel_rfl) (by as_aux_lemma => kernel_rfl) (fun _ _ _ h => h) HSS.out (by rfl) ?_ ?_
  rotate_left
  · intro w hSw; skip; go_simp; try with_reducible rfl
  simp only [Act.put, List.getElem_toArray, List.getElem_cons_zero, List.getElem_cons_succ, List.setIfInBounds_toArray, List.set_cons_zero, List.set_cons_succ]
  refine wpAnyT_load (i := 75) (v := ?_) rfl (by as_aux_lemma => kernel_rfl) (by as_aux_lemma => kernel_rfl) (by as_aux_lemma => kernel_rfl) (by as_aux_lemma => kernel_rfl) (by as_aux_lemma => kernel_rfl) (fun _ _ _ h => h) HSS.out (by rfl) ?_ ?_
  rotate_left
  · intro w hSw; skip; go_simp; try with_reducible rfl
  simp only [Act.put, List.getElem_toArray, List.getElem_cons_zero, List.getElem_cons_succ, List.setIfInBounds_toArray, List.set_cons_zero, List.set_cons_succ]
  refine wpAnyT_load (i := 76) (v := ?_) rfl (by as_aux_lemma => kernel_rfl) (by as_aux_lemma => kernel_rfl) (by as_aux_lemma => kernel_rfl) (by as_aux_lemma => kernel_rfl) (by as_aux_lemma => kernel_rfl) (fun _ _ _ h => h) HSS.out (by rfl) ?_ ?_
  rotate_left
  · intro w hSw; have z8 : w.cell? ⟨gx, 8, none⟩ = some (.slice ax 2 cx) := (HX.out.keep hSw).cell 8; go_simp; try with_reducible rfl
  simp only [Act.put, List.getElem_toArray, List.getElem_cons_zero, List.getElem_cons_succ, List.setIfInBounds_toArray, List.set_cons_zero, List.set_cons_succ]
  refine wpAnyT_load (i := 77) (v := ?_) rfl (by as_aux_lemma => kernel_rfl) (by as_aux_lemma => kernel_rfl) (by as_aux_lemma => kernel_rfl) (by as_aux_lemma => kernel_rfl) (by as_aux_lemma => kernel_rfl) (fun _ _ _ h => h) HSS.out (by rfl) ?_ ?_
  rotate_left
  · intro w hSw; skip; go_simp; try with_reducible rfl
  simp only [Act.put, List.getElem_toArray, List.getElem_cons_zero, List.getElem_cons_succ, List.setIfInBounds_toArray, List.set_cons_zero, List.set_cons_succ]
  refine wpAnyT_load (i := 78) (v := ?_) rfl (by as_aux_lemma => kernel_rfl) (by as_aux_lemma => kernel_rfl) (by as_aux_lemma => kernel_rfl) (by as_aux_lemma => kernel_rfl) (by as_aux_lemma => kernel_rfl) (fun _ _ _ h => h) HSS.out (by rfl) ?_ ?_
  rotate_left
  · intro w hSw; skip; go_simp; try with_reducible rfl
  simp only [Act.put, List.getElem_toArray, List.getElem_cons_zero, List.getElem_cons_succ, List.setIfInBounds_toArray, List.set_cons_zero, List.set_cons_succ]
  refine wpAnyT_load (i := 79) (v := ?_) rfl (by as_aux_lemma => kernel_rfl) (by as_aux_lemma => kernel_rfl) (by as_aux_lemma => kernel_rfl) (by as_aux_lemma => kernel_rfl) (by as_aux_lemma => kernel_rfl) (fun _ _ _ h => h) HSS.out (by rfl) ?_ ?_
  rotate_left
  · intro w hSw; skip; go_simp; try with_reducible rfl
  simp only [Act.put, List.getElem_toArray, List.getElem_cons_zero, List.getElem_cons_succ, List.setIfInBounds_toArray, List.set_cons_zero, List.set_cons_succ]
  refine wpAnyT_load (i := 80) (v := ?_) rfl (by as_aux_lemma => kernel_rfl) (by as_aux_lemma => kernel_rfl) (by as_aux_lemma => kernel_rfl) (by as_aux_lemma => kernel_rfl) (by as_aux_lemma => kernel_rfl) (fun _ _ _ h => h) HSS.out (by rfl) ?_ ?_
  rotate_left
  · intro w hSw; skip; go_simp; try with_reducible rfl
  simp only [Act.put, List.getElem_toArray, List.getElem_cons_zero, List.getElem_cons_succ, List.setIfInBounds_toArray, List.set_cons_zero, List.set_cons_succ]
  refine wpAnyT_load (i := 81) (v := ?_) rfl (by as_aux_lemma => kernel_rfl) (by as_aux_lemma => kernel_rfl) (by as_aux_lemma => kernel_rfl) (by as_aux_lemma => kernel_rfl) (by as_aux_lemma => kernel_rfl) (fun _ _ _ h => h) HSS.out (by rfl) ?_ ?_
  rotate_left
  · intro w hSw; skip; go_simp; try with_reducible rfl
  simp only [Act.put, List.getElem_toArray, List.getElem_cons_zero, List.getElem_cons_succ, List.setIfInBounds_toArray, List.set_cons_zero, List.set_cons_succ]
  refine wpAnyT_load (i := 82) (v := ?_) rfl (by as_aux_lemma => kernel_rfl) (by as_aux_lemma => kernel_rfl) (by as_aux_lemma => kernel_rfl) (by as_aux_lemma => kernel_rfl) (by as_aux_lemma => kernel_rfl) (fun _ _ _ h => h) HSS.out (by rfl) ?_ ?_
  rotate_left
  · intro w hSw; skip; go_simp; try with_reducible rfl
  simp only [Act.put, List.getElem_toArray, List.getElem_cons_zero, List.getElem_cons_succ, List.setIfInBounds_toArray, List.set_cons_zero, List.set_cons_succ]
  refine wpAnyT_load (i := 83) (v := ?_) rfl (by as_aux_lemma => kernel_rfl) (by as_aux_lemma => kernel_rfl) (by as_aux_lemma => kernel_rfl) (by as_aux_lemma => kernel_rfl) (by as_aux_lemma => kernel_rfl) (fun _ _ _ h => h) HSS.out (by rfl) ?_ ?_
  rotate_left
  · intro w hSw; have z7 : w.cell? ⟨gx, 7, none⟩ = some (.int .u8 3) := (HX.out.keep hSw).cell 7; go_simp; try with_reducible rfl
  simp only [Act.put, List.getElem_toArray, List.getElem_cons_zero, List.getElem_cons_succ, List.setIfInBounds_toArray, List.set_cons_zero, List.set_cons_succ]
  refine wpAnyT_load (i := 84) (v := ?_) rfl (by as_aux_lemma => kernel_rfl) (by as_aux_lemma => kernel_rfl) (by as_aux_lemma => kernel_rfl) (by as_aux_lemma => kernel_rfl) (by as_aux_lemma => kernel_rfl) (fun _ _ _ h => h) HSS.out (by rfl) ?_ ?_
  rotate_left
  · intro w hSw; skip; go_simp; try with_reducible rfl
  simp only [Act.put, List.getElem_toArray, List.getElem_cons_zero, List.getElem_cons_succ, List.setIfInBounds_toArray, List.set_cons_zero, List.set_cons_succ]
  refine wpAnyT_load (i := 85) (v := ?_) rfl (by as_aux_lemma => kernel_rfl) (by as_aux_lemma => kernel_rfl) (by as_aux_lemma => kernel_rfl) (by as_aux_lemma => kernel_rfl) (by as_aux_lemma => kernel_rfl) (fun _ _ _ h => h) HSS.out (by rfl) ?_ ?_
  rotate_left
  · intro w hSw; skip; go_simp; try with_reducible rfl
  simp only [Act.put, List.getElem_toArray, List.getElem_cons_zero, List.getElem_cons_succ, List.setIfInBounds_toArray, List.set_cons_zero, List.set_cons_succ]
  refine wpAnyT_load (i := 86) (v := ?_) rfl (by as_aux_lemma => kernel_rfl) (by as_aux_lemma => kernel_rfl) (by as_aux_lemma => kernel_rfl) (by as_aux_lemma => kernel_rfl) (by as_aux_lemma => kernel_rfl) (fun _ _ _ h => h) HSS.out (by rfl) ?_ ?_
  rotate_left
  · intro w hSw; skip; go_simp; try with_reducible rfl
  simp only [Act.put, List.getElem_toArray, List.getElem_cons_zero, List.getElem_cons_succ, List.setIfInBounds_toArray, List.set_cons_zero, List.set_cons_succ]
  refine wpAnyT_done (by as_aux_lemma => kernel_rfl) ?_ _
  have HF := Lib.hid (HF.out.trans HSS.out)
  go_wp2_with fail
  go_ret
  first | exact ⟨rfl, HF.out⟩ | exact ⟨ret_bool (by simp), HF.out⟩
end Go.Proofs.Ytchbgiindfoepaa
