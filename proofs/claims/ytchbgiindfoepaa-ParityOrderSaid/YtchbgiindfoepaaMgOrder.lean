/- The walk of confluxlaw13.ParityOrder (printed by gen_order.py). -/
import Derived.Test.YtchbgiindfoepaaMg33
import Derived.Test.YtchbgiindfoepaaMg30
import Derived.Test.YtchbgiindfoepaaMg23
namespace Go.Proofs.Ytchbgiindfoepaa
open Go.RowKit

theorem and3 (c : Int) : ∃ n : Nat, bits .and .i64 c 3 = (n : Int) ∧ n ≤ 3 := by
  have h : (BitVec.ofInt 64 c &&& BitVec.ofInt 64 3).toNat ≤ 3 := by
    rw [BitVec.toNat_and]
    exact Nat.and_le_right
  refine ⟨_, ?_, h⟩
  show IntKind.i64.wrap ((BitVec.ofInt 64 c &&& BitVec.ofInt 64 3).toNat : Int) = _
  exact IntWalk.i64_in _ (by omega)
theorem u8_xorN (a b : UInt8) : bits .xor .u8 (a.toNat : Int) (b.toNat : Int) = ((a ^^^ b).toNat : Int) := by
  have h : ∀ a < 256, ∀ b < 256, bits .xor .u8 ((a : Nat) : Int) ((b : Nat) : Int) = ((UInt8.ofNat a ^^^ UInt8.ofNat b).toNat : Int) := by
    intro a ha b hb
    have h1 : (BitVec.ofInt 8 (a : Int) ^^^ BitVec.ofInt 8 (b : Int)).toNat = a ^^^ b := by
      have e1 : (BitVec.ofInt 8 (a : Int)).toNat = a := by rw [BitVec.toNat_ofInt]; omega
      have e2 : (BitVec.ofInt 8 (b : Int)).toNat = b := by rw [BitVec.toNat_ofInt]; omega
      rw [BitVec.toNat_xor, e1, e2]
    show IntKind.u8.wrap ((BitVec.ofInt 8 (a : Int) ^^^ BitVec.ofInt 8 (b : Int)).toNat : Int) = _
    rw [h1]
    have h2 : a ^^^ b < 256 := Nat.xor_lt_two_pow (n := 8) ha hb
    simp only [UInt8.toNat_xor, UInt8.toNat_ofNat']
    rw [Nat.mod_eq_of_lt ha, Nat.mod_eq_of_lt hb]
    exact IntWalk.u8_in _ (by omega)
  have := h a.toNat a.toNat_lt b.toNat b.toNat_lt
  rw [UInt8.ofNat_toNat, UInt8.ofNat_toNat] at this
  exact this
def zrep : Rep_ := ⟨Bt.zero, 0, ⟨0, 0⟩⟩
theorem zrep_v (w : World) : RpV w (.agg rpz) zrep := ⟨.slice none 0 0, rfl, Sl.nil w⟩
theorem rev_take {ls : List (List UInt8)} {k j : Nat} (h : j + (k + 1) = ls.length) (hj : j < ls.length) : ls.reverse.take (k + 1) = ls.reverse.take k ++ [ls[j]] := by
  have hk : k < ls.reverse.length := by rw [List.length_reverse]; omega
  rw [List.take_succ_eq_append_getElem hk, List.getElem_reverse]
  congr 3
  omega
theorem u8_flip (a : UInt8) : a ^^^ 1 ≠ a := by
  have h : ∀ n < 256, (UInt8.ofNat n ^^^ 1) ≠ UInt8.ofNat n := by decide +kernel
  have := h a.toNat a.toNat_lt
  rw [UInt8.ofNat_toNat] at this
  exact this
set_option maxRecDepth 100000 in
set_option maxHeartbeats 16000000 in
theorem ParityOrder_any {w : World} {v : Value} {ls : List (List UInt8)} (hl : BRows w v ls) (c d : Int) :
    Calls Try.prog 6 #[v, .int .i64 c, .int .i64 d] w fun e w' => e = .returned (.bool true) ∧ Fr [] w w' := by
  obtain ⟨av, cv, rfl⟩ := hl.shape
  have hlen := hl.len
  unfold maxLen at hlen
  have HB := Lib.hid hl; have HB0 := Lib.hid hl; have HF : Hid (Fr [] w w) := Lib.hid (Fr.refl _ _)
  clear hl
  go_enter Try.func6, Try.ntmps6
  go_wp2_with fail
  refine l13alive_any.mono ?_
  rintro e w1 ⟨rfl, hF⟩
  have HF := Lib.hid (HF.out.trans hF)
  have HB := Lib.hid (HB.out.keep hF)
  clear hF
  go_wp2_with fail
  refine (RFew13_any HB.out 40 400 (by omega) (by omega)).mono ?_
  rintro e w2 ⟨rfl, hF⟩
  have HF := Lib.hid (HF.out.trans hF)
  have HB := Lib.hid (HB.out.keep hF)
  clear hF
  by_cases hfew : few13 ls 40 400 = true
  rotate_left
  · have hfew2 : few13 ls 40 400 = false := by simpa using hfew
    rw [hfew2]
    go_wp2_with fail
    go_ret
    first | exact ⟨rfl, HF.out⟩ | exact ⟨ret_bool (by simp), HF.out⟩
  rw [hfew]
  obtain ⟨hn40, hsz⟩ := few13_true hfew
  have HSZ := Lib.hid hsz
  clear hfew hsz
  go_wp2_with fail
  refine (pMake_any HB.out).mono ?_
  rintro e w3 ⟨hF, ⟨r, v', hm, rfl, hv⟩ | ⟨kk, hm, hk0, rfl⟩⟩
  rotate_left
  · have HH : Hid (holdsB zrep ls = false) := Lib.hid (holds_err hm _)
    have hkb : (kk != 0) = true := bne_iff_ne.2 hk0
    have HF := Lib.hid (HF.out.trans hF)
    have HB := Lib.hid (HB.out.keep hF)
    clear hm hk0 hF
    go_upto_region 6 with (refine wpList_store_row rfl 58 (.tmp 7) (.tmp 27) rfl w3.heap.size rfl _ _ rfl 58 (Box.new w3 58 rpz) (by kernel_rfl) rfl (by simp [Value.oneCell']) ?_; intro w4 hY hG; have hFn := ((Fr.refl [] w3).alloc _).step hG (by simp); have HFn := Lib.hid hFn; have HY := Lib.hid hY; clear hG hFn hY)
    have hF := HFn.out
    have HF := Lib.hid (HF.out.trans hF)
    have HB := Lib.hid (HB.out.keep hF)
    have HR := HY
    clear hF HFn HY
    generalize hg7 : w3.heap.size = g7 at *
    clear hg7
    go_wp2_with (refine wpList_load_row_w rfl 58 (.tmp 7) rfl g7 rfl 58 _ _ HR.out Try.underlying58 rfl (by kernel_rfl) ?_)
    refine (pHolds_any (zrep_v _) HB.out (by decide)).mono ?_
    rintro e w5 ⟨rfl, hF⟩
    rw [HH.out]
    have HF := Lib.hid (HF.out.trans hF)
    have HB := Lib.hid (HB.out.keep hF)
    clear hF
    go_wp2_with fail
    go_ret
    first | exact ⟨rfl, HF.out⟩ | exact ⟨ret_bool (by simp), HF.out⟩
  obtain ⟨vb, rfl, hb, -⟩ := hv
  obtain ⟨a2, c2, rfl⟩ := Sl.shape hb
  rw [List.length_map] at hb ⊢
  have HM := Lib.hid hm
  have HF := Lib.hid (HF.out.trans hF)
  have HB := Lib.hid (HB.out.keep hF)
  have HBD := Lib.hid hb
  have HZ3 := Lib.hid HF.out.size
  clear hb hF hm
  go_upto_region 6 with (refine wpList_store_row rfl 58 (.tmp 7) (.tmp 27) rfl w3.heap.size rfl _ _ rfl 58 (Box.new w3 58 rpz) (by kernel_rfl) rfl (by simp [Value.oneCell']) ?_; intro w4 hY hG; have hFn := ((Fr.refl [] w3).alloc _).step hG (by simp); have HFn := Lib.hid hFn; have HY := Lib.hid hY; clear hG hFn hY)
  have hF := HFn.out
  have HF := Lib.hid (HF.out.trans hF)
  have HB := Lib.hid (HB.out.keep hF)
  have HBD := Lib.hid (Sl.keep HBD.out hF)
  have HR := HY
  have hx3 : w.heap.size ≤ w3.heap.size := HZ3.out
  have HGW : Hid (w3.heap.size < w4.heap.size ∧ w.heap.size ≤ w3.heap.size) := Lib.hid ⟨HY.out.lt, hx3⟩
  clear hx3 HZ3 hF HFn HY
  generalize hg7 : w3.heap.size = g7 at *
  clear hg7
  go_upto_region 8 with fail
  obtain ⟨w5, e5, hF, hB5, hs5⟩ := one_new w4 #[] 25
  have HO : Hid (OwnEls 1 BytesR w5 w4.heap.size 25 (.slice (some ⟨w4.heap.size, 0, none⟩) 0 0) [] []) := Lib.hid (by rw [← e5]; exact OwnEls.made w4 w4.heap.size _ (Nat.le_refl _))
  have E5 := Lib.hid e5
  have HF5 := Lib.hid hF
  clear e5 hB5 hs5 hF
  go_upto_region 9 with fail
  rw [E5.out]
  clear E5
  generalize hN : w4.heap.size = N at *
  have HN := Lib.hid hN
  clear hN
  go_wp2_with fail
  go_loopw [9, 38] (fun sv iv wr => ∃ (k : Nat) (Bs : List Nat), k ≤ ls.length ∧ iv = .int .i64 k ∧ OwnEls 1 BytesR wr N 25 sv (ls.reverse.take k) Bs ∧ (∀ b ∈ Bs, b < N) ∧ Fr [] w4 wr) (fun _ iv _ => ls.length - (intOf iv).toNat)
  case atStart => exact ⟨0, [], Nat.zero_le _, rfl, HO.out, by simp, HF5.out⟩
  case round =>
    clear HO HF5
    have HB4 := Lib.hid HB.out
    obtain ⟨k, Bs, hk, rfl, hO, hBs, hF⟩ := hrel
    have hkl : (ls.reverse.take k).length = k := by rw [List.length_take, List.length_reverse]; omega
    have HKL := Lib.hid hkl
    obtain ⟨as_, cs, rfl⟩ := hO.shape
    have HO := Lib.hid hO; have HFQ := Lib.hid hF; have HBS := Lib.hid hBs
    clear hO hBs hkl
    have HF := Lib.hid (HF.out.trans hF)
    have HB := Lib.hid (HB.out.keep hF)
    have HBD := Lib.hid (Sl.keep HBD.out hF)
    have HR := Lib.hid (HR.out.keep hF)
    clear hF
    by_cases hlt : k < ls.length
    · obtain ⟨j, hj⟩ : ∃ j, j + (k + 1) = ls.length := ⟨ls.length - (k + 1), by omega⟩
      have hjl : j < ls.length := by omega
      obtain ⟨b, o, al, cl, ea, hb, hc, hx⟩ := HB4.out.at_ j hjl
      subst ea
      have HT : Hid (ls.reverse.take (k + 1) = ls.reverse.take k ++ [ls[j]]) := Lib.hid (rev_take hj hjl)
      have HX := Lib.hid (Sl.keep hx HFQ.out)
      have d0 := HFQ.out.cellSome hc (by simp)
      have HXL : Hid (∀ b ∈ (liveOf (.slice al ls[j].length cl)).toList, b < N) := Lib.hid (fun b hb => by have h1 := Sl.lt hx b (mem_toList.1 hb); have := HN.out; omega)
      have hJ : ((ls.length : Int) - 1 - (k : Int)) = (j : Int) := by omega
      clear hb hc hx
      obtain ⟨w6, e6, hF6, hB6, hs6⟩ := one_new wr #[.slice al ls[j].length cl] 25
      have E6 := Lib.hid e6; have HF6 := Lib.hid hF6; have HB6 := Lib.hid hB6
      clear e6 hF6 hB6
      have HOS : Hid (OwnEls 1 BytesR w6 N 25 (.slice as_ (ls.reverse.take k).length cs) (ls.reverse.take k) Bs) := Lib.hid (HO.out.keep Rep.bytes HF6.out)
      have HDJ : Hid (∀ b, blockOf (.slice as_ (ls.reverse.take k).length cs) = some b → b ∉ (liveOf (.slice al ls[j].length cl)).toList) := Lib.hid (fun b hb hm => by have h1 := HXL.out b hm; have h2 := (HO.out.block b hb).1; omega)
      have HX6 := Lib.hid (Sl.keep HX.out HF6.out)
      have HL1 : Hid ((ls.reverse.take k).length + 1 ≤ maxLen) := Lib.hid (by rw [HKL.out]; unfold maxLen; omega)
      have HL2 : Hid (((ls.reverse.take k).length + 1) * 24 ≤ 140737488355328) := Lib.hid (by rw [HKL.out]; omega)
      have HL3 : Hid (N ≤ w6.heap.size) := Lib.hid (by have := HFQ.out.size; have := HF6.out.size; have := HN.out; omega)
      go_wp2_with (at_builtin; (rw [E6.out]); refine wpList_append_el Rep.bytes (by decide) rfl (.tmp 41) (.tmp 50) 22 rfl N 25 (.slice none 0 0) 24 Try.underlying22 info_u8s rfl (.slice as_ (ls.reverse.take k).length cs) (ls.reverse.take k) Bs rfl HOS.out wr.heap.size 0 1 rfl [.slice al ls[j].length cl] ls[j] (liveOf (.slice al ls[j].length cl)).toList (box_range HB6.out) ⟨_, rfl, HX6.out, rfl⟩ HDJ.out HL1.out HL2.out HL3.out ?_; intro vs1 w7 hown1 hfr1 hbl1; have HV1 := Lib.hid hown1; have HF7 := Lib.hid hfr1; obtain ⟨as1, cs1, rfl⟩ := hown1.shape; clear hown1 hfr1 hbl1)
      exact ⟨⟨k + 1, _, by omega, by go_num, by rw [HT.out]; have h := HV1.out; rw [List.length_append, HKL.out] at h; exact h, fun b hb => by
          rcases List.mem_append.1 hb with hb | hb
          · exact HBS.out b hb
          · exact HXL.out b hb, (HFQ.out.trans HF6.out).step HF7.out (fun b hb => .inr (by have := (HO.out.block b (mem_toList.1 hb)).1; have := HN.out; omega))⟩, by simp [intOf]; omega⟩
    · obtain rfl : k = ls.length := by omega
      have hrv : ls.reverse.take ls.length = ls.reverse := List.take_of_length_le (by rw [List.length_reverse]; omega)
      rw [hrv, List.length_reverse] at HO
      have HBK : Hid (BRows wr (.slice as_ ls.length cs) ls.reverse) := Lib.hid HO.out.sl.rows
      have HM2 : Hid (mkP ls.reverse = .ok r) := Lib.hid (mkP_perm HM.out (List.reverse_perm ls).symm)
      clear hrv HO HBS HKL HFQ HB4
      go_wp2_with fail
      refine (pMake_any HBK.out).mono ?_
      rintro e w8 ⟨hF, ⟨r', v', hm, rfl, hv⟩ | ⟨kk, hm, hk0, rfl⟩⟩
      rotate_left
      · rw [HM2.out] at hm; cases hm
      obtain rfl : r = r' := by rw [HM2.out] at hm; cases hm; rfl
      obtain ⟨vb, rfl, hb, -⟩ := hv
      obtain ⟨a3, c3, rfl⟩ := Sl.shape hb
      rw [List.length_map] at hb ⊢
      clear hm
      have HF := Lib.hid (HF.out.trans hF)
      have HB := Lib.hid (HB.out.keep hF)
      have HBD := Lib.hid (Sl.keep HBD.out hF)
      have HR := Lib.hid (HR.out.keep hF)
      have HBK := Lib.hid (HBK.out.keep hF)
      have HBD3 := Lib.hid hb
      clear hb hF
      go_upto_region 15 with (refine wpList_store_row rfl 58 (.tmp 11) (.tmp 56) rfl w8.heap.size rfl _ _ rfl 58 (Box.new w8 58 rpz) (by kernel_rfl) rfl (by simp [Value.oneCell']) ?_; intro w9 hY hG; have hFn := ((Fr.refl [] w8).alloc _).step hG (by simp); have HFn := Lib.hid hFn; have HY := Lib.hid hY; clear hG hFn hY)
      have hF := HFn.out
      have HF := Lib.hid (HF.out.trans hF)
      have HB := Lib.hid (HB.out.keep hF)
      have HBD := Lib.hid (Sl.keep HBD.out hF)
      have HR := Lib.hid (HR.out.keep hF)
      have HBK := Lib.hid (HBK.out.keep hF)
      have HBD3 := Lib.hid (Sl.keep HBD3.out hF)
      have HS := HY
      clear hF HFn HY
      generalize hg11 : w8.heap.size = g11 at *
      clear hg11
      have HSM : Hid (r.bt.body.length ≤ 1099511627776) := Lib.hid (mkP_small HM.out)
      have x0 := HR.out.cell 0; have x1 := HR.out.cell 1; have x2 := HR.out.cell 2; have x3 := HR.out.cell 3; have x4 := HR.out.cell 4; have x5 := HR.out.cell 5; have x6 := HR.out.cell 6; have x7 := HR.out.cell 7; have x8 := HR.out.cell 8; have x9 := HR.out.cell 9; have x10 := HR.out.cell 10; have x11 := HR.out.cell 11
      simp only [rpc, List.getElem?_toArray, List.getElem?_cons_succ, List.getElem?_cons_zero] at x0 x1 x2 x3 x4 x5 x6 x7 x8 x9 x10 x11
      have y0 := HS.out.cell 0; have y1 := HS.out.cell 1; have y2 := HS.out.cell 2; have y3 := HS.out.cell 3; have y4 := HS.out.cell 4; have y5 := HS.out.cell 5; have y6 := HS.out.cell 6; have y7 := HS.out.cell 7; have y8 := HS.out.cell 8; have y9 := HS.out.cell 9; have y10 := HS.out.cell 10; have y11 := HS.out.cell 11
      simp only [rpc, List.getElem?_toArray, List.getElem?_cons_succ, List.getElem?_cons_zero] at y0 y1 y2 y3 y4 y5 y6 y7 y8 y9 y10 y11
      go_wp2_with fail
      refine (r09Same_eq (r := r) ⟨_, rfl, HBD.out⟩ ⟨_, rfl, HBD3.out⟩ HSM.out).mono ?_
      rintro e w10 ⟨rfl, hF⟩
      clear x0 x1 x2 x3 x4 x5 x6 x7 x8 x9 x10 x11
      clear y0 y1 y2 y3 y4 y5 y6 y7 y8 y9 y10 y11
      have HF := Lib.hid (HF.out.trans hF)
      have HB := Lib.hid (HB.out.keep hF)
      have HBD := Lib.hid (Sl.keep HBD.out hF)
      have HR := Lib.hid (HR.out.keep hF)
      have HBK := Lib.hid (HBK.out.keep hF)
      have HBD3 := Lib.hid (Sl.keep HBD3.out hF)
      have HS := Lib.hid (HS.out.keep hF)
      clear hF
      have x0 := HR.out.cell 0; have x1 := HR.out.cell 1; have x2 := HR.out.cell 2; have x3 := HR.out.cell 3; have x4 := HR.out.cell 4; have x5 := HR.out.cell 5; have x6 := HR.out.cell 6; have x7 := HR.out.cell 7; have x8 := HR.out.cell 8; have x9 := HR.out.cell 9; have x10 := HR.out.cell 10; have x11 := HR.out.cell 11
      simp only [rpc, List.getElem?_toArray, List.getElem?_cons_succ, List.getElem?_cons_zero] at x0 x1 x2 x3 x4 x5 x6 x7 x8 x9 x10 x11
      go_wp2_with fail
      refine (pHolds_any (r := r) ⟨_, rfl, HBD.out⟩ HBK.out HSM.out).mono ?_
      rintro e w11 ⟨rfl, hF⟩
      rw [holds_self HM2.out]
      clear x0 x1 x2 x3 x4 x5 x6 x7 x8 x9 x10 x11
      have HF := Lib.hid (HF.out.trans hF)
      have HB := Lib.hid (HB.out.keep hF)
      have HBD := Lib.hid (Sl.keep HBD.out hF)
      have HR := Lib.hid (HR.out.keep hF)
      have HBK := Lib.hid (HBK.out.keep hF)
      have HBD3 := Lib.hid (Sl.keep HBD3.out hF)
      have HS := Lib.hid (HS.out.keep hF)
      clear hF
      clear HS HBK HBD3 HM2
      obtain ⟨cn, hcn, hcl⟩ := and1023 c
      have hpos : 0 < ls.length := List.length_pos_iff.2 (mkP_iff.1 HM.out).ne
      obtain ⟨kk, hkk⟩ : ∃ kk, kk = cn % ls.length := ⟨_, rfl⟩
      have hkl : kk < ls.length := by rw [hkk]; exact Nat.mod_lt _ hpos
      have hKK : ((cn : Int) % (ls.length : Int)) = (kk : Int) := by rw [hkk]; omega
      clear hkk
      go_upto_region 18 with fail

      have hkc : kk ≤ cv := by omega
      obtain ⟨k1, hk1⟩ : ∃ k1, k1 = kk + 1 := ⟨_, rfl⟩
      have hk1n : k1 ≤ ls.length := by omega
      have hkc2 : k1 ≤ cv := by omega
      have hwk : IntKind.i64.wrap ((kk : Int) + 1) = (k1 : Int) := by rw [IntWalk.i64_in _ (by omega), hk1]; rfl
      obtain ⟨rs, hrs⟩ : ∃ rs, rs = ls.take kk ++ ls.drop k1 := ⟨_, rfl⟩
      have HRQ := Lib.hid hrs
      have HK1 := Lib.hid hk1
      clear hk1 hrs
      obtain ⟨b, o, al, cl, ea, -, hc, hx⟩ := HB.out.at_ kk hkl
      subst ea
      have HX := Lib.hid hx; have HC := Lib.hid hc
      clear hc hx
      obtain ⟨q, hq⟩ : ∃ q, (if cv = k1 then some (⟨b, o, none⟩ : Addr) else some ⟨b, o + k1, none⟩) = q := ⟨_, rfl⟩
      have HQ := Lib.hid hq
      refine wp_region_T (fun w' => Fr [] w11.drew w') [] 11 #[false, false, false, false, false, false, false, false, false, false, false] (by kernel_rfl) rfl rfl ?_
      have hF := (Fr.refl [] w11).drew
      have HF := Lib.hid (HF.out.trans hF)
      have HB := Lib.hid (HB.out.keep hF)
      have HBD := Lib.hid (Sl.keep HBD.out hF)
      have HR := Lib.hid (HR.out.keep hF)
      have HX := Lib.hid (Sl.keep HX.out hF)
      have HC := Lib.hid (hF.cellSome HC.out (by simp))
      have HSS : Hid (Fr [] w11.drew w11.drew) := Lib.hid (Fr.refl _ _)
      clear hF
      generalize w11.drew = wd at *
      obtain ⟨ad1, cells1, B1, e1, hE1, hlt1, hc1⟩ := rows_ad HB.out 0 kk (by omega)
      obtain ⟨ad2, cells2, B2, e2, hE2, hlt2, hc2⟩ := rows_ad HB.out k1 (ls.length - k1) (by omega)
      rw [if_neg (by omega)] at e1
      cases e1
      rw [HQ.out] at e2
      have hl1 : ((ls.drop 0).take kk).length = kk := by rw [List.length_take, List.length_drop]; omega
      have hl2 : ((ls.drop k1).take (ls.length - k1)).length = ls.length - k1 := by rw [List.length_take, List.length_drop]; omega
      have HE1 := Lib.hid hE1; have HC1 := Lib.hid hc1; have HL1 := Lib.hid hl1; have HLT1 := Lib.hid hlt1
      have HE2 := Lib.hid hE2; have HC2 := Lib.hid hc2; have HL2 := Lib.hid hl2; have HLT2 := Lib.hid hlt2
      have HE0 := Lib.hid e2
      clear hE1 hlt1 hc1 hl1 hE2 hlt2 hc2 hl2 e2
      refine wpAnyT_load (i := 1) (v := ?_) rfl (by kernel_rfl) (by kernel_rfl) (by kernel_rfl) (by kernel_rfl) (by kernel_rfl) (fun _ _ _ h => h) HSS.out (by rfl) ?_ ?_
      rotate_left
      · intro w hSw; skip; go_simp; try with_reducible rfl
      simp only [Act.put, List.getElem_toArray, List.getElem_cons_zero, List.getElem_cons_succ, List.setIfInBounds_toArray, List.set_cons_zero, List.set_cons_succ]
      refine wpAnyT_load (i := 2) (v := ?_) rfl (by kernel_rfl) (by kernel_rfl) (by kernel_rfl) (by kernel_rfl) (by kernel_rfl) (fun _ _ _ h => h) HSS.out (by rfl) ?_ ?_
      rotate_left
      · intro w hSw; skip; go_simp; try with_reducible rfl
      simp only [Act.put, List.getElem_toArray, List.getElem_cons_zero, List.getElem_cons_succ, List.setIfInBounds_toArray, List.set_cons_zero, List.set_cons_succ]
      refine wpAnyT_load (i := 3) (v := ?_) rfl (by kernel_rfl) (by kernel_rfl) (by kernel_rfl) (by kernel_rfl) (by kernel_rfl) (fun _ _ _ h => h) HSS.out (by rfl) ?_ ?_
      rotate_left
      · intro w hSw; skip; go_simp; try with_reducible rfl
      simp only [Act.put, List.getElem_toArray, List.getElem_cons_zero, List.getElem_cons_succ, List.setIfInBounds_toArray, List.set_cons_zero, List.set_cons_succ]
      refine wpAnyT_load (i := 5) (v := ?_) rfl (by kernel_rfl) (by kernel_rfl) (by kernel_rfl) (by kernel_rfl) (by kernel_rfl) (fun _ _ _ h => h) HSS.out (by rfl) ?_ ?_
      rotate_left
      · intro w hSw; skip; go_simp; try with_reducible rfl
      simp only [Act.put, List.getElem_toArray, List.getElem_cons_zero, List.getElem_cons_succ, List.setIfInBounds_toArray, List.set_cons_zero, List.set_cons_succ]
      refine wpAnyT_load (i := 6) (v := ?_) rfl (by kernel_rfl) (by kernel_rfl) (by kernel_rfl) (by kernel_rfl) (by kernel_rfl) (fun _ _ _ h => h) HSS.out (by rfl) ?_ ?_
      rotate_left
      · intro w hSw; skip; go_simp; try with_reducible rfl
      simp only [Act.put, List.getElem_toArray, List.getElem_cons_zero, List.getElem_cons_succ, List.setIfInBounds_toArray, List.set_cons_zero, List.set_cons_succ]
      refine wpAnyT_load (i := 7) (v := ?_) rfl (by kernel_rfl) (by kernel_rfl) (by kernel_rfl) (by kernel_rfl) (by kernel_rfl) (fun _ _ _ h => h) HSS.out (by rfl) ?_ ?_
      rotate_left
      · intro w hSw; skip; go_simp; try with_reducible rfl
      simp only [Act.put, List.getElem_toArray, List.getElem_cons_zero, List.getElem_cons_succ, List.setIfInBounds_toArray, List.set_cons_zero, List.set_cons_succ]
      refine wpAnyT_load (i := 8) (v := ?_) rfl (by kernel_rfl) (by kernel_rfl) (by kernel_rfl) (by kernel_rfl) (by kernel_rfl) (fun _ _ _ h => h) HSS.out (by rfl) ?_ ?_
      rotate_left
      · intro w hSw; skip; go_simp; try with_reducible rfl
      simp only [Act.put, List.getElem_toArray, List.getElem_cons_zero, List.getElem_cons_succ, List.setIfInBounds_toArray, List.set_cons_zero, List.set_cons_succ]
      obtain ⟨w12, e12, hF, hB12, hs12⟩ := one_new wd #[] 25
      have HO : Hid (OwnEls 1 BytesR w12 wd.heap.size 25 (.slice (some ⟨wd.heap.size, 0, none⟩) 0 0) [] []) := Lib.hid (by rw [← e12]; exact OwnEls.made wd wd.heap.size _ (Nat.le_refl _))
      refine wpAnyT_one (i := 0) (by kernel_rfl) rfl (fun K hK => ?_)
      rw [if_pos (by rfl)]
      go_simp
      refine hK.out _ _ (fun _ => hF) ?_
      clear hK K
      simp only [Act.put, List.getElem_toArray, List.getElem_cons_zero, List.getElem_cons_succ, List.setIfInBounds_toArray, List.set_cons_zero, List.set_cons_succ]
      have HSS := Lib.hid hF
      have HW12 : Hid (wd.heap.size ≤ w12.heap.size) := Lib.hid (by omega)
      clear e12 hF hB12 hs12
      have HDJ : Hid (∀ x, blockOf (.slice (some ⟨wd.heap.size, 0, none⟩) 0 0) = some x → x ∉ B1) := Lib.hid (fun x hx hm => by have := HLT1.out x hm; simp [blockOf] at hx; omega)
      refine wpAnyT_one (i := 4) (by kernel_rfl) rfl (fun K hK => ?_)
      refine step_append_els Rep.bytes (by decide) rfl (.tmp 77) (.tmp 80) 22 rfl wd.heap.size 25 (.slice none 0 0) 24 Try.underlying22 info_u8s rfl _ [] [] rfl HO.out ⟨b, o, none⟩ kk cv rfl ((ls.drop 0).take kk) HL1.out cells1 B1 (HE1.out.fr Rep.bytes HSS.out (by simp)) (fun j u hj => HSS.out.cellSome (HC1.out j u hj) (by simp)) HDJ.out (by unfold maxLen; simp only [List.length_nil]; omega) (by simp only [List.length_nil]; omega) HW12.out ?_
      intro v13 w13 hown hfr hbl
      rw [List.nil_append, List.nil_append] at hown
      obtain ⟨a13, c13, e13⟩ := hown.shape
      rw [HL1.out] at e13
      subst e13
      have HO := Lib.hid hown
      have HSS := Lib.hid (HSS.out.step hfr (fun x hx => .inr (by rw [mem_toList] at hx; exact Nat.le_of_eq (Option.some.inj hx))))
      have hF : Fr [] wd w13 := HSS.out
      have HBL : Hid (∀ x, blockOf (.slice a13 kk c13) = some x → wd.heap.size ≤ x) := Lib.hid (fun x hx => (hown.block x hx).1)
      have HW13 : Hid (wd.heap.size ≤ w13.heap.size) := Lib.hid hF.size
      clear hown hfr hbl hF HE1 HC1 HDJ
      refine hK.out _ _ (fun _ => HSS.out) ?_
      clear hK K
      simp only [Act.put, List.getElem_toArray, List.getElem_cons_zero, List.getElem_cons_succ, List.setIfInBounds_toArray, List.set_cons_zero, List.set_cons_succ]
      have HDJ : Hid (∀ x, blockOf (.slice a13 kk c13) = some x → x ∉ B2) := Lib.hid (fun x hx hm => by have := HLT2.out x hm; have := HBL.out x hx; omega)
      have hq2 := HE0.out
      subst hq2
      refine wpAnyT_one (i := 9) (by kernel_rfl) rfl (fun K hK => ?_)
      refine step_append_els Rep.bytes (by decide) rfl (.tmp 81) (.tmp 85) 22 rfl wd.heap.size 25 (.slice none 0 0) 24 Try.underlying22 info_u8s rfl _ ((ls.drop 0).take kk) B1 rfl HO.out ad2 (ls.length - k1) (cv - k1) rfl ((ls.drop k1).take (ls.length - k1)) HL2.out cells2 B2 (HE2.out.fr Rep.bytes HSS.out (by simp)) (fun j u hj => HSS.out.cellSome (HC2.out j u hj) (by simp)) HDJ.out (by rw [HL1.out]; unfold maxLen; omega) (by rw [HL1.out]; omega) HW13.out ?_
      intro v14 w14 hown hfr hbl
      have hrl : (ls.drop 0).take kk ++ (ls.drop k1).take (ls.length - k1) = ls.take kk ++ ls.drop k1 := by
        rw [List.drop_zero, List.take_of_length_le (l := ls.drop k1) (by rw [List.length_drop]; omega)]
      rw [hrl, ← HRQ.out] at hown
      obtain ⟨a14, c14, e14⟩ := hown.shape
      subst e14
      have HO := Lib.hid hown
      have HSS := Lib.hid (HSS.out.step hfr (fun x hx => .inr (by rw [mem_toList] at hx; have := HBL.out x hx; omega)))
      clear hown hfr hbl hrl HE2 HC2 HDJ HL2
      refine hK.out _ _ (fun _ => HSS.out) ?_
      clear hK K
      simp only [Act.put, List.getElem_toArray, List.getElem_cons_zero, List.getElem_cons_succ, List.setIfInBounds_toArray, List.set_cons_zero, List.set_cons_succ]
      refine wpAnyT_load (i := 10) (v := ?_) rfl (by kernel_rfl) (by kernel_rfl) (by kernel_rfl) (by kernel_rfl) (by kernel_rfl) (fun _ _ _ h => h) HSS.out (by rfl) ?_ ?_
      rotate_left
      · intro w hSw; skip; go_simp; try with_reducible rfl
      simp only [Act.put, List.getElem_toArray, List.getElem_cons_zero, List.getElem_cons_succ, List.setIfInBounds_toArray, List.set_cons_zero, List.set_cons_succ]
      refine wpAnyT_done (by kernel_rfl) ?_ _
      have hF := HSS.out
      have HF := Lib.hid (HF.out.trans hF)
      have HB := Lib.hid (HB.out.keep hF)
      have HBD := Lib.hid (Sl.keep HBD.out hF)
      have HR := Lib.hid (HR.out.keep hF)
      have HX := Lib.hid (Sl.keep HX.out hF)
      have HC := Lib.hid (hF.cellSome HC.out (by simp))
      clear hF
      have hrs := HRQ.out
      clear HRQ
      have hrn : rs.length = ls.length - 1 := by rw [hrs, List.length_append, List.length_take, List.length_drop]; have := HK1.out; omega
      have HRS : Hid (BRows w14 (.slice a14 rs.length c14) rs) := Lib.hid HO.out.sl.rows
      have HRN := Lib.hid hrn
      rw [HK1.out] at hrs
      have HRD := Lib.hid hrs
      clear hrs HO hrn hKK hwk hcn hq
      obtain ⟨p, hp⟩ := (mkP_iff.1 HM.out).ok ls[kk] (List.getElem_mem hkl)
      have HIS : Hid ((imp ls[kk]).body.length ≤ 1099511627776) := Lib.hid (by have := (parse_len hp).2; show (ls[kk].drop 12).length ≤ _; rw [List.length_drop]; omega)
      have d0 := HC.out
      have HP := Lib.hid hp
      clear hp
      go_wp2_with fail
      refine (impOf_any HX.out).mono ?_
      rintro e w15 (⟨v', p', hp', rfl, ⟨vi, rfl, hO⟩, hF⟩ | ⟨k, hp', -, -⟩)
      rotate_left
      · exact absurd (HP.out.symm.trans hp') (by simp)
      obtain ⟨ax, nx, cx, rfl⟩ := hO.isSlice
      have HXI := Lib.hid hO.bytes
      clear hO hp' d0
      clear HX HC
      have HF := Lib.hid (HF.out.trans hF)
      have HB := Lib.hid (HB.out.keep hF)
      have HBD := Lib.hid (Sl.keep HBD.out hF)
      have HR := Lib.hid (HR.out.keep hF)
      have HRS := Lib.hid (HRS.out.keep hF)
      clear hF
      go_upto_region 20 with (refine wpList_store_row rfl 28 (.tmp 14) (.tmp 93) rfl w15.heap.size rfl _ _ rfl 28 (Box.new w15 28 (bc Bt.zero (.slice none 0 0))) (by kernel_rfl) rfl (by simp [bc, Value.oneCell']) ?_; intro w16 hY hG; have hFn := ((Fr.refl [] w15).alloc _).step hG (by simp); have HFn := Lib.hid hFn; have HY := Lib.hid hY; clear hG hFn hY)
      have hF := HFn.out
      have HF := Lib.hid (HF.out.trans hF)
      have HB := Lib.hid (HB.out.keep hF)
      have HBD := Lib.hid (Sl.keep HBD.out hF)
      have HR := Lib.hid (HR.out.keep hF)
      have HRS := Lib.hid (HRS.out.keep hF)
      have HXI := Lib.hid (Sl.keep HXI.out hF)
      have HXB := HY
      clear hF HFn HY
      generalize hg14 : w15.heap.size = g14 at *
      clear hg14
      by_cases hne : rs = []
      · have hr0 : rs.length = 0 := by rw [hne]; rfl
        have hone : imp ls[kk] = r.bt.cut := by
          have h1 : ls.length = 1 := by have := HRN.out; omega
          obtain rfl : kk = 0 := by omega
          exact (one_ok HM.out h1 hkl).1
        have HONE := Lib.hid hone
        clear hone hne
        go_upto_region 24 with fail
        clear hr0
        refine wp_region_rules (fun w' => Fr [] w16.drew w') (Fr []) [isV (.agg (bc (imp ls[kk]) (.slice ax nx cx))), isV (.agg (rpc r (.slice a2 r.bt.body.length c2))), fun v w' => BtV w' v r.bt.cut, isV (.bool true), isV ?p1x4] [[], [], [(1, 121)], [(0, 120), (2, 122)], [(3, 123)]] 153 [0, 1, 2, 3, 4] [(0, 120), (1, 121), (2, 122), (3, 123), (4, 124)] (by kernel_rfl) (by kernel_rfl) rfl (by kernel_rfl) (by kernel_rfl) (by kernel_rfl) (by kernel_rfl) (by intro c a a' W h hq; cases a; cases a'; cases h; exact hq) (fun w => Fr.refl _ w) (Fr.refl _ _) ⟨isV_stab, isV_stab, fun _ _ _ h1 h2 => h2.keep h1, isV_stab, isV_stab, trivial⟩ ⟨?_, ?_, ?_, ?_, ?_, trivial⟩ ?_
        rotate_left 1
        · intro vs w' hG hd K hK
          clear hd
          simp only [canonD, Act.put, List.getElem_toArray, List.getElem_cons_zero, List.getElem_cons_succ, List.setIfInBounds_toArray, List.set_cons_zero, List.set_cons_succ] at hK ⊢
          have hW : Fr [] w16 w' := (Fr.refl [] w16).drew.trans hG
          refine Eq.mpr (if_pos (by rfl)) ?_
          refine wp_load_row 28 (.tmp 14) rfl (g14) rfl 28 _ _ (HXB.out.keep hW) Try.underlying28 rfl (by kernel_rfl) ?_
          refine hK.out _ _ (Fr.refl _ _) hG ?_
          show _ = _
          rfl
        · intro vs w' hG hd K hK
          clear hd
          simp only [canonD, Act.put, List.getElem_toArray, List.getElem_cons_zero, List.getElem_cons_succ, List.setIfInBounds_toArray, List.set_cons_zero, List.set_cons_succ] at hK ⊢
          have hW : Fr [] w16 w' := (Fr.refl [] w16).drew.trans hG
          refine Eq.mpr (if_pos (by rfl)) ?_
          refine wp_load_row 58 (.tmp 7) rfl (g7) rfl 58 _ _ (HR.out.keep hW) Try.underlying58 rfl (by kernel_rfl) ?_
          refine hK.out _ _ (Fr.refl _ _) hG ?_
          show _ = _
          rfl
        · intro vs w' hG hd K hK
          obtain ⟨h1, -⟩ := hd
          replace h1 : vs 1 = _ := h1
          simp only [canonD, Act.put, List.getElem_toArray, List.getElem_cons_zero, List.getElem_cons_succ, List.setIfInBounds_toArray, List.set_cons_zero, List.set_cons_succ, h1] at hK ⊢
          have hW : Fr [] w16 w' := (Fr.refl [] w16).drew.trans hG
          refine Eq.mpr (if_pos (by rfl)) ?_
          go_simp
          refine (pBytes_any (r := r) ⟨_, rfl, Sl.keep HBD.out hW⟩ HSM.out).mono ?_
          rintro e wz ⟨vz, rfl, hO, hF⟩
          go_simp
          exact hK.out _ _ hF (hG.trans hF) hO.v
        · intro vs w' hG hd K hK
          obtain ⟨h0, h2, -⟩ := hd
          replace h0 : vs 0 = _ := h0
          replace h2 : BtV w' (vs 2) r.bt.cut := h2
          simp only [canonD, Act.put, List.getElem_toArray, List.getElem_cons_zero, List.getElem_cons_succ, List.setIfInBounds_toArray, List.set_cons_zero, List.set_cons_succ, h0] at hK ⊢
          generalize vs 2 = v2 at *
          have hW : Fr [] w16 w' := (Fr.refl [] w16).drew.trans hG
          refine Eq.mpr (if_pos (by rfl)) ?_
          go_simp
          refine (impSame_any (x := imp ls[kk]) (y := r.bt.cut) ⟨_, rfl, Sl.keep HXI.out hW⟩ h2 HIS.out HSM.out).mono ?_
          rintro e wz ⟨rfl, hF⟩
          go_simp
          exact hK.out _ _ hF (hG.trans hF) (by show Value.bool _ = _; rw [HONE.out, Bt.same_refl])
        · intro vs w' hG hd K hK
          obtain ⟨h3, -⟩ := hd
          replace h3 : vs 3 = _ := h3
          simp only [canonD, Act.put, List.getElem_toArray, List.getElem_cons_zero, List.getElem_cons_succ, List.setIfInBounds_toArray, List.set_cons_zero, List.set_cons_succ, h3] at hK ⊢
          refine Eq.mpr (if_pos (by rfl)) ?_
          go_simp
          refine hK.out _ _ (Fr.refl _ _) hG ?_
          show _ = _
          rfl
        intro vs w' hG hP
        obtain ⟨h0, h1, h2, h3, h4, -⟩ := hP
        replace h0 : vs 0 = _ := h0
        replace h1 : vs 1 = _ := h1
        replace h2 : BtV w' (vs 2) r.bt.cut := h2
        replace h3 : vs 3 = _ := h3
        replace h4 : vs 4 = _ := h4
        simp only [canonD, Act.put, List.getElem_toArray, List.getElem_cons_zero, List.getElem_cons_succ, List.setIfInBounds_toArray, List.set_cons_zero, List.set_cons_succ, h0, h1, h3, h4]
        generalize vs 2 = v2 at *
        clear h0 h1 h3 h4
        have hF := (Fr.refl [] w16).drew.trans hG
        have HF := Lib.hid (HF.out.trans hF)
        have HB := Lib.hid (HB.out.keep hF)
        have HBD := Lib.hid (Sl.keep HBD.out hF)
        have HR := Lib.hid (HR.out.keep hF)
        have HRS := Lib.hid (HRS.out.keep hF)
        have HXI := Lib.hid (Sl.keep HXI.out hF)
        have HXB := Lib.hid (HXB.out.keep hF)
        clear hF hG h2
        have HG18 : Hid (g7 < w'.heap.size ∧ w.heap.size ≤ w'.heap.size) := Lib.hid ⟨HR.out.lt, HF.out.size⟩
        have HBL : Hid (∀ b, liveOf (.slice a2 r.bt.body.length c2) = some b → b < w'.heap.size) := Lib.hid (fun b hb => Sl.lt HBD.out b hb)
        go_upto_region 27 with (first | (refine wpList_load_row_w rfl 58 (.tmp 7) rfl g7 rfl 58 _ _ HR.out Try.underlying58 rfl (by kernel_rfl) ?_) | (refine wpList_store_row rfl 58 (.tmp 18) (.tmp 125) rfl w'.heap.size rfl _ _ rfl 58 (Box.new w' 58 rpz) (by kernel_rfl) rfl (by simp [Value.oneCell']) ?_; intro w20 hY hG; have hFn := ((Fr.refl [] w').alloc _).step hG (by simp); have HFn := Lib.hid hFn; have HY := Lib.hid hY; clear hG hFn hY))
        have hF := HFn.out
        have HF := Lib.hid (HF.out.trans hF)
        have HB := Lib.hid (HB.out.keep hF)
        have HBD := Lib.hid (Sl.keep HBD.out hF)
        have HR := Lib.hid (HR.out.keep hF)
        have HT := HY
        clear hF HFn HY
        generalize hg18 : w'.heap.size = g18 at *
        clear hg18
        have x11 := HR.out.cell 11
        simp only [rpc, List.getElem?_toArray, List.getElem?_cons_succ, List.getElem?_cons_zero] at x11
        go_wp2_with fail
        clear x11
        refine (RCopy_any HBD.out HSM.out).mono ?_
        rintro e w21 ⟨vc, rfl, hO, hF⟩
        obtain ⟨ac, nc, cc, rfl⟩ := hO.isSlice
        have HGT := Lib.hid HT.out.lt
        have HF := Lib.hid (HF.out.trans hF)
        have HB := Lib.hid (HB.out.keep hF)
        have HBD := Lib.hid (Sl.keep HBD.out hF)
        have HR := Lib.hid (HR.out.keep hF)
        have HT := Lib.hid (HT.out.keep hF)
        have HOC : Hid (OwnB w21 (g18 + 1) (.slice ac nc cc) r.bt.body) := Lib.hid (OwnB.mono hO HGT.out)
        clear hO hF HGT
        have y11 := HT.out.cell 11; have f11 := HT.out.free 11
        simp only [rpc, List.getElem?_toArray, List.getElem?_cons_succ, List.getElem?_cons_zero] at y11
        go_upto_region 28 with fail
        obtain ⟨w22, e11, hFs, hBs, hss⟩ := set_new HT.out 11 (.slice ac nc cc)
        rw [e11]
        have HT : Hid (Box w22 g18 58 (rpc r (.slice ac nc cc))) := Lib.hid (hBs.as_ (by rfl))
        have HF := Lib.hid (HF.out.step hFs (fun x hx => .inr (by have := HG18.out; simp at hx; omega)))
        have HB := Lib.hid (HB0.out.keep HF.out)
        have HOC := Lib.hid (HOC.out.fr hFs (fun b hb hm => by have := (HOC.out.block b hb).1; simp at hm; omega))
        clear e11 hFs hBs hss y11 f11 HR HBD HBL
        have y0 := HT.out.cell 0; have f0 := HT.out.free 0
        simp only [rpc, List.getElem?_toArray, List.getElem?_cons_succ, List.getElem?_cons_zero] at y0
        obtain ⟨z, k0, hz⟩ : ∃ z : Nat, bits .xor .u8 ((r.bt.h0.toNat : Nat) : Int) 192 = (z : Int) ∧ z = (r.bt.h0 ^^^ 192).toNat := ⟨_, u8_xorN r.bt.h0 192, rfl⟩
        have HZ := Lib.hid hz
        clear hz
        go_upto_region 29 with fail
        obtain ⟨w23, e0, hFs, hBs, hss⟩ := set_new HT.out 0 (.int .u8 (z : Int))
        rw [e0]
        have HT : Hid (Box w23 g18 58 (rpc { r with bt := { r.bt with h0 := r.bt.h0 ^^^ 192 } } (.slice ac nc cc))) := Lib.hid (hBs.as_ (by rw [HZ.out]; rfl))
        have HF := Lib.hid (HF.out.step hFs (fun x hx => .inr (by have := HG18.out; simp at hx; omega)))
        have HB := Lib.hid (HB0.out.keep HF.out)
        have HOC := Lib.hid (HOC.out.fr hFs (fun b hb hm => by have := (HOC.out.block b hb).1; simp at hm; omega))
        clear e0 hFs hBs hss y0 f0 k0 HZ
        go_wp2_with (refine wpList_load_row_w rfl 58 (.tmp 18) rfl g18 rfl 58 _ _ HT.out Try.underlying58 rfl (by kernel_rfl) ?_)
        refine (pHolds_any (r := { r with bt := { r.bt with h0 := r.bt.h0 ^^^ 192 } }) ⟨_, rfl, HOC.out.bytes⟩ HB.out HSM.out).mono ?_
        rintro e w24 ⟨rfl, hF⟩
        rw [turn_holds HM.out]
        have HF := Lib.hid (HF.out.trans hF)
        have HB := Lib.hid (HB.out.keep hF)
        have HT := Lib.hid (HT.out.keep hF)
        have HOC := Lib.hid (HOC.out.keep hF)
        clear hF
        obtain ⟨m, hmd, hml⟩ := and3 d
        rcases (by omega : m = 0 ∨ m = 1 ∨ m = 2 ∨ m = 3) with rfl | rfl | rfl | rfl
        · have y1 := HT.out.cell 1; have f1 := HT.out.free 1
          simp only [rpc, List.getElem?_toArray, List.getElem?_cons_succ, List.getElem?_cons_zero] at y1
          obtain ⟨z, k0, hz⟩ : ∃ z : Nat, bits .xor .u8 ((r.bt.h1.toNat : Nat) : Int) 1 = (z : Int) ∧ z = (r.bt.h1 ^^^ 1).toNat := ⟨_, u8_xorN r.bt.h1 1, rfl⟩
          have HZ := Lib.hid hz
          clear hz
          go_upto_region 32 with fail
          obtain ⟨w25, e1, hFs, hBs, hss⟩ := set_new HT.out 1 (.int .u8 (z : Int))
          rw [e1]
          have HT : Hid (Box w25 g18 58 (rpc { r with bt := { r.bt with h0 := r.bt.h0 ^^^ 192, h1 := r.bt.h1 ^^^ 1 } } (.slice ac nc cc))) := Lib.hid (hBs.as_ (by rw [HZ.out]; rfl))
          have HF := Lib.hid (HF.out.step hFs (fun x hx => .inr (by have := HG18.out; simp at hx; omega)))
          have HB := Lib.hid (HB0.out.keep HF.out)
          have HOC := Lib.hid (HOC.out.fr hFs (fun b hb hm => by have := (HOC.out.block b hb).1; simp at hm; omega))
          clear e1 hFs hBs hss y1 f1 k0 HZ hmd
          go_wp2_with (refine wpList_load_row_w rfl 58 (.tmp 18) rfl g18 rfl 58 _ _ HT.out Try.underlying58 rfl (by kernel_rfl) ?_)
          refine (pHolds_any (r := { r with bt := { r.bt with h0 := r.bt.h0 ^^^ 192, h1 := r.bt.h1 ^^^ 1 } }) ⟨_, rfl, HOC.out.bytes⟩ HB.out HSM.out).mono ?_
          rintro e w26 ⟨rfl, hF⟩
          rw [turn_not HM.out (t := { r with bt := { r.bt with h0 := r.bt.h0 ^^^ 192, h1 := r.bt.h1 ^^^ 1 } }) (.inl (u8_flip _))]
          have HF := Lib.hid (HF.out.trans hF)
          clear hF
          go_wp2_with fail
          go_ret
          first | exact ⟨rfl, HF.out⟩ | exact ⟨ret_bool (by simp), HF.out⟩
        · have y2 := HT.out.cell 2; have f2 := HT.out.free 2
          simp only [rpc, List.getElem?_toArray, List.getElem?_cons_succ, List.getElem?_cons_zero] at y2
          obtain ⟨z, k0, hz⟩ : ∃ z : Nat, bits .xor .u8 ((r.bt.h2.toNat : Nat) : Int) 1 = (z : Int) ∧ z = (r.bt.h2 ^^^ 1).toNat := ⟨_, u8_xorN r.bt.h2 1, rfl⟩
          have HZ := Lib.hid hz
          clear hz
          go_upto_region 32 with fail
          obtain ⟨w25, e2, hFs, hBs, hss⟩ := set_new HT.out 2 (.int .u8 (z : Int))
          rw [e2]
          have HT : Hid (Box w25 g18 58 (rpc { r with bt := { r.bt with h0 := r.bt.h0 ^^^ 192, h2 := r.bt.h2 ^^^ 1 } } (.slice ac nc cc))) := Lib.hid (hBs.as_ (by rw [HZ.out]; rfl))
          have HF := Lib.hid (HF.out.step hFs (fun x hx => .inr (by have := HG18.out; simp at hx; omega)))
          have HB := Lib.hid (HB0.out.keep HF.out)
          have HOC := Lib.hid (HOC.out.fr hFs (fun b hb hm => by have := (HOC.out.block b hb).1; simp at hm; omega))
          clear e2 hFs hBs hss y2 f2 k0 HZ hmd
          go_wp2_with (refine wpList_load_row_w rfl 58 (.tmp 18) rfl g18 rfl 58 _ _ HT.out Try.underlying58 rfl (by kernel_rfl) ?_)
          refine (pHolds_any (r := { r with bt := { r.bt with h0 := r.bt.h0 ^^^ 192, h2 := r.bt.h2 ^^^ 1 } }) ⟨_, rfl, HOC.out.bytes⟩ HB.out HSM.out).mono ?_
          rintro e w26 ⟨rfl, hF⟩
          rw [turn_not HM.out (t := { r with bt := { r.bt with h0 := r.bt.h0 ^^^ 192, h2 := r.bt.h2 ^^^ 1 } }) (.inr (.inl (u8_flip _)))]
          have HF := Lib.hid (HF.out.trans hF)
          clear hF
          go_wp2_with fail
          go_ret
          first | exact ⟨rfl, HF.out⟩ | exact ⟨ret_bool (by simp), HF.out⟩
        · have y3 := HT.out.cell 3; have f3 := HT.out.free 3
          simp only [rpc, List.getElem?_toArray, List.getElem?_cons_succ, List.getElem?_cons_zero] at y3
          obtain ⟨z, k0, hz⟩ : ∃ z : Nat, bits .xor .u8 ((r.bt.h3.toNat : Nat) : Int) 1 = (z : Int) ∧ z = (r.bt.h3 ^^^ 1).toNat := ⟨_, u8_xorN r.bt.h3 1, rfl⟩
          have HZ := Lib.hid hz
          clear hz
          go_upto_region 32 with fail
          obtain ⟨w25, e3, hFs, hBs, hss⟩ := set_new HT.out 3 (.int .u8 (z : Int))
          rw [e3]
          have HT : Hid (Box w25 g18 58 (rpc { r with bt := { r.bt with h0 := r.bt.h0 ^^^ 192, h3 := r.bt.h3 ^^^ 1 } } (.slice ac nc cc))) := Lib.hid (hBs.as_ (by rw [HZ.out]; rfl))
          have HF := Lib.hid (HF.out.step hFs (fun x hx => .inr (by have := HG18.out; simp at hx; omega)))
          have HB := Lib.hid (HB0.out.keep HF.out)
          have HOC := Lib.hid (HOC.out.fr hFs (fun b hb hm => by have := (HOC.out.block b hb).1; simp at hm; omega))
          clear e3 hFs hBs hss y3 f3 k0 HZ hmd
          go_wp2_with (refine wpList_load_row_w rfl 58 (.tmp 18) rfl g18 rfl 58 _ _ HT.out Try.underlying58 rfl (by kernel_rfl) ?_)
          refine (pHolds_any (r := { r with bt := { r.bt with h0 := r.bt.h0 ^^^ 192, h3 := r.bt.h3 ^^^ 1 } }) ⟨_, rfl, HOC.out.bytes⟩ HB.out HSM.out).mono ?_
          rintro e w26 ⟨rfl, hF⟩
          rw [turn_not HM.out (t := { r with bt := { r.bt with h0 := r.bt.h0 ^^^ 192, h3 := r.bt.h3 ^^^ 1 } }) (.inr (.inr (.inl (u8_flip _))))]
          have HF := Lib.hid (HF.out.trans hF)
          clear hF
          go_wp2_with fail
          go_ret
          first | exact ⟨rfl, HF.out⟩ | exact ⟨ret_bool (by simp), HF.out⟩
        · have y4 := HT.out.cell 4; have f4 := HT.out.free 4
          simp only [rpc, List.getElem?_toArray, List.getElem?_cons_succ, List.getElem?_cons_zero] at y4
          obtain ⟨z, k0, hz⟩ : ∃ z : Nat, bits .xor .u8 ((r.bt.h4.toNat : Nat) : Int) 1 = (z : Int) ∧ z = (r.bt.h4 ^^^ 1).toNat := ⟨_, u8_xorN r.bt.h4 1, rfl⟩
          have HZ := Lib.hid hz
          clear hz
          go_upto_region 32 with fail
          obtain ⟨w25, e4, hFs, hBs, hss⟩ := set_new HT.out 4 (.int .u8 (z : Int))
          rw [e4]
          have HT : Hid (Box w25 g18 58 (rpc { r with bt := { r.bt with h0 := r.bt.h0 ^^^ 192, h4 := r.bt.h4 ^^^ 1 } } (.slice ac nc cc))) := Lib.hid (hBs.as_ (by rw [HZ.out]; rfl))
          have HF := Lib.hid (HF.out.step hFs (fun x hx => .inr (by have := HG18.out; simp at hx; omega)))
          have HB := Lib.hid (HB0.out.keep HF.out)
          have HOC := Lib.hid (HOC.out.fr hFs (fun b hb hm => by have := (HOC.out.block b hb).1; simp at hm; omega))
          clear e4 hFs hBs hss y4 f4 k0 HZ hmd
          go_wp2_with (refine wpList_load_row_w rfl 58 (.tmp 18) rfl g18 rfl 58 _ _ HT.out Try.underlying58 rfl (by kernel_rfl) ?_)
          refine (pHolds_any (r := { r with bt := { r.bt with h0 := r.bt.h0 ^^^ 192, h4 := r.bt.h4 ^^^ 1 } }) ⟨_, rfl, HOC.out.bytes⟩ HB.out HSM.out).mono ?_
          rintro e w26 ⟨rfl, hF⟩
          rw [turn_not HM.out (t := { r with bt := { r.bt with h0 := r.bt.h0 ^^^ 192, h4 := r.bt.h4 ^^^ 1 } }) (.inr (.inr (.inr (u8_flip _))))]
          have HF := Lib.hid (HF.out.trans hF)
          clear hF
          go_wp2_with fail
          go_ret
          first | exact ⟨rfl, HF.out⟩ | exact ⟨ret_bool (by simp), HF.out⟩
      · have hrp : 0 < rs.length := List.length_pos_iff.2 hne
        obtain ⟨o, ho, hadd, hnot⟩ := rest_ok HM.out hkl (by rw [← HRD.out]; exact hne)
        rw [← HRD.out] at ho hnot
        have HMO := Lib.hid ho; have HADD := Lib.hid hadd; have HNOT := Lib.hid hnot
        have HOS : Hid (o.bt.body.length ≤ 1099511627776) := Lib.hid (mkP_small ho)
        clear ho hadd hnot
        go_wp2_with fail
        refine (pMake_any HRS.out).mono ?_
        rintro e w17 ⟨hF, ⟨r', v', hm, rfl, hv⟩ | ⟨k, hm, hk0, rfl⟩⟩
        rotate_left
        · rw [HMO.out] at hm; cases hm
        obtain rfl : o = r' := by rw [HMO.out] at hm; cases hm; rfl
        obtain ⟨vb, rfl, hb, -⟩ := hv
        obtain ⟨a4, c4, rfl⟩ := Sl.shape hb
        rw [List.length_map] at hb ⊢
        clear hm
        have HF := Lib.hid (HF.out.trans hF)
        have HB := Lib.hid (HB.out.keep hF)
        have HBD := Lib.hid (Sl.keep HBD.out hF)
        have HR := Lib.hid (HR.out.keep hF)
        have HRS := Lib.hid (HRS.out.keep hF)
        have HXI := Lib.hid (Sl.keep HXI.out hF)
        have HXB := Lib.hid (HXB.out.keep hF)
        have HOB := Lib.hid hb
        clear hb hF
        go_upto_region 22 with (refine wpList_store_row rfl 58 (.tmp 16) (.tmp 101) rfl w17.heap.size rfl _ _ rfl 58 (Box.new w17 58 rpz) (by kernel_rfl) rfl (by simp [Value.oneCell']) ?_; intro w18 hY hG; have hFn := ((Fr.refl [] w17).alloc _).step hG (by simp); have HFn := Lib.hid hFn; have HY := Lib.hid hY; clear hG hFn hY)
        have hF := HFn.out
        have HF := Lib.hid (HF.out.trans hF)
        have HB := Lib.hid (HB.out.keep hF)
        have HBD := Lib.hid (Sl.keep HBD.out hF)
        have HR := Lib.hid (HR.out.keep hF)
        have HRS := Lib.hid (HRS.out.keep hF)
        have HXI := Lib.hid (Sl.keep HXI.out hF)
        have HXB := Lib.hid (HXB.out.keep hF)
        have HOB := Lib.hid (Sl.keep HOB.out hF)
        have HRO := HY
        clear hF HFn HY
        generalize hg16 : w17.heap.size = g16 at *
        clear hg16
        refine wp_region_rules (fun w' => Fr [] w18.drew w') (Fr []) [isV ?p2x0, isV ?p2x1, isV ?p2x2, isV (.agg (rpc o (.slice a4 o.bt.body.length c4))), fun v w' => BtV w' v o.bt.cut, isV (.agg (bc (imp ls[kk]) (.slice ax nx cx))), fun v w' => BtV w' v r.bt.cut, isV (.agg (rpc r (.slice a2 r.bt.body.length c2))), fun v w' => BtV w' v r.bt.cut, isV (.bool true), isV ?p2x10, isV ?p2x11, isV ?p2x12, isV (.agg (rpc r (.slice a2 r.bt.body.length c2))), isV ?p2x14, isV (.bool false), isV ?p2x16] [[], [(0, 103)], [(1, 104)], [(2, 105)], [(2, 105), (3, 106)], [(2, 105)], [(2, 105), (4, 107), (5, 108)], [(2, 105)], [(2, 105), (7, 110)], [(2, 105), (6, 109), (8, 111)], [(2, 105), (9, 112)], [(2, 105), (10, 113)], [(11, 114)], [(12, 115)], [(12, 115)], [(12, 115), (13, 116), (14, 117)], [(12, 115), (15, 118)]] 153 [0, 1, 2, 3, 4, 5, 6, 7, 8, 9, 10, 11, 12, 13, 14, 15, 16] [(0, 103), (1, 104), (2, 105), (3, 106), (4, 107), (5, 108), (6, 109), (7, 110), (8, 111), (9, 112), (10, 113), (11, 114), (12, 115), (13, 116), (14, 117), (15, 118), (16, 119)] (by kernel_rfl) (by kernel_rfl) rfl (by kernel_rfl) (by kernel_rfl) (by kernel_rfl) (by kernel_rfl) (by intro c a a' W h hq; cases a; cases a'; cases h; exact hq) (fun w => Fr.refl _ w) (Fr.refl _ _) ⟨isV_stab, isV_stab, isV_stab, isV_stab, fun _ _ _ h1 h2 => h2.keep h1, isV_stab, fun _ _ _ h1 h2 => h2.keep h1, isV_stab, fun _ _ _ h1 h2 => h2.keep h1, isV_stab, isV_stab, isV_stab, isV_stab, isV_stab, isV_stab, isV_stab, isV_stab, trivial⟩ ⟨?_, ?_, ?_, ?_, ?_, ?_, ?_, ?_, ?_, ?_, ?_, ?_, ?_, ?_, ?_, ?_, ?_, trivial⟩ ?_
        rotate_left 8
        · intro vs w' hG hd K hK
          clear hd
          simp only [canonD, Act.put, List.getElem_toArray, List.getElem_cons_zero, List.getElem_cons_succ, List.setIfInBounds_toArray, List.set_cons_zero, List.set_cons_succ] at hK ⊢
          refine Eq.mpr (if_pos (by rfl)) ?_
          go_simp
          refine hK.out _ _ (Fr.refl _ _) hG ?_
          show _ = _
          rfl
        · intro vs w' hG hd K hK
          obtain ⟨h0, -⟩ := hd
          replace h0 : vs 0 = _ := h0
          simp only [canonD, Act.put, List.getElem_toArray, List.getElem_cons_zero, List.getElem_cons_succ, List.setIfInBounds_toArray, List.set_cons_zero, List.set_cons_succ, h0] at hK ⊢
          refine Eq.mpr (if_pos (by rfl)) ?_
          go_simp
          refine hK.out _ _ (Fr.refl _ _) hG ?_
          show _ = _
          rfl
        · intro vs w' hG hd K hK
          obtain ⟨h1, -⟩ := hd
          replace h1 : vs 1 = _ := h1
          simp only [canonD, Act.put, List.getElem_toArray, List.getElem_cons_zero, List.getElem_cons_succ, List.setIfInBounds_toArray, List.set_cons_zero, List.set_cons_succ, h1] at hK ⊢
          refine Eq.mpr (if_pos (by rfl)) ?_
          go_simp
          refine hK.out _ _ (Fr.refl _ _) hG ?_
          show _ = _
          rfl
        · intro vs w' hG hd K hK
          obtain ⟨h2, -⟩ := hd
          replace h2 : vs 2 = _ := h2
          simp only [canonD, Act.put, List.getElem_toArray, List.getElem_cons_zero, List.getElem_cons_succ, List.setIfInBounds_toArray, List.set_cons_zero, List.set_cons_succ, h2] at hK ⊢
          have hW : Fr [] w18 w' := (Fr.refl [] w18).drew.trans hG
          refine Eq.mpr (if_pos (by rfl)) ?_
          refine wp_load_row 58 (.tmp 16) rfl (g16) rfl 58 _ _ (HRO.out.keep hW) Try.underlying58 rfl (by kernel_rfl) ?_
          refine hK.out _ _ (Fr.refl _ _) hG ?_
          show _ = _
          rfl
        · intro vs w' hG hd K hK
          obtain ⟨h2, h3, -⟩ := hd
          replace h2 : vs 2 = _ := h2
          replace h3 : vs 3 = _ := h3
          simp only [canonD, Act.put, List.getElem_toArray, List.getElem_cons_zero, List.getElem_cons_succ, List.setIfInBounds_toArray, List.set_cons_zero, List.set_cons_succ, h2, h3] at hK ⊢
          have hW : Fr [] w18 w' := (Fr.refl [] w18).drew.trans hG
          refine Eq.mpr (if_pos (by rfl)) ?_
          go_simp
          refine (pBytes_any (r := o) ⟨_, rfl, Sl.keep HOB.out hW⟩ HOS.out).mono ?_
          rintro e wz ⟨vz, rfl, hO, hF⟩
          go_simp
          exact hK.out _ _ hF (hG.trans hF) hO.v
        · intro vs w' hG hd K hK
          obtain ⟨h2, -⟩ := hd
          replace h2 : vs 2 = _ := h2
          simp only [canonD, Act.put, List.getElem_toArray, List.getElem_cons_zero, List.getElem_cons_succ, List.setIfInBounds_toArray, List.set_cons_zero, List.set_cons_succ, h2] at hK ⊢
          have hW : Fr [] w18 w' := (Fr.refl [] w18).drew.trans hG
          refine Eq.mpr (if_pos (by rfl)) ?_
          refine wp_load_row 28 (.tmp 14) rfl (g14) rfl 28 _ _ (HXB.out.keep hW) Try.underlying28 rfl (by kernel_rfl) ?_
          refine hK.out _ _ (Fr.refl _ _) hG ?_
          show _ = _
          rfl
        · intro vs w' hG hd K hK
          obtain ⟨h2, h4, h5, -⟩ := hd
          replace h2 : vs 2 = _ := h2
          replace h4 : BtV w' (vs 4) o.bt.cut := h4
          replace h5 : vs 5 = _ := h5
          simp only [canonD, Act.put, List.getElem_toArray, List.getElem_cons_zero, List.getElem_cons_succ, List.setIfInBounds_toArray, List.set_cons_zero, List.set_cons_succ, h2, h5] at hK ⊢
          generalize vs 4 = v4 at *
          have hW : Fr [] w18 w' := (Fr.refl [] w18).drew.trans hG
          refine Eq.mpr (if_pos (by rfl)) ?_
          go_simp
          refine (impAdd_any (x := o.bt.cut) (y := imp ls[kk]) h4 ⟨_, rfl, Sl.keep HXI.out hW⟩ HOS.out HIS.out).mono ?_
          rintro e wz ⟨vz, rfl, hO, hF⟩
          go_simp
          rw [HADD.out] at hO
          exact hK.out _ _ hF (hG.trans hF) hO.v
        · intro vs w' hG hd K hK
          obtain ⟨h2, -⟩ := hd
          replace h2 : vs 2 = _ := h2
          simp only [canonD, Act.put, List.getElem_toArray, List.getElem_cons_zero, List.getElem_cons_succ, List.setIfInBounds_toArray, List.set_cons_zero, List.set_cons_succ, h2] at hK ⊢
          have hW : Fr [] w18 w' := (Fr.refl [] w18).drew.trans hG
          refine Eq.mpr (if_pos (by rfl)) ?_
          refine wp_load_row 58 (.tmp 7) rfl (g7) rfl 58 _ _ (HR.out.keep hW) Try.underlying58 rfl (by kernel_rfl) ?_
          refine hK.out _ _ (Fr.refl _ _) hG ?_
          show _ = _
          rfl
        · intro vs w' hG hd K hK
          obtain ⟨h2, h7, -⟩ := hd
          replace h2 : vs 2 = _ := h2
          replace h7 : vs 7 = _ := h7
          simp only [canonD, Act.put, List.getElem_toArray, List.getElem_cons_zero, List.getElem_cons_succ, List.setIfInBounds_toArray, List.set_cons_zero, List.set_cons_succ, h2, h7] at hK ⊢
          have hW : Fr [] w18 w' := (Fr.refl [] w18).drew.trans hG
          refine Eq.mpr (if_pos (by rfl)) ?_
          go_simp
          refine (pBytes_any (r := r) ⟨_, rfl, Sl.keep HBD.out hW⟩ HSM.out).mono ?_
          rintro e wz ⟨vz, rfl, hO, hF⟩
          go_simp
          exact hK.out _ _ hF (hG.trans hF) hO.v
        · intro vs w' hG hd K hK
          obtain ⟨h2, h6, h8, -⟩ := hd
          replace h2 : vs 2 = _ := h2
          replace h6 : BtV w' (vs 6) r.bt.cut := h6
          replace h8 : BtV w' (vs 8) r.bt.cut := h8
          simp only [canonD, Act.put, List.getElem_toArray, List.getElem_cons_zero, List.getElem_cons_succ, List.setIfInBounds_toArray, List.set_cons_zero, List.set_cons_succ, h2] at hK ⊢
          generalize vs 6 = v6 at *
          generalize vs 8 = v8 at *
          refine Eq.mpr (if_pos (by rfl)) ?_
          go_simp
          refine (impSame_any (x := r.bt.cut) (y := r.bt.cut) h6 h8 HSM.out HSM.out).mono ?_
          rintro e wz ⟨rfl, hF⟩
          go_simp
          exact hK.out _ _ hF (hG.trans hF) (by show Value.bool _ = _; rw [Bt.same_refl])
        · intro vs w' hG hd K hK
          obtain ⟨h2, h9, -⟩ := hd
          replace h2 : vs 2 = _ := h2
          replace h9 : vs 9 = _ := h9
          simp only [canonD, Act.put, List.getElem_toArray, List.getElem_cons_zero, List.getElem_cons_succ, List.setIfInBounds_toArray, List.set_cons_zero, List.set_cons_succ, h2, h9] at hK ⊢
          refine Eq.mpr (if_pos (by rfl)) ?_
          go_simp
          refine hK.out _ _ (Fr.refl _ _) hG ?_
          show _ = _
          rfl
        · intro vs w' hG hd K hK
          obtain ⟨h2, h10, -⟩ := hd
          replace h2 : vs 2 = _ := h2
          replace h10 : vs 10 = _ := h10
          simp only [canonD, Act.put, List.getElem_toArray, List.getElem_cons_zero, List.getElem_cons_succ, List.setIfInBounds_toArray, List.set_cons_zero, List.set_cons_succ, h2, h10] at hK ⊢
          refine Eq.mpr (if_pos (by rfl)) ?_
          go_simp
          refine hK.out _ _ (Fr.refl _ _) hG ?_
          show _ = _
          rfl
        · intro vs w' hG hd K hK
          obtain ⟨h11, -⟩ := hd
          replace h11 : vs 11 = _ := h11
          simp only [canonD, Act.put, List.getElem_toArray, List.getElem_cons_zero, List.getElem_cons_succ, List.setIfInBounds_toArray, List.set_cons_zero, List.set_cons_succ, h11] at hK ⊢
          refine Eq.mpr (if_pos (by rfl)) ?_
          go_simp
          refine hK.out _ _ (Fr.refl _ _) hG ?_
          show _ = _
          rfl
        · intro vs w' hG hd K hK
          obtain ⟨h12, -⟩ := hd
          replace h12 : vs 12 = _ := h12
          simp only [canonD, Act.put, List.getElem_toArray, List.getElem_cons_zero, List.getElem_cons_succ, List.setIfInBounds_toArray, List.set_cons_zero, List.set_cons_succ, h12] at hK ⊢
          have hW : Fr [] w18 w' := (Fr.refl [] w18).drew.trans hG
          refine Eq.mpr (if_pos (by rfl)) ?_
          refine wp_load_row 58 (.tmp 7) rfl (g7) rfl 58 _ _ (HR.out.keep hW) Try.underlying58 rfl (by kernel_rfl) ?_
          refine hK.out _ _ (Fr.refl _ _) hG ?_
          show _ = _
          rfl
        · intro vs w' hG hd K hK
          obtain ⟨h12, -⟩ := hd
          replace h12 : vs 12 = _ := h12
          simp only [canonD, Act.put, List.getElem_toArray, List.getElem_cons_zero, List.getElem_cons_succ, List.setIfInBounds_toArray, List.set_cons_zero, List.set_cons_succ, h12] at hK ⊢
          refine Eq.mpr (if_pos (by rfl)) ?_
          go_simp
          refine hK.out _ _ (Fr.refl _ _) hG ?_
          show _ = _
          rfl
        · intro vs w' hG hd K hK
          obtain ⟨h12, h13, h14, -⟩ := hd
          replace h12 : vs 12 = _ := h12
          replace h13 : vs 13 = _ := h13
          replace h14 : vs 14 = _ := h14
          simp only [canonD, Act.put, List.getElem_toArray, List.getElem_cons_zero, List.getElem_cons_succ, List.setIfInBounds_toArray, List.set_cons_zero, List.set_cons_succ, h12, h13, h14] at hK ⊢
          have hW : Fr [] w18 w' := (Fr.refl [] w18).drew.trans hG
          refine Eq.mpr (if_pos (by rfl)) ?_
          go_simp
          refine (pHolds_any (r := r) ⟨_, rfl, Sl.keep HBD.out hW⟩ (HRS.out.keep hW) HSM.out).mono ?_
          rintro e wz ⟨rfl, hF⟩
          go_simp
          exact hK.out _ _ hF (hG.trans hF) (by show Value.bool _ = _; rw [HNOT.out])
        · intro vs w' hG hd K hK
          obtain ⟨h12, h15, -⟩ := hd
          replace h12 : vs 12 = _ := h12
          replace h15 : vs 15 = _ := h15
          simp only [canonD, Act.put, List.getElem_toArray, List.getElem_cons_zero, List.getElem_cons_succ, List.setIfInBounds_toArray, List.set_cons_zero, List.set_cons_succ, h12, h15] at hK ⊢
          refine Eq.mpr (if_pos (by rfl)) ?_
          go_simp
          refine hK.out _ _ (Fr.refl _ _) hG ?_
          show _ = _
          rfl
        intro vs w' hG hP
        obtain ⟨h0, h1, h2, h3, h4, h5, h6, h7, h8, h9, h10, h11, h12, h13, h14, h15, h16, -⟩ := hP
        replace h0 : vs 0 = _ := h0
        replace h1 : vs 1 = _ := h1
        replace h2 : vs 2 = _ := h2
        replace h3 : vs 3 = _ := h3
        replace h4 : BtV w' (vs 4) o.bt.cut := h4
        replace h5 : vs 5 = _ := h5
        replace h6 : BtV w' (vs 6) r.bt.cut := h6
        replace h7 : vs 7 = _ := h7
        replace h8 : BtV w' (vs 8) r.bt.cut := h8
        replace h9 : vs 9 = _ := h9
        replace h10 : vs 10 = _ := h10
        replace h11 : vs 11 = _ := h11
        replace h12 : vs 12 = _ := h12
        replace h13 : vs 13 = _ := h13
        replace h14 : vs 14 = _ := h14
        replace h15 : vs 15 = _ := h15
        replace h16 : vs 16 = _ := h16
        simp only [canonD, Act.put, List.getElem_toArray, List.getElem_cons_zero, List.getElem_cons_succ, List.setIfInBounds_toArray, List.set_cons_zero, List.set_cons_succ, h0, h1, h2, h3, h5, h7, h9, h10, h11, h12, h13, h14, h15, h16]
        generalize vs 4 = v4 at *
        generalize vs 6 = v6 at *
        generalize vs 8 = v8 at *
        clear h0 h1 h2 h3 h5 h7 h9 h10 h11 h12 h13 h14 h15 h16
        have hF := (Fr.refl [] w18).drew.trans hG
        have HF := Lib.hid (HF.out.trans hF)
        have HB := Lib.hid (HB.out.keep hF)
        have HBD := Lib.hid (Sl.keep HBD.out hF)
        have HR := Lib.hid (HR.out.keep hF)
        have HRS := Lib.hid (HRS.out.keep hF)
        have HXI := Lib.hid (Sl.keep HXI.out hF)
        have HXB := Lib.hid (HXB.out.keep hF)
        have HOB := Lib.hid (Sl.keep HOB.out hF)
        have HRO := Lib.hid (HRO.out.keep hF)
        clear hF hG h4 h6 h8
        have HG18 : Hid (g7 < w'.heap.size ∧ w.heap.size ≤ w'.heap.size) := Lib.hid ⟨HR.out.lt, HF.out.size⟩
        have HBL : Hid (∀ b, liveOf (.slice a2 r.bt.body.length c2) = some b → b < w'.heap.size) := Lib.hid (fun b hb => Sl.lt HBD.out b hb)
        go_upto_region 27 with (first | (refine wpList_load_row_w rfl 58 (.tmp 7) rfl g7 rfl 58 _ _ HR.out Try.underlying58 rfl (by kernel_rfl) ?_) | (refine wpList_store_row rfl 58 (.tmp 18) (.tmp 125) rfl w'.heap.size rfl _ _ rfl 58 (Box.new w' 58 rpz) (by kernel_rfl) rfl (by simp [Value.oneCell']) ?_; intro w20 hY hG; have hFn := ((Fr.refl [] w').alloc _).step hG (by simp); have HFn := Lib.hid hFn; have HY := Lib.hid hY; clear hG hFn hY))
        have hF := HFn.out
        have HF := Lib.hid (HF.out.trans hF)
        have HB := Lib.hid (HB.out.keep hF)
        have HBD := Lib.hid (Sl.keep HBD.out hF)
        have HR := Lib.hid (HR.out.keep hF)
        have HT := HY
        clear hF HFn HY
        generalize hg18 : w'.heap.size = g18 at *
        clear hg18
        have x11 := HR.out.cell 11
        simp only [rpc, List.getElem?_toArray, List.getElem?_cons_succ, List.getElem?_cons_zero] at x11
        go_wp2_with fail
        clear x11
        refine (RCopy_any HBD.out HSM.out).mono ?_
        rintro e w21 ⟨vc, rfl, hO, hF⟩
        obtain ⟨ac, nc, cc, rfl⟩ := hO.isSlice
        have HGT := Lib.hid HT.out.lt
        have HF := Lib.hid (HF.out.trans hF)
        have HB := Lib.hid (HB.out.keep hF)
        have HBD := Lib.hid (Sl.keep HBD.out hF)
        have HR := Lib.hid (HR.out.keep hF)
        have HT := Lib.hid (HT.out.keep hF)
        have HOC : Hid (OwnB w21 (g18 + 1) (.slice ac nc cc) r.bt.body) := Lib.hid (OwnB.mono hO HGT.out)
        clear hO hF HGT
        have y11 := HT.out.cell 11; have f11 := HT.out.free 11
        simp only [rpc, List.getElem?_toArray, List.getElem?_cons_succ, List.getElem?_cons_zero] at y11
        go_upto_region 28 with fail
        obtain ⟨w22, e11, hFs, hBs, hss⟩ := set_new HT.out 11 (.slice ac nc cc)
        rw [e11]
        have HT : Hid (Box w22 g18 58 (rpc r (.slice ac nc cc))) := Lib.hid (hBs.as_ (by rfl))
        have HF := Lib.hid (HF.out.step hFs (fun x hx => .inr (by have := HG18.out; simp at hx; omega)))
        have HB := Lib.hid (HB0.out.keep HF.out)
        have HOC := Lib.hid (HOC.out.fr hFs (fun b hb hm => by have := (HOC.out.block b hb).1; simp at hm; omega))
        clear e11 hFs hBs hss y11 f11 HR HBD HBL
        have y0 := HT.out.cell 0; have f0 := HT.out.free 0
        simp only [rpc, List.getElem?_toArray, List.getElem?_cons_succ, List.getElem?_cons_zero] at y0
        obtain ⟨z, k0, hz⟩ : ∃ z : Nat, bits .xor .u8 ((r.bt.h0.toNat : Nat) : Int) 192 = (z : Int) ∧ z = (r.bt.h0 ^^^ 192).toNat := ⟨_, u8_xorN r.bt.h0 192, rfl⟩
        have HZ := Lib.hid hz
        clear hz
        go_upto_region 29 with fail
        obtain ⟨w23, e0, hFs, hBs, hss⟩ := set_new HT.out 0 (.int .u8 (z : Int))
        rw [e0]
        have HT : Hid (Box w23 g18 58 (rpc { r with bt := { r.bt with h0 := r.bt.h0 ^^^ 192 } } (.slice ac nc cc))) := Lib.hid (hBs.as_ (by rw [HZ.out]; rfl))
        have HF := Lib.hid (HF.out.step hFs (fun x hx => .inr (by have := HG18.out; simp at hx; omega)))
        have HB := Lib.hid (HB0.out.keep HF.out)
        have HOC := Lib.hid (HOC.out.fr hFs (fun b hb hm => by have := (HOC.out.block b hb).1; simp at hm; omega))
        clear e0 hFs hBs hss y0 f0 k0 HZ
        go_wp2_with (refine wpList_load_row_w rfl 58 (.tmp 18) rfl g18 rfl 58 _ _ HT.out Try.underlying58 rfl (by kernel_rfl) ?_)
        refine (pHolds_any (r := { r with bt := { r.bt with h0 := r.bt.h0 ^^^ 192 } }) ⟨_, rfl, HOC.out.bytes⟩ HB.out HSM.out).mono ?_
        rintro e w24 ⟨rfl, hF⟩
        rw [turn_holds HM.out]
        have HF := Lib.hid (HF.out.trans hF)
        have HB := Lib.hid (HB.out.keep hF)
        have HT := Lib.hid (HT.out.keep hF)
        have HOC := Lib.hid (HOC.out.keep hF)
        clear hF
        obtain ⟨m, hmd, hml⟩ := and3 d
        rcases (by omega : m = 0 ∨ m = 1 ∨ m = 2 ∨ m = 3) with rfl | rfl | rfl | rfl
        · have y1 := HT.out.cell 1; have f1 := HT.out.free 1
          simp only [rpc, List.getElem?_toArray, List.getElem?_cons_succ, List.getElem?_cons_zero] at y1
          obtain ⟨z, k0, hz⟩ : ∃ z : Nat, bits .xor .u8 ((r.bt.h1.toNat : Nat) : Int) 1 = (z : Int) ∧ z = (r.bt.h1 ^^^ 1).toNat := ⟨_, u8_xorN r.bt.h1 1, rfl⟩
          have HZ := Lib.hid hz
          clear hz
          go_upto_region 32 with fail
          obtain ⟨w25, e1, hFs, hBs, hss⟩ := set_new HT.out 1 (.int .u8 (z : Int))
          rw [e1]
          have HT : Hid (Box w25 g18 58 (rpc { r with bt := { r.bt with h0 := r.bt.h0 ^^^ 192, h1 := r.bt.h1 ^^^ 1 } } (.slice ac nc cc))) := Lib.hid (hBs.as_ (by rw [HZ.out]; rfl))
          have HF := Lib.hid (HF.out.step hFs (fun x hx => .inr (by have := HG18.out; simp at hx; omega)))
          have HB := Lib.hid (HB0.out.keep HF.out)
          have HOC := Lib.hid (HOC.out.fr hFs (fun b hb hm => by have := (HOC.out.block b hb).1; simp at hm; omega))
          clear e1 hFs hBs hss y1 f1 k0 HZ hmd
          go_wp2_with (refine wpList_load_row_w rfl 58 (.tmp 18) rfl g18 rfl 58 _ _ HT.out Try.underlying58 rfl (by kernel_rfl) ?_)
          refine (pHolds_any (r := { r with bt := { r.bt with h0 := r.bt.h0 ^^^ 192, h1 := r.bt.h1 ^^^ 1 } }) ⟨_, rfl, HOC.out.bytes⟩ HB.out HSM.out).mono ?_
          rintro e w26 ⟨rfl, hF⟩
          rw [turn_not HM.out (t := { r with bt := { r.bt with h0 := r.bt.h0 ^^^ 192, h1 := r.bt.h1 ^^^ 1 } }) (.inl (u8_flip _))]
          have HF := Lib.hid (HF.out.trans hF)
          clear hF
          go_wp2_with fail
          go_ret
          first | exact ⟨rfl, HF.out⟩ | exact ⟨ret_bool (by simp), HF.out⟩
        · have y2 := HT.out.cell 2; have f2 := HT.out.free 2
          simp only [rpc, List.getElem?_toArray, List.getElem?_cons_succ, List.getElem?_cons_zero] at y2
          obtain ⟨z, k0, hz⟩ : ∃ z : Nat, bits .xor .u8 ((r.bt.h2.toNat : Nat) : Int) 1 = (z : Int) ∧ z = (r.bt.h2 ^^^ 1).toNat := ⟨_, u8_xorN r.bt.h2 1, rfl⟩
          have HZ := Lib.hid hz
          clear hz
          go_upto_region 32 with fail
          obtain ⟨w25, e2, hFs, hBs, hss⟩ := set_new HT.out 2 (.int .u8 (z : Int))
          rw [e2]
          have HT : Hid (Box w25 g18 58 (rpc { r with bt := { r.bt with h0 := r.bt.h0 ^^^ 192, h2 := r.bt.h2 ^^^ 1 } } (.slice ac nc cc))) := Lib.hid (hBs.as_ (by rw [HZ.out]; rfl))
          have HF := Lib.hid (HF.out.step hFs (fun x hx => .inr (by have := HG18.out; simp at hx; omega)))
          have HB := Lib.hid (HB0.out.keep HF.out)
          have HOC := Lib.hid (HOC.out.fr hFs (fun b hb hm => by have := (HOC.out.block b hb).1; simp at hm; omega))
          clear e2 hFs hBs hss y2 f2 k0 HZ hmd
          go_wp2_with (refine wpList_load_row_w rfl 58 (.tmp 18) rfl g18 rfl 58 _ _ HT.out Try.underlying58 rfl (by kernel_rfl) ?_)
          refine (pHolds_any (r := { r with bt := { r.bt with h0 := r.bt.h0 ^^^ 192, h2 := r.bt.h2 ^^^ 1 } }) ⟨_, rfl, HOC.out.bytes⟩ HB.out HSM.out).mono ?_
          rintro e w26 ⟨rfl, hF⟩
          rw [turn_not HM.out (t := { r with bt := { r.bt with h0 := r.bt.h0 ^^^ 192, h2 := r.bt.h2 ^^^ 1 } }) (.inr (.inl (u8_flip _)))]
          have HF := Lib.hid (HF.out.trans hF)
          clear hF
          go_wp2_with fail
          go_ret
          first | exact ⟨rfl, HF.out⟩ | exact ⟨ret_bool (by simp), HF.out⟩
        · have y3 := HT.out.cell 3; have f3 := HT.out.free 3
          simp only [rpc, List.getElem?_toArray, List.getElem?_cons_succ, List.getElem?_cons_zero] at y3
          obtain ⟨z, k0, hz⟩ : ∃ z : Nat, bits .xor .u8 ((r.bt.h3.toNat : Nat) : Int) 1 = (z : Int) ∧ z = (r.bt.h3 ^^^ 1).toNat := ⟨_, u8_xorN r.bt.h3 1, rfl⟩
          have HZ := Lib.hid hz
          clear hz
          go_upto_region 32 with fail
          obtain ⟨w25, e3, hFs, hBs, hss⟩ := set_new HT.out 3 (.int .u8 (z : Int))
          rw [e3]
          have HT : Hid (Box w25 g18 58 (rpc { r with bt := { r.bt with h0 := r.bt.h0 ^^^ 192, h3 := r.bt.h3 ^^^ 1 } } (.slice ac nc cc))) := Lib.hid (hBs.as_ (by rw [HZ.out]; rfl))
          have HF := Lib.hid (HF.out.step hFs (fun x hx => .inr (by have := HG18.out; simp at hx; omega)))
          have HB := Lib.hid (HB0.out.keep HF.out)
          have HOC := Lib.hid (HOC.out.fr hFs (fun b hb hm => by have := (HOC.out.block b hb).1; simp at hm; omega))
          clear e3 hFs hBs hss y3 f3 k0 HZ hmd
          go_wp2_with (refine wpList_load_row_w rfl 58 (.tmp 18) rfl g18 rfl 58 _ _ HT.out Try.underlying58 rfl (by kernel_rfl) ?_)
          refine (pHolds_any (r := { r with bt := { r.bt with h0 := r.bt.h0 ^^^ 192, h3 := r.bt.h3 ^^^ 1 } }) ⟨_, rfl, HOC.out.bytes⟩ HB.out HSM.out).mono ?_
          rintro e w26 ⟨rfl, hF⟩
          rw [turn_not HM.out (t := { r with bt := { r.bt with h0 := r.bt.h0 ^^^ 192, h3 := r.bt.h3 ^^^ 1 } }) (.inr (.inr (.inl (u8_flip _))))]
          have HF := Lib.hid (HF.out.trans hF)
          clear hF
          go_wp2_with fail
          go_ret
          first | exact ⟨rfl, HF.out⟩ | exact ⟨ret_bool (by simp), HF.out⟩
        · have y4 := HT.out.cell 4; have f4 := HT.out.free 4
          simp only [rpc, List.getElem?_toArray, List.getElem?_cons_succ, List.getElem?_cons_zero] at y4
          obtain ⟨z, k0, hz⟩ : ∃ z : Nat, bits .xor .u8 ((r.bt.h4.toNat : Nat) : Int) 1 = (z : Int) ∧ z = (r.bt.h4 ^^^ 1).toNat := ⟨_, u8_xorN r.bt.h4 1, rfl⟩
          have HZ := Lib.hid hz
          clear hz
          go_upto_region 32 with fail
          obtain ⟨w25, e4, hFs, hBs, hss⟩ := set_new HT.out 4 (.int .u8 (z : Int))
          rw [e4]
          have HT : Hid (Box w25 g18 58 (rpc { r with bt := { r.bt with h0 := r.bt.h0 ^^^ 192, h4 := r.bt.h4 ^^^ 1 } } (.slice ac nc cc))) := Lib.hid (hBs.as_ (by rw [HZ.out]; rfl))
          have HF := Lib.hid (HF.out.step hFs (fun x hx => .inr (by have := HG18.out; simp at hx; omega)))
          have HB := Lib.hid (HB0.out.keep HF.out)
          have HOC := Lib.hid (HOC.out.fr hFs (fun b hb hm => by have := (HOC.out.block b hb).1; simp at hm; omega))
          clear e4 hFs hBs hss y4 f4 k0 HZ hmd
          go_wp2_with (refine wpList_load_row_w rfl 58 (.tmp 18) rfl g18 rfl 58 _ _ HT.out Try.underlying58 rfl (by kernel_rfl) ?_)
          refine (pHolds_any (r := { r with bt := { r.bt with h0 := r.bt.h0 ^^^ 192, h4 := r.bt.h4 ^^^ 1 } }) ⟨_, rfl, HOC.out.bytes⟩ HB.out HSM.out).mono ?_
          rintro e w26 ⟨rfl, hF⟩
          rw [turn_not HM.out (t := { r with bt := { r.bt with h0 := r.bt.h0 ^^^ 192, h4 := r.bt.h4 ^^^ 1 } }) (.inr (.inr (.inr (u8_flip _))))]
          have HF := Lib.hid (HF.out.trans hF)
          clear hF
          go_wp2_with fail
          go_ret
          first | exact ⟨rfl, HF.out⟩ | exact ⟨ret_bool (by simp), HF.out⟩
end Go.Proofs.Ytchbgiindfoepaa
