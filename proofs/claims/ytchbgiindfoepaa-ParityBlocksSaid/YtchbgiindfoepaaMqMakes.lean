/- The walk of confluxlaw13.ParityMakes (printed by gen_makes.py). -/
import Derived.Test.YtchbgiindfoepaaMqR13b
import Derived.Test.YtchbgiindfoepaaMq37
import Derived.Test.YtchbgiindfoepaaMq32
import Derived.Test.YtchbgiindfoepaaMq24
import Derived.Test.YtchbgiindfoepaaMq36
import Derived.Test.YtchbgiindfoepaaMq18
namespace Go.Proofs.Ytchbgiindfoepaa
open Go.RowKit

def zrepM : Rep_ := ⟨Bt.zero, 0, ⟨0, 0⟩⟩
/-- What a call that makes a repair hands back, as a repair and an error's number. -/
def mkRes : Except Int Rep_ → Rep_ × Int
  | .ok r => (r, 0)
  | .error k => (zrepM, k)
theorem Made.uni {x : Except Int Rep_} {n : Nat} {e : Ending} {w' : World} (h : Made x n e w') : ∃ vb, e = .returned (.tuple #[.agg (rpc (mkRes x).1 vb), .int .i64 (mkRes x).2]) ∧ Bytes w' vb (mkRes x).1.bt.body := by
  rcases h with ⟨r, v', rfl, rfl, vb, rfl, hb, -⟩ | ⟨k, rfl, -, rfl⟩
  · exact ⟨vb, rfl, hb⟩
  · exact ⟨.slice none 0 0, rfl, Sl.nil w'⟩
theorem mkRes_small (ls : List (List UInt8)) : (mkRes (mkP ls)).1.bt.body.length ≤ 1099511627776 := by
  cases h : mkP ls with
  | ok r => exact mkP_small h
  | error k => simp [mkRes, zrepM, Bt.zero]
theorem mkRes_some (ls : List (List UInt8)) (xs : List Int) : (mkRes (someR ls xs)).1.bt.body.length ≤ 1099511627776 := by
  cases h : someR ls xs with
  | ok r => exact Nat.le_trans (someR_1500 h) (by omega)
  | error k => simp [mkRes, zrepM, Bt.zero]
set_option maxRecDepth 100000 in
set_option maxHeartbeats 16000000 in
theorem ParityMakes_any {w : World} {v v2 : Value} {ls : List (List UInt8)} {xs : List Int} (hl : BRows w v ls) (hx : Ints w v2 xs) :
    Calls Try.prog 4 #[v, v2] w fun e w' => e = .returned (.bool true) ∧ Fr [] w w' := by
  obtain ⟨av, cv, rfl⟩ := hl.shape
  obtain ⟨ax, cx, rfl⟩ := Sl.shape hx
  rw [List.length_map] at hx ⊢
  have hlen := hl.len
  have hlen2 := (Sl.len hx).2
  unfold maxLen at hlen hlen2
  have HB := Lib.hid hl; have HX := Lib.hid hx; have HF : Hid (Fr [] w w) := Lib.hid (Fr.refl _ _)
  clear hl hx
  go_enter Try.func4, Try.ntmps4
  go_wp2_with fail
  refine l13alive_any.mono ?_
  rintro e w1 ⟨rfl, hF⟩
  have HF := Lib.hid (HF.out.trans hF)
  have HB := Lib.hid (HB.out.keep hF)
  have HX := Lib.hid (Sl.keep HX.out hF)
  clear hF
  go_wp2_with fail
  refine (RFew13_any HB.out 60 1600 (by omega) (by omega)).mono ?_
  rintro e w2 ⟨rfl, hF⟩
  have HF := Lib.hid (HF.out.trans hF)
  have HB := Lib.hid (HB.out.keep hF)
  have HX := Lib.hid (Sl.keep HX.out hF)
  clear hF
  by_cases hfew : few13 ls 60 1600 = true
  rotate_left
  · have hfew2 : few13 ls 60 1600 = false := by simpa using hfew
    rw [hfew2]
    go_wp2_with fail
    go_ret
    first | exact ⟨rfl, HF.out⟩ | exact ⟨ret_bool (by simp), HF.out⟩
  rw [hfew]
  obtain ⟨hn60, hsz⟩ := few13_true hfew
  have HSZ := Lib.hid hsz
  clear hfew hsz
  by_cases hx60 : 60 < xs.length
  · have hd : decide (60 < (xs.length : Int)) = true := decide_eq_true (by omega)
    go_wp2_with fail
    go_ret
    first | exact ⟨rfl, HF.out⟩ | exact ⟨ret_bool (by simp), HF.out⟩
  have hd : decide (60 < (xs.length : Int)) = false := decide_eq_false (by omega)
  go_upto_region 5 with fail
  obtain ⟨w5, e5, hF, hB5, hs5⟩ := one_new w2 #[] 25
  have HO : Hid (OwnEls 1 BytesR w5 w2.heap.size 25 (.slice (some ⟨w2.heap.size, 0, none⟩) 0 0) [] []) := Lib.hid (by rw [← e5]; exact OwnEls.made w2 w2.heap.size _ (Nat.le_refl _))
  have E5 := Lib.hid e5
  have HF5 := Lib.hid hF
  clear e5 hB5 hs5 hF
  go_upto_region 6 with fail
  rw [E5.out]
  clear E5
  generalize hN : w2.heap.size = N at *
  have HN := Lib.hid hN
  clear hN
  go_wp2_with fail
  go_loopw [5, 29] (fun sv iv wr => ∃ (k : Nat) (Bs : List Nat), k ≤ ls.length ∧ iv = .int .i64 k ∧ OwnEls 1 BytesR wr N 25 sv (ls.take k) Bs ∧ Fr [] w2 wr) (fun _ iv _ => ls.length - (intOf iv).toNat)
  case atStart => exact ⟨0, [], Nat.zero_le _, rfl, HO.out, HF5.out⟩
  case round =>
    clear HO HF5
    obtain ⟨k, Bs, hk, rfl, hO, hF⟩ := hrel
    have hkl : (ls.take k).length = k := by rw [List.length_take]; omega
    have HKL := Lib.hid hkl
    obtain ⟨as_, cs, rfl⟩ := hO.shape
    rw [hkl] at hO
    have HO := Lib.hid hO; have HFQ := Lib.hid hF
    clear hO hkl
    have HF := Lib.hid (HF.out.trans hF)
    have HB := Lib.hid (HB.out.keep hF)
    have HX := Lib.hid (Sl.keep HX.out hF)
    clear hF
    by_cases hlt : k < ls.length
    · obtain ⟨b, o, al, cl, ea, hb, hc, hx⟩ := HB.out.at_ k hlt
      subst ea
      have HT : Hid (ls.take (k + 1) = ls.take k ++ [ls[k]]) := Lib.hid (List.take_succ_eq_append_getElem hlt)
      have HXX := Lib.hid hx
      have HLL := Lib.hid (HSZ.out ls[k] (List.getElem_mem hlt))
      have d0 := hc
      clear hb hc hx
      generalize ls[k] = l at *
      go_wp2_with fail
      refine (RCopy_any HXX.out (by have := HLL.out; omega)).mono ?_
      rintro e w6 ⟨vc, rfl, hO, hF⟩
      have hsh := Sl.shape hO.bytes
      rw [List.length_map] at hsh
      obtain ⟨ac, cc, rfl⟩ := hsh
      have HCP := Lib.hid hO.bytes
      have HCB : Hid (∀ b ∈ (liveOf (.slice ac l.length cc)).toList, wr.heap.size ≤ b) := Lib.hid (fun b hb => (hO.block b (live_block (mem_toList.1 hb))).1)
      have HOB : Hid (∀ b, blockOf (.slice as_ k cs) = some b → b < wr.heap.size) := Lib.hid (fun b hb => (HO.out.block b hb).2)
      have HO := Lib.hid (HO.out.keep Rep.bytes hF); have HFQ := Lib.hid (HFQ.out.trans hF)
      clear hO hF d0
      obtain ⟨w7, e7, hF7, hB7, hs7⟩ := one_new w6 #[.slice ac l.length cc] 25
      have E7 := Lib.hid e7; have HF7 := Lib.hid hF7; have HB7 := Lib.hid hB7
      clear e7 hF7 hB7 hs7
      have HDJ : Hid (∀ b, blockOf (.slice as_ k cs) = some b → b ∉ (liveOf (.slice ac l.length cc)).toList) := Lib.hid (fun b hb hm => by have h1 := HCB.out b hm; have h2 := HOB.out b hb; omega)
      have HL1 : Hid ((ls.take k).length + 1 ≤ maxLen) := Lib.hid (by rw [HKL.out]; unfold maxLen; omega)
      have HL2 : Hid (((ls.take k).length + 1) * 24 ≤ 140737488355328) := Lib.hid (by rw [HKL.out]; omega)
      have HL3 : Hid (N ≤ w7.heap.size) := Lib.hid (by have := HFQ.out.size; have := HF7.out.size; have := HN.out; omega)
      go_wp2_with (at_builtin; (rw [E7.out]); refine wpList_append_el Rep.bytes (by decide) rfl (.tmp 33) (.tmp 36) 22 rfl N 25 (.slice none 0 0) 24 Try.underlying22 info_bs rfl (.slice as_ k cs) (ls.take k) Bs rfl (HO.out.keep Rep.bytes HF7.out) w6.heap.size 0 1 rfl [.slice ac l.length cc] l (liveOf (.slice ac l.length cc)).toList (box_range HB7.out) ⟨_, rfl, Sl.keep HCP.out HF7.out, rfl⟩ HDJ.out HL1.out HL2.out HL3.out ?_; intro vs1 w8 hown1 hfr1 hbl1; have HV1 := Lib.hid hown1; have HF8 := Lib.hid hfr1; obtain ⟨as1, cs1, rfl⟩ := hown1.shape; clear hown1 hfr1 hbl1)
      exact ⟨⟨k + 1, _, by omega, by go_num, by rw [HT.out]; have h := HV1.out; rw [List.length_append, HKL.out] at h; exact h, (HFQ.out.trans HF7.out).step HF8.out (fun b hb => .inr (by have := (HO.out.block b (mem_toList.1 hb)).1; have := HN.out; omega))⟩, by simp [intOf]; omega⟩
    obtain rfl : k = ls.length := by omega
    rw [List.take_length] at HO
    have HBK : Hid (BRows wr (.slice as_ ls.length cs) ls) := Lib.hid HO.out.sl.rows
    clear HO HKL HFQ
    have HSL : Hid (∀ l ∈ ls, l.length ≤ 1099511627776) := Lib.hid (fun l hl => Nat.le_trans (HSZ.out l hl) (by omega))
    obtain ⟨q, hq⟩ : ∃ q, mkRes (mkP ls) = q := ⟨_, rfl⟩
    obtain ⟨q2, hq2⟩ : ∃ q, mkRes (someR ls xs) = q := ⟨_, rfl⟩
    have HQ := Lib.hid hq; have HQ2 := Lib.hid hq2
    have HQS : Hid (q.1.bt.body.length ≤ 1099511627776) := Lib.hid (by rw [← hq]; exact mkRes_small ls)
    have HQS2 : Hid (q2.1.bt.body.length ≤ 1099511627776) := Lib.hid (by rw [← hq2]; exact mkRes_some ls xs)
    obtain ⟨q, k1⟩ := q
    obtain ⟨q2, k2⟩ := q2
    clear hq hq2
    go_wp2_with fail
    refine (pMake_any HBK.out).mono ?_
    rintro e w10 ⟨hF, hm⟩
    obtain ⟨vb, rfl, hb⟩ := hm.uni
    rw [HQ.out] at hb ⊢
    obtain ⟨b10, c10, rfl⟩ := Sl.shape hb
    rw [List.length_map] at hb ⊢
    clear hm
    have HF := Lib.hid (HF.out.trans hF)
    have HB := Lib.hid (HB.out.keep hF)
    have HX := Lib.hid (Sl.keep HX.out hF)
    have HBK := Lib.hid (HBK.out.keep hF)
    have HD10 := Lib.hid hb
    clear hb hF
    go_upto_region 12 with (refine wpList_store_row rfl 58 (.tmp 8) (.tmp 42) rfl w10.heap.size rfl _ _ rfl 58 (Box.new w10 58 rpz) (by kernel_rfl) rfl (by simp [Value.oneCell']) ?_; intro w11 hY hG; have hFn := ((Fr.refl [] w10).alloc _).step hG (by simp); have HFn := Lib.hid hFn; have HY := Lib.hid hY; clear hG hFn hY)
    have hF := HFn.out
    have HF := Lib.hid (HF.out.trans hF)
    have HB := Lib.hid (HB.out.keep hF)
    have HX := Lib.hid (Sl.keep HX.out hF)
    have HBK := Lib.hid (HBK.out.keep hF)
    have HD10 := Lib.hid (Sl.keep HD10.out hF)
    have HR10 := HY
    clear hF HFn HY
    generalize hg10 : w10.heap.size = g10 at *
    clear hg10
    go_wp2_with fail
    refine (r13Make_any HB.out).mono ?_
    rintro e w12 ⟨hF, hm⟩
    obtain ⟨vb, rfl, hb⟩ := hm.uni
    rw [HQ.out] at hb ⊢
    obtain ⟨b12, c12, rfl⟩ := Sl.shape hb
    rw [List.length_map] at hb ⊢
    clear hm
    have HF := Lib.hid (HF.out.trans hF)
    have HB := Lib.hid (HB.out.keep hF)
    have HX := Lib.hid (Sl.keep HX.out hF)
    have HBK := Lib.hid (HBK.out.keep hF)
    have HD10 := Lib.hid (Sl.keep HD10.out hF)
    have HR10 := Lib.hid (HR10.out.keep hF)
    have HD12 := Lib.hid hb
    clear hb hF
    go_upto_region 13 with (refine wpList_store_row rfl 58 (.tmp 10) (.tmp 47) rfl w12.heap.size rfl _ _ rfl 58 (Box.new w12 58 rpz) (by kernel_rfl) rfl (by simp [Value.oneCell']) ?_; intro w13 hY hG; have hFn := ((Fr.refl [] w12).alloc _).step hG (by simp); have HFn := Lib.hid hFn; have HY := Lib.hid hY; clear hG hFn hY)
    have hF := HFn.out
    have HF := Lib.hid (HF.out.trans hF)
    have HB := Lib.hid (HB.out.keep hF)
    have HX := Lib.hid (Sl.keep HX.out hF)
    have HBK := Lib.hid (HBK.out.keep hF)
    have HD10 := Lib.hid (Sl.keep HD10.out hF)
    have HR10 := Lib.hid (HR10.out.keep hF)
    have HD12 := Lib.hid (Sl.keep HD12.out hF)
    have HR12 := HY
    clear hF HFn HY
    generalize hg12 : w12.heap.size = g12 at *
    clear hg12
    go_wp2_with fail
    refine (pSome_any HBK.out HX.out (by omega) (by omega)).mono ?_
    rintro e w14 ⟨hF, hm⟩
    obtain ⟨vb, rfl, hb⟩ := hm.uni
    rw [HQ2.out] at hb ⊢
    obtain ⟨b14, c14, rfl⟩ := Sl.shape hb
    rw [List.length_map] at hb ⊢
    clear hm
    have HF := Lib.hid (HF.out.trans hF)
    have HB := Lib.hid (HB.out.keep hF)
    have HX := Lib.hid (Sl.keep HX.out hF)
    have HBK := Lib.hid (HBK.out.keep hF)
    have HD10 := Lib.hid (Sl.keep HD10.out hF)
    have HR10 := Lib.hid (HR10.out.keep hF)
    have HD12 := Lib.hid (Sl.keep HD12.out hF)
    have HR12 := Lib.hid (HR12.out.keep hF)
    have HD14 := Lib.hid hb
    clear hb hF
    go_upto_region 14 with (refine wpList_store_row rfl 58 (.tmp 12) (.tmp 53) rfl w14.heap.size rfl _ _ rfl 58 (Box.new w14 58 rpz) (by kernel_rfl) rfl (by simp [Value.oneCell']) ?_; intro w15 hY hG; have hFn := ((Fr.refl [] w14).alloc _).step hG (by simp); have HFn := Lib.hid hFn; have HY := Lib.hid hY; clear hG hFn hY)
    have hF := HFn.out
    have HF := Lib.hid (HF.out.trans hF)
    have HB := Lib.hid (HB.out.keep hF)
    have HX := Lib.hid (Sl.keep HX.out hF)
    have HBK := Lib.hid (HBK.out.keep hF)
    have HD10 := Lib.hid (Sl.keep HD10.out hF)
    have HR10 := Lib.hid (HR10.out.keep hF)
    have HD12 := Lib.hid (Sl.keep HD12.out hF)
    have HR12 := Lib.hid (HR12.out.keep hF)
    have HD14 := Lib.hid (Sl.keep HD14.out hF)
    have HR14 := HY
    clear hF HFn HY
    generalize hg14 : w14.heap.size = g14 at *
    clear hg14
    go_wp2_with fail
    refine (r13Some_any HB.out HX.out (by omega) (by omega)).mono ?_
    rintro e w16 ⟨hF, hm⟩
    obtain ⟨vb, rfl, hb⟩ := hm.uni
    rw [HQ2.out] at hb ⊢
    obtain ⟨b16, c16, rfl⟩ := Sl.shape hb
    rw [List.length_map] at hb ⊢
    clear hm
    have HF := Lib.hid (HF.out.trans hF)
    have HB := Lib.hid (HB.out.keep hF)
    have HX := Lib.hid (Sl.keep HX.out hF)
    have HBK := Lib.hid (HBK.out.keep hF)
    have HD10 := Lib.hid (Sl.keep HD10.out hF)
    have HR10 := Lib.hid (HR10.out.keep hF)
    have HD12 := Lib.hid (Sl.keep HD12.out hF)
    have HR12 := Lib.hid (HR12.out.keep hF)
    have HD14 := Lib.hid (Sl.keep HD14.out hF)
    have HR14 := Lib.hid (HR14.out.keep hF)
    have HD16 := Lib.hid hb
    clear hb hF
    go_upto_region 15 with (refine wpList_store_row rfl 58 (.tmp 14) (.tmp 59) rfl w16.heap.size rfl _ _ rfl 58 (Box.new w16 58 rpz) (by kernel_rfl) rfl (by simp [Value.oneCell']) ?_; intro w17 hY hG; have hFn := ((Fr.refl [] w16).alloc _).step hG (by simp); have HFn := Lib.hid hFn; have HY := Lib.hid hY; clear hG hFn hY)
    have hF := HFn.out
    have HF := Lib.hid (HF.out.trans hF)
    have HB := Lib.hid (HB.out.keep hF)
    have HX := Lib.hid (Sl.keep HX.out hF)
    have HBK := Lib.hid (HBK.out.keep hF)
    have HD10 := Lib.hid (Sl.keep HD10.out hF)
    have HR10 := Lib.hid (HR10.out.keep hF)
    have HD12 := Lib.hid (Sl.keep HD12.out hF)
    have HR12 := Lib.hid (HR12.out.keep hF)
    have HD14 := Lib.hid (Sl.keep HD14.out hF)
    have HR14 := Lib.hid (HR14.out.keep hF)
    have HD16 := Lib.hid (Sl.keep HD16.out hF)
    have HR16 := HY
    clear hF HFn HY
    generalize hg16 : w16.heap.size = g16 at *
    clear hg16
    have x0 := HR10.out.cell 0; have x1 := HR10.out.cell 1; have x2 := HR10.out.cell 2; have x3 := HR10.out.cell 3; have x4 := HR10.out.cell 4; have x5 := HR10.out.cell 5; have x6 := HR10.out.cell 6; have x7 := HR10.out.cell 7; have x8 := HR10.out.cell 8; have x9 := HR10.out.cell 9; have x10 := HR10.out.cell 10; have x11 := HR10.out.cell 11
    simp only [rpc, List.getElem?_toArray, List.getElem?_cons_succ, List.getElem?_cons_zero] at x0 x1 x2 x3 x4 x5 x6 x7 x8 x9 x10 x11
    have y0 := HR12.out.cell 0; have y1 := HR12.out.cell 1; have y2 := HR12.out.cell 2; have y3 := HR12.out.cell 3; have y4 := HR12.out.cell 4; have y5 := HR12.out.cell 5; have y6 := HR12.out.cell 6; have y7 := HR12.out.cell 7; have y8 := HR12.out.cell 8; have y9 := HR12.out.cell 9; have y10 := HR12.out.cell 10; have y11 := HR12.out.cell 11
    simp only [rpc, List.getElem?_toArray, List.getElem?_cons_succ, List.getElem?_cons_zero] at y0 y1 y2 y3 y4 y5 y6 y7 y8 y9 y10 y11
    go_wp2_with fail
    refine (r09Same_eq (r := q) ⟨_, rfl, HD10.out⟩ ⟨_, rfl, HD12.out⟩ HQS.out).mono ?_
    rintro e w20 ⟨rfl, hF⟩
    have HF := Lib.hid (HF.out.trans hF)
    have HB := Lib.hid (HB.out.keep hF)
    have HX := Lib.hid (Sl.keep HX.out hF)
    have HBK := Lib.hid (HBK.out.keep hF)
    have HD10 := Lib.hid (Sl.keep HD10.out hF)
    have HR10 := Lib.hid (HR10.out.keep hF)
    have HD12 := Lib.hid (Sl.keep HD12.out hF)
    have HR12 := Lib.hid (HR12.out.keep hF)
    have HD14 := Lib.hid (Sl.keep HD14.out hF)
    have HR14 := Lib.hid (HR14.out.keep hF)
    have HD16 := Lib.hid (Sl.keep HD16.out hF)
    have HR16 := Lib.hid (HR16.out.keep hF)
    clear hF
    clear x0 x1 x2 x3 x4 x5 x6 x7 x8 x9 x10 x11
    clear y0 y1 y2 y3 y4 y5 y6 y7 y8 y9 y10 y11
    have x0 := HR14.out.cell 0; have x1 := HR14.out.cell 1; have x2 := HR14.out.cell 2; have x3 := HR14.out.cell 3; have x4 := HR14.out.cell 4; have x5 := HR14.out.cell 5; have x6 := HR14.out.cell 6; have x7 := HR14.out.cell 7; have x8 := HR14.out.cell 8; have x9 := HR14.out.cell 9; have x10 := HR14.out.cell 10; have x11 := HR14.out.cell 11
    simp only [rpc, List.getElem?_toArray, List.getElem?_cons_succ, List.getElem?_cons_zero] at x0 x1 x2 x3 x4 x5 x6 x7 x8 x9 x10 x11
    have y0 := HR16.out.cell 0; have y1 := HR16.out.cell 1; have y2 := HR16.out.cell 2; have y3 := HR16.out.cell 3; have y4 := HR16.out.cell 4; have y5 := HR16.out.cell 5; have y6 := HR16.out.cell 6; have y7 := HR16.out.cell 7; have y8 := HR16.out.cell 8; have y9 := HR16.out.cell 9; have y10 := HR16.out.cell 10; have y11 := HR16.out.cell 11
    simp only [rpc, List.getElem?_toArray, List.getElem?_cons_succ, List.getElem?_cons_zero] at y0 y1 y2 y3 y4 y5 y6 y7 y8 y9 y10 y11
    go_wp2_with fail
    refine (r09Same_eq (r := q2) ⟨_, rfl, HD14.out⟩ ⟨_, rfl, HD16.out⟩ HQS2.out).mono ?_
    rintro e w21 ⟨rfl, hF⟩
    have HF := Lib.hid (HF.out.trans hF)
    have HB := Lib.hid (HB.out.keep hF)
    have HX := Lib.hid (Sl.keep HX.out hF)
    have HBK := Lib.hid (HBK.out.keep hF)
    have HD10 := Lib.hid (Sl.keep HD10.out hF)
    have HR10 := Lib.hid (HR10.out.keep hF)
    have HD12 := Lib.hid (Sl.keep HD12.out hF)
    have HR12 := Lib.hid (HR12.out.keep hF)
    have HD14 := Lib.hid (Sl.keep HD14.out hF)
    have HR14 := Lib.hid (HR14.out.keep hF)
    have HD16 := Lib.hid (Sl.keep HD16.out hF)
    have HR16 := Lib.hid (HR16.out.keep hF)
    clear hF
    clear x0 x1 x2 x3 x4 x5 x6 x7 x8 x9 x10 x11
    clear y0 y1 y2 y3 y4 y5 y6 y7 y8 y9 y10 y11
    go_wp2_with fail
    refine (r01SameAll_eq HBK.out HB.out HSL.out).mono ?_
    rintro e w22 ⟨rfl, hF⟩
    have HF := Lib.hid (HF.out.trans hF)
    have HB := Lib.hid (HB.out.keep hF)
    have HX := Lib.hid (Sl.keep HX.out hF)
    have HBK := Lib.hid (HBK.out.keep hF)
    have HD10 := Lib.hid (Sl.keep HD10.out hF)
    have HR10 := Lib.hid (HR10.out.keep hF)
    have HD12 := Lib.hid (Sl.keep HD12.out hF)
    have HR12 := Lib.hid (HR12.out.keep hF)
    have HD14 := Lib.hid (Sl.keep HD14.out hF)
    have HR14 := Lib.hid (HR14.out.keep hF)
    have HD16 := Lib.hid (Sl.keep HD16.out hF)
    have HR16 := Lib.hid (HR16.out.keep hF)
    clear hF
    go_wp2_with fail
    go_ret
    first | exact ⟨rfl, HF.out⟩ | exact ⟨ret_bool (by simp), HF.out⟩
end Go.Proofs.Ytchbgiindfoepaa
