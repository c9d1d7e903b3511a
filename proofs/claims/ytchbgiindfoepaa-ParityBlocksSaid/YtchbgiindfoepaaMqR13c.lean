/- The walk of confluxref13.Block (printed by gen_r13c.py). -/
import Derived.Test.YtchbgiindfoepaaMqR13b
import Derived.Test.YtchbgiindfoepaaMq36
namespace Go.Proofs.Ytchbgiindfoepaa
open Go.RowKit

set_option maxRecDepth 100000 in
set_option maxHeartbeats 8000000 in
theorem r13Block_any {w : World} {v1 v2 : Value} {ls : List (List UInt8)} {sh : List (List Int)} (hl : BRows w v1 ls) (hx : SlOf Ints w v2 sh) (hsz : ls.length ≤ 1000) (hsh : sh.length ≤ 1000) (hsx : ∀ xs ∈ sh, xs.length ≤ 1000) :
    Calls Try.prog 36 #[v1, v2] w fun e w' => Fr [] w w' ∧ MadeB (blockL ls sh []) w.heap.size e w' := by
  obtain ⟨av, cv, rfl⟩ := hl.shape
  obtain ⟨ax, cx, rfl⟩ := hx.shape
  have HL := Lib.hid hl; have HX := Lib.hid hx; have HSX := Lib.hid hsx
  obtain ⟨w2, e2, hF2, hB2, hs2⟩ := one_new w #[] 58
  have HO : Hid (OwnEls 12 RpR w2 w.heap.size 58 (.slice (some ⟨w.heap.size, 0, none⟩) 0 0) [] []) := Lib.hid (by rw [← e2]; exact OwnEls.made w w.heap.size _ (Nat.le_refl _))
  have E2 := Lib.hid e2; have HF2 := Lib.hid hF2
  clear hl hx hsx e2 hF2 hB2 hs2
  go_enter Try.func36, Try.ntmps36
  go_upto_region 2 with fail
  rw [E2.out]
  clear E2
  go_upto_region 3 with fail
  go_loopw [6, 7] (fun sv iv wr => ∃ (k : Nat) (rs : List Rep_) (Bs : List Nat), k ≤ sh.length ∧ iv = .int .i64 k ∧ blockL ls (sh.take k) [] = .ok rs ∧ rs.length = k ∧ OwnEls 12 RpR wr w.heap.size 58 sv rs Bs ∧ Fr [] w wr ∧ (∀ b ∈ Bs, w.heap.size ≤ b)) (fun _ iv _ => sh.length - (intOf iv).toNat)
  case atStart => exact ⟨0, [], [], Nat.zero_le _, rfl, rfl, rfl, HO.out, HF2.out, by simp⟩
  case round =>
    clear HO HF2
    obtain ⟨k, rs, Bs, hk, rfl, hR, hq, hO, hF, hBs⟩ := hrel
    obtain ⟨as_, cs, rfl⟩ := hO.shape
    have HRL := Lib.hid hR; have HQ := Lib.hid hq; have HO := Lib.hid hO; have HFQ := Lib.hid hF; have HBS := Lib.hid hBs
    clear hR hq hO hF hBs
    by_cases hlt : k < sh.length
    · obtain ⟨b, o, x, y, ea, hb, hy, hc, hx⟩ := HX.out.at_ hlt
      subst ea
      have hsy : y.length ≤ 1000 := HSX.out y (List.mem_of_getElem? hy)
      have HTF : Hid (sh = sh.take k ++ y :: sh.drop (k + 1)) := Lib.hid (by
        have h1 : sh[k] = y := by rw [List.getElem?_eq_getElem hlt] at hy; simpa using hy
        rw [← h1, List.getElem_cons_drop, List.take_append_drop])
      have HT : Hid (sh.take (k + 1) = sh.take k ++ [y]) := Lib.hid (by rw [List.take_add_one, hy]; rfl)
      obtain ⟨al, cl, rfl⟩ := Sl.shape hx
      rw [List.length_map] at hx hc
      have HXY := Lib.hid (Sl.keep hx HFQ.out)
      have HLR := Lib.hid (HL.out.keep HFQ.out)
      have d0 := HFQ.out.cellSome hc (by simp)
      clear hb hy hc hx
      go_wp2_with fail
      refine (r13Some_any HLR.out HXY.out hsz hsy).mono ?_
      rintro e w3 ⟨hF, ⟨r, v', hm, rfl, hv⟩ | ⟨kk, hm, hk0, rfl⟩⟩
      · obtain ⟨vb, rfl, hb, hd⟩ := hv
        have hs := Sl.shape hb
        rw [List.length_map] at hs
        obtain ⟨ab, cb, rfl⟩ := hs
        have HRL := Lib.hid (show blockL ls (sh.take (k + 1)) [] = .ok (rs ++ [r]) by rw [HT.out, blockL_append, HRL.out]; exact blockL_ok rs hm)
        have HB := Lib.hid hb; have HD := Lib.hid hd; have HF3 := Lib.hid hF; have HSR := Lib.hid HFQ.out.size
        have HBL : Hid (r.bt.body.length ≤ 1500) := Lib.hid (someR_1500 hm)
        clear hm hb hd hF
        generalize hbn : r.bt.body.length = bn at *
        have HBN := Lib.hid hbn
        clear hbn
        go_upto_region 8 with (refine wpList_store_row rfl 58 (.tmp 8) (.tmp 24) rfl w3.heap.size rfl _ _ rfl 58 (Box.new w3 58 rpz) (by kernel_rfl) rfl (by simp [Value.oneCell']) ?_; intro w4 hY hG; have hFn := ((Fr.refl [] w3).alloc _).step hG (by simp); have HFn := Lib.hid hFn; have HMB := Lib.hid hY; clear hG hFn hY)
        have hS4 : w3.heap.size < w4.heap.size := HMB.out.lt
        have HS4 := Lib.hid hS4
        clear hS4
        generalize w3.heap.size = g at *
        obtain ⟨w5, e5, hF5, hB5, hs5⟩ := one_new w4 (rpc r (.slice ab bn cb)) 58
        have HB5 := Lib.hid hB5; have HF5 := Lib.hid hF5; have HS5 := Lib.hid hs5
        unfold rpc at e5
        have E5 := Lib.hid e5
        clear e5 hB5 hF5 hs5
        have HOS : Hid (OwnEls 12 RpR w5 w.heap.size 58 (.slice as_ rs.length cs) rs Bs) := Lib.hid (HO.out.keep Rep.rp ((HF3.out.trans HFn.out).trans HF5.out))
        have HBB : Hid (Bytes w5 (.slice ab bn cb) r.bt.body) := Lib.hid (Sl.keep HB.out (HFn.out.trans HF5.out))
        have HDJ : Hid (∀ b, blockOf (.slice as_ rs.length cs) = some b → b ∉ (liveOf (.slice ab bn cb)).toList) := Lib.hid (fun b hb hm => by have h1 := HD.out b (mem_toList.1 hm); have h2 := (HO.out.block b hb).2; omega)
        have HL1 : Hid (rs.length + 1 ≤ maxLen) := Lib.hid (by have := HQ.out; unfold maxLen; omega)
        have HL2 : Hid ((rs.length + 1) * 56 ≤ 140737488355328) := Lib.hid (by have := HQ.out; omega)
        have HL3 : Hid (w.heap.size ≤ w5.heap.size) := Lib.hid (by have := HSR.out; have := HF3.out.size; have := HFn.out.size; have := HF5.out.size; omega)
        go_wp2_with (first | (refine wpList_load_row_w rfl 58 (.tmp 8) rfl g rfl 58 _ _ HMB.out Try.underlying58 rfl (by kernel_rfl) ?_) | (at_builtin; (rw [E5.out]); refine wpList_append_el Rep.rp (by decide) rfl (.tmp 29) (.tmp 31) 69 rfl w.heap.size 58 (.agg rpz) 56 Try.underlying69 info_rp rfl (.slice as_ rs.length cs) rs Bs rfl HOS.out w4.heap.size 0 1 rfl (rpc r (.slice ab bn cb)).toList r (liveOf (.slice ab bn cb)).toList (box_range HB5.out) ⟨_, rfl, HBB.out, rfl⟩ HDJ.out HL1.out HL2.out HL3.out ?_; intro vs1 w6 hown1 hfr1 hbl1; have HV1 := Lib.hid hown1; have HF6 := Lib.hid hfr1; obtain ⟨as1, cs1, rfl⟩ := hown1.shape; clear hown1 hfr1 hbl1))
        exact ⟨⟨k + 1, _, _, by omega, by go_num, HRL.out, by rw [List.length_append, HQ.out]; rfl, by have h1 := HV1.out; rw [List.length_append] at h1; exact h1,
          ((((HFQ.out.trans HF3.out).trans HFn.out)).trans HF5.out).step HF6.out (fun b hb => .inr (HO.out.block b (mem_toList.1 hb)).1),
          fun b hb => by
            rcases List.mem_append.1 hb with hb | hb
            · exact HBS.out b hb
            · have := HD.out b (mem_toList.1 hb); have := HSR.out; omega⟩, by simp [intOf]; omega⟩
      · have hkb : (kk != 0) = true := bne_iff_ne.2 hk0
        have HK0 := Lib.hid hk0
        have HME : Hid (blockL ls sh [] = .error kk) := Lib.hid (by rw [HTF.out, blockL_append, HRL.out]; exact blockL_err _ rs hm)
        have HFQ := Lib.hid (HFQ.out.trans hF)
        clear hm hF hk0
        go_wp2_with (refine wpList_store_row rfl 58 (.tmp 8) (.tmp 24) rfl w3.heap.size rfl _ _ rfl 58 (Box.new w3 58 rpz) (by kernel_rfl) rfl (by simp [Value.oneCell']) ?_; intro w4 hY hG; have hFn := ((Fr.refl [] w3).alloc _).step hG (by simp); have HFn := Lib.hid hFn; clear hG hFn hY)
        go_ret2
        exact ⟨HFQ.out.trans HFn.out, .inr ⟨kk, HME.out, HK0.out, rfl⟩⟩
    · obtain rfl : k = sh.length := by omega
      rw [List.take_length] at HRL
      go_wp2_with fail
      go_ret2
      exact ⟨HFQ.out, .inl ⟨rs, _, _, HRL.out, rfl, HO.out, HBS.out⟩⟩
end Go.Proofs.Ytchbgiindfoepaa
