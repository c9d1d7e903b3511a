/- The walk of confluxref01.Join. -/
import Derived.Test.YticoongkfhkjgaaBig
namespace Go.Proofs.Yticoongkfhkjgaa
open Go.RowKit

set_option maxHeartbeats 2000000 in
theorem Join_own {w : World} {vs : Value} {vx : List Value} {ls : List (List UInt8)} (h : Sl w vs vx) (hlen : vx.length = ls.length)
    (hb : ∀ (i : Nat) (x : Value) (l : List UInt8), vx[i]? = some x → ls[i]? = some l → Bytes w x l) (hsz : ls.flatten.length ≤ 1099511627776) (hcnt : ls.length ≤ 1099511627776) :
    Calls Try.prog 44 #[vs] w fun e w' => ∃ v', e = .returned v' ∧ OwnB w' w.heap.size v' ls.flatten ∧ Fr [] w w' := by
  obtain ⟨avs, cvs, rfl⟩ := h.shape
  rw [hlen] at h ⊢
  have H := Lib.hid h; have HBY := Lib.hid hb; have HSZ := Lib.hid hsz; have HLN := Lib.hid hlen
  obtain ⟨w1, e1, hF1, hB1, hs1⟩ := one_new w #[] 5
  have H1 : Hid (OwnB w1 w.heap.size (.slice (some ⟨w.heap.size, 0, none⟩) 0 0) []) := Lib.hid (by subst e1; exact World.ownsRow_made w #[] 0 (Nat.le_refl _) (by unfold maxLen; omega) (by simp))
  have E1 := Lib.hid e1; have HF1 := Lib.hid hF1
  clear e1 hF1 hB1 hs1 h hb hsz hlen
  go_enter Try.func44, Try.ntmps44
  go_upto_region 3 with (fail)
  try rw [E1.out]
  clear E1
  go_loopw [3, 4, 5] (fun out iv _ wr => ∃ i : Nat, i ≤ ls.length ∧ iv = .int .i64 i ∧ OwnB wr w.heap.size out (ls.take i).flatten ∧ Fr [] w wr) (fun _ iv _ _ => ls.length - (intOf iv).toNat)
  case atStart => exact ⟨0, Nat.zero_le _, rfl, H1.out, HF1.out⟩
  case round =>
    obtain ⟨i, hi, rfl, hO, hF⟩ := hrel
    have HO := Lib.hid hO; have HF := Lib.hid hF
    clear hO hF
    by_cases hlt : i < ls.length
    · obtain ⟨b, o, ea, hbl, hcl⟩ := H.out.at_ hlt
      subst ea
      have hx : vx[i]? = some (vx[i]'(by have := HLN.out; omega)) := List.getElem?_eq_getElem _
      have hL : ls[i]? = some ls[i] := List.getElem?_eq_getElem _
      have hp := HBY.out i _ _ hx hL
      have d1 := hcl i _ hx
      generalize hli : ls[i] = li at *
      generalize (vx[i]'(by have := HLN.out; omega)) = px at *
      obtain ⟨ap, cp, rfl⟩ := hp.shape
      simp only [List.length_map] at hp d1
      have HP := Lib.hid hp; have D1 := Lib.hid d1
      have hfl : (ls.take (i + 1)).flatten = (ls.take i).flatten ++ li := by
        rw [List.take_succ_eq_append_getElem hlt, List.flatten_append, hli]
        simp
      have htot : (ls.take i).flatten.length + li.length ≤ 1099511627776 := by
        have h1 := HSZ.out
        have h2 : ls.flatten = (ls.take (i + 1)).flatten ++ (ls.drop (i + 1)).flatten := by rw [← List.flatten_append, List.take_append_drop]
        rw [h2, hfl, List.length_append, List.length_append] at h1
        omega
      have HFL := Lib.hid hfl; have HTOT := Lib.hid htot; have HLI := Lib.hid hli
      clear hx hL hp d1 hcl hbl hfl htot hli
      generalize (ls.take i).flatten = acc at *
      go_upto_region 6 with (fail)
      go_loopw [3, 5] (fun out jv wr => ∃ j : Nat, j ≤ li.length ∧ jv = .int .i64 j ∧ OwnB wr w.heap.size out (acc ++ li.take j) ∧ Fr [] w wr) (fun _ jv _ => li.length - (intOf jv).toNat)
      case atStart => exact ⟨0, Nat.zero_le _, rfl, by simpa using HO.out, HF.out⟩
      case round =>
        obtain ⟨j, hj, rfl, hO2, hF2⟩ := hrel
        obtain ⟨ao, no, co, rfl⟩ := hO2.isSlice
        have HO2 := Lib.hid hO2; have HF2 := Lib.hid hF2
        have e1 := hF2.cellSome D1.out (by simp)
        clear hO2 hF2
        by_cases hjl : j < li.length
        · obtain ⟨bp, op, ea, hbp, hcp⟩ := HP.out.at_ hjl
          subst ea
          have e2 := HF2.out.cellSome (hcp j (B8 li[j]) (by rw [List.getElem?_map, List.getElem?_eq_getElem hjl]; rfl)) (by simp)
          unfold B8 at e2
          have hc : li[j].toNat < 256 := li[j].toNat_lt
          have HC : Hid (acc ++ li.take (j + 1) = (acc ++ li.take j) ++ [li[j]]) := Lib.hid (by rw [List.append_assoc, List.take_succ_eq_append_getElem hjl])
          have HBJ : Hid (B8 li[j] = .int .u8 (li[j].toNat : Nat)) := Lib.hid rfl
          have hlo : (acc ++ li.take j).length ≤ 1099511627776 := by rw [List.length_append, List.length_take]; have := HTOT.out; omega
          have HLO := Lib.hid hlo
          clear hcp hbp hlo
          generalize hcc : li[j].toNat = c at *
          clear hcc
          have hj64 : li.length ≤ 1099511627776 := by have := HTOT.out; omega
          have A0 : Hid ((wr.alloc (.cells #[.int .u8 (c : Int)] 5)).ownsRow w.heap.size 5 1 (.slice ao no co) (acc ++ li.take j).length ((acc ++ li.take j).map B8)) := Lib.hid (Own.keep HO2.out ((Fr.refl [] wr).alloc _))
          have A1 : Hid ((acc ++ li.take j).length + [Value.int .u8 (c : Int)].length ≤ maxLen) := Lib.hid (by have := HLO.out; unfold maxLen; simp only [List.length_singleton]; omega)
          have A2 : Hid (((acc ++ li.take j).length + [Value.int .u8 (c : Int)].length) * 1 ≤ 140737488355328) := Lib.hid (by have := HLO.out; simp only [List.length_singleton]; omega)
          have A3 : Hid (Sl (wr.alloc (.cells #[.int .u8 (c : Int)] 5)) (.slice (some ⟨wr.heap.size, 0, none⟩) 1 1) [.int .u8 (c : Int)]) := Lib.hid (Sl.one wr _ _)
          have A4 : Hid (w.heap.size ≤ (wr.alloc (.cells #[.int .u8 (c : Int)] 5)).heap.size) := Lib.hid (by have := HF2.out.size; simp; omega)
          go_wp2_with (at_builtin; refine wpList_append_slf rfl (.tmp 22) (.tmp 30) 22 rfl w.heap.size 5 (.int .u8 0) 1 Try.underlying22 info_u8 rfl (.slice ao no co) (acc ++ li.take j).length ((acc ++ li.take j).map B8) rfl A0.out (.slice (some ⟨wr.heap.size, 0, none⟩) 1 1) [.int .u8 (c : Int)] rfl A3.out (oneCell_int .u8 (c : Int)) A1.out A2.out A4.out ?_; intro v' w3 ho hg hfr; have HO3 := Lib.hid ho; have HG := Lib.hid hg; clear ho hg hfr)
          have hN : OwnB w3 w.heap.size v' (acc ++ li.take (j + 1)) := by
            have := HO3.out
            unfold OwnB
            rw [HC.out, List.map_append, List.length_append, List.map_cons, List.map_nil, HBJ.out]
            exact this
          have hF3 : Fr [] w w3 := (HF2.out.alloc _).step HG.out (fun x hx => .inr (HO2.out.block x (by simpa using hx)).1)
          have HN := Lib.hid hN; have HF3 := Lib.hid hF3
          clear hN hF3 e1 e2
          go_roundw
          case rel => exact ⟨j + 1, by omega, by go_num, HN.out, HF3.out⟩
          case measure => simp [intOf]; omega
        · obtain rfl : j = li.length := by omega
          go_wp2_with fail
          clear e1
          go_roundw
          case rel =>
            refine ⟨i + 1, by omega, by go_num, ?_, HF2.out⟩
            have := HO2.out
            rw [List.take_of_length_le (Nat.le_refl _)] at this
            rw [HFL.out]
            exact this
          case measure => simp [intOf]; omega
    · obtain rfl : i = ls.length := by omega
      go_wp2_with fail
      go_ret
      refine ⟨_, rfl, ?_, HF.out⟩
      have := HO.out
      rwa [List.take_of_length_le (Nat.le_refl _)] at this
theorem Join_any {w : World} {vs : Value} {vx : List Value} {ls : List (List UInt8)} (h : Sl w vs vx) (hlen : vx.length = ls.length)
    (hb : ∀ (i : Nat) (x : Value) (l : List UInt8), vx[i]? = some x → ls[i]? = some l → Bytes w x l) (hsz : ls.flatten.length ≤ 1099511627776) (hcnt : ls.length ≤ 1099511627776) :
    Calls Try.prog 44 #[vs] w fun e w' => ∃ v', e = .returned v' ∧ Bytes w' v' ls.flatten ∧ Fr [] w w' :=
  (Join_own h hlen hb hsz hcnt).mono fun _ _ ⟨v, h1, h2, h3⟩ => ⟨v, h1, h2.bytes, h3⟩
end Go.Proofs.Yticoongkfhkjgaa
