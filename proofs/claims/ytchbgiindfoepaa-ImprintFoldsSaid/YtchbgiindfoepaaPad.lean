/- The walk of rtp.padding. -/
import Derived.Test.YtchbgiindfoepaaRtpRead
import Derived.Deep.RegionHeld3
import Derived.Deep.RegionWith
namespace Go.Proofs.Ytchbgiindfoepaa
open Go.RowKit

/-- How many bytes of padding the last byte tells. -/
def padN (l : List UInt8) : Nat := (l.getLast?.map (·.toNat)).getD 0

set_option maxHeartbeats 1000000 in
theorem padding_ok {w : World} (R Q : Nat) {m : Bool} {pt : Int} {sq ts ss pf : Nat} {cs ex pd : Value} {he : Bool} {a : Option Addr} {cap : Nat} {l : List UInt8}
    (hB : Box w Q 88 (pc m pt sq ts ss cs he pf ex (.slice a l.length cap) pd)) (hs : Bytes w (.slice a l.length cap) l) (hsm : l.length ≤ 1099511627776) (hQ : blockOf (.slice a l.length cap) ≠ some Q) (h1 : 1 ≤ padN l) (h2 : padN l ≤ l.length) :
    Calls Try.prog 107 #[.pointer (some ⟨R, 0, none⟩), .pointer (some ⟨Q, 0, none⟩)] w fun e w' => ∃ v1 v2, e = .returned (.tuple #[]) ∧
      Box w' Q 88 (pc m pt sq ts ss cs he pf ex v1 v2) ∧ Bytes w' v1 (l.take (l.length - padN l)) ∧ blockOf v1 = blockOf (.slice a l.length cap) ∧ OwnB w' w.heap.size v2 (l.drop (l.length - padN l)) ∧ Fr [Q] w w' := by
  have hne : 0 < l.length := by omega
  obtain ⟨b, o, rfl, hb, hcell⟩ := hs.at_ hne
  have hlast : l[l.length - 1]? = some (l[l.length - 1]'(by omega)) := List.getElem?_eq_getElem _
  have hc := hcell (l.length - 1) (B8 (l[l.length - 1]'(by omega))) (by rw [List.getElem?_map, hlast]; rfl)
  have hp : padN l = (l[l.length - 1]'(by omega)).toNat := by
    unfold padN
    rw [List.getLast?_eq_getElem?, hlast]
    rfl
  unfold B8 at hc
  rw [← hp] at hc
  have hlt : padN l ≤ 255 := by rw [hp]; have := (l[l.length - 1]'(by omega)).toNat_lt; omega
  have HP := Lib.hid hp; have HB := Lib.hid hB; have HS := Lib.hid hs
  have b9 := hB.cell 9; have b10 := hB.cell 10; have f9 := hB.free 9; have f10 := hB.free 10
  simp only [pc, List.getElem?_toArray, List.getElem?_cons_succ, List.getElem?_cons_zero] at b9 b10
  have hlc : l.length ≤ cap := (hs.len).2.1
  have hz : (((padN l : Nat) : Int) == 0) = false := by simp; omega
  clear hp hB hs hcell hlast
  generalize hpn : padN l = n at *
  have HN := Lib.hid hpn
  clear hpn
  go_enter Try.func107, Try.ntmps107
  go_wp2_with fail
  go_quiet (fail)
  go_wp2_with fail
  rw [show ((l.length : Int) - (n : Int)) = ((l.length - n : Nat) : Int) from by omega]
  generalize hK : l.length - n = K
  have HK := Lib.hid hK
  have hKl : K ≤ l.length := by omega
  have hKc : K ≤ cap := by omega
  have HS2 := Lib.hid (Sl.sub' HS.out K (l.length - K) (by omega))
  clear hK hc hz
  have HS3 := Lib.hid (HS2.out.keep ((Fr.refl [] w).drewN nq))
  have HB3 := Lib.hid (HB.out.keep ((Fr.refl [] w).drewN nq))
  have HF3 := Lib.hid ((Fr.refl [Q] w).drewN nq)
  have hQlt : Q < w.heap.size := HB.out.lt
  generalize hw3 : w.drewN nq = w3 at HS3 HB3 HF3 ⊢
  clear hw3
  have b9 := HB3.out.cell 9; have b10 := HB3.out.cell 10; have f9 := HB3.out.free 9; have f10 := HB3.out.free 10
  simp only [pc, List.getElem?_toArray, List.getElem?_cons_succ, List.getElem?_cons_zero] at b9 b10
  have e1 : ((l.map B8).drop K).take (l.length - K) = (l.drop K).map B8 := by rw [List.take_of_length_le (by simp), List.map_drop]
  rw [e1] at HS3
  have hcl := Lib.hid (fun (w' : World) (hf : Fr [] w3 w') => cloneB_any (w := w') (l := l.drop K) (HS3.out.keep hf) (by simp; omega))
  clear e1
  go_region_with
    (first | (go_at_call 81; refine (hcl.out _ (Fr.refl _ _).drew).mono ?_; rintro e w4 ⟨v2, rfl, hO, hF4⟩; obtain ⟨a4, n4, c4, rfl⟩ := hO.isSlice; have HO := Lib.hid hO; have HF4 := Lib.hid ((Fr.refl [] w3).drew.trans hF4); clear hO hF4; have HB4 := Lib.hid (HB3.out.keep HF4.out); have c9 := HB4.out.cell 9; have c10 := HB4.out.cell 10; have g9 := HB4.out.free 9; have g10 := HB4.out.free 10; simp only [pc, List.getElem?_toArray, List.getElem?_cons_succ, List.getElem?_cons_zero] at c9 c10; generalize (if cap = K then (some ⟨b, o, none⟩ : Option Addr) else some ⟨b, o + K, none⟩) = q))
  all_goals
    go_wp2_with fail
    go_end0
    have hF5 : Fr [Q] w4 ((w4.setCell ⟨Q, 9, none⟩ (.slice (some ⟨b, o, none⟩) K K)).setCell ⟨Q, 10, none⟩ (.slice a4 n4 c4)) := ((Fr.refl [Q] w4).set (g := Q) (i := 9) (.inl (by simp)) _).set (g := Q) (i := 10) (.inl (by simp)) _
    have hsz : w.heap.size ≤ w3.heap.size := HF3.out.size
    refine ⟨.slice (some ⟨b, o, none⟩) K K, .slice a4 n4 c4, rfl, (HB4.out.set 9 _).set 10 _, ?_, rfl, ?_, (HF3.out.quiet HF4.out).trans hF5⟩
    · rw [HK.out]
      have h4 : Sl w4 (.slice (some ⟨b, o, none⟩) l.length cap) (l.map B8) := (Sl.fr HS.out (HF3.out.quiet HF4.out) (fun b' hb' hm => hQ (by simp at hm; rw [hb', hm])))
      have h5 := (h4.fr hF5 (fun b' hb' hm => hQ (by simp at hm; rw [hb', hm]))).pre K K hKl (Nat.le_refl _) hKc
      rw [← List.map_take] at h5
      exact h5
    · rw [HK.out]
      have h6 : OwnB w4 w.heap.size (.slice a4 n4 c4) (l.drop K) := HO.out.mono (by simpa using hsz)
      exact h6.low hF5 (by simp; omega)

set_option maxHeartbeats 400000 in
theorem padding_none {w : World} (R Q : Nat) {m : Bool} {pt : Int} {sq ts ss pf : Nat} {cs ex pd : Value} {he : Bool} {a : Option Addr} {cap : Nat} 
    (hB : Box w Q 88 (pc m pt sq ts ss cs he pf ex (.slice a 0 cap) pd)) :
    Calls Try.prog 107 #[.pointer (some ⟨R, 0, none⟩), .pointer (some ⟨Q, 0, none⟩)] w fun e w' => e = .panicked (faultOf 21) ∧ ∃ n, w' = w.drewN n := by
  have b9 := hB.cell 9
  simp only [pc, List.getElem?_toArray, List.getElem?_cons_succ, List.getElem?_cons_zero] at b9
  clear hB
  go_enter Try.func107, Try.ntmps107
  go_wp2_with fail
  refine (fail_any _ 21 (by decide) _).mono ?_
  rintro e w1 ⟨rfl, rfl⟩
  exact ⟨rfl, rfl, 0, rfl⟩

set_option maxHeartbeats 1000000 in
theorem padding_bad {w : World} (R Q : Nat) {m : Bool} {pt : Int} {sq ts ss pf : Nat} {cs ex pd : Value} {he : Bool} {a : Option Addr} {cap : Nat} {l : List UInt8}
    (hB : Box w Q 88 (pc m pt sq ts ss cs he pf ex (.slice a l.length cap) pd)) (hs : Bytes w (.slice a l.length cap) l) (hsm : l.length ≤ 1099511627776) (h2 : padN l = 0 ∨ l.length < padN l) :
    Calls Try.prog 107 #[.pointer (some ⟨R, 0, none⟩), .pointer (some ⟨Q, 0, none⟩)] w fun e w' => e = .panicked (faultOf 21) ∧ ∃ n, w' = w.drewN n := by
  by_cases h0 : l.length = 0
  · rw [h0] at hB
    exact padding_none R Q hB
  have hne : 0 < l.length := by omega
  obtain ⟨b, o, rfl, hb, hcell⟩ := hs.at_ hne
  have hlast : l[l.length - 1]? = some (l[l.length - 1]'(by omega)) := List.getElem?_eq_getElem _
  have hc := hcell (l.length - 1) (B8 (l[l.length - 1]'(by omega))) (by rw [List.getElem?_map, hlast]; rfl)
  have hp : padN l = (l[l.length - 1]'(by omega)).toNat := by
    unfold padN
    rw [List.getLast?_eq_getElem?, hlast]
    rfl
  unfold B8 at hc
  rw [← hp] at hc
  have hlt : padN l ≤ 255 := by rw [hp]; have := (l[l.length - 1]'(by omega)).toNat_lt; omega
  have b9 := hB.cell 9
  simp only [pc, List.getElem?_toArray, List.getElem?_cons_succ, List.getElem?_cons_zero] at b9
  clear hp hB hs hcell hlast h0
  generalize padN l = n at *
  rcases h2 with rfl | h2
  all_goals
    go_enter Try.func107, Try.ntmps107
    go_wp2_with fail
    go_quiet (fail)
  · go_wp2_with fail
    refine (fail_any _ 21 (by decide) _).mono ?_
    rintro e w1 ⟨rfl, rfl⟩
    exact ⟨rfl, rfl, _, rfl⟩
  · have hz : ((n : Int) == 0) = false := by simp; omega
    go_wp2_with fail
    refine (fail_any _ 21 (by decide) _).mono ?_
    rintro e w1 ⟨rfl, rfl⟩
    exact ⟨rfl, rfl, _, rfl⟩
end Go.Proofs.Ytchbgiindfoepaa
