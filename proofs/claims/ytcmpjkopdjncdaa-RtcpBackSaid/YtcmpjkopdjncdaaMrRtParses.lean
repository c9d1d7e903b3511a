/- The walk of RtcpParses (printed by gen_rtparses.py). -/
import Derived.Test.YtcmpjkopdjncdaaMr42
import Derived.Test.YtcmpjkopdjncdaaMr40
import Derived.Test.YtcmpjkopdjncdaaMr34
import Derived.Test.YtcmpjkopdjncdaaMr17
namespace Go.Proofs.Ytcmpjkopdjncdaa
open Go.RowKit

theorem all_hyps {xs : List Itm} (h : ∀ x ∈ xs, Sz7 x) : ∀ x ∈ xs, (∀ c ∈ x.chks, c.texts.length ≤ 5864062014805) ∧ x.reps.length ≤ 1099511000000 ∧ x.chks.length ≤ 1099511000000 ∧ x.srcs.length ≤ 1099511000000 := fun x hx => ⟨fun c hc => by have := (h x hx).texts c hc; omega, (h x hx).n⟩
/-- What both Parse functions answer, as one. -/
def pRes7 (l : List UInt8) (w : World) (e : Ending) (w' : World) : Prop :=
  ∃ xs au cu B c, (match parse7 l with | .ok ys => c = 0 ∧ xs = ys | .error k => c = k ∧ xs = []) ∧ e = .returned (.tuple #[.slice au xs.length cu, .int .i64 c]) ∧ SlEls 10 ItR w' (.slice au xs.length cu) xs B ∧ Fr [] w w' ∧ (∀ x ∈ xs, Sz7 x) ∧ xs.length ≤ 1500
set_option maxRecDepth 100000 in
set_option maxHeartbeats 8000000 in
theorem tParse_res {w : World} {v : Value} {l : List UInt8} (hl : Bytes w v l) : Calls Try.prog 10 #[v] w (pRes7 l w) := by
  refine (tParse_any hl).mono ?_
  rintro e w' (⟨xs, u, B, hp, rfl, hO, -, hF⟩ | ⟨c, hp, -, rfl, hF⟩)
  · obtain ⟨au, cu, rfl⟩ := hO.shape
    exact ⟨xs, au, cu, B, 0, by rw [hp]; exact ⟨rfl, rfl⟩, rfl, hO.sl, hF, (parse7_back hp).2.2.2.1, parse7_len hp⟩
  · exact ⟨[], none, 0, [], c, by rw [hp]; exact ⟨rfl, rfl⟩, rfl, SlEls.nil _, hF, by simp, by simp⟩
set_option maxRecDepth 100000 in
set_option maxHeartbeats 8000000 in
theorem r07Parse_res {w : World} {v : Value} {l : List UInt8} (hl : Bytes w v l) : Calls Try.prog 11 #[v] w (pRes7 l w) := by
  refine (r07Parse_any hl).mono ?_
  rintro e w' (⟨xs, u, B, hp, rfl, hO, -, hF⟩ | ⟨c, hp, -, rfl, hF⟩)
  · obtain ⟨au, cu, rfl⟩ := hO.shape
    exact ⟨xs, au, cu, B, 0, by rw [hp]; exact ⟨rfl, rfl⟩, rfl, hO.sl, hF, (parse7_back hp).2.2.2.1, parse7_len hp⟩
  · exact ⟨[], none, 0, [], c, by rw [hp]; exact ⟨rfl, rfl⟩, rfl, SlEls.nil _, hF, by simp, by simp⟩
set_option maxRecDepth 100000 in
set_option maxHeartbeats 8000000 in
theorem RtcpParses_any {w : World} {v : Value} {l : List UInt8} (hl : Bytes w v l) : Calls Try.prog 3 #[v] w fun e w' => e = .returned (.bool true) ∧ Fr [] w w' := by
  obtain ⟨a, cap, rfl⟩ := hl.shape
  simp only [List.length_map] at hl ⊢
  have HL := Lib.hid hl
  clear hl
  obtain ⟨n, hn⟩ : ∃ n, l.length = n := ⟨_, rfl⟩
  rw [hn] at HL ⊢
  have HN := Lib.hid hn
  clear hn
  go_enter Try.func3, Try.ntmps3
  go_wp2_with fail
  refine l07alive_any.mono ?_
  rintro e w1 ⟨rfl, hF⟩
  have HF := Lib.hid hF; have HL := Lib.hid (Sl.keep HL.out hF)
  clear hF
  by_cases hn : n ≤ 3000
  · have t0 : ¬ ((3000 : Int) < (n : Int)) := by omega
    have HM : Hid (n ≤ 3000) := Lib.hid hn
    clear hn
    go_wp2_with fail
    clear t0
    refine (RCopy_any HL.out (by have := HN.out; have := HM.out; omega)).mono ?_
    rintro e w2 ⟨vo, rfl, hO, hF⟩
    obtain ⟨ao, no, co, rfl⟩ := hO.isSlice
    have HO := Lib.hid hO.bytes; have HL := Lib.hid (Sl.keep HL.out hF); have HF := Lib.hid (HF.out.trans hF)
    clear hO hF
    go_wp2_with fail
    refine (tParse_res HO.out).mono ?_
    rintro e w3 ⟨xs, ax, cx, Bx, c, hc, rfl, hX, hF, hz, hm⟩
    have HX := Lib.hid hX; have HO := Lib.hid (Sl.keep HO.out hF); have HL := Lib.hid (Sl.keep HL.out hF); have HF := Lib.hid (HF.out.trans hF); have HZ := Lib.hid hz; have HXM := Lib.hid hm; have HC := Lib.hid hc
    clear hc hX hF hz hm
    go_wp2_with fail
    refine (r07Parse_res HL.out).mono ?_
    rintro e w4 ⟨ys, ay, cy, By, d, hc, rfl, hY, hF, hz, hm⟩
    have hcd : ys = xs ∧ d = c := by
      have h1 := HC.out
      revert h1 hc
      cases parse7 l with
      | ok zs => exact fun h1 h2 => ⟨h1.2.trans h2.2.symm, h1.1.trans h2.1.symm⟩
      | error k => exact fun h1 h2 => ⟨h1.2.trans h2.2.symm, h1.1.trans h2.1.symm⟩
    obtain ⟨rfl, rfl⟩ := hcd
    have HY := Lib.hid hY; have HX := Lib.hid (HX.out.keep Rep.itm hF); have HO := Lib.hid (Sl.keep HO.out hF); have HL := Lib.hid (Sl.keep HL.out hF); have HF := Lib.hid (HF.out.trans hF)
    clear hc hY hF hz hm
    go_wp2_with fail
    refine (l07all_any HX.out (all_hyps HZ.out) (by have := HXM.out; omega)).mono ?_
    rintro e w5 ⟨u, Bu, rfl, hU, hF⟩
    have HU := Lib.hid hU.sl; have HY := Lib.hid (HY.out.keep Rep.itm hF); have HO := Lib.hid (Sl.keep HO.out hF); have HL := Lib.hid (Sl.keep HL.out hF); have HF := Lib.hid (HF.out.trans hF)
    clear hU hF
    go_wp2_with fail
    refine (l07same_any HU.out HY.out HZ.out HZ.out (by have := HXM.out; omega) (by have := HXM.out; omega)).mono ?_
    rintro e w6 ⟨rfl, hF⟩
    have HO := Lib.hid (Sl.keep HO.out hF); have HL := Lib.hid (Sl.keep HL.out hF); have HF := Lib.hid (HF.out.trans hF)
    clear hF
    simp only [beq_self_eq_true]
    go_wp2_with fail
    refine (RSame_any HO.out HL.out (by have := HN.out; have := HM.out; omega) (by have := HN.out; have := HM.out; omega)).mono ?_
    rintro e w7 ⟨rfl, hF⟩
    have HF := Lib.hid (HF.out.trans hF)
    clear hF
    simp only [beq_self_eq_true]
    go_wp2_with fail
    go_ret
    exact ⟨rfl, HF.out⟩
  · have t0 : (3000 : Int) < (n : Int) := by omega
    clear hn
    go_wp2_with fail
    go_ret
    exact ⟨rfl, HF.out⟩
end Go.Proofs.Ytcmpjkopdjncdaa
