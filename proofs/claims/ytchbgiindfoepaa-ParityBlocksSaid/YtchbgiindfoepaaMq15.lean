import Derived.Defers
import Derived.Recover
import Derived.Test.YtchbgiindfoepaaMq11
/- The walks of wire.catch, and of wire.guard, Part and Read at packets. -/
namespace Go.Proofs.Ytchbgiindfoepaa
open Go.RowKit

set_option maxHeartbeats 400000 in
theorem catch_fault (b o : Nat) (k x : Int) (older : List PanicEntry) (w : World) (hc : w.cell? ⟨b, o, none⟩ = some (.int .i64 x)) (hz : w.frozen? ⟨b, o, none⟩ = false) :
    CallsD Try.prog 134 #[.pointer (some ⟨b, o, none⟩)] (.panicking ({ v := .iface 194 (.agg #[.int .i64 k]), recovered := false } :: older)) w fun e u' w' =>
      e = .returned (.tuple #[]) ∧ u' = .panicking ({ v := .iface 194 (.agg #[.int .i64 k]), recovered := true } :: older) ∧ w' = (w.setCell ⟨b, o, none⟩ (.int .i64 k)).alloc (.cells #[.int .i64 k] 194) := by
  have hb : b < w.heap.size := World.block_lt_of_cell? _ _ hc
  have hta : ∀ (w : World), (Instr.typeAssert (.iface 194 (.agg #[.int .i64 k])) 20 194 true).run Try.prog w = .ok (.tuple #[.agg #[.int .i64 k], .bool true]) w := fun _ => by kernel_rfl
  refine callsD_of_wpS Try.func134 rfl fun c₀ cs hu => ?_
  apply wpS_seq
  apply wpS_region
  simp [wpOpsS, go_sem, recoverD, hu, Try.ntmps134, Exit.thenS]
  refine wpS_of_wp ?_
  have HU := Lib.hid hu
  clear hu
  simp only [Array.replicate_succ, Array.replicate_zero, List.push_toArray, List.append_toArray, List.nil_append, List.cons_append, List.setIfInBounds_toArray, List.set_cons_succ, List.set_cons_zero]
  go_wp2
  refine ⟨rfl, _, rfl, _, results_none rfl _ _ _, rfl, rfl, rfl⟩

theorem catch_idle (b o : Nat) (w : World) :
    CallsD Try.prog 134 #[.pointer (some ⟨b, o, none⟩)] .returning w fun e u' w' => e = .returned (.tuple #[]) ∧ u' = .returning ∧ w' = w := by
  refine callsD_of_wpS Try.func134 rfl fun c₀ cs hu => ?_
  apply wpS_seq
  apply wpS_region
  simp [wpOpsS, go_sem, recoverD, hu, Try.ntmps134, Exit.thenS]
  refine wpS_of_wp ?_
  go_wp2
  cases c₀
  simp_all [bodyPostS, results, Try.results134]

/-- A function whose two results lie in memory: a struct, and a number. -/
theorem results_row_num {P : Program} {fn : Func} {p q : Tmp} {ty tq : TypeId} (h : fn.results = #[.cell p ty, .cell q tq]) (tmps : Array Value) (w : World) (g gq : Nat) (t : TypeId) (c : Array Value) (d : TypeDesc) (k k' : IntKind) (n : Int)
    (hp : tmps.getD p undef = .pointer (some ⟨g, 0, none⟩)) (hb : Box w g t c) (hu : P.underlying ty = some d) (hd : (match d with | .struct _ | .array _ _ => true | _ => false) = true) (hi : (P.info? ty).map (·.size) = some c.size)
    (hq : tmps.getD q undef = .pointer (some ⟨gq, 0, none⟩)) (hc : w.cell? ⟨gq, 0, none⟩ = some (.int k n)) (huq : P.underlying tq = some (.int k')) :
    (results fn tmps).run P w = .ok (.tuple #[.agg c, .int k n]) w := by
  have hp' : tmps[p]?.getD undef = .pointer (some ⟨g, 0, none⟩) := by simpa using hp
  have hq' : tmps[q]?.getD undef = .pointer (some ⟨gq, 0, none⟩) := by simpa using hq
  have h1 := run_loadVar_row (P := P) w g t ty c (0, 0) d hb hu hd hi
  have h2 : (loadVar tq ⟨gq, 0, none⟩).run P w = .ok (.int k n) w := by
    simp [loadVar, isAgg, Sem.run_bind, run_underlying huq, load, Sem.run, hc]
  simp [results, h, hp', hq', asAddr, h1, h2]

/-- The zero packet's cells. -/
def pz : Array Value := #[.bool false, .int .i64 0, .int .u16 0, .int .u32 0, .int .u32 0, .slice none 0 0, .bool false, .int .u16 0, .slice none 0 0, .slice none 0 0, .slice none 0 0]

set_option maxHeartbeats 1000000 in
theorem guardP_any {w : World} {R : Nat} {v : Value} {l : List UInt8} (hR : Rd w R v 0 l) :
    Calls Try.prog 121 #[.pointer (some ⟨R, 0, none⟩), .func (.func 80) #[] #[]] w fun e w' =>
      (∃ v' p, parseP l = .ok p ∧ e = .returned (.tuple #[v', .int .i64 0]) ∧ PktV w' w.heap.size v' p ∧ Rd w' R v l.length l ∧ Fr [R] w w') ∨
      (∃ k, parseP l = .error k ∧ e = .returned (.tuple #[.agg pz, .int .i64 k]) ∧ Fr [R] w w') := by
  have hRlt : R < w.heap.size := World.block_lt_of_cell? _ _ hR.c0
  go_enter_defers Try.func121, Try.ntmps121
  go_wp2_with fail
  have hF1 := (Fr.refl [] w).alloc (.cells #[.bool false, .int .i64 0, .int .u16 0, .int .u32 0, .int .u32 0, .slice none 0 0, .bool false, .int .u16 0, .slice none 0 0, .slice none 0 0, .slice none 0 0] 88)
  have hB1 := Box.new w 88 #[.bool false, .int .i64 0, .int .u16 0, .int .u32 0, .int .u32 0, .slice none 0 0, .bool false, .int .u16 0, .slice none 0 0, .slice none 0 0, .slice none 0 0]
  generalize hw1 : w.alloc (.cells #[.bool false, .int .i64 0, .int .u16 0, .int .u32 0, .int .u32 0, .slice none 0 0, .bool false, .int .u16 0, .slice none 0 0, .slice none 0 0, .slice none 0 0] 88) = w1 at hF1 hB1 ⊢
  have hs1 : w1.heap.size = w.heap.size + 1 := by rw [← hw1]; simp
  have hF2 := hF1.alloc (.cells #[.int .i64 0] 29)
  have hE2 := Box.new w1 29 #[.int .i64 0]
  have hB2 := hB1.keep ((Fr.refl [] w1).alloc (.cells #[.int .i64 0] 29))
  rw [hs1] at hE2
  generalize hw2 : w1.alloc (.cells #[.int .i64 0] 29) = w2 at hF2 hE2 hB2 ⊢
  clear hw2 hw1 hB1 hF1 hs1
  have hR2 := hR.keep hF2
  have HF2 := Lib.hid hF2; have HE2 := Lib.hid hE2; have HB2 := Lib.hid hB2
  have HRR := Lib.hid hR
  clear hF2 hE2 hB2 hR
  refine (parse_any hR2).mono ?_
  rintro e w3 (⟨v', p, k, hp, rfl, hV, hR3, rfl, hF3⟩ | ⟨k, hp, rfl, hF3⟩)
  · obtain ⟨cs, ex, pl, pd, rfl, hcs, hex, hpl, hpd, hfr⟩ := hV
    have hB3 := HB2.out.fr hF3 (by simp; omega)
    have hE3 := HE2.out.fr hF3 (by simp; omega)
    have hF03 := HF2.out.any.trans hF3
    have hlt2 : w.heap.size + 1 < w2.heap.size := HE2.out.lt
    have H0 := Lib.hid hB3; have H1 := Lib.hid hE3; have H2 := Lib.hid hF03; have H3 := Lib.hid hR3; have H4 := Lib.hid hfr; have HP := Lib.hid hp
    have HC := Lib.hid hcs; have HX := Lib.hid hex; have HL := Lib.hid hpl; have HD := Lib.hid hpd
    clear hB3 hE3 hF03 hR3 hfr hp hF3 hcs hex hpl hpd hR2 HB2 HE2 HF2
    go_wp2_with (refine wpList_store_row rfl 88 (.tmp 4) (.tmp 8) rfl w.heap.size rfl _ _ rfl 88 H0.out (by kernel_rfl) rfl (oneCell_pc _ _ _ _ _ _ _ _ _ _ _ (Sl.isSlice HC.out) (Sl.isSlice HX.out) (Sl.isSlice HL.out) (Sl.isSlice HD.out)) ?_; intro w4 hY hG; have HY := Lib.hid hY; have HG := Lib.hid hG; have HE := Lib.hid (H1.out.fr hG (by simp)); have e0 := HE.out.cell 0; have ef := HE.out.free 0; simp only [List.getElem?_toArray, List.getElem?_cons_zero] at e0; clear hY hG)
    have hE5 := HE.out.set 0 (.int .i64 0)
    have hF5 := (Fr.refl [w.heap.size + 1] w4).set (g := w.heap.size + 1) (i := 0) (.inl (by simp)) (.int .i64 0)
    generalize hw5 : w4.setCell ⟨w.heap.size + 1, 0, none⟩ (.int .i64 0) = w5 at hE5 hF5 ⊢
    have hB5 := HY.out.fr hF5 (by simp)
    refine leaves_cons (f := 134) (args := #[.pointer (some ⟨w.heap.size + 1, 0, none⟩)]) (by simp) (by simp [go_sem]) ?_
    refine (catch_idle (w.heap.size + 1) 0 w5).mono ?_
    rintro e u w6 ⟨rfl, rfl, rfl⟩
    have hF36 := (HG.out.mono (T := [w.heap.size, w.heap.size + 1]) (by simp)).trans (hF5.mono (T := [w.heap.size, w.heap.size + 1]) (by simp))
    have hn : ∀ vv, (∀ b, blockOf vv = some b → w2.heap.size ≤ b) → ∀ b, blockOf vv = some b → b ∉ [w.heap.size, w.heap.size + 1] := fun vv h b hb hm => by have := h b hb; simp at hm; omega
    refine ⟨_, results_row_num rfl _ _ w.heap.size (w.heap.size + 1) 88 _ _ .i64 .i64 0 rfl hB5 Try.underlying88 rfl (by kernel_rfl) rfl (hE5.cell 0) Try.underlying29, .inl ⟨_, p, HP.out, rfl, ⟨cs, ex, pl, pd, rfl, ?_, ?_, ?_, ?_, fun b h => by have := H4.out b h; omega⟩, ?_, ?_⟩⟩
    · exact HC.out.fr hF36 (hn _ (fun b h => H4.out b (.inl h)))
    · exact HX.out.fr hF36 (hn _ (fun b h => H4.out b (.inr (.inl h))))
    · exact HL.out.fr hF36 (hn _ (fun b h => H4.out b (.inr (.inr (.inl h)))))
    · exact HD.out.fr hF36 (hn _ (fun b h => H4.out b (.inr (.inr (.inr h)))))
    · exact H3.out.fr hF36 (by simp; omega) (fun b hb hm => by have := HRR.out.vlt b hb; simp at hm; omega)
    · exact H2.out.step hF36 (by simp)
  · have hB3 := HB2.out.fr hF3 (by simp; omega)
    have hE3 := HE2.out.fr hF3 (by simp; omega)
    have hF03 := HF2.out.any.trans hF3
    refine leaves_cons (f := 134) (args := #[.pointer (some ⟨w.heap.size + 1, 0, none⟩)]) (by simp) (by simp [go_sem]) ?_
    refine (catch_fault (w.heap.size + 1) 0 k 0 [] w3 (hE3.cell 0) (hE3.free 0)).mono ?_
    rintro e u w6 ⟨rfl, rfl, rfl⟩
    have hF6 := ((Fr.refl [w.heap.size + 1] w3).set (g := w.heap.size + 1) (i := 0) (.inl (by simp)) (.int .i64 k)).alloc (.cells #[.int .i64 k] 194)
    have hE6 := (hE3.set 0 (.int .i64 k)).keep ((Fr.refl [] _).alloc (.cells #[.int .i64 k] 194))
    have hB6 := hB3.fr hF6 (by simp)
    exact ⟨_, results_row_num rfl _ _ w.heap.size (w.heap.size + 1) 88 _ _ .i64 .i64 k rfl hB6 Try.underlying88 rfl (by kernel_rfl) rfl (hE6.cell 0) Try.underlying29, .inr ⟨k, hp, rfl, hF03.step hF6 (by simp)⟩⟩
end Go.Proofs.Ytchbgiindfoepaa
