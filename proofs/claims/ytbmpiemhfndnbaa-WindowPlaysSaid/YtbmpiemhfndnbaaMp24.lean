import Derived.OpenShut
import Derived.Deep.Fields
import Derived.Test.YtbmpiemhfndnbaaMp23
import Derived.Test.YtbmpiemhfndnbaaMp7
/- The steps of package confluxlaw21, as elements of a slice; opened out of a law's arguments. -/
namespace Go.Proofs.Ytbmpiemhfndnbaa
open Go.RowKit Go.ChangeShapes Go.WideShapes Go.Deep

structure Op21_ where
  out : Bool
  q : UInt16
  now : Int
instance : Inhabited Op21_ := ⟨⟨false, 0, 0⟩⟩
abbrev opc (o : Op21_) : Array Value := #[.bool o.out, .int .u16 (o.q.toNat : Nat), .int .i64 o.now]
def OpR (_ : World) (c : List Value) (o : Op21_) (B : List Nat) : Prop := c = (opc o).toList ∧ B = [] ∧ -9223372036854775808 ≤ o.now ∧ o.now < 9223372036854775808
theorem Rep.op : Rep 3 OpR where
  len := by rintro w c y B ⟨rfl, -⟩; rfl
  one := by rintro w c y B ⟨rfl, -⟩ u hu; simp at hu; rcases hu with rfl | rfl | rfl <;> rfl
  lt := by rintro w c y B ⟨-, rfl, -⟩ b hb; cases hb
  fr := by rintro w w' c y B S ⟨rfl, rfl, h⟩ _ _; exact ⟨rfl, rfl, h⟩
/-- Elements that lean on no blocks, read cell by cell. -/
theorem Els.of_cells {w : World} {ops : List Op21_} (h : ∀ o ∈ ops, -9223372036854775808 ≤ o.now ∧ o.now < 9223372036854775808) : Els OpR ops w (ops.flatMap fun o => (opc o).toList) [] := by
  induction ops with
  | nil => exact ⟨rfl, rfl⟩
  | cons o ops ih => exact ⟨(opc o).toList, _, [], [], rfl, rfl, ⟨rfl, rfl, h o (by simp)⟩, ih fun p hp => h p (by simp [hp])⟩
theorem flat_at {ops : List Op21_} : ∀ {i : Nat} {x : Value}, (ops.flatMap fun o => (opc o).toList)[i]? = some x → ∃ (k j : Nat) (o : Op21_), i = k * 3 + j ∧ ops[k]? = some o ∧ (opc o).toList[j]? = some x := by
  induction ops with
  | nil => intro i x h; simp at h
  | cons o ops ih =>
    intro i x h
    rw [List.flatMap_cons] at h
    by_cases hi : i < 3
    · rw [List.getElem?_append_left (by simpa using hi)] at h
      exact ⟨0, i, o, by omega, rfl, h⟩
    · rw [List.getElem?_append_right (by simp; omega)] at h
      obtain ⟨k, j, p, e, h1, h2⟩ := ih h
      refine ⟨k + 1, j, p, ?_, h1, h2⟩
      simp at e
      omega

section
variable {H : Type} {enc : TypeId × Value → H} {w : World} {base b0 : Nat}
set_option maxRecDepth 100000 in
theorem open_ops21 {fuel : Nat} {v : Value} {x : DataW H × List MemPlace} (h : DataW.trod enc Try.prog w base (fun _ => true) true fuel 22 [v] = some x) : ∃ ops : List Op21_, SlEls 3 OpR w v ops [] := by
  have hc : Try.prog.cellsOf 32 = 3 := by kernel_rfl
  have c1 : Try.prog.cellsOf 4 = 1 := by kernel_rfl
  have c2 : Try.prog.cellsOf 30 = 1 := by kernel_rfl
  have c3 : Try.prog.cellsOf 2 = 1 := by kernel_rfl
  rcases open_slice Try.underlying22 h with ⟨hcs, _⟩ | ⟨a, len, cap, m, n, D, Pl, hcs, _, hl, hm, hmm, _, hx⟩
  · simp only [List.cons.injEq, and_true] at hcs
    subst hcs
    exact ⟨[], SlEls.nil w⟩
  · simp only [List.cons.injEq, and_true] at hcs
    subst hcs
    simp only [if_true] at hmm
    subst hmm
    rw [hc] at hx
    have each : ∀ i, i < m → ∃ y : Op21_, (-9223372036854775808 ≤ y.now ∧ y.now < 9223372036854775808) ∧ w.cell? (a.add (i * 3)) = some (.bool y.out) ∧ w.cell? ((a.add (i * 3)).add 1) = some (.int .u16 (y.q.toNat : Nat)) ∧ w.cell? ((a.add (i * 3)).add 2) = some (.int .i64 y.now) := by
      intro i hi
      obtain ⟨cs, hcs, ht⟩ := hx i hi
      obtain ⟨_, hlen, hat⟩ := World.cells?_some hcs
      match cs, hlen with
      | [e0, e1, e2], _ =>
        obtain ⟨xs, n', _, _, _, hlen2, hg⟩ := DataW.trod_struct Try.underlying32 ht
        match xs, hlen2 with
        | [y0, y1, y2], _ =>
          have g0 := hg 0 _ rfl; have g1 := hg 1 _ rfl; have g2 := hg 2 _ rfl
          simp [c1, c2, c3] at g0 g1 g2
          obtain ⟨z0, q0, -⟩ := DataW.trod_bool Try.underlying4 g0
          obtain ⟨n1, q1, -, r1⟩ := DataW.trod_int Try.underlying30 g1
          obtain ⟨n2, q2, -, r2⟩ := DataW.trod_int Try.underlying2 g2
          simp only [List.cons.injEq, and_true] at q0 q1 q2
          subst q0 q1 q2
          have k0 := hat 0 (by omega); have k1 := hat 1 (by omega); have k2 := hat 2 (by omega)
          have B16 : (((UInt16.ofNat n1.toNat).toNat : Nat) : Int) = n1 := by have := wf_u16 r1; rw [UInt16.toNat_ofNat']; omega
          refine ⟨⟨z0, UInt16.ofNat n1.toNat, n2⟩, ?_, ?_, ?_, ?_⟩
          · simp [Lit.wf, IntKind.min, IntKind.max, IntKind.signed, IntKind.bits] at r2; exact ⟨by show -9223372036854775808 ≤ n2; omega, by show n2 < 9223372036854775808; omega⟩
          · simpa [Addr.add] using k0
          · simp only [B16]; simpa using k1
          · simpa using k2
    obtain ⟨Y, hY⟩ := choose_lt each
    refine ⟨(List.range len).map Y, ((List.range len).map Y).flatMap fun o => (opc o).toList, some a, m, by simp, by simpa using hl, hm, (fun h => by cases h), Els.of_cells (fun o ho => ?_), fun p hp h0 => ?_⟩
    · obtain ⟨i, hi, rfl⟩ := List.mem_map.1 ho
      exact (hY i (by have := List.mem_range.1 hi; omega)).1
    · cases hp
      obtain ⟨-, k0, _⟩ := hY 0 h0
      have h1 := cell_addr k0
      obtain ⟨ab, ao, asp⟩ := a
      have e0 : (⟨ab, ao, asp⟩ : Addr).add (0 * 3) = ⟨ab, ao, asp⟩ := by simp [Addr.add]
      rw [e0] at h1
      obtain ⟨hs, hb⟩ := h1
      simp only at hs hb
      subst hs
      have hadd : ∀ o i, (⟨ab, o, none⟩ : Addr).add i = ⟨ab, o + i, none⟩ := fun o i => by unfold Addr.add; split <;> simp_all
      refine ⟨rfl, hb, fun i x hx => ?_⟩
      obtain ⟨k, j, o, rfl, h1, h2⟩ := flat_at hx
      have hk : k < len := by
        have := (List.getElem?_eq_some_iff.1 h1).1
        simpa using this
      rw [List.getElem?_map, List.getElem?_range hk] at h1
      simp only [Option.map_some, Option.some.injEq] at h1
      obtain ⟨-, g0, g1, g2⟩ := hY k (by omega)
      rw [hadd] at g0
      rw [hadd, hadd] at g1 g2
      rw [h1] at g0 g1 g2
      match j, h2 with
      | 0, h2 => simp at h2; subst h2; exact g0
      | 1, h2 => simp at h2; subst h2; exact g1
      | 2, h2 => simp at h2; subst h2; exact g2
set_option maxRecDepth 100000 in
theorem open_ops21_arg {v : Value} {d : DataW H} {ps : List MemPlace} (hok : Value.okWide Try.prog w .any b0 22 v) (h : DataW.Trod enc Try.prog w base (fun _ => true) true 22 v d ps) : ∃ ops : List Op21_, SlEls 3 OpR w v ops [] := by
  obtain ⟨a, len, cap, rfl⟩ := okWide_slice Try.underlying22 hok
  obtain ⟨fuel, hf⟩ := h
  exact open_ops21 hf
end
end Go.Proofs.Ytbmpiemhfndnbaa
