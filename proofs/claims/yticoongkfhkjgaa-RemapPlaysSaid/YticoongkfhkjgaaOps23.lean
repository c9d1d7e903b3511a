/- Steps of package confluxlaw23: slices of structs of a truth and bytes; opened out of a law's arguments; and the walk of small. -/
import Derived.Test.YticoongkfhkjgaaRows2
import Derived.Test.YticoongkfhkjgaaRef1
import Derived.Deep.Fields
namespace Go.Proofs.Yticoongkfhkjgaa
open Go.RowKit Go.ChangeShapes Go.WideShapes Go.Deep

/-- The slice v has elements of two cells: a truth and a slice of bytes. -/
def Ops23 (w : World) (v : Value) (ops : List (Bool × List UInt8)) : Prop :=
  ∃ a cap, v = .slice a ops.length cap ∧ ops.length ≤ cap ∧ cap ≤ maxLen ∧ (a = none → cap = 0) ∧
    ∀ p, a = some p → 0 < cap → p.spot = none ∧ p.block < w.heap.size ∧ ∀ (k : Nat) (sw : Bool) (l : List UInt8), ops[k]? = some (sw, l) →
      ∃ x, w.cell? ⟨p.block, p.off + k * 2, none⟩ = some (.bool sw) ∧ w.cell? ⟨p.block, p.off + k * 2 + 1, none⟩ = some x ∧ Bytes w x l
theorem Ops23.shape {w : World} {v : Value} {ops : List (Bool × List UInt8)} (h : Ops23 w v ops) : ∃ a c, v = .slice a ops.length c := by
  obtain ⟨a, cap, e, _⟩ := h
  exact ⟨a, cap, e⟩
theorem Ops23.len {w : World} {a : Option Addr} {n cap : Nat} {ops : List (Bool × List UInt8)} (h : Ops23 w (.slice a n cap) ops) : n = ops.length ∧ n ≤ cap ∧ cap ≤ maxLen := by
  obtain ⟨a', cap', e, h1, h2, _⟩ := h
  simp only [Value.slice.injEq] at e
  obtain ⟨rfl, rfl, rfl⟩ := e
  exact ⟨rfl, h1, h2⟩
theorem Ops23.keep {w w' : World} {v : Value} {ops : List (Bool × List UInt8)} (h : Ops23 w v ops) (hf : Fr [] w w') : Ops23 w' v ops := by
  obtain ⟨a, cap, e, h1, h2, h3, h4⟩ := h
  refine ⟨a, cap, e, h1, h2, h3, fun p hp h0 => ?_⟩
  obtain ⟨g1, g2, g3⟩ := h4 p hp h0
  refine ⟨g1, Nat.lt_of_lt_of_le g2 hf.size, fun k sw l hk => ?_⟩
  obtain ⟨x, c1, c2, c3⟩ := g3 k sw l hk
  exact ⟨x, hf.cellSome c1 (by simp), hf.cellSome c2 (by simp), Sl.keep c3 hf⟩
theorem Ops23.at_ {w : World} {a : Option Addr} {n cap : Nat} {ops : List (Bool × List UInt8)} (h : Ops23 w (.slice a n cap) ops) {k : Nat} (hk : k < n) :
    ∃ b o sw l x, a = some ⟨b, o, none⟩ ∧ b < w.heap.size ∧ ops[k]? = some (sw, l) ∧ w.cell? ⟨b, o + k * 2, none⟩ = some (.bool sw) ∧ w.cell? ⟨b, o + k * 2 + 1, none⟩ = some x ∧ Bytes w x l := by
  obtain ⟨a', cap', e, h1, h2, h3, h4⟩ := h
  simp only [Value.slice.injEq] at e
  obtain ⟨rfl, rfl, rfl⟩ := e
  cases a with
  | none => have := h3 rfl; omega
  | some p =>
    obtain ⟨g1, g2, g3⟩ := h4 p rfl (by omega)
    obtain ⟨b, o, s⟩ := p
    simp only at g1
    subst g1
    have e1 : ops[k]? = some ops[k] := List.getElem?_eq_getElem hk
    obtain ⟨x, c1, c2, c3⟩ := g3 k ops[k].1 ops[k].2 e1
    exact ⟨b, o, ops[k].1, ops[k].2, x, rfl, g2, e1, c1, c2, c3⟩

section
variable {H : Type} {enc : TypeId × Value → H} {w : World} {base : Nat}
set_option maxRecDepth 100000 in
theorem open_ops23 {fuel : Nat} {v : Value} {x : DataW H × List MemPlace} (h : DataW.trod enc Try.prog w base (fun _ => true) true fuel 83 [v] = some x) : ∃ ops : List (Bool × List UInt8), Ops23 w v ops := by
  have hc : Try.prog.cellsOf 91 = 2 := by kernel_rfl
  have c1 : Try.prog.cellsOf 4 = 1 := by kernel_rfl
  have c2 : Try.prog.cellsOf 22 = 1 := by kernel_rfl
  rcases open_slice Try.underlying83 h with ⟨hcs, _⟩ | ⟨a, len, cap, m, n, D, Pl, hcs, _, hl, hm, hmm, _, hx⟩
  · simp only [List.cons.injEq, and_true] at hcs
    subst hcs
    exact ⟨[], none, 0, rfl, by simp, by unfold maxLen; omega, fun _ => rfl, fun p hp => by cases hp⟩
  · simp only [List.cons.injEq, and_true] at hcs
    subst hcs
    simp only [if_true] at hmm
    subst hmm
    rw [hc] at hx
    have each : ∀ i, i < m → ∃ y : Bool × List UInt8, ∃ u, w.cell? (a.add (i * 2)) = some (.bool y.1) ∧ w.cell? ((a.add (i * 2)).add 1) = some u ∧ Bytes w u y.2 := by
      intro i hi
      obtain ⟨cs, hcs, ht⟩ := hx i hi
      obtain ⟨_, hlen, hat⟩ := World.cells?_some hcs
      match cs, hlen with
      | [e0, e1], _ =>
        obtain ⟨xs, n', _, _, _, hlen2, hg⟩ := DataW.trod_struct Try.underlying91 ht
        match xs, hlen2 with
        | [y0, y1], _ =>
          have g0 := hg 0 _ rfl; have g1 := hg 1 _ rfl
          simp [c1, c2] at g0 g1
          obtain ⟨z0, q0, -⟩ := DataW.trod_bool Try.underlying4 g0
          obtain ⟨l, hl⟩ := open_u8s' g1
          simp only [List.cons.injEq, and_true] at q0
          subst q0
          have k0 := hat 0 (by omega); have k1 := hat 1 (by omega)
          refine ⟨(z0, l), e1, ?_, ?_, hl⟩
          · simpa [Addr.add] using k0
          · simpa using k1
    obtain ⟨Y, hY⟩ := choose_lt each
    refine ⟨(List.range len).map Y, some a, m, by simp, by simpa using hl, hm, (fun h => by cases h), fun p hp h0 => ?_⟩
    cases hp
    obtain ⟨u0, k0, _⟩ := hY 0 h0
    have h1 := cell_addr k0
    obtain ⟨ab, ao, asp⟩ := a
    have e0 : (⟨ab, ao, asp⟩ : Addr).add (0 * 2) = ⟨ab, ao, asp⟩ := by simp [Addr.add]
    rw [e0] at h1
    obtain ⟨hs, hb⟩ := h1
    simp only at hs hb
    subst hs
    have hadd : ∀ o i, (⟨ab, o, none⟩ : Addr).add i = ⟨ab, o + i, none⟩ := fun o i => by unfold Addr.add; split <;> simp_all
    refine ⟨rfl, hb, fun k sw l hk => ?_⟩
    have hi : k < len := by
      have := (List.getElem?_eq_some_iff.1 hk).1
      simpa using this
    rw [List.getElem?_map, List.getElem?_range hi] at hk
    simp only [Option.map_some, Option.some.injEq] at hk
    obtain ⟨u, g1, g2, g3⟩ := hY k (by omega)
    rw [hadd] at g1
    rw [hadd, hadd] at g2
    rw [hk] at g1 g3
    exact ⟨u, g1, g2, g3⟩
end

def small23 (ops : List (Bool × List UInt8)) : Bool := decide (ops.length ≤ 40) && ops.all fun x => decide (x.2.length ≤ 1600)
theorem small23_true {ops : List (Bool × List UInt8)} (h : small23 ops = true) : ops.length ≤ 40 ∧ ∀ x ∈ ops, x.2.length ≤ 1600 := by
  unfold small23 at h
  simpa using h
theorem small23_long {ops : List (Bool × List UInt8)} {j : Nat} {x : Bool × List UInt8} (h : ops[j]? = some x) (hl : 1600 < x.2.length) : small23 ops = false := by
  have hm := List.mem_of_getElem? h
  cases hc : small23 ops with
  | false => rfl
  | true => have := (small23_true hc).2 x hm; omega
theorem small23_end {ops : List (Bool × List UInt8)} (h : ∀ x ∈ ops, x.2.length ≤ 1600) : small23 ops = decide (ops.length ≤ 40) := by
  unfold small23
  have hall : ops.all (fun x => decide (x.2.length ≤ 1600)) = true := by
    rw [List.all_eq_true]
    intro x hx
    simpa using h x hx
  rw [hall]
  simp
theorem oneCell_op (b : Bool) (a : Option Addr) (n c : Nat) : ∀ u ∈ (#[.bool b, .slice a n c] : Array Value).toList, u.oneCell' = true := by
  intro u hu
  simp at hu
  rcases hu with rfl | rfl <;> rfl

set_option maxRecDepth 100000 in
set_option maxHeartbeats 1000000 in
theorem small23_any {w : World} {v : Value} {ops : List (Bool × List UInt8)} (h : Ops23 w v ops) :
    Calls Try.prog 47 #[v] w fun e w' => e = .returned (.bool (small23 ops)) ∧ Fr [] w w' := by
  obtain ⟨a, c, rfl⟩ := h.shape
  have HL := Lib.hid h
  have hlen := h.len.2
  unfold maxLen at hlen
  clear h
  go_enter Try.func47, Try.ntmps47
  go_wp2_with fail
  go_loopw [7] (fun i wr => ∃ j : Nat, j ≤ ops.length ∧ i = .int .i64 j ∧ (∀ x ∈ ops.take j, x.2.length ≤ 1600) ∧ Fr [] w wr) (fun i _ => ops.length - (intOf i).toNat)
  case atStart => exact ⟨0, Nat.zero_le _, rfl, by simp, Fr.refl _ _⟩
  case round =>
    obtain ⟨j, hj, rfl, hall, hF⟩ := hrel
    have HALL := Lib.hid hall; have HF := Lib.hid hF
    clear hall hF
    by_cases hlt : j < ops.length
    · obtain ⟨b, o, sw, l, x, rfl, hb, hl, hx0, hx1, hR⟩ := HL.out.at_ hlt
      obtain ⟨al, cl, rfl⟩ := Sl.shape hR
      simp only [List.length_map] at hx1
      have d0 := HF.out.cellSome hx0 (by simp)
      have d1 := HF.out.cellSome hx1 (by simp)
      have hll := (Sl.len hR).2
      simp only [List.length_map] at hll
      unfold maxLen at hll
      have HLJ := Lib.hid hl
      clear hx0 hx1 hl hR hb
      by_cases hbig : 1600 < l.length
      · have HB := Lib.hid (small23_long HLJ.out hbig)
        go_wp2_with fail
        go_ret
        exact ⟨by rw [HB.out]; rfl, HF.out.alloc _⟩
      · have HB := Lib.hid hbig
        have hnb : ¬ (1600 : Int) < (l.length : Int) := by omega
        clear hbig
        go_wp2_with fail
        go_roundw
        case rel =>
          refine ⟨j + 1, by omega, by go_num, ?_, HF.out.alloc _⟩
          intro y hy
          rw [List.take_add_one, HLJ.out] at hy
          rcases List.mem_append.1 hy with h | h
          · exact HALL.out y h
          · simp at h; subst h; have := HB.out; show l.length ≤ 1600; omega
        case measure => simp [intOf]; omega
    · have HE := Lib.hid (small23_end (ops := ops) (by have := HALL.out; rwa [List.take_of_length_le (by omega)] at this))
      go_wp2_with fail
      all_goals
        go_ret
        exact ⟨by rw [HE.out]; simp; omega, HF.out⟩
end Go.Proofs.Yticoongkfhkjgaa
