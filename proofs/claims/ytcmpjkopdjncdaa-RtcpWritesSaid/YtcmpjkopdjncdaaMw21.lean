import Derived.ChangeSame
import Derived.ChangeSlices
import Derived.Test.YtcmpjkopdjncdaaMw17
/- A law's arguments, opened: a slice of numbers, a packet. -/
namespace Go.Proofs.Ytcmpjkopdjncdaa
open Go.RowKit Go.ChangeShapes Go.WideShapes

section
variable {H : Type} {enc : TypeId × Value → H} {w : World} {base b0 : Nat}

theorem shape_lt {w : World} {b : Nat} {x : TypeId × Nat} (h : w.shape? b = some x) : b < w.heap.size := by
  unfold World.shape? at h
  split at h
  · rename_i hb; exact (Array.getElem?_eq_some_iff.1 hb).1
  · cases h
theorem wf_u8 {n : Int} (h : (Lit.int .u8 n).wf = true) : 0 ≤ n ∧ n < 256 := by
  simp [Lit.wf, IntKind.min, IntKind.max, IntKind.signed, IntKind.bits] at h; omega
theorem wf_u16 {n : Int} (h : (Lit.int .u16 n).wf = true) : 0 ≤ n ∧ n < 65536 := by
  simp [Lit.wf, IntKind.min, IntKind.max, IntKind.signed, IntKind.bits] at h; omega
theorem wf_u32 {n : Int} (h : (Lit.int .u32 n).wf = true) : 0 ≤ n ∧ n < 4294967296 := by
  simp [Lit.wf, IntKind.min, IntKind.max, IntKind.signed, IntKind.bits] at h; omega

set_option maxRecDepth 100000 in
/-- A slice of numbers that came in. -/
theorem open_cells {α : Type} {t e : TypeId} {k : IntKind} {fuel : Nat} {v : Value} {x : DataW H × List MemPlace} (f : Int → α) (g : α → Value) (hg : ∀ n, (Lit.int k n).wf = true → g (f n) = .int k n)
    (ht : Try.prog.underlying t = some (.slice e)) (he : Try.prog.underlying e = some (.int k)) (hc : Try.prog.cellsOf e = 1)
    (hok : Cell.okWide Try.prog w .any b0 t v) (h : DataW.trod enc Try.prog w base (fun _ => true) true fuel t [v] = some x) : ∃ l : List α, Sl w v (l.map g) := by
  rcases open_ints ht he hc h with ⟨hcs, _⟩ | ⟨a, len, cap, zs, hcs, _, hl, hm, hz, _, hcell, hwf⟩
  · simp only [List.cons.injEq, and_true] at hcs
    subst hcs
    exact ⟨[], Sl.nil _⟩
  · simp only [List.cons.injEq, and_true] at hcs
    subst hcs
    simp only [if_true] at hz
    have hh : w.has Try.prog .any b0 a e cap := by
      simp only [Cell.okWide, ht, Cell.ok] at hok
      exact hok.2.2
    obtain ⟨_, hsp, row, cells, hshape, _⟩ := hh
    obtain ⟨ab, ao, asp⟩ := a
    simp only at hsp hshape
    subst hsp
    refine ⟨(zs.take len).map f, some ⟨ab, ao, none⟩, cap, ?_, ?_, hm, (fun h => by cases h), fun p hp _ => ?_⟩
    · simp only [List.map_map, List.length_map, List.length_take, hz, Nat.min_eq_left hl]
    · simp only [List.map_map, List.length_map, List.length_take]; omega
    · cases hp
      refine ⟨rfl, shape_lt hshape, fun i y hy => ?_⟩
      have hi : i < len := by
        have := (List.getElem?_eq_some_iff.1 hy).1
        simp only [List.map_map, List.length_map, List.length_take] at this
        omega
      have hcl := hcell i (by omega)
      have hadd : (⟨ab, ao, none⟩ : Addr).add i = ⟨ab, ao + i, none⟩ := by
        unfold Addr.add
        split <;> simp_all
      rw [hadd] at hcl
      rw [hcl]
      have hzi : zs[i]? = some (zs[i]'(by omega)) := List.getElem?_eq_getElem (by omega)
      rw [List.map_map, List.getElem?_map, List.getElem?_take_of_lt hi, hzi] at hy
      simp only [Option.map_some, Option.some.injEq, Function.comp] at hy
      rw [← hy, hg _ (hwf _ (List.getElem_mem _)), List.getD_eq_getElem?_getD, hzi]
      rfl
set_option maxRecDepth 100000 in
theorem open_u8s {fuel : Nat} {v : Value} {x : DataW H × List MemPlace} (hok : Cell.okWide Try.prog w .any b0 22 v) (h : DataW.trod enc Try.prog w base (fun _ => true) true fuel 22 [v] = some x) : ∃ l : List UInt8, Bytes w v l :=
  open_cells (fun n => UInt8.ofNat n.toNat) B8 (fun n hn => by have := wf_u8 hn; unfold B8; congr 1; simp; omega) Try.underlying22 Try.underlying5 (by kernel_rfl) hok h
set_option maxRecDepth 100000 in
theorem open_u32s {fuel : Nat} {v : Value} {x : DataW H × List MemPlace} (hok : Cell.okWide Try.prog w .any b0 40 v) (h : DataW.trod enc Try.prog w base (fun _ => true) true fuel 40 [v] = some x) : ∃ l : List UInt32, Words w v l :=
  open_cells (fun n => UInt32.ofNat n.toNat) W32 (fun n hn => by have := wf_u32 hn; unfold W32; congr 1; simp; omega) Try.underlying40 Try.underlying36 (by kernel_rfl) hok h


set_option maxRecDepth 100000 in
theorem cell_row {t : TypeId} {cs : Array Value} (h : Row.okWide Try.prog w .any b0 t cs) {ts : List TypeId} (hts : Try.prog.cellTypes Try.prog.depth t = some ts) (i : Nat) {v : Value} {u : TypeId} (hv : cs[i]? = some v) (hu : ts[i % ts.length]? = some u) : Cell.okWide Try.prog w .any b0 u v := by
  obtain ⟨ts', h1, _, h2⟩ := h
  rw [hts] at h1
  cases h1
  obtain ⟨u', h3, h4⟩ := h2 i v hv
  rw [hu] at h3
  cases h3
  exact h4

end
end Go.Proofs.Ytcmpjkopdjncdaa
