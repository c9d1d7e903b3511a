import Derived.ChangeSame
import Derived.ChangeSlices
import Derived.Test.YtchbgiindfoepaaMq18
/- A law's arguments, opened: a slice of numbers, a packet. -/
namespace Go.Proofs.Ytchbgiindfoepaa
open Go.RowKit Go.ChangeShapes Go.WideShapes

section
variable {H : Type} {enc : TypeId × Value → H} {w : World} {base b0 : Nat}

theorem shape_lt {w : World} {b : Nat} {x : TypeId × Nat} (h : w.shape? b = some x) : b < w.heap.size := by
  unfold World.shape? at h
  split at h
  · rename_i hb; exact (Array.getElem?_eq_some_iff.1 hb).1
  · cases h
theorem wf_u8 {n : Int} (h : (Lit.int .u8 n).wf = true) : 0 ≤ n ∧ n < 256 := by
  simp [Lit.wf, IntKind.min, IntKind.max, IntKind.signed, IntKind.bits] at h; omega
theorem wf_u16 {n : Int} (h : (Lit.int .u16 n).wf = true) : 0 ≤ n ∧ n < 65536 := by
  simp [Lit.wf, IntKind.min, IntKind.max, IntKind.signed, IntKind.bits] at h; omega
theorem wf_u32 {n : Int} (h : (Lit.int .u32 n).wf = true) : 0 ≤ n ∧ n < 4294967296 := by
  simp [Lit.wf, IntKind.min, IntKind.max, IntKind.signed, IntKind.bits] at h; omega

set_option maxRecDepth 100000 in
/-- A slice of numbers that came in. -/
theorem open_cells {α : Type} {t e : TypeId} {k : IntKind} {fuel : Nat} {v : Value} {x : DataW H × List MemPlace} (f : Int → α) (g : α → Value) (hg : ∀ n, (Lit.int k n).wf = true → g (f n) = .int k n)
    (ht : Try.prog.underlying t = some (.slice e)) (he : Try.prog.underlying e = some (.int k)) (hc : Try.prog.cellsOf e = 1)
    (hok : Cell.okWide Try.prog w .any b0 t v) (h : DataW.trod enc Try.prog w base (fun _ => true) true fuel t [v] = some x) : ∃ l : List α, Sl w v (l.map g) := by
  rcases open_ints ht he hc h with ⟨hcs, _⟩ | ⟨a, len, cap, zs, hcs, _, hl, hm, hz, _, hcell, hwf⟩
  · simp only [List.cons.injEq, and_true] at hcs
    subst hcs
    exact ⟨[], Sl.nil _⟩
  · simp only [List.cons.injEq, and_true] at hcs
    subst hcs
    simp only [if_true] at hz
    have hh : w.has Try.prog .any b0 a e cap := by
      simp only [Cell.okWide, ht, Cell.ok] at hok
      exact hok.2.2
    obtain ⟨_, hsp, row, cells, hshape, _⟩ := hh
    obtain ⟨ab, ao, asp⟩ := a
    simp only at hsp hshape
    subst hsp
    refine ⟨(zs.take len).map f, some ⟨ab, ao, none⟩, cap, ?_, ?_, hm, (fun h => by cases h), fun p hp _ => ?_⟩
    · simp only [List.map_map, List.length_map, List.length_take, hz, Nat.min_eq_left hl]
    · simp only [List.map_map, List.length_map, List.length_take]; omega
    · cases hp
      refine ⟨rfl, shape_lt hshape, fun i y hy => ?_⟩
      have hi : i < len := by
        have := (List.getElem?_eq_some_iff.1 hy).1
        simp only [List.map_map, List.length_map, List.length_take] at this
        omega
      have hcl := hcell i (by omega)
      have hadd : (⟨ab, ao, none⟩ : Addr).add i = ⟨ab, ao + i, none⟩ := by
        unfold Addr.add
        split <;> simp_all
      rw [hadd] at hcl
      rw [hcl]
      have hzi : zs[i]? = some (zs[i]'(by omega)) := List.getElem?_eq_getElem (by omega)
      rw [List.map_map, List.getElem?_map, List.getElem?_take_of_lt hi, hzi] at hy
      simp only [Option.map_some, Option.some.injEq, Function.comp] at hy
      rw [← hy, hg _ (hwf _ (List.getElem_mem _)), List.getD_eq_getElem?_getD, hzi]
      rfl
set_option maxRecDepth 100000 in
theorem open_u8s {fuel : Nat} {v : Value} {x : DataW H × List MemPlace} (hok : Cell.okWide Try.prog w .any b0 25 v) (h : DataW.trod enc Try.prog w base (fun _ => true) true fuel 25 [v] = some x) : ∃ l : List UInt8, Bytes w v l :=
  open_cells (fun n => UInt8.ofNat n.toNat) B8 (fun n hn => by have := wf_u8 hn; unfold B8; congr 1; simp; omega) Try.underlying25 Try.underlying5 (by kernel_rfl) hok h
set_option maxRecDepth 100000 in
theorem open_u32s {fuel : Nat} {v : Value} {x : DataW H × List MemPlace} (hok : Cell.okWide Try.prog w .any b0 86 v) (h : DataW.trod enc Try.prog w base (fun _ => true) true fuel 86 [v] = some x) : ∃ l : List UInt32, Words w v l :=
  open_cells (fun n => UInt32.ofNat n.toNat) W32 (fun n hn => by have := wf_u32 hn; unfold W32; congr 1; simp; omega) Try.underlying86 Try.underlying45 (by kernel_rfl) hok h


set_option maxRecDepth 100000 in
theorem cell_row {t : TypeId} {cs : Array Value} (h : Row.okWide Try.prog w .any b0 t cs) {ts : List TypeId} (hts : Try.prog.cellTypes Try.prog.depth t = some ts) (i : Nat) {v : Value} {u : TypeId} (hv : cs[i]? = some v) (hu : ts[i % ts.length]? = some u) : Cell.okWide Try.prog w .any b0 u v := by
  obtain ⟨ts', h1, _, h2⟩ := h
  rw [hts] at h1
  cases h1
  obtain ⟨u', h3, h4⟩ := h2 i v hv
  rw [hu] at h3
  cases h3
  exact h4

set_option maxRecDepth 100000 in
/-- A packet that came in. -/
theorem open_pkt {v : Value} {d : DataW H} {ps : List MemPlace} (hok : Value.okWide Try.prog w .any b0 88 v) (h : DataW.Trod enc Try.prog w base (fun _ => true) true 88 v d ps) : ∃ p : Pkt, PktV w 0 v p := by
  have hts : Try.prog.cellTypes Try.prog.depth 88 = some [4, 3, 42, 45, 45, 86, 4, 42, 25, 25, 25] := by kernel_rfl
  have hC : Try.prog.cellsOf 88 = 11 := by kernel_rfl
  simp only [Value.okWide, Try.underlying88] at hok
  obtain ⟨cs, rfl, hsz, hrow⟩ := hok
  obtain ⟨l⟩ := cs
  match l, hsz.trans hC with
  | [e0, e1, e2, e3, e4, e5, e6, e7, e8, e9, e10], _ =>
    have k5 := cell_row hrow hts 5 (v := e5) rfl rfl
    have k8 := cell_row hrow hts 8 (v := e8) rfl rfl
    have k9 := cell_row hrow hts 9 (v := e9) rfl rfl
    have k10 := cell_row hrow hts 10 (v := e10) rfl rfl
    obtain ⟨fuel, hf⟩ := h
    obtain ⟨xs, n, _, hx, _, hlen, hg⟩ := DataW.trod_struct Try.underlying88 hf
    match xs, hlen with
    | [y0, y1, y2, y3, y4, y5, y6, y7, y8, y9, y10], _ =>
      have c1 : Try.prog.cellsOf 4 = 1 := by kernel_rfl
      have c2 : Try.prog.cellsOf 3 = 1 := by kernel_rfl
      have c3 : Try.prog.cellsOf 42 = 1 := by kernel_rfl
      have c4 : Try.prog.cellsOf 45 = 1 := by kernel_rfl
      have c5 : Try.prog.cellsOf 86 = 1 := by kernel_rfl
      have c6 : Try.prog.cellsOf 25 = 1 := by kernel_rfl
      have g0 := hg 0 _ rfl; have g1 := hg 1 _ rfl; have g2 := hg 2 _ rfl; have g3 := hg 3 _ rfl; have g4 := hg 4 _ rfl; have g5 := hg 5 _ rfl; have g6 := hg 6 _ rfl; have g7 := hg 7 _ rfl; have g8 := hg 8 _ rfl; have g9 := hg 9 _ rfl; have g10 := hg 10 _ rfl
      clear hg hf
      simp [Value.cells, c1, c2, c3, c4, c5, c6] at g0 g1 g2 g3 g4 g5 g6 g7 g8 g9 g10
      obtain ⟨z0, q0, -⟩ := DataW.trod_bool Try.underlying4 g0
      obtain ⟨z1, q1, -, -⟩ := DataW.trod_int Try.underlying3 g1
      obtain ⟨z2, q2, -, r2⟩ := DataW.trod_int Try.underlying42 g2
      obtain ⟨z3, q3, -, r3⟩ := DataW.trod_int Try.underlying45 g3
      obtain ⟨z4, q4, -, r4⟩ := DataW.trod_int Try.underlying45 g4
      obtain ⟨l5, h5⟩ := open_u32s k5 g5
      obtain ⟨z6, q6, -⟩ := DataW.trod_bool Try.underlying4 g6
      obtain ⟨z7, q7, -, r7⟩ := DataW.trod_int Try.underlying42 g7
      obtain ⟨l8, h8⟩ := open_u8s k8 g8
      obtain ⟨l9, h9⟩ := open_u8s k9 g9
      obtain ⟨l10, h10⟩ := open_u8s k10 g10
      simp only [List.cons.injEq, and_true] at q0 q1 q2 q3 q4 q6 q7
      subst q0 q1 q2 q3 q4 q6 q7
      have w2 := wf_u16 r2; have w3 := wf_u32 r3; have w4 := wf_u32 r4; have w7 := wf_u16 r7
      have t2 : (((UInt16.ofNat z2.toNat).toNat : Nat) : Int) = z2 := by rw [UInt16.toNat_ofNat']; omega
      have t3 : (((UInt32.ofNat z3.toNat).toNat : Nat) : Int) = z3 := by rw [UInt32.toNat_ofNat']; omega
      have t4 : (((UInt32.ofNat z4.toNat).toNat : Nat) : Int) = z4 := by rw [UInt32.toNat_ofNat']; omega
      have t7 : (((UInt16.ofNat z7.toNat).toNat : Nat) : Int) = z7 := by rw [UInt16.toNat_ofNat']; omega
      refine ⟨{ marker := z0, pt := z1, seq := UInt16.ofNat z2.toNat, ts := UInt32.ofNat z3.toNat, ssrc := UInt32.ofNat z4.toNat, csrc := l5, hasExt := z6, profile := UInt16.ofNat z7.toNat, ext := l8, payload := l9, pad := l10 }, e5, e8, e9, e10, ?_, h5, h8, h9, h10, fun _ _ => Nat.zero_le _⟩
      unfold pc
      simp only [t2, t3, t4, t7]
end
end Go.Proofs.Ytchbgiindfoepaa
