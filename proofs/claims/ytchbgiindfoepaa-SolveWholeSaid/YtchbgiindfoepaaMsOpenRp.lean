/- A repair that came in, opened. -/
import Derived.OpenShut
import Derived.Test.YtchbgiindfoepaaMs23
import Derived.Test.YtchbgiindfoepaaMs32
namespace Go.Proofs.Ytchbgiindfoepaa
open Go.RowKit Go.ChangeShapes Go.WideShapes

theorem wf_u64 {n : Int} (h : (Lit.int .u64 n).wf = true) : 0 ≤ n ∧ n < 18446744073709551616 := by
  simp [Lit.wf, IntKind.min, IntKind.max, IntKind.signed, IntKind.bits] at h
  omega
section
variable {H : Type} {enc : TypeId × Value → H} {w : World} {base b0 : Nat}
set_option maxRecDepth 100000 in
/-- A repair that came in. -/
theorem open_rep_arg {v : Value} {d : DataW H} {ps : List MemPlace} (hok : Value.okWide Try.prog w .any b0 58 v) (h : DataW.Trod enc Try.prog w base (fun _ => true) true 58 v d ps) : ∃ x : Rep_, RpV w v x := by
  have hC : Try.prog.cellsOf 58 = 12 := by kernel_rfl
  simp only [Value.okWide, Try.underlying58] at hok
  obtain ⟨cs, rfl, hsz, hrow⟩ := hok
  obtain ⟨l⟩ := cs
  match l, hsz.trans hC with
  | [e0, e1, e2, e3, e4, e5, e6, e7, e8, e9, e10, e11], _ =>
    obtain ⟨fuel, hf⟩ := h
    obtain ⟨xs, n, _, hx, _, hlen, hg⟩ := DataW.trod_struct Try.underlying58 hf
    match xs, hlen with
    | [y0, y1, y2, y3, y4], _ =>
      have c1 : Try.prog.cellsOf 26 = 8 := by kernel_rfl
      have c2 : Try.prog.cellsOf 25 = 1 := by kernel_rfl
      have c3 : Try.prog.cellsOf 5 = 1 := by kernel_rfl
      have c4 : Try.prog.cellsOf 42 = 1 := by kernel_rfl
      have c5 : Try.prog.cellsOf 56 = 1 := by kernel_rfl
      have g0 := hg 0 _ rfl; have g1 := hg 1 _ rfl; have g2 := hg 2 _ rfl; have g3 := hg 3 _ rfl; have g4 := hg 4 _ rfl
      clear hg hf
      simp [Value.cells, c1, c2, c4, c5] at g0 g1 g2 g3 g4
      obtain ⟨ys, m, _, _, _, hl2, hel⟩ := DataW.trod_array Try.underlying26 g0
      match ys, hl2 with
      | [z0, z1, z2, z3, z4, z5, z6, z7], _ =>
        have k0 := hel 0 (by omega); have k1 := hel 1 (by omega); have k2 := hel 2 (by omega); have k3 := hel 3 (by omega); have k4 := hel 4 (by omega); have k5 := hel 5 (by omega); have k6 := hel 6 (by omega); have k7 := hel 7 (by omega)
        clear hel g0
        simp [c3] at k0 k1 k2 k3 k4 k5 k6 k7
        obtain ⟨n0, q0, -, r0⟩ := DataW.trod_int Try.underlying5 k0
        obtain ⟨n1, q1, -, r1⟩ := DataW.trod_int Try.underlying5 k1
        obtain ⟨n2, q2, -, r2⟩ := DataW.trod_int Try.underlying5 k2
        obtain ⟨n3, q3, -, r3⟩ := DataW.trod_int Try.underlying5 k3
        obtain ⟨n4, q4, -, r4⟩ := DataW.trod_int Try.underlying5 k4
        obtain ⟨n5, q5, -, r5⟩ := DataW.trod_int Try.underlying5 k5
        obtain ⟨n6, q6, -, r6⟩ := DataW.trod_int Try.underlying5 k6
        obtain ⟨n7, q7, -, r7⟩ := DataW.trod_int Try.underlying5 k7
        obtain ⟨n8, q8, -, r8⟩ := DataW.trod_int Try.underlying42 g1
        obtain ⟨n9, q9, -, r9⟩ := DataW.trod_int Try.underlying56 g2
        obtain ⟨n10, q10, -, r10⟩ := DataW.trod_int Try.underlying56 g3
        obtain ⟨lb, hb⟩ := open_u8s' g4
        simp only [List.cons.injEq, and_true] at q0 q1 q2 q3 q4 q5 q6 q7 q8 q9 q10
        subst q0 q1 q2 q3 q4 q5 q6 q7 q8 q9 q10
        have B : ∀ k : Int, (Lit.int .u8 k).wf = true → (((UInt8.ofNat k.toNat).toNat : Nat) : Int) = k := fun k hk => by have := wf_u8 hk; rw [UInt8.toNat_ofNat']; omega
        have B16 : (((UInt16.ofNat n8.toNat).toNat : Nat) : Int) = n8 := by have := wf_u16 r8; rw [UInt16.toNat_ofNat']; omega
        have B64 : ∀ k : Int, (Lit.int .u64 k).wf = true → (((BitVec.ofNat 64 k.toNat).toNat : Nat) : Int) = k := fun k hk => by have := wf_u64 hk; rw [BitVec.toNat_ofNat]; omega
        refine ⟨⟨⟨UInt8.ofNat n0.toNat, UInt8.ofNat n1.toNat, UInt8.ofNat n2.toNat, UInt8.ofNat n3.toNat, UInt8.ofNat n4.toNat, UInt8.ofNat n5.toNat, UInt8.ofNat n6.toNat, UInt8.ofNat n7.toNat, lb⟩, UInt16.ofNat n8.toNat, ⟨BitVec.ofNat 64 n9.toNat, BitVec.ofNat 64 n10.toNat⟩⟩, e11, ?_, hb⟩
        unfold rpc
        simp only [B _ r0, B _ r1, B _ r2, B _ r3, B _ r4, B _ r5, B _ r6, B _ r7, B16, B64 _ r9, B64 _ r10]
end
end Go.Proofs.Ytchbgiindfoepaa
