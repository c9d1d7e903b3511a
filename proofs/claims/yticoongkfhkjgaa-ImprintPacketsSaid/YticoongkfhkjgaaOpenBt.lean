/- An imprint that came in, opened. -/
import Derived.Test.YticoongkfhkjgaaRows2
import Derived.Test.YticoongkfhkjgaaImp1
import Derived.OpenShut
namespace Go.Proofs.Yticoongkfhkjgaa
open Go.RowKit Go.ChangeShapes Go.WideShapes

section
variable {H : Type} {enc : TypeId × Value → H} {w : World} {base b0 : Nat}
set_option maxRecDepth 100000 in
/-- An imprint that came in. -/
theorem open_bt {v : Value} {d : DataW H} {ps : List MemPlace} (hok : Value.okWide Try.prog w .any b0 27 v) (h : DataW.Trod enc Try.prog w base (fun _ => true) true 27 v d ps) : ∃ x : Bt, BtV w v x := by
  have hC : Try.prog.cellsOf 27 = 9 := by kernel_rfl
  simp only [Value.okWide, Try.underlying27] at hok
  obtain ⟨cs, rfl, hsz, hrow⟩ := hok
  obtain ⟨l⟩ := cs
  match l, hsz.trans hC with
  | [e0, e1, e2, e3, e4, e5, e6, e7, e8], _ =>
    obtain ⟨fuel, hf⟩ := h
    obtain ⟨xs, n, _, hx, _, hlen, hg⟩ := DataW.trod_struct Try.underlying27 hf
    match xs, hlen with
    | [y0, y1], _ =>
      have c1 : Try.prog.cellsOf 25 = 8 := by kernel_rfl
      have c2 : Try.prog.cellsOf 22 = 1 := by kernel_rfl
      have c3 : Try.prog.cellsOf 5 = 1 := by kernel_rfl
      have g0 := hg 0 _ rfl; have g1 := hg 1 _ rfl
      clear hg hf
      simp [Value.cells, c1, c2] at g0 g1
      obtain ⟨ys, m, _, _, _, hl2, hel⟩ := DataW.trod_array Try.underlying25 g0
      match ys, hl2 with
      | [z0, z1, z2, z3, z4, z5, z6, z7], _ =>
        have k0 := hel 0 (by omega); have k1 := hel 1 (by omega); have k2 := hel 2 (by omega); have k3 := hel 3 (by omega); have k4 := hel 4 (by omega); have k5 := hel 5 (by omega); have k6 := hel 6 (by omega); have k7 := hel 7 (by omega)
        clear hel g0
        simp [c3] at k0 k1 k2 k3 k4 k5 k6 k7
        obtain ⟨n0, q0, -, r0⟩ := DataW.trod_int Try.underlying5 k0
        obtain ⟨n1, q1, -, r1⟩ := DataW.trod_int Try.underlying5 k1
        obtain ⟨n2, q2, -, r2⟩ := DataW.trod_int Try.underlying5 k2
        obtain ⟨n3, q3, -, r3⟩ := DataW.trod_int Try.underlying5 k3
        obtain ⟨n4, q4, -, r4⟩ := DataW.trod_int Try.underlying5 k4
        obtain ⟨n5, q5, -, r5⟩ := DataW.trod_int Try.underlying5 k5
        obtain ⟨n6, q6, -, r6⟩ := DataW.trod_int Try.underlying5 k6
        obtain ⟨n7, q7, -, r7⟩ := DataW.trod_int Try.underlying5 k7
        obtain ⟨lb, hb⟩ := open_u8s' g1
        simp only [List.cons.injEq, and_true] at q0 q1 q2 q3 q4 q5 q6 q7
        subst q0 q1 q2 q3 q4 q5 q6 q7
        have B : ∀ k : Int, (Lit.int .u8 k).wf = true → (((UInt8.ofNat k.toNat).toNat : Nat) : Int) = k := fun k hk => by have := wf_u8 hk; rw [UInt8.toNat_ofNat']; omega
        refine ⟨⟨UInt8.ofNat n0.toNat, UInt8.ofNat n1.toNat, UInt8.ofNat n2.toNat, UInt8.ofNat n3.toNat, UInt8.ofNat n4.toNat, UInt8.ofNat n5.toNat, UInt8.ofNat n6.toNat, UInt8.ofNat n7.toNat, lb⟩, e8, ?_, hb⟩
        unfold bc
        simp only [B _ r0, B _ r1, B _ r2, B _ r3, B _ r4, B _ r5, B _ r6, B _ r7]
end
end Go.Proofs.Yticoongkfhkjgaa
