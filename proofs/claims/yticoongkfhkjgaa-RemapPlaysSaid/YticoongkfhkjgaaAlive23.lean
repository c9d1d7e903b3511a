/- The walk of confluxlaw23.alive (printed by gen_alive23.py). -/
import Derived.Test.YticoongkfhkjgaaRemap4
namespace Go.Proofs.Yticoongkfhkjgaa
open Go.RowKit

theorem two_boxes (w : World) (c1 : Array Value) (t1 : TypeId) (c2 : Array Value) (t2 : TypeId) : Fr [] w ((w.alloc (.cells c1 t1)).alloc (.cells c2 t2)) ∧ Box ((w.alloc (.cells c1 t1)).alloc (.cells c2 t2)) w.heap.size t1 c1 ∧ Box ((w.alloc (.cells c1 t1)).alloc (.cells c2 t2)) (w.heap.size + 1) t2 c2 := by
  obtain ⟨w2, e, h1, h2, h3, -⟩ := two_new w c1 t1 c2 t2
  rw [e]
  exact ⟨h1, h2, h3⟩
/-- A packet with nothing but a mark, a kind, a number, a time and a source. -/
def lit (mk : Bool) (pt : Int) (sq : UInt16) (ts ss : UInt32) : Pkt := { marker := mk, pt := pt, seq := sq, ts := ts, ssrc := ss, csrc := [], hasExt := false, profile := 0, ext := [], payload := [], pad := [] }
theorem lit_in (w : World) (b : Nat) (mk : Bool) (pt : Int) (sq : UInt16) (ts ss : UInt32) :
    PktV w b (.agg #[.bool mk, .int .i64 pt, .int .u16 sq.toNat, .int .u32 ts.toNat, .int .u32 ss.toNat, .slice none 0 0, .bool false, .int .u16 0, .slice none 0 0, .slice none 0 0, .slice none 0 0]) (lit mk pt sq ts ss) :=
  ⟨.slice none 0 0, .slice none 0 0, .slice none 0 0, .slice none 0 0, rfl, Sl.nil _, Sl.nil _, Sl.nil _, Sl.nil _, fun b h => by rcases h with h | h | h | h <;> cases h⟩
theorem lit_out {w : World} {b : Nat} {v : Value} {mk : Bool} {pt : Int} {sq : UInt16} {ts ss : UInt32} (h : PktV w b v (lit mk pt sq ts ss)) :
    ∃ a1 c1 a2 c2 a3 c3 a4 c4, v = .agg (pc mk pt sq.toNat ts.toNat ss.toNat (.slice a1 0 c1) false 0 (.slice a2 0 c2) (.slice a3 0 c3) (.slice a4 0 c4)) := by
  obtain ⟨a1, c1, a2, c2, a3, c3, a4, c4, e, _⟩ := h.open_
  exact ⟨a1, c1, a2, c2, a3, c3, a4, c4, e⟩
theorem lit_small (mk : Bool) (pt : Int) (sq : UInt16) (ts ss : UInt32) : (lit mk pt sq ts ss).Small := by unfold Pkt.Small lit; simp
def M0 : RMap := RMap.new 9 97 10 100 50
def M1 : RMap := { ssrc := 9, pt := 97, next := 11, last := 100, step := 50, shift := 93, opn := true, segs := 1, cnt := 1 }
def M2 : RMap := { ssrc := 9, pt := 97, next := 12, last := 102, step := 50, shift := 93, opn := true, segs := 1, cnt := 2 }
def M3 : RMap := { ssrc := 9, pt := 97, next := 12, last := 102, step := 50, shift := 93, opn := false, segs := 1, cnt := 2 }
def M5 : RMap := { ssrc := 9, pt := 97, next := 13, last := 152, step := 50, shift := 147, opn := true, segs := 2, cnt := 3 }
theorem M1_eq : M0.step_ (lit false 96 0 7 0) = M1 := by rfl
theorem M2_eq : M1.step_ (lit false 96 0 9 0) = M2 := by rfl
theorem M3_eq : M2.shut = M3 := by rfl
theorem M3_eq2 : M3.shut = M3 := by rfl
theorem M5_eq : M3.step_ (lit true 96 0 5 0) = M5 := by rfl
theorem oA_eq : M0.out (lit false 96 0 7 0) = lit false 97 10 100 9 := by rfl
theorem oB_eq : M1.out (lit false 96 0 9 0) = lit false 97 11 102 9 := by rfl
theorem oD_eq : M3.out (lit true 96 0 5 0) = lit true 97 12 152 9 := by rfl
theorem M0_ok : M0.Ok := RMap.new_ok _ _ _ _ _
theorem M1_ok : M1.Ok := by constructor <;> simp [M1]
theorem M3_ok : M3.Ok := by constructor <;> simp [M3]
theorem wrong_D : (lit true 97 12 152 9).wrong = 0 := by rfl
theorem turn_D : (lit true 97 12 152 9).turn 1 2 3 4 = lit true 4 1 2 3 := by rfl
theorem wrong_E : (lit true 4 1 2 3).wrong = 0 := by rfl
theorem parse_nil0 : parseR [] = .error 20 := by rfl
theorem s0_eq : (if M0.opn = true then M0.shift else 0) = 0 := by rfl
theorem s3_eq : (if M3.opn = true then M3.shift else 0) = 0 := by rfl
theorem s5_eq : (if M5.opn = true then M5.shift else 0) = 147 := by rfl

set_option maxRecDepth 100000 in
set_option maxHeartbeats 4000000 in
theorem alive23_any {w : World} : Calls Try.prog 46 #[] w fun e w' => e = .returned (.bool true) ∧ Fr [] w w' := by
  go_enter Try.func46, Try.ntmps46
  go_wp2_with fail
  refine (rmNew_any 9 97 10 100 50 _).mono ?_
  rintro e w1 ⟨g, rfl, hg, hB, hF⟩
  have HM : Hid (Box w1 g 132 (mc M0)) := Lib.hid hB
  have HF := Lib.hid hF
  have hgl := hB.lt
  clear hF hB
  go_wp2_with fail
  refine (rmShift_any HM.out).mono ?_
  rintro e wz ⟨rfl, rfl⟩
  rw [s0_eq, show M0.opn = false from rfl]
  go_wp2_with fail
  refine (rmOf_any HM.out M0_ok (Nat.lt_succ_self g) (lit_in _ (g + 1) false 96 0 7 0) (lit_small _ _ _ _ _)).mono ?_
  rintro e w2 ⟨vA, rfl, hVA, hM, hF⟩
  rw [M1_eq] at hM
  rw [oA_eq] at hVA
  have hsz1 : w1.heap.size ≤ w2.heap.size := hF.size
  have HF := Lib.hid (HF.out.step hF (fun x hx => by simp at hx; subst hx; exact .inr (by omega)))
  have HM := Lib.hid hM
  obtain ⟨a1A, c1A, a2A, c2A, a3A, c3A, a4A, c4A, hvA⟩ : ∃ a1 c1 a2 c2 a3 c3 a4 c4, vA = .agg (pc false 97 10 100 9 (.slice a1 0 c1) false 0 (.slice a2 0 c2) (.slice a3 0 c3) (.slice a4 0 c4)) := lit_out hVA
  subst hvA
  have HVA := Lib.hid hVA
  clear hM hF hVA
  go_wp2_with fail
  refine (rmOf_any HM.out M1_ok (Nat.lt_succ_self g) (lit_in _ (g + 1) false 96 0 9 0) (lit_small _ _ _ _ _)).mono ?_
  rintro e w3 ⟨vB, rfl, hVB, hM, hF⟩
  rw [M2_eq] at hM
  rw [oB_eq] at hVB
  have hsz2 : w2.heap.size ≤ w3.heap.size := hF.size
  have HF := Lib.hid (HF.out.step hF (fun x hx => by simp at hx; subst hx; exact .inr (by omega))); have HVA := Lib.hid (HVA.out.fr hF (by simp; omega))
  have HM := Lib.hid hM
  obtain ⟨a1B, c1B, a2B, c2B, a3B, c3B, a4B, c4B, hvB⟩ : ∃ a1 c1 a2 c2 a3 c3 a4 c4, vB = .agg (pc false 97 11 102 9 (.slice a1 0 c1) false 0 (.slice a2 0 c2) (.slice a3 0 c3) (.slice a4 0 c4)) := lit_out hVB
  subst hvB
  have HVB := Lib.hid hVB
  clear hM hF hVB
  obtain ⟨hFq, hqA, hqB⟩ := two_boxes w3 #[.bool false, .int .i64 0, .int .u16 0, .int .u32 0, .int .u32 0, .slice none 0 0, .bool false, .int .u16 0, .slice none 0 0, .slice none 0 0, .slice none 0 0] 67 #[.bool false, .int .i64 0, .int .u16 0, .int .u32 0, .int .u32 0, .slice none 0 0, .bool false, .int .u16 0, .slice none 0 0, .slice none 0 0, .slice none 0 0] 67
  have HqA := Lib.hid hqA; have HqB := Lib.hid hqB; have HFq := Lib.hid hFq
  clear hFq hqA hqB
  go_wp2_with (first | (refine wpList_store_row rfl 67 (.tmp 4) (.tmp 30) rfl w3.heap.size rfl _ _ rfl 67 (HqA.out) (by kernel_rfl) rfl (oneCell_pc _ _ _ _ _ _ _ _ _ _ _ ⟨_, _, _, rfl⟩ ⟨_, _, _, rfl⟩ ⟨_, _, _, rfl⟩ ⟨_, _, _, rfl⟩) ?_; intro wA hYA hGA; have HYA := Lib.hid hYA; have HGA := Lib.hid hGA; clear hYA hGA) | (refine wpList_store_row rfl 67 (.tmp 5) (.tmp 33) rfl (w3.heap.size + 1) rfl _ _ rfl 67 (HqB.out.fr HGA.out (by simp)) (by kernel_rfl) rfl (oneCell_pc _ _ _ _ _ _ _ _ _ _ _ ⟨_, _, _, rfl⟩ ⟨_, _, _, rfl⟩ ⟨_, _, _, rfl⟩ ⟨_, _, _, rfl⟩) ?_; intro wB hYB hGB; have HYB := Lib.hid hYB; have HGB := Lib.hid hGB; clear hYB hGB))
  have hF : Fr [] w3 wB := (HFq.out.step HGA.out (fun x hx => by simp at hx; subst hx; exact .inr (by omega))).step HGB.out (fun x hx => by simp at hx; subst hx; exact .inr (by omega))
  have HBA := Lib.hid (HYA.out.fr HGB.out (by simp)); have HBB := HYB
  clear HqA HqB HFq HYA HYB HGA HGB
  have HF := Lib.hid (HF.out.trans hF); have HM := Lib.hid (HM.out.keep hF); have HVA := Lib.hid (HVA.out.keep hF); have HVB := Lib.hid (HVB.out.keep hF)
  clear HVA HVB
  have hAg : g ≠ w3.heap.size := by omega
  have hBg : g ≠ w3.heap.size + 1 := by omega
  have hAB : w3.heap.size + 1 < wB.heap.size := HBB.out.lt
  generalize hBA : w3.heap.size = A at *
  clear hF hBA
  refine (rmSwitch_any HM.out).mono ?_
  rintro e wS ⟨rfl, hM, hF⟩
  rw [M3_eq] at hM
  have hszwS := hF.size
  have HF := Lib.hid (HF.out.step hF (fun x hx => by simp at hx; subst hx; exact .inr (by omega))); have HBA := Lib.hid (HBA.out.fr hF (by simp; omega)); have HBB := Lib.hid (HBB.out.fr hF (by simp; omega))
  have HM := Lib.hid hM
  clear hM hF
  go_wp2_with fail
  refine (rmSwitch_any HM.out).mono ?_
  rintro e wT ⟨rfl, hM, hF⟩
  rw [M3_eq2] at hM
  have hszwT := hF.size
  have HF := Lib.hid (HF.out.step hF (fun x hx => by simp at hx; subst hx; exact .inr (by omega))); have HBA := Lib.hid (HBA.out.fr hF (by simp; omega)); have HBB := Lib.hid (HBB.out.fr hF (by simp; omega))
  have HM := Lib.hid hM
  clear hM hF
  go_wp2_with fail
  refine (rmShift_any HM.out).mono ?_
  rintro e wz ⟨rfl, rfl⟩
  rw [s3_eq, show M3.opn = false from rfl]
  go_wp2_with fail
  refine (rmClone_any HM.out).mono ?_
  rintro e wC ⟨c, rfl, hc, hC, hF⟩
  have HF := Lib.hid (HF.out.trans hF); have HM := Lib.hid (HM.out.keep hF); have HBA := Lib.hid (HBA.out.keep hF); have HBB := Lib.hid (HBB.out.keep hF)
  have HC := Lib.hid hC
  have hcl := hC.lt
  have hsC := hF.size
  clear hC hF
  go_wp2_with fail
  refine (rmOf_any HM.out M3_ok (Nat.lt_succ_self g) (lit_in _ (g + 1) true 96 0 5 0) (lit_small _ _ _ _ _)).mono ?_
  rintro e wD ⟨vD, rfl, hVD, hM, hF⟩
  rw [M5_eq] at hM
  rw [oD_eq] at hVD
  have hsD := hF.size
  have HF := Lib.hid (HF.out.step hF (fun x hx => by simp at hx; subst hx; exact .inr (by omega))); have HBA := Lib.hid (HBA.out.fr hF (by simp; omega)); have HBB := Lib.hid (HBB.out.fr hF (by simp; omega)); have HC := Lib.hid (HC.out.fr hF (by simp; omega))
  have HM := Lib.hid hM
  obtain ⟨a1, c1, a2, c2, a3, c3, a4, c4, hvD⟩ : ∃ a1 c1 a2 c2 a3 c3 a4 c4, vD = .agg (pc true 97 12 152 9 (.slice a1 0 c1) false 0 (.slice a2 0 c2) (.slice a3 0 c3) (.slice a4 0 c4)) := lit_out hVD
  subst hvD
  have HVD := Lib.hid hVD
  clear hM hF hVD
  go_wp2_with (refine wpList_store_row rfl 67 (.tmp 9) (.tmp 49) rfl wD.heap.size rfl _ _ rfl 67 (Box.new wD 67 #[.bool false, .int .i64 0, .int .u16 0, .int .u32 0, .int .u32 0, .slice none 0 0, .bool false, .int .u16 0, .slice none 0 0, .slice none 0 0, .slice none 0 0]) (by kernel_rfl) rfl (oneCell_pc _ _ _ _ _ _ _ _ _ _ _ ⟨_, _, _, rfl⟩ ⟨_, _, _, rfl⟩ ⟨_, _, _, rfl⟩ ⟨_, _, _, rfl⟩) ?_; intro wE hY hG; have hFn := ((Fr.refl [] wD).alloc _).step hG (by simp); have HFn := Lib.hid hFn; have HBD := Lib.hid hY; clear hFn hY hG)
  have hF := HFn.out
  have HF := Lib.hid (HF.out.trans hF); have HM := Lib.hid (HM.out.keep hF); have HBA := Lib.hid (HBA.out.keep hF); have HBB := Lib.hid (HBB.out.keep hF); have HC := Lib.hid (HC.out.keep hF); have HVD := Lib.hid (HVD.out.keep hF)
  have hDg : g ≠ wD.heap.size := by omega
  have hsE := hF.size
  clear hF HFn
  refine (rmShift_any HM.out).mono ?_
  rintro e wz ⟨rfl, rfl⟩
  rw [s5_eq, show M5.opn = true from rfl]
  go_wp2_with fail
  refine (rmBytes_any HM.out (by constructor <;> simp [M5]) (show Bytes wE (.slice none 0 0) [] from Sl.nil _)).mono ?_
  rintro e wF (⟨p, v', hp, -⟩ | ⟨k, hp, rfl, -, hF⟩)
  · rw [parse_nil0] at hp; cases hp
  rw [parse_nil0] at hp
  cases hp
  have HF := Lib.hid (HF.out.trans hF); have HM := Lib.hid (HM.out.keep hF); have HBA := Lib.hid (HBA.out.keep hF); have HBB := Lib.hid (HBB.out.keep hF); have HC := Lib.hid (HC.out.keep hF); have HVD := Lib.hid (HVD.out.keep hF); have HBD := Lib.hid (HBD.out.keep hF)
  clear hF
  go_wp2_with (refine wpList_load_row rfl 67 (.tmp 9) rfl wD.heap.size rfl 67 _ _ _ HBD.out Try.underlying67 rfl (by kernel_rfl) ?_)
  refine (Write_ok HVD.out (lit_small _ _ _ _ _) wrong_D).mono ?_
  rintro e wG ⟨vw, rfl, hO, hF⟩
  obtain ⟨aw, cw, hvw⟩ := hO.nilOr
  subst hvw
  have HF := Lib.hid (HF.out.trans hF); have HM := Lib.hid (HM.out.keep hF); have HBA := Lib.hid (HBA.out.keep hF); have HBB := Lib.hid (HBB.out.keep hF); have HC := Lib.hid (HC.out.keep hF); have HVD := Lib.hid (HVD.out.keep hF); have HBD := Lib.hid (HBD.out.keep hF)
  have HW := Lib.hid hO.bytes
  clear hO hF
  go_wp2_with fail
  refine (rmBack_any HW.out 1 2 3 4).mono ?_
  rintro e wH (⟨p, vb, hp, -, rfl, hO, hF⟩ | ⟨p, hp, hn, -⟩ | ⟨k, hp, -⟩)
  rotate_left
  · exact absurd ⟨by omega, by omega⟩ hn
  · rw [parse_bytes wrong_D] at hp; cases hp
  rw [parse_bytes wrong_D] at hp
  cases hp
  rw [turn_D] at hO
  obtain ⟨ab, cb, hvb⟩ := hO.nilOr
  subst hvb
  have HF := Lib.hid (HF.out.trans hF); have HM := Lib.hid (HM.out.keep hF); have HBA := Lib.hid (HBA.out.keep hF); have HBB := Lib.hid (HBB.out.keep hF); have HC := Lib.hid (HC.out.keep hF); have HVD := Lib.hid (HVD.out.keep hF); have HBD := Lib.hid (HBD.out.keep hF); have HW := Lib.hid (Sl.keep HW.out hF)
  have HK := Lib.hid hO.bytes
  clear hO hF
  go_wp2_with fail
  refine (Parse_any HK.out).mono ?_
  rintro e wI (⟨vp, p, hp, rfl, hV, hF⟩ | ⟨k, hp, -⟩)
  rotate_left
  · rw [parse_bytes wrong_E] at hp; cases hp
  rw [parse_bytes wrong_E] at hp
  cases hp
  obtain ⟨a5, c5, a6, c6, a7, c7, a8, c8, hvp⟩ : ∃ a1 c1 a2 c2 a3 c3 a4 c4, vp = .agg (pc true 4 1 2 3 (.slice a1 0 c1) false 0 (.slice a2 0 c2) (.slice a3 0 c3) (.slice a4 0 c4)) := lit_out hV
  subst hvp
  have HF := Lib.hid (HF.out.trans hF); have HM := Lib.hid (HM.out.keep hF); have HBA := Lib.hid (HBA.out.keep hF); have HBB := Lib.hid (HBB.out.keep hF); have HC := Lib.hid (HC.out.keep hF); have HVD := Lib.hid (HVD.out.keep hF); have HBD := Lib.hid (HBD.out.keep hF); have HW := Lib.hid (Sl.keep HW.out hF); have HK := Lib.hid (Sl.keep HK.out hF)
  clear hV hF
  go_wp2_with (refine wpList_store_row rfl 67 (.tmp 18) (.tmp 73) rfl wI.heap.size rfl _ _ rfl 67 (Box.new wI 67 #[.bool false, .int .i64 0, .int .u16 0, .int .u32 0, .int .u32 0, .slice none 0 0, .bool false, .int .u16 0, .slice none 0 0, .slice none 0 0, .slice none 0 0]) (by kernel_rfl) rfl (oneCell_pc _ _ _ _ _ _ _ _ _ _ _ ⟨_, _, _, rfl⟩ ⟨_, _, _, rfl⟩ ⟨_, _, _, rfl⟩ ⟨_, _, _, rfl⟩) ?_; intro wJ hY hG; have hFn := ((Fr.refl [] wI).alloc _).step hG (by simp); have HFn := Lib.hid hFn; have HBP := Lib.hid hY; clear hFn hY hG; have HBA := Lib.hid (HBA.out.keep HFn.out); have HBB := Lib.hid (HBB.out.keep HFn.out); have HBD := Lib.hid (HBD.out.keep HFn.out); obtain ⟨x0, x1, x2, x3, x4, -⟩ := HBA.out.pcells; obtain ⟨y0, y1, y2, y3, y4, -⟩ := HBB.out.pcells; obtain ⟨z0, z1, z2, z3, z4, -⟩ := HBD.out.pcells; obtain ⟨q0, q1, q2, q3, q4, -⟩ := HBP.out.pcells)
  have HC := Lib.hid (HC.out.keep HFn.out); have HM := Lib.hid (HM.out.keep HFn.out); have HF := Lib.hid (HF.out.trans HFn.out)
  refine (rmNext_any HC.out).mono ?_
  rintro e wz ⟨rfl, rfl⟩
  rw [show M3.next.toNat = 12 from rfl]
  go_wp2_with fail
  refine (rmSegs_any HM.out).mono ?_
  rintro e wz ⟨rfl, rfl⟩
  rw [show M5.segs = 2 from rfl]
  go_wp2_with fail
  refine (rmSegs_any HC.out).mono ?_
  rintro e wz ⟨rfl, rfl⟩
  rw [show M3.segs = 1 from rfl]
  go_wp2_with fail
  refine (rmCount_any HM.out).mono ?_
  rintro e wz ⟨rfl, rfl⟩
  rw [show M5.cnt = 3 from rfl]
  go_wp2_with fail
  go_ret
  exact ⟨rfl, HF.out⟩
end Go.Proofs.Yticoongkfhkjgaa
