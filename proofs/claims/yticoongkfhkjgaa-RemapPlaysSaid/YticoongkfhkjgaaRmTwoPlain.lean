/- Maps that go on side by side, as plain data. -/
import Derived.Test.YticoongkfhkjgaaRmBack
import Derived.Test.YticoongkfhkjgaaZone
namespace Go.Proofs.Yticoongkfhkjgaa
open Go.RowKit

/-- A map and a clone of it that was taken ahead of a switch. -/
structure Cop (M C : RMap) : Prop where
  next : C.next = M.next
  cnt : C.cnt = M.cnt
  segs : M.segs ≤ C.segs + 1
  shut : M.opn = false → M.segs ≤ C.segs
/-- A map and another one that began where it was. -/
structure Twin (M O : RMap) : Prop where
  opn : M.opn = true
  opn2 : O.opn = true
  ssrc : O.ssrc = M.ssrc
  pt : O.pt = M.pt
  next : O.next = M.next
  shift : O.shift = M.shift
theorem Cop.start (M : RMap) : Cop M.shut M := ⟨rfl, rfl, by show M.segs ≤ _; omega, fun _ => by show M.segs ≤ _; omega⟩
theorem RMap.step_opn (M : RMap) (p : Pkt) : (M.step_ p).opn = true := by
  show (M.ready p.ts).opn = true
  unfold RMap.ready
  split
  · assumption
  · rfl
theorem RMap.ready_open {M : RMap} (h : M.opn = true) (ts : UInt32) : M.ready ts = M := by unfold RMap.ready; rw [if_pos h]
theorem RMap.ready_shut {M : RMap} (h : M.opn = false) (ts : UInt32) : M.ready ts = M.begin_ ts := by unfold RMap.ready; rw [if_neg (by rw [h]; simp)]
theorem RMap.ready_segs (M : RMap) (ts : UInt32) : M.segs ≤ (M.ready ts).segs := by
  unfold RMap.ready
  split
  · omega
  · show M.segs ≤ M.segs + 1; omega
theorem Cop.step {M C : RMap} (h : Cop M C) (p : Pkt) : Cop (M.step_ p) (C.step_ p) := by
  refine ⟨?_, ?_, ?_, fun e => ?_⟩
  · show add16 C.next 1 = add16 M.next 1; rw [h.next]
  · show C.cnt + 1 = M.cnt + 1; rw [h.cnt]
  · show (M.ready p.ts).segs ≤ (C.ready p.ts).segs + 1
    have h1 := C.ready_segs p.ts
    cases hm : M.opn with
    | true => rw [RMap.ready_open hm]; have := h.segs; omega
    | false => rw [RMap.ready_shut hm]; have := h.shut hm; show M.segs + 1 ≤ _; omega
  · rw [RMap.step_opn] at e; cases e
theorem u32_back (a b : UInt32) : sum32 b (a - b) = a := by
  unfold sum32
  apply UInt32.toNat_inj.1
  have h1 := u32_add_nat b (a - b)
  have h2 := u32_sub_nat a b
  have := a.toNat_lt
  have := b.toNat_lt
  omega
theorem Twin.out {M O : RMap} (h : Twin M O) (p : Pkt) : O.out p = M.out p := by
  rw [RMap.out_turn, RMap.out_turn, RMap.ready_open h.opn, RMap.ready_open h.opn2, h.ssrc, h.pt, h.next, h.shift]
theorem Twin.step {M O : RMap} (h : Twin M O) (p : Pkt) : Twin (M.step_ p) (O.step_ p) := by
  refine ⟨RMap.step_opn _ _, RMap.step_opn _ _, ?_, ?_, ?_, ?_⟩
  · show (O.ready p.ts).ssrc = (M.ready p.ts).ssrc; rw [RMap.ready_open h.opn, RMap.ready_open h.opn2, h.ssrc]
  · show (O.ready p.ts).pt = (M.ready p.ts).pt; rw [RMap.ready_open h.opn, RMap.ready_open h.opn2, h.pt]
  · show add16 O.next 1 = add16 M.next 1; rw [h.next]
  · show (O.ready p.ts).shift = (M.ready p.ts).shift; rw [RMap.ready_open h.opn, RMap.ready_open h.opn2, h.shift]
theorem RMap.out_shut {M : RMap} (hM : M.opn = false) (p : Pkt) : (M.out p).ts = M.start := by
  show sum32 p.ts (M.ready p.ts).shift = _
  rw [RMap.ready_shut hM]
  exact u32_back _ _
theorem RMap.new_start (sq : UInt16) (tt : UInt32) (stp : Int) : (RMap.new 5 97 sq tt stp).start = tt := by
  unfold RMap.start
  rw [if_neg (by show ¬ 0 < 0; omega)]
  rfl
/-- The map that begins where a shut one goes on. -/
theorem Twin.start {M : RMap} (hM : M.opn = false) (h5 : M.ssrc = 5) (h97 : M.pt = 97) (p : Pkt) (stp : Int) (sq : UInt16) (tt : UInt32) (hs : sq = (M.out p).seq) (ht : tt = (M.out p).ts) :
    (RMap.new 5 97 sq tt stp).out p = M.out p ∧ Twin (M.step_ p) ((RMap.new 5 97 sq tt stp).step_ p) := by
  have hs1 : sq = M.next := hs
  rw [RMap.out_shut hM] at ht
  have hr : (RMap.new 5 97 sq tt stp).ready p.ts = (RMap.new 5 97 sq tt stp).begin_ p.ts := RMap.ready_shut rfl _
  have hsh : ((RMap.new 5 97 sq tt stp).begin_ p.ts).shift = (M.begin_ p.ts).shift := by
    show (RMap.new 5 97 sq tt stp).start - p.ts = M.start - p.ts
    rw [RMap.new_start, ht]
  have hn : (RMap.new 5 97 sq tt stp).next = M.next := hs1
  have h5' : (RMap.new 5 97 sq tt stp).ssrc = M.ssrc := h5.symm
  have h97' : (RMap.new 5 97 sq tt stp).pt = M.pt := by rw [h97]; rfl
  generalize RMap.new 5 97 sq tt stp = N at *
  refine ⟨?_, RMap.step_opn _ _, RMap.step_opn _ _, ?_, ?_, ?_, ?_⟩
  · rw [RMap.out_turn, RMap.out_turn, hr, hsh, RMap.ready_shut hM, h5', h97', hn]
  · show (N.ready p.ts).ssrc = (M.ready p.ts).ssrc
    rw [(RMap.ready_same _ _).2.1, (RMap.ready_same _ _).2.1, h5']
  · show (N.ready p.ts).pt = (M.ready p.ts).pt
    rw [(RMap.ready_same _ _).1, (RMap.ready_same _ _).1, h97']
  · show add16 N.next 1 = add16 M.next 1
    rw [hn]
  · show (N.ready p.ts).shift = (M.ready p.ts).shift
    rw [hr, hsh, RMap.ready_shut hM]
theorem RMap.step_keep (M : RMap) (p : Pkt) : (M.step_ p).ssrc = M.ssrc ∧ (M.step_ p).pt = M.pt := ⟨(M.ready_same p.ts).2.1, (M.ready_same p.ts).1⟩
end Go.Proofs.Yticoongkfhkjgaa
