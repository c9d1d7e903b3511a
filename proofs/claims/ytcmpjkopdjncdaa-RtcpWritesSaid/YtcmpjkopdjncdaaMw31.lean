import Derived.Test.YtcmpjkopdjncdaaMw30
import Derived.Test.YtcmpjkopdjncdaaMw27
import Derived.Test.YtcmpjkopdjncdaaMw28
import Derived.Test.YtcmpjkopdjncdaaMw17
/- Repairs: their numbers, their fields as an imprint (printed by gen_par1.py). -/
namespace Go.Proofs.Ytcmpjkopdjncdaa
open Go.RowKit

/-- A repair: head and body, base, mask. -/
structure Rep_ where
  bt : Bt
  base : UInt16
  m : Msk
abbrev rpc (r : Rep_) (vb : Value) : Array Value := #[.int .u8 (r.bt.h0.toNat : Nat), .int .u8 (r.bt.h1.toNat : Nat), .int .u8 (r.bt.h2.toNat : Nat), .int .u8 (r.bt.h3.toNat : Nat), .int .u8 (r.bt.h4.toNat : Nat), .int .u8 (r.bt.h5.toNat : Nat), .int .u8 (r.bt.h6.toNat : Nat), .int .u8 (r.bt.h7.toNat : Nat), .int .u16 (r.base.toNat : Nat), .int .u64 (r.m.hi.toNat : Nat), .int .u64 (r.m.lo.toNat : Nat), vb]
def RpV (w : World) (v : Value) (r : Rep_) : Prop := ∃ vb, v = .agg (rpc r vb) ∧ Bytes w vb r.bt.body
theorem RpV.keep {w w' : World} {v : Value} {r : Rep_} (h : RpV w v r) (hf : Fr [] w w') : RpV w' v r := by
  obtain ⟨vb, e, hb⟩ := h
  exact ⟨vb, e, Sl.keep hb hf⟩
def Bt.cut (x : Bt) : Bt := { x with h0 := x.h0 &&& 63 }
theorem Bt.add_zero (x : Bt) : x.add Bt.zero = x := by
  obtain ⟨h0, h1, h2, h3, h4, h5, h6, h7, b⟩ := x
  simp [Bt.add, Bt.zero, xb_nil_right]
end Go.Proofs.Ytcmpjkopdjncdaa

/- The walk of parity.sheet.add (printed by gen_sheet.py). -/
namespace Go.Proofs.Ytcmpjkopdjncdaa
open Go.RowKit

structure Sheet where
  sum : Bt
  seqs : List UInt16
  ssrc : UInt32
  alike : Bool
def Sheet.zero : Sheet := ⟨Bt.zero, [], 0, false⟩
def Sheet.begun (s : Sheet) (p : Pkt) : Sheet := if s.seqs = [] then { s with ssrc := p.ssrc, alike := true } else s
def Sheet.held (s : Sheet) (p : Pkt) : Sheet := { s with alike := s.alike && p.ssrc == s.ssrc }
def Sheet.noted (s : Sheet) (p : Pkt) : Sheet := { s with seqs := s.seqs ++ [p.seq] }
def Sheet.summed (s : Sheet) (x : Bt) : Sheet := { s with sum := s.sum.add x }
def Sheet.add (s : Sheet) (l : List UInt8) (p : Pkt) : Sheet := (((s.begun p).held p).noted p).summed (imp l)
abbrev shc (s : Sheet) (vb vs : Value) : Array Value := #[.int .u8 (s.sum.h0.toNat : Nat), .int .u8 (s.sum.h1.toNat : Nat), .int .u8 (s.sum.h2.toNat : Nat), .int .u8 (s.sum.h3.toNat : Nat), .int .u8 (s.sum.h4.toNat : Nat), .int .u8 (s.sum.h5.toNat : Nat), .int .u8 (s.sum.h6.toNat : Nat), .int .u8 (s.sum.h7.toNat : Nat), vb, vs, .int .u32 (s.ssrc.toNat : Nat), .bool s.alike]
theorem wp_store_part {P : Program} {w : World} {ops : Array Oper} {o : Oper} {a : Act} {K : Act → World → Prop} {Q : Exit → Act → World → Prop} {E : Prop} (hgd : o.guard = none) (ty : TypeId) (x y : Operand)
    (ho : o.op = .store ty x y) (g : Nat) (hx : a.eval x = .pointer (some ⟨g, 0, none⟩)) (c c' : Array Value) (hy : a.eval y = .agg c') (t : TypeId) (hb : Box w g t c)
    (hi : (P.info? ty).map (·.size) = some c'.size) (hs : c'.size ≤ c.size) (h1 : ∀ u ∈ c'.toList, u.oneCell' = true)
    (h : ∀ w', Box w' g t (c'.toList ++ c.toList.drop c'.size).toArray → Fr [g] w w' → K (a.put o.dst undef) w') : if Region.wanted o (yielded ops a.tmps) = true then Oper.wp P o a w K Q else E := by
  rw [if_pos (by simp [Region.wanted, hgd])]
  have hst := run_storeCells_at P g 0 t c'.toList 0 c w hb (by simp [hs]) h1
  simp only [Nat.add_zero, List.take_zero, List.nil_append, Nat.zero_add, Array.length_toList] at hst
  cases hq : P.info? ty with
  | none => simp [hq] at hi
  | some i =>
    have hsz : i.size = c'.size := by simpa [hq] using hi
    unfold Oper.wp execOp
    simp only [ho, hx, hy]
    simp [Instr.storeAt, Instr.sureAddr, storeVar, Sem.run_bind, sizeOf, typeInfo, hq, hsz, Value.cells, hst]
    exact h _ (hb.setRow _) (Box.frSetRow w g _)
theorem run_load_mid_op {P : Program} {w : World} {o : Oper} {a : Act} (ty : TypeId) (x : Operand) (ho : o.op = .load ty x)
    (b off : Nat) (hx : a.eval x = .pointer (some ⟨b, off, none⟩)) (cs : Array Value) (d : TypeDesc) (hc : w.rangeAt b off cs.toList)
    (hu : P.underlying ty = some d) (hd : d.isRow = true) (hi : (P.info? ty).map (·.size) = some cs.size) : (execOp a.eval o).run P w = .ok (.value (.agg cs)) w := by
  unfold execOp
  simp only [ho, hx, Instr.loadAt, Instr.sureAddr, Sem.run_bind, Sem.run_pure, Result.andThen_ok, run_loadVar_mid w b off ty cs.toList d hc hu hd hi]
theorem shc_range {w : World} {g : Nat} {t : TypeId} {s : Sheet} {vb vs : Value} (h : Box w g t (shc s vb vs)) : w.rangeAt g 0 (bc s.sum vb).toList := fun j u hj => by
  refine box_range h j u ?_
  have hlt := (List.getElem?_eq_some_iff.1 hj).1
  have h9 : j < 9 := by simpa [bc] using hlt
  rcases (by omega : j = 0 ∨ j = 1 ∨ j = 2 ∨ j = 3 ∨ j = 4 ∨ j = 5 ∨ j = 6 ∨ j = 7 ∨ j = 8) with rfl | rfl | rfl | rfl | rfl | rfl | rfl | rfl | rfl <;> exact hj
theorem u32_beq (a b : UInt32) : (((a.toNat : Nat) : Int) == ((b.toNat : Nat) : Int)) = (a == b) := by
  rw [Bool.eq_iff_iff]
  simp [← UInt32.toNat_inj]
  omega
end Go.Proofs.Ytcmpjkopdjncdaa
