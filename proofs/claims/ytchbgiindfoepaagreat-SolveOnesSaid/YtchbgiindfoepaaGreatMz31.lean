import Derived.Test.YtchbgiindfoepaaGreatMz9
import Derived.Test.YtchbgiindfoepaaGreatMz28
import Derived.Test.YtchbgiindfoepaaGreatMz16
import Derived.Test.YtchbgiindfoepaaGreatMz18
/- The walk of confluxref12.All; imprints as elements of slices (printed by gen_imp14.py). -/
namespace Go.Proofs.YtchbgiindfoepaaGreat
open Go.RowKit

/-- An imprint as nine cells; the reference's as two. -/
def BtR (w : World) (c : List Value) (x : Bt) (B : List Nat) : Prop := ∃ vb, c = (bc x vb).toList ∧ Bytes w vb x.body ∧ B = (liveOf vb).toList
def RbR (w : World) (c : List Value) (x : Bt) (B : List Nat) : Prop := ∃ vh vb, c = [vh, vb] ∧ Bytes w vh x.head ∧ Bytes w vb x.body ∧ B = (liveOf vh).toList ++ (liveOf vb).toList
theorem slice_one {w : World} {v : Value} {xs : List Value} (h : Sl w v xs) : v.oneCell' = true := by
  obtain ⟨a, c, rfl⟩ := h.shape
  rfl
theorem Rep.bt : Rep 9 BtR where
  len := by rintro w c y B ⟨vb, rfl, -, -⟩; rfl
  one := by
    rintro w c y B ⟨vb, rfl, h, -⟩ u hu
    simp [bc] at hu
    rcases hu with rfl | rfl | rfl | rfl | rfl | rfl | rfl | rfl | rfl
    all_goals first | rfl | exact slice_one h
  lt := by
    rintro w c y B ⟨vb, rfl, h, rfl⟩ b hb
    exact Sl.lt h b (by simpa using hb)
  fr := by
    rintro w w' c y B S ⟨vb, rfl, h, rfl⟩ hf hS
    exact ⟨vb, rfl, Sl.frL h hf (fun b hb => hS b (by simp [hb])), rfl⟩
theorem Rep.rb : Rep 2 RbR where
  len := by rintro w c y B ⟨vh, vb, rfl, -, -, -⟩; rfl
  one := by
    rintro w c y B ⟨vh, vb, rfl, h1, h2, -⟩ u hu
    simp only [List.mem_cons, List.not_mem_nil, or_false] at hu
    rcases hu with rfl | rfl
    · exact slice_one h1
    · exact slice_one h2
  lt := by
    rintro w c y B ⟨vh, vb, rfl, h1, h2, rfl⟩ b hb
    rcases List.mem_append.1 hb with hb | hb
    · exact Sl.lt h1 b (by simpa using hb)
    · exact Sl.lt h2 b (by simpa using hb)
  fr := by
    rintro w w' c y B S ⟨vh, vb, rfl, h1, h2, rfl⟩ hf hS
    exact ⟨vh, vb, rfl, Sl.frL h1 hf (fun b hb => hS b (by simp [hb])), Sl.frL h2 hf (fun b hb => hS b (by simp [hb])), rfl⟩
theorem all_take (xs : List Bt) (j : Nat) (h : j < xs.length) : Bt.all (xs.take (j + 1)) = (Bt.all (xs.take j)).add xs[j] := by
  rw [List.take_succ_eq_append_getElem h, bt_all_snoc]
theorem all_small {xs : List Bt} {n : Nat} (h : ∀ x ∈ xs, x.body.length ≤ n) : (Bt.all xs).body.length ≤ n := Bt.fold_small _ _ _ (by simp [Bt.zero]) h

end Go.Proofs.YtchbgiindfoepaaGreat

/- Small lemmas on boxes, elements and imprints (out of the walk of ImprintFolds). -/
namespace Go.Proofs.YtchbgiindfoepaaGreat
open Go.RowKit

set_option maxRecDepth 100000 in
theorem info_bits : (Tryz.prog.info? 54).map (fun i => (i.zero, i.size, i.bytes)) = some (some (.agg (bc Bt.zero (.slice none 0 0))), 9, 32) := by kernel_rfl
set_option maxRecDepth 100000 in
theorem info_u8s : (Tryz.prog.info? 25).map (fun i => (i.zero, i.size, i.bytes)) = some (some (.slice none 0 0), 1, 24) := by kernel_rfl
theorem box_range {w : World} {g : Nat} {t : TypeId} {c : Array Value} (h : Box w g t c) : w.rangeAt g 0 c.toList := fun j u hj => by
  rw [Nat.zero_add, h.cell, ← Array.getElem?_toList]
  exact hj
theorem mem_toList {b : Nat} {o : Option Nat} : b ∈ o.toList ↔ o = some b := by cases o <;> simp [eq_comm]
theorem OwnEls.open_ {α : Type} {k : Nat} {R : World → List Value → α → List Nat → Prop} {w : World} {base : Nat} {e : TypeId} {a : Option Addr} {n cap : Nat} {ys : List α} {B : List Nat} (h : OwnEls k R w base e (.slice a n cap) ys B) (hb : ∃ g, blockOf (.slice a n cap) = some g) :
    ∃ g o cells, a = some ⟨g, o, none⟩ ∧ base ≤ g ∧ g < w.heap.size ∧ Els R ys w cells B ∧ w.rangeAt g o cells ∧ n = ys.length := by
  obtain ⟨cells, ⟨h1, h | ⟨g, cap', cur, e1, h2, h3, h4, h5, h6, h7⟩⟩, h8, h9⟩ := h
  · obtain ⟨h, _⟩ := h
    obtain ⟨g, hg⟩ := hb
    rw [h] at hg
    simp [blockOf] at hg
  · simp only [Value.slice.injEq] at e1
    obtain ⟨rfl, rfl, rfl⟩ := e1
    refine ⟨g, 0, cells, rfl, h2, (Array.getElem?_eq_some_iff.1 h3).1, h8, fun i x hx => ?_, rfl⟩
    rw [Nat.zero_add, cell_of_row w g i cur _ _ h3, ← Array.getElem?_toList]
    rw [← h7, List.getElem?_take] at hx
    split at hx
    · exact hx
    · cases hx
theorem imp_small {l : List UInt8} (h : l.length ≤ 500) : (imp l).body.length ≤ 500 := by
  show (l.drop 12).length ≤ 500
  rw [List.length_drop]
  omega
theorem wpList_load_midA {P : Program} {ops : Array Oper} {rest : List Oper} {op : Oper} {a : Act} {w : World} {Q : Exit → Act → World → Prop} (hgd : op.guard = none) (ty : TypeId) (x : Operand) (ho : op.op = .load ty x)
    (b o : Nat) (hx : a.eval x = .pointer (some ⟨b, o, none⟩)) (cs : Array Value) (d : TypeDesc) (hc : w.rangeAt b o cs.toList)
    (hu : P.underlying ty = some d) (hd : d.isRow = true) (hi : (P.info? ty).map (·.size) = some cs.size)
    (h : wpList P ops Q rest (a.put op.dst (.agg cs)) w) : wpList P ops Q (op :: rest) a w :=
  wpList_load_mid hgd ty x ho b o hx cs.toList d hc hu hd hi h
set_option maxRecDepth 100000 in
theorem info_rbits : (Tryz.prog.info? 40).map (fun i => (i.zero, i.size, i.bytes)) = some (some (.agg #[.slice none 0 0, .slice none 0 0]), 2, 48) := by kernel_rfl
theorem imp_lenb {l : List UInt8} {p : Pkt} (h : parseR l = .ok p) : (imp l).len = (imp l).body.length := by
  obtain ⟨h1, h2⟩ := parse_back h
  rw [← h2, imp_len h1, imp_bytes]
theorem and1023 (c : Int) : ∃ n : Nat, bits .and .i64 c 1023 = (n : Int) ∧ n ≤ 1023 := by
  have h : (BitVec.ofInt 64 c &&& BitVec.ofInt 64 1023).toNat ≤ 1023 := by
    rw [BitVec.toNat_and]
    exact Nat.and_le_right
  refine ⟨_, ?_, h⟩
  show IntKind.i64.wrap ((BitVec.ofInt 64 c &&& BitVec.ofInt 64 1023).toNat : Int) = _
  exact IntWalk.i64_in _ (by omega)
end Go.Proofs.YtchbgiindfoepaaGreat
