import Derived.RangeFuncNested
import Derived.RangeFuncBound
import Derived.RangeFuncCalls
import Derived.RangeFuncLeaves
import Derived.RangeFuncBox
import Derived.Shelf.Abstract
import Derived.Shelf.RegionOpen
import Derived.OwnWalkIn
import Derived.TacticsInMore
import Derived.LoopNIn
import Derived.LoopIn
import Derived.Test.YtcmpjkopdjncdaaMw18
import Derived.Test.YtcmpjkopdjncdaaMw14
import Derived.Test.YtcmpjkopdjncdaaMw17
import Derived.Test.YtcmpjkopdjncdaaMw19
/- The walks of stripe.Fit, Fold, All, Xor, Gap; the iterator slices.Values over rows. -/
namespace Go.Proofs.Ytcmpjkopdjncdaa
open Go.RowKit Go.Shelf

attribute [local go_sem] Oper.semAt_some

/-- A row that reads as bytes in w. -/
def RowAt (w : World) : Type := { x : Value × List UInt8 // Bytes w x.1 x.2 ∧ x.2.length ≤ 1099511627776 }
def foldX (zs : List (List UInt8)) : List UInt8 := zs.foldl xb []
theorem foldX_snoc (zs : List (List UInt8)) (x : List UInt8) : foldX (zs ++ [x]) = xb (foldX zs) x := by simp [foldX]
theorem foldX_len (zs : List (List UInt8)) (n : Nat) : ∀ z : List UInt8, z.length ≤ n → (∀ x ∈ zs, x.length ≤ n) → (zs.foldl xb z).length ≤ n := by
  induction zs with
  | nil => intro z h _; exact h
  | cons x zs ih =>
    intro z h hx
    rw [List.foldl_cons]
    refine ih _ ?_ (fun y hy => hx y (by simp [hy]))
    rw [xb_len]
    have := hx x (by simp)
    omega
theorem Fr.belowOf {S : List Nat} {W W' : World} {n : Nat} (h : Fr S W W') (hS : ∀ g ∈ S, n ≤ g) (hn : n ≤ W.heap.size) : Below n W W' :=
  ⟨h.os, h.tape, h.output, h.size, fun k hk => h.block k (by omega) (fun hm => by have := hS k hm; omega)⟩
theorem Fr.keepsOthers {S : List Nat} {w w' : World} (h : Fr S w w') (hS : ∀ g ∈ S, ∀ o, w.heap[g]? = some o → o.isCells = true) : KeepsOthers w w' :=
  ⟨h.size, fun k o ho hc => by
    refine (h.block k (Array.getElem?_eq_some_iff.1 ho).1 (fun hm => ?_)).trans ho
    have := hS k hm o ho
    rw [this] at hc
    cases hc⟩

theorem Fr.ofGrown {w w' : World} {row : Option Nat} (h : w.grownBy w' row) : Fr row.toList w w' := (Fr.refl row.toList w).grown h (fun k hk => .inl (by simp [hk]))
theorem OwnB.cells {w : World} {base : Nat} {v : Value} {l : List UInt8} (h : OwnB w base v l) : ∀ b, blockOf v = some b → ∃ c t, w.heap[b]? = some (.cells c t (0, 0)) := by
  intro b hb
  rcases h.2 with ⟨rfl, hn⟩ | ⟨g, cap, cur, rfl, hbg, hg, r⟩
  · cases hb
  · simp only [blockOf, Option.some.injEq] at hb
    subst hb
    exact ⟨_, _, hg⟩
def rowAt {w : World} {v : Value} {l : List UInt8} (h : Bytes w v l) (hl : l.length ≤ 1099511627776) : RowAt w := ⟨(v, l), h, hl⟩
end Go.Proofs.Ytcmpjkopdjncdaa

/- Steps inside a fence: a struct loaded whole, a struct stored whole. -/
namespace Go.Proofs.Ytcmpjkopdjncdaa
open Go.RowKit Go.Shelf

theorem wpListIn_load_row {F : Fence} {n : Nat} {P : Program} {ops : Array Oper} {rest : List Oper} {o : Oper} {a : Act} {w : World} {Q : Exit → Act → World → Prop} (hgd : o.guard = none) (ty : TypeId) (x : Operand) (ho : o.op = .load ty x)
    (g : Nat) (hx : a.eval x = .pointer (some ⟨g, 0, none⟩)) (t : TypeId) (cs : Array Value) (d : TypeDesc) (hg : Box w g t cs)
    (hu : P.underlying ty = some d) (hd : (match d with | .struct _ | .array _ _ => true | _ => false) = true) (hi : (P.info? ty).map (·.size) = some cs.size)
    (h : wpListIn F n P ops Q rest (a.put o.dst (.agg cs)) w) : wpListIn F n P ops Q (o :: rest) a w := by
  refine wpListIn_plain hgd fun K hK => ?_
  unfold Oper.wpIn
  refine ⟨by simp [Oper.about, ho], ?_⟩
  rw [Oper.semAt_plain F _ _ (by rw [ho]; intro c hc'; cases hc')]
  unfold execOp
  simp only [ho, hx, Instr.loadAt, Instr.sureAddr, Sem.run_bind, Sem.run_pure, Result.andThen_ok, run_loadVar_row w g t ty cs (0, 0) d hg hu hd hi]
  exact hK _ _ h
theorem wpListIn_store_row {F : Fence} {n : Nat} {P : Program} {w : World} {ops : Array Oper} {rest : List Oper} {o : Oper} {a : Act} {Q : Exit → Act → World → Prop} (hgd : o.guard = none) (ty : TypeId) (x y : Operand)
    (ho : o.op = .store ty x y) (g : Nat) (hx : a.eval x = .pointer (some ⟨g, 0, none⟩)) (c c' : Array Value) (hy : a.eval y = .agg c') (t : TypeId) (hb : Box w g t c)
    (hi : (P.info? ty).map (·.size) = some c'.size) (hs : c'.size = c.size) (h1 : ∀ u ∈ c'.toList, u.oneCell' = true)
    (h : ∀ w', Box w' g t c' → Fr [g] w w' → wpListIn F n P ops Q rest (a.put o.dst undef) w') : wpListIn F n P ops Q (o :: rest) a w := by
  refine wpListIn_plain hgd fun K hK => ?_
  have hst := run_storeCells_at P g 0 t c'.toList 0 c w hb (by simp [hs]) h1
  simp only [Nat.add_zero, List.take_zero, List.nil_append, Nat.zero_add] at hst
  rw [List.drop_of_length_le (by simp [hs]), List.append_nil, Array.toArray_toList] at hst
  cases hq : P.info? ty with
  | none => simp [hq] at hi
  | some i =>
    have hsz : i.size = c'.size := by simpa [hq] using hi
    unfold Oper.wpIn
    refine ⟨by simp [Oper.about, ho], ?_⟩
    rw [Oper.semAt_plain F _ _ (by rw [ho]; intro c hc'; cases hc')]
    unfold execOp
    simp only [ho, hx, hy]
    simp [Instr.storeAt, Instr.sureAddr, storeVar, Sem.run_bind, sizeOf, typeInfo, hq, hsz, Value.cells, hst]
    exact hK _ _ (h _ (hb.setRow c') (Box.frSetRow w g c'))
theorem Box.other {w w' : World} {g : Nat} {t : TypeId} {c : Array Value} {row : Option Nat} (h : Box w g t c) (hg : w.grownBy w' row) (hr : ∀ r, row = some r → ∃ o : Obj, w.heap[r]? = some o ∧ o.isCells = false) : Box w' g t c :=
  h.fr (Fr.ofGrown hg) (fun hm => by
    obtain ⟨o, ho, hc⟩ := hr g (by simpa using hm)
    unfold Box at h
    rw [h] at ho
    cases ho
    cases hc)
theorem OwnB.other {w w' : World} {base : Nat} {v : Value} {l : List UInt8} {row : Option Nat} (h : OwnB w base v l) (hg : w.grownBy w' row) (hr : ∀ r, row = some r → ∃ o : Obj, w.heap[r]? = some o ∧ o.isCells = false) : OwnB w' base v l :=
  h.fr (Fr.ofGrown hg) (fun b hb hm => by
    obtain ⟨o, ho, hc⟩ := hr b (by simpa using hm)
    obtain ⟨c, t, h2⟩ := h.cells b hb
    rw [h2] at ho
    cases ho
    cases hc)

theorem wpListIn_load_row_w {F : Fence} {n : Nat} {P : Program} {ops : Array Oper} {rest : List Oper} {o : Oper} {a : Act} {w : World} {Q : Exit → Act → World → Prop} (hw : Region.wanted o (yielded ops a.tmps) = true) (ty : TypeId) (x : Operand) (ho : o.op = .load ty x)
    (g : Nat) (hx : a.eval x = .pointer (some ⟨g, 0, none⟩)) (t : TypeId) (cs : Array Value) (d : TypeDesc) (hg : Box w g t cs)
    (hu : P.underlying ty = some d) (hd : (match d with | .struct _ | .array _ _ => true | _ => false) = true) (hi : (P.info? ty).map (·.size) = some cs.size)
    (h : wpListIn F n P ops Q rest (a.put o.dst (.agg cs)) w) : wpListIn F n P ops Q (o :: rest) a w := by
  unfold wpListIn
  rw [if_pos hw]
  unfold Oper.wpIn
  refine ⟨by simp [Oper.about, ho], ?_⟩
  rw [Oper.semAt_plain F _ _ (by rw [ho]; intro c hc'; cases hc')]
  unfold execOp
  simp only [ho, hx, Instr.loadAt, Instr.sureAddr, Sem.run_bind, Sem.run_pure, Result.andThen_ok, run_loadVar_row w g t ty cs (0, 0) d hg hu hd hi]
  exact h
theorem Box.belowN {n₀ : Nat} {A B : World} {g : Nat} {t : TypeId} {c : Array Value} (h : Box A g t c) (hb : Below n₀ A B) (hg : g < n₀) : Box B g t c := (hb.block g hg).trans h
end Go.Proofs.Ytcmpjkopdjncdaa

/- The walks of imprint.Length, Same, Empty; confluxref12.Same; confluxlaw12.as, like. -/
namespace Go.Proofs.Ytcmpjkopdjncdaa
open Go.RowKit

/-- The cells of an imprint; values that read as imprints. -/
def bc (x : Bt) (v : Value) : Array Value := #[.int .u8 x.h0.toNat, .int .u8 x.h1.toNat, .int .u8 x.h2.toNat, .int .u8 x.h3.toNat, .int .u8 x.h4.toNat, .int .u8 x.h5.toNat, .int .u8 x.h6.toNat, .int .u8 x.h7.toNat, v]
def BtV (w : World) (v : Value) (x : Bt) : Prop := ∃ vb, v = .agg (bc x vb) ∧ Bytes w vb x.body
def BtO (w : World) (base : Nat) (v : Value) (x : Bt) : Prop := ∃ vb, v = .agg (bc x vb) ∧ OwnB w base vb x.body
def RBV (w : World) (v : Value) (h b : List UInt8) : Prop := ∃ vh vb, v = .agg #[vh, vb] ∧ Bytes w vh h ∧ Bytes w vb b
/-- .. whose slices lie in new blocks. -/
def RBN (w : World) (base : Nat) (v : Value) (h b : List UInt8) : Prop := ∃ vh vb, v = .agg #[vh, vb] ∧ Bytes w vh h ∧ Bytes w vb b ∧ ∀ k, liveOf vh = some k ∨ liveOf vb = some k → base < k
theorem RBN.rbv {w : World} {base : Nat} {v : Value} {h b : List UInt8} (x : RBN w base v h b) : RBV w v h b := by
  obtain ⟨vh, vb, e, h1, h2, -⟩ := x
  exact ⟨vh, vb, e, h1, h2⟩
theorem BtO.v {w : World} {base : Nat} {v : Value} {x : Bt} (h : BtO w base v x) : BtV w v x := by obtain ⟨vb, e, h⟩ := h; exact ⟨vb, e, h.bytes⟩
theorem BtV.keep {w w' : World} {v : Value} {x : Bt} (h : BtV w v x) (hf : Fr [] w w') : BtV w' v x := by obtain ⟨vb, e, h⟩ := h; exact ⟨vb, e, Sl.keep h hf⟩
theorem BtO.keep {w w' : World} {base : Nat} {v : Value} {x : Bt} (h : BtO w base v x) (hf : Fr [] w w') : BtO w' base v x := by obtain ⟨vb, e, h⟩ := h; exact ⟨vb, e, h.keep hf⟩
theorem BtO.mono {w : World} {base base' : Nat} {v : Value} {x : Bt} (h : BtO w base v x) (hb : base' ≤ base) : BtO w base' v x := by obtain ⟨vb, e, h⟩ := h; exact ⟨vb, e, OwnB.mono h hb⟩
theorem RBV.keep {w w' : World} {v : Value} {h b : List UInt8} (hr : RBV w v h b) (hf : Fr [] w w') : RBV w' v h b := by obtain ⟨vh, vb, e, h1, h2⟩ := hr; exact ⟨vh, vb, e, Sl.keep h1 hf, Sl.keep h2 hf⟩
/-- .. as the walk wants it: the body's slice spelled out. -/
theorem BtV.open_ {w : World} {v : Value} {x : Bt} (h : BtV w v x) : ∃ a c, v = .agg (bc x (.slice a x.body.length c)) ∧ Bytes w (.slice a x.body.length c) x.body := by
  obtain ⟨vb, rfl, hb⟩ := h
  obtain ⟨a, c, rfl⟩ := hb.shape
  simp only [List.length_map] at hb ⊢
  exact ⟨a, c, rfl, hb⟩
theorem RBV.open_ {w : World} {v : Value} {h b : List UInt8} (hr : RBV w v h b) : ∃ a1 c1 a2 c2, v = .agg #[.slice a1 h.length c1, .slice a2 b.length c2] ∧ Bytes w (.slice a1 h.length c1) h ∧ Bytes w (.slice a2 b.length c2) b := by
  obtain ⟨vh, vb, rfl, h1, h2⟩ := hr
  obtain ⟨a, c, rfl⟩ := h1.shape
  obtain ⟨a2, c2, rfl⟩ := h2.shape
  simp only [List.length_map] at h1 h2 ⊢
  exact ⟨a, c, a2, c2, rfl, h1, h2⟩
theorem Box.bcells {w : World} {g : Nat} {t : TypeId} {x : Bt} {v : Value} (h : Box w g t (bc x v)) :
    w.cell? ⟨g, 0, none⟩ = some (.int .u8 x.h0.toNat) ∧ w.cell? ⟨g, 1, none⟩ = some (.int .u8 x.h1.toNat) ∧ w.cell? ⟨g, 2, none⟩ = some (.int .u8 x.h2.toNat) ∧ w.cell? ⟨g, 3, none⟩ = some (.int .u8 x.h3.toNat) ∧
    w.cell? ⟨g, 4, none⟩ = some (.int .u8 x.h4.toNat) ∧ w.cell? ⟨g, 5, none⟩ = some (.int .u8 x.h5.toNat) ∧ w.cell? ⟨g, 6, none⟩ = some (.int .u8 x.h6.toNat) ∧ w.cell? ⟨g, 7, none⟩ = some (.int .u8 x.h7.toNat) ∧ w.cell? ⟨g, 8, none⟩ = some v :=
  ⟨h.cell 0, h.cell 1, h.cell 2, h.cell 3, h.cell 4, h.cell 5, h.cell 6, h.cell 7, h.cell 8⟩
theorem Box.headSl {w : World} {g : Nat} {t : TypeId} {x : Bt} {v : Value} (h : Box w g t (bc x v)) : Bytes w (.slice (some ⟨g, 0, none⟩) 8 8) x.head :=
  box_sl (off := 0) (cap := 8) h (x.head.map B8) (by
    intro i y hy
    have hl : i < 8 := (List.getElem?_eq_some_iff.1 hy).1
    match i, hl with
    | 0, _ | 1, _ | 2, _ | 3, _ | 4, _ | 5, _ | 6, _ | 7, _ => exact hy) (by simp [Bt.head_len]) (by unfold maxLen; omega)
theorem or_shl8 (a b : Nat) (ha : a < 256) (hb : b < 256) : bits .or .i64 ((a : Int) * 256) (b : Int) = ((a * 256 + b : Nat) : Int) := by
  rw [show ((a : Int) * 256) = ((a * 256 : Nat) : Int) by omega, i64_or_nat _ _ (by omega) (by omega)]
  have := Nat.two_pow_add_eq_or_of_lt (i := 8) (b := b) (by omega) a
  rw [show a * 256 = 2 ^ 8 * a by omega, ← this]

theorem head_conj (x y : Bt) : (((x.h0.toNat : Nat) : Int) == ((y.h0.toNat : Nat) : Int) && ((x.h1.toNat : Nat) : Int) == ((y.h1.toNat : Nat) : Int) && ((x.h2.toNat : Nat) : Int) == ((y.h2.toNat : Nat) : Int) && ((x.h3.toNat : Nat) : Int) == ((y.h3.toNat : Nat) : Int) && ((x.h4.toNat : Nat) : Int) == ((y.h4.toNat : Nat) : Int) && ((x.h5.toNat : Nat) : Int) == ((y.h5.toNat : Nat) : Int) && ((x.h6.toNat : Nat) : Int) == ((y.h6.toNat : Nat) : Int) && ((x.h7.toNat : Nat) : Int) == ((y.h7.toNat : Nat) : Int)) = (x.head == y.head) := by
  rw [Bool.eq_iff_iff]
  simp [Bt.head, UInt8.toNat_inj, Int.natCast_inj, and_assoc]
end Go.Proofs.Ytcmpjkopdjncdaa

/- The walks of imprint.Empty, Add; confluxref12.Same, Add; confluxlaw12.as, like (printed by gen_imp2.py). -/
namespace Go.Proofs.Ytcmpjkopdjncdaa
open Go.RowKit

end Go.Proofs.Ytcmpjkopdjncdaa

/- The walks of imprint.Add and Of (printed by gen_imp3.py). -/
namespace Go.Proofs.Ytcmpjkopdjncdaa
open Go.RowKit

theorem bc_list (x : Bt) (v : Value) : bc x v = (x.head.map B8 ++ [v]).toArray := rfl
theorem head8 (x : Bt) {l : List UInt8} (h : l = x.head) (v : Value) (y : Bt) (b : List UInt8) (hb : b = y.body) : (splice ((Bt.zero).head.map B8 ++ [v]) 0 (l.map B8)).toArray = bc { x with body := b } v := by
  subst h
  simp [splice, bc, Bt.head, B8, Bt.zero]

theorem u8_and_nat (a b : Nat) (ha : a < 256) (hb : b < 256) : bits .and .u8 (a : Int) (b : Int) = ((a &&& b : Nat) : Int) := by
  have h : a &&& b ≤ a := Nat.and_le_left
  show IntKind.u8.wrap ((BitVec.ofInt 8 (a : Int) &&& BitVec.ofInt 8 (b : Int)).toNat : Int) = _
  rw [show BitVec.ofInt 8 (a : Int) = BitVec.ofNat 8 a by simp, show BitVec.ofInt 8 (b : Int) = BitVec.ofNat 8 b by simp, BitVec.toNat_and, BitVec.toNat_ofNat, BitVec.toNat_ofNat]
  rw [Nat.mod_eq_of_lt (by omega), Nat.mod_eq_of_lt (by omega), IntKind.wrap_u8]
  omega
theorem u8_and63 (a : UInt8) : bits .and .u8 (a.toNat : Int) 63 = ((a &&& 63).toNat : Int) := by
  have := u8_and_nat a.toNat 63 a.toNat_lt (by omega)
  rw [UInt8.toNat_and]
  exact this
theorem Bytes.cell {w : World} {b o n c : Nat} {l : List UInt8} (h : Bytes w (.slice (some ⟨b, o, none⟩) n c) l) (i : Nat) (hi : i < l.length) : w.cell? ⟨b, o + i, none⟩ = some (.int .u8 ((l.getD i 0).toNat : Nat)) := by
  have hlen : n = l.length := by have := Sl.len h; simpa using this.1
  obtain ⟨b', o', e, _, hc⟩ := Sl.at_ h (k := i) (by omega)
  cases e
  have := hc i (B8 l[i]) (by rw [List.getElem?_map, List.getElem?_eq_getElem hi]; rfl)
  rw [this, gD, List.getElem?_eq_getElem hi]
  rfl
theorem take4 {l : List UInt8} (h : 8 ≤ l.length) : (l.drop 4).take 4 = [l.getD 4 0, l.getD 5 0, l.getD 6 0, l.getD 7 0] := by
  refine ext_getD (by simp; omega) fun i => ?_
  rw [gD, List.getElem?_take]
  split
  · rename_i hi
    rw [List.getElem?_drop, ← gD]
    match i, hi with
    | 0, _ | 1, _ | 2, _ | 3, _ => rfl
  · rename_i hi
    rw [gD, List.getElem?_eq_none_iff.2 (by simp; omega)]
theorem parse_len {l : List UInt8} {p : Pkt} (h : parseR l = .ok p) : 12 ≤ l.length ∧ l.length ≤ 1500 := by
  obtain ⟨h1, h2⟩ := parse_back h
  have := tail_len h1
  rw [h2] at this
  omega
theorem imp_cells {l : List UInt8} {n : Nat} (hn : l.length = n + 12) (hs : n ≤ 1488) (v : Value) : bc (imp l) v = #[.int .u8 (((l.getD 0 0).toNat &&& 63 : Nat) : Int), .int .u8 ((l.getD 1 0).toNat : Nat), .int .u8 ((l.getD 4 0).toNat : Nat), .int .u8 ((l.getD 5 0).toNat : Nat), .int .u8 ((l.getD 6 0).toNat : Nat), .int .u8 ((l.getD 7 0).toNat : Nat), .int .u8 ((n : Int) / 256), .int .u8 ((n : Int) % 256), v] := by
  have h1 : (UInt8.ofNat (n / 256)).toNat = n / 256 := by rw [UInt8.toNat_ofNat']; omega
  have h2 : (UInt8.ofNat n).toNat = n % 256 := by rw [UInt8.toNat_ofNat']
  unfold bc imp
  simp only [hn, Nat.add_sub_cancel, h1, h2, UInt8.toNat_and]
  rfl
theorem bc_zero (v : Value) : bc Bt.zero v = #[.int .u8 0, .int .u8 0, .int .u8 0, .int .u8 0, .int .u8 0, .int .u8 0, .int .u8 0, .int .u8 0, v] := rfl
end Go.Proofs.Ytcmpjkopdjncdaa

/- The walk of imprint.Fold, over whatever iterator of imprints. -/
namespace Go.Proofs.Ytcmpjkopdjncdaa
open Go.RowKit Go.Shelf
attribute [local go_sem] Oper.semAt_some

/-- An imprint that reads so in w. -/
def BtAt (w : World) : Type := { x : Value × Bt // BtV w x.1 x.2 ∧ x.2.body.length ≤ 1099511627776 }
theorem bt_all_len {w : World} (zs : List (BtAt w)) : (Bt.all (zs.map (·.1.2))).body.length ≤ 1099511627776 :=
  Bt.fold_small _ _ _ (by simp [Bt.zero]) (fun x hx => by obtain ⟨z, _, rfl⟩ := List.mem_map.1 hx; exact z.2.2)
theorem bt_all_snoc (xs : List Bt) (x : Bt) : Bt.all (xs ++ [x]) = (Bt.all xs).add x := by simp [Bt.all]

end Go.Proofs.Ytcmpjkopdjncdaa
