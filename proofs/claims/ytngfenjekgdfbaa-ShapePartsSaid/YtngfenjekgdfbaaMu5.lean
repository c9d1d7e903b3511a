import Derived.Deep.MidRow
import Derived.Test.YtngfenjekgdfbaaMu2
/- Slices whose elements are data of several cells, to whatever depth: what they read, which blocks they lean on. No program in sight. -/
namespace Go.Proofs.Ytngfenjekgdfbaa
open Go.RowKit

/-- R tells how k cells read a datum, leaning on the blocks of a list: it outlives every write elsewhere. -/
structure Rep {α : Type} (k : Nat) (R : World → List Value → α → List Nat → Prop) : Prop where
  len : ∀ {w c y B}, R w c y B → c.length = k
  one : ∀ {w c y B}, R w c y B → ∀ u ∈ c, u.oneCell' = true
  lt : ∀ {w c y B}, R w c y B → ∀ b ∈ B, b < w.heap.size
  fr : ∀ {w w' c y B S}, R w c y B → Fr S w w' → (∀ b ∈ B, b ∉ S) → R w' c y B

section
variable {α : Type} {k : Nat} {R : World → List Value → α → List Nat → Prop}

/-- Elements, one behind the other. -/
def Els (R : World → List Value → α → List Nat → Prop) : List α → World → List Value → List Nat → Prop
  | [], _, cells, B => cells = [] ∧ B = []
  | y :: ys, w, cells, B => ∃ c rest B1 B2, cells = c ++ rest ∧ B = B1 ++ B2 ∧ R w c y B1 ∧ Els R ys w rest B2
namespace Els
theorem len (hR : Rep k R) : ∀ {ys : List α} {w : World} {cells : List Value} {B : List Nat}, Els R ys w cells B → cells.length = ys.length * k
  | [], _, _, _, h => by obtain ⟨rfl, rfl⟩ := h; simp
  | y :: ys, w, cells, B, h => by
    obtain ⟨c, rest, B1, B2, rfl, rfl, h1, h2⟩ := h
    rw [List.length_append, hR.len h1, len hR h2, List.length_cons, Nat.succ_mul, Nat.add_comm]
theorem one (hR : Rep k R) : ∀ {ys : List α} {w : World} {cells : List Value} {B : List Nat}, Els R ys w cells B → ∀ u ∈ cells, u.oneCell' = true
  | [], _, _, _, h => by obtain ⟨rfl, rfl⟩ := h; simp
  | y :: ys, w, cells, B, h => by
    obtain ⟨c, rest, B1, B2, rfl, rfl, h1, h2⟩ := h
    intro u hu
    rcases List.mem_append.1 hu with h | h
    · exact hR.one h1 u h
    · exact one hR h2 u h
theorem lt (hR : Rep k R) : ∀ {ys : List α} {w : World} {cells : List Value} {B : List Nat}, Els R ys w cells B → ∀ b ∈ B, b < w.heap.size
  | [], _, _, _, h => by obtain ⟨rfl, rfl⟩ := h; simp
  | y :: ys, w, cells, B, h => by
    obtain ⟨c, rest, B1, B2, rfl, rfl, h1, h2⟩ := h
    intro b hb
    rcases List.mem_append.1 hb with h | h
    · exact hR.lt h1 b h
    · exact lt hR h2 b h
theorem fr (hR : Rep k R) : ∀ {ys : List α} {w w' : World} {cells : List Value} {B S : List Nat}, Els R ys w cells B → Fr S w w' → (∀ b ∈ B, b ∉ S) → Els R ys w' cells B
  | [], _, _, _, _, _, h, _, _ => h
  | y :: ys, w, w', cells, B, S, h, hf, hS => by
    obtain ⟨c, rest, B1, B2, rfl, rfl, h1, h2⟩ := h
    exact ⟨c, rest, B1, B2, rfl, rfl, hR.fr h1 hf (fun b hb => hS b (by simp [hb])), fr hR h2 hf (fun b hb => hS b (by simp [hb]))⟩
theorem snoc : ∀ {ys : List α} {w : World} {cells : List Value} {B : List Nat} {c : List Value} {y : α} {B1 : List Nat}, Els R ys w cells B → R w c y B1 → Els R (ys ++ [y]) w (cells ++ c) (B ++ B1)
  | [], _, _, _, c, y, B1, h, h1 => by
    obtain ⟨rfl, rfl⟩ := h
    exact ⟨c, [], B1, [], by simp, by simp, h1, rfl, rfl⟩
  | x :: ys, w, cells, B, c, y, B1, h, h1 => by
    obtain ⟨c0, rest, B0, B2, rfl, rfl, h0, h2⟩ := h
    exact ⟨c0, rest ++ c, B0, B2 ++ B1, by simp, by simp, h0, snoc h2 h1⟩
/-- The element at a place. -/
theorem at_ (hR : Rep k R) : ∀ {ys : List α} {w : World} {cells : List Value} {B : List Nat} (i : Nat) (hi : i < ys.length), Els R ys w cells B → ∃ c B1, R w c ys[i] B1 ∧ (∀ b ∈ B1, b ∈ B) ∧ ∀ j u, c[j]? = some u → cells[i * k + j]? = some u
  | [], _, _, _, i, hi, _ => by simp at hi
  | y :: ys, w, cells, B, 0, _, h => by
    obtain ⟨c, rest, B1, B2, rfl, rfl, h1, h2⟩ := h
    refine ⟨c, B1, h1, fun b hb => by simp [hb], fun j u hj => ?_⟩
    rw [Nat.zero_mul, Nat.zero_add, List.getElem?_append_left (List.getElem?_eq_some_iff.1 hj).1]
    exact hj
  | y :: ys, w, cells, B, i + 1, hi, h => by
    obtain ⟨c, rest, B1, B2, rfl, rfl, h1, h2⟩ := h
    obtain ⟨c', B', g1, g2, g3⟩ := at_ hR i (by simpa using hi) h2
    refine ⟨c', B', by simpa using g1, fun b hb => by simp [g2 b hb], fun j u hj => ?_⟩
    have e : (i + 1) * k + j = c.length + (i * k + j) := by rw [hR.len h1, Nat.succ_mul]; omega
    rw [e, List.getElem?_append_right (by omega), Nat.add_sub_cancel_left]
    exact g3 j u hj
end Els

/-- A slice of such elements, wherever it lies. -/
def SlEls (k : Nat) (R : World → List Value → α → List Nat → Prop) (w : World) (v : Value) (ys : List α) (B : List Nat) : Prop :=
  ∃ cells a cap, v = .slice a ys.length cap ∧ ys.length ≤ cap ∧ cap ≤ maxLen ∧ (a = none → cap = 0) ∧ Els R ys w cells B ∧
    ∀ p, a = some p → 0 < cap → p.spot = none ∧ p.block < w.heap.size ∧ ∀ i x, cells[i]? = some x → w.cell? ⟨p.block, p.off + i, none⟩ = some x
namespace SlEls
theorem shape {w : World} {v : Value} {ys : List α} {B : List Nat} (h : SlEls k R w v ys B) : ∃ a c, v = .slice a ys.length c := by
  obtain ⟨cells, a, cap, e, _⟩ := h
  exact ⟨a, cap, e⟩
theorem nil (w : World) : SlEls k R w (.slice none 0 0) [] [] := ⟨[], none, 0, rfl, by simp, by unfold maxLen; omega, fun _ => rfl, ⟨rfl, rfl⟩, fun p hp => by cases hp⟩
theorem len {w : World} {a : Option Addr} {n cap : Nat} {ys : List α} {B : List Nat} (h : SlEls k R w (.slice a n cap) ys B) : n = ys.length ∧ n ≤ cap ∧ cap ≤ maxLen ∧ (a = none → cap = 0) := by
  obtain ⟨cells, a', cap', e, h1, h2, h3, _⟩ := h
  simp only [Value.slice.injEq] at e
  obtain ⟨rfl, rfl, rfl⟩ := e
  exact ⟨rfl, h1, h2, h3⟩
theorem fr (hR : Rep k R) {w w' : World} {v : Value} {ys : List α} {B S : List Nat} (h : SlEls k R w v ys B) (hf : Fr S w w') (hS : ∀ b ∈ B, b ∉ S) (hv : ∀ b, liveOf v = some b → b ∉ S) : SlEls k R w' v ys B := by
  obtain ⟨cells, a, cap, rfl, h1, h2, h3, h4, h5⟩ := h
  refine ⟨cells, a, cap, rfl, h1, h2, h3, h4.fr hR hf hS, ?_⟩
  rintro p rfl h0
  obtain ⟨g1, g2, g3⟩ := h5 p rfl h0
  exact ⟨g1, Nat.lt_of_lt_of_le g2 hf.size, fun i x hx => (hf.cell (p := ⟨p.block, p.off + i, none⟩) g2 (hv _ (by simp [liveOf, h0]))).trans (g3 i x hx)⟩
theorem keep (hR : Rep k R) {w w' : World} {v : Value} {ys : List α} {B : List Nat} (h : SlEls k R w v ys B) (hf : Fr [] w w') : SlEls k R w' v ys B := h.fr hR hf (by simp) (by simp)
theorem lt (hR : Rep k R) {w : World} {v : Value} {ys : List α} {B : List Nat} (h : SlEls k R w v ys B) : (∀ b ∈ B, b < w.heap.size) ∧ ∀ b, liveOf v = some b → b < w.heap.size := by
  obtain ⟨cells, a, cap, rfl, h1, h2, h3, h4, h5⟩ := h
  refine ⟨h4.lt hR, fun b hb => ?_⟩
  cases a with
  | none => simp [liveOf] at hb
  | some p =>
    simp only [liveOf] at hb
    split at hb
    · rename_i h0
      cases hb
      exact (h5 p rfl h0).2.1
    · cases hb
/-- The element at a place: its cells from 'o + i * k' on. -/
theorem at_ (hR : Rep k R) {w : World} {a : Option Addr} {n cap : Nat} {ys : List α} {B : List Nat} (h : SlEls k R w (.slice a n cap) ys B) {i : Nat} (hi : i < n) :
    ∃ b o c y B1, a = some ⟨b, o, none⟩ ∧ b < w.heap.size ∧ ys[i]? = some y ∧ R w c y B1 ∧ (∀ x ∈ B1, x ∈ B) ∧ w.rangeAt b (o + i * k) c := by
  obtain ⟨cells, a', cap', e, h1, h2, h3, h4, h5⟩ := h
  simp only [Value.slice.injEq] at e
  obtain ⟨rfl, rfl, rfl⟩ := e
  cases a with
  | none => have := h3 rfl; omega
  | some p =>
    obtain ⟨b, o, s⟩ := p
    obtain ⟨g1, g2, g3⟩ := h5 _ rfl (by omega)
    simp only at g1
    subst g1
    obtain ⟨c, B1, q1, q2, q3⟩ := h4.at_ hR i hi
    refine ⟨b, o, c, _, B1, rfl, g2, List.getElem?_eq_getElem hi, q1, q2, fun j u hj => ?_⟩
    have := g3 _ u (q3 j u hj)
    simpa [Nat.add_assoc] using this
end SlEls
/-- As a datum of one cell. -/
def SlR (k : Nat) (R : World → List Value → α → List Nat → Prop) (w : World) (c : List Value) (ys : List α) (B : List Nat) : Prop :=
  ∃ v B0, c = [v] ∧ SlEls k R w v ys B0 ∧ B = (liveOf v).toList ++ B0
theorem Rep.slice (hR : Rep k R) : Rep 1 (SlR k R) where
  len := by rintro w c y B ⟨v, B0, rfl, -, -⟩; rfl
  one := by
    rintro w c y B ⟨v, B0, rfl, h, -⟩ u hu
    obtain ⟨a, cp, rfl⟩ := h.shape
    simp only [List.mem_singleton] at hu
    subst hu
    rfl
  lt := by
    rintro w c y B ⟨v, B0, rfl, h, rfl⟩ b hb
    rcases List.mem_append.1 hb with hb | hb
    · exact (h.lt hR).2 b (by simpa using hb)
    · exact (h.lt hR).1 b hb
  fr := by
    rintro w w' c y B S ⟨v, B0, rfl, h, rfl⟩ hf hS
    exact ⟨v, B0, rfl, h.fr hR hf (fun b hb => hS b (by simp [hb])) (fun b hb => hS b (by simp [hb])), rfl⟩

/-- A slice of such elements that the call owns: it may be appended to. -/
def OwnEls (k : Nat) (R : World → List Value → α → List Nat → Prop) (w : World) (base : Nat) (e : TypeId) (v : Value) (ys : List α) (B : List Nat) : Prop :=
  ∃ cells, w.ownsRow base e k v ys.length cells ∧ Els R ys w cells B ∧ ∀ b, blockOf v = some b → b ∉ B
namespace OwnEls
theorem nil (w : World) (base : Nat) (e : TypeId) : OwnEls k R w base e (.slice none 0 0) [] [] := ⟨[], ⟨by simp, .inl ⟨rfl, rfl⟩⟩, ⟨rfl, rfl⟩, by simp [blockOf]⟩
theorem shape {w : World} {base : Nat} {e : TypeId} {v : Value} {ys : List α} {B : List Nat} (h : OwnEls k R w base e v ys B) : ∃ a c, v = .slice a ys.length c := by
  obtain ⟨cells, ⟨_, h | ⟨g, cap, cur, rfl, _⟩⟩, _⟩ := h
  · obtain ⟨rfl, h0⟩ := h
    exact ⟨none, 0, by rw [h0]⟩
  · exact ⟨_, _, rfl⟩
theorem fr (hR : Rep k R) {w w' : World} {base : Nat} {e : TypeId} {v : Value} {ys : List α} {B S : List Nat} (h : OwnEls k R w base e v ys B) (hf : Fr S w w') (hS : ∀ b ∈ B, b ∉ S) (hv : ∀ b, blockOf v = some b → b ∉ S) : OwnEls k R w' base e v ys B := by
  obtain ⟨cells, h1, h2, h3⟩ := h
  exact ⟨cells, Own.fr h1 hf hv, h2.fr hR hf hS, h3⟩
theorem keep (hR : Rep k R) {w w' : World} {base : Nat} {e : TypeId} {v : Value} {ys : List α} {B : List Nat} (h : OwnEls k R w base e v ys B) (hf : Fr [] w w') : OwnEls k R w' base e v ys B := h.fr hR hf (by simp) (by simp)
theorem mono {w : World} {base base' : Nat} {e : TypeId} {v : Value} {ys : List α} {B : List Nat} (h : OwnEls k R w base e v ys B) (hb : base' ≤ base) : OwnEls k R w base' e v ys B := by
  obtain ⟨cells, h1, h2, h3⟩ := h
  exact ⟨cells, Own.mono h1 hb, h2, h3⟩
theorem block {w : World} {base : Nat} {e : TypeId} {v : Value} {ys : List α} {B : List Nat} (h : OwnEls k R w base e v ys B) : ∀ b, blockOf v = some b → base ≤ b ∧ b < w.heap.size := by
  obtain ⟨cells, h1, h2, h3⟩ := h
  exact Own.block h1
theorem lt (hR : Rep k R) {w : World} {base : Nat} {e : TypeId} {v : Value} {ys : List α} {B : List Nat} (h : OwnEls k R w base e v ys B) : ∀ b ∈ B, b < w.heap.size := by
  obtain ⟨cells, h1, h2, h3⟩ := h
  exact h2.lt hR
/-- .. read as a slice. -/
theorem sl {w : World} {base : Nat} {e : TypeId} {v : Value} {ys : List α} {B : List Nat} (h : OwnEls k R w base e v ys B) : SlEls k R w v ys B := by
  obtain ⟨cells, ⟨h1, h⟩, h2, h3⟩ := h
  rcases h with ⟨rfl, h0⟩ | ⟨g, cap, cur, rfl, hb, hg, hc, hm, hs, ht⟩
  · have : ys = [] := List.eq_nil_of_length_eq_zero h0
    subst this
    obtain ⟨rfl, rfl⟩ := h2
    exact SlEls.nil w
  · refine ⟨cells, _, cap, rfl, hc, hm, (fun h => by cases h), h2, ?_⟩
    rintro p hp _
    simp only [Option.some.injEq] at hp
    subst hp
    refine ⟨rfl, (Array.getElem?_eq_some_iff.1 hg).1, fun i x hx => ?_⟩
    rw [Nat.zero_add, cell_of_row w g i cur _ _ hg, ← Array.getElem?_toList]
    rw [← ht, List.getElem?_take] at hx
    split at hx
    · exact hx
    · cases hx
/-- A literal without elements. -/
theorem made (w : World) (base : Nat) (e : TypeId) (hb : base ≤ w.heap.size) : OwnEls k R (w.alloc (.cells #[] e)) base e (.slice (some ⟨w.heap.size, 0, none⟩) 0 0) [] [] :=
  ⟨[], ⟨by simp, .inr ⟨w.heap.size, 0, #[], rfl, hb, heap_alloc_new w _, Nat.le_refl _, by unfold maxLen; omega, by simp, by simp⟩⟩, ⟨rfl, rfl⟩, by simp⟩
end OwnEls

/-- 'append(s, x)': one element more, which lies in a block of its own. -/
theorem wpList_append_el {P : Program} {w : World} {ops : Array Oper} {rest : List Oper} {o : Oper} {a : Act} {Q : Exit → Act → World → Prop} (hR : Rep k R) (hk : 0 < k) (hgd : o.guard = none) (s x : Operand) (t : TypeId)
    (ho : o.op = .call { callee := .builtin .append, args := #[s, x], argTypes := #[t, t] })
    (base : Nat) (e : TypeId) (z : Value) (bytes : Nat) (ht : P.underlying t = some (.slice e)) (hi : (P.info? e).map (fun i => (i.zero, i.size, i.bytes)) = some (some z, k, bytes)) (hz : z.cells.size = k)
    (v : Value) (ys : List α) (B : List Nat) (hs : a.eval s = v) (hown : OwnEls k R w base e v ys B)
    (g off cp : Nat) (hx : a.eval x = .slice (some ⟨g, off, none⟩) 1 cp) (c : List Value) (y : α) (B1 : List Nat) (hc : w.rangeAt g off c) (hy : R w c y B1) (hdis : ∀ b, blockOf v = some b → b ∉ B1)
    (h63 : ys.length + 1 ≤ maxLen) (hbytes : (ys.length + 1) * bytes ≤ 140737488355328) (hbase : base ≤ w.heap.size)
    (h : ∀ v' w', OwnEls k R w' base e v' (ys ++ [y]) (B ++ B1) → Fr (blockOf v).toList w w' → (∀ b, blockOf v' = some b → blockOf v = some b ∨ w.heap.size ≤ b) → wpList P ops Q rest (a.put o.dst v') w') : wpList P ops Q (o :: rest) a w := by
  obtain ⟨cells, h1, h2, h3⟩ := hown
  refine wpList_append_fr hgd s x t ho base e z k bytes ht hi hz hk v ys.length cells hs h1 ⟨g, off, none⟩ 1 cp c hx (by rw [hR.len hy]; omega) (fun j u hj => by rw [Addr.add_mid]; exact hc j u hj) (hR.one hy) h63 hbytes hbase ?_
  intro v' w' q1 q2 q3 q4
  refine h v' w' ⟨cells ++ c, by simpa using q1, (h2.fr hR q2 (fun b hb hm => h3 b (by simpa using hm) hb)).snoc (hR.fr hy q2 (fun b hb hm => hdis b (by simpa using hm) hb)), ?_⟩ q2 q3
  intro b hb hm
  rcases q3 b hb with hv | hn
  · rcases List.mem_append.1 hm with hm | hm
    · exact h3 b hv hm
    · exact hdis b hv hm
  · rcases List.mem_append.1 hm with hm | hm
    · have := h2.lt hR b hm; omega
    · have := hR.lt hy b hm; omega
end

theorem box_range {w : World} {g : Nat} {t : TypeId} {c : Array Value} (h : Box w g t c) : w.rangeAt g 0 c.toList := fun j u hj => by
  rw [Nat.zero_add, h.cell, ← Array.getElem?_toList]
  exact hj
theorem mem_toList {b : Nat} {o : Option Nat} : b ∈ o.toList ↔ o = some b := by cases o <;> simp [eq_comm]
/-- Numbers and slices of bytes, as data of one cell. -/
def VR {α : Type} (f : α → Value) (_ : World) (c : List Value) (y : α) (B : List Nat) : Prop := c = [f y] ∧ B = []
theorem Rep.val {α : Type} {f : α → Value} (hf : ∀ y, (f y).oneCell' = true) : Rep 1 (VR f) where
  len := by rintro w c y B ⟨rfl, -⟩; rfl
  one := by
    rintro w c y B ⟨rfl, -⟩ u hu
    simp only [List.mem_singleton] at hu
    subst hu
    exact hf y
  lt := by rintro w c y B ⟨-, rfl⟩ b hb; cases hb
  fr := by rintro w w' c y B S h _ _; exact h
def BytesR (w : World) (c : List Value) (l : List UInt8) (B : List Nat) : Prop := ∃ v, c = [v] ∧ Bytes w v l ∧ B = (liveOf v).toList
theorem Rep.bytes : Rep 1 BytesR where
  len := by rintro w c y B ⟨v, rfl, -, -⟩; rfl
  one := by
    rintro w c y B ⟨v, rfl, h, -⟩ u hu
    obtain ⟨a, cp, rfl⟩ := Sl.shape h
    simp only [List.mem_singleton] at hu
    subst hu
    rfl
  lt := by
    rintro w c y B ⟨v, rfl, h, rfl⟩ b hb
    exact Sl.lt h b (by simpa using hb)
  fr := by
    rintro w w' c y B S ⟨v, rfl, h, rfl⟩ hf hS
    exact ⟨v, rfl, Sl.frL h hf (fun b hb => hS b (by simp [hb])), rfl⟩
end Go.Proofs.Ytngfenjekgdfbaa
