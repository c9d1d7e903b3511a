import Derived.WalkKit
import Derived.WalkSpells
import Derived.WalkLawsBesides
import Derived.Deep.QuietTactic
import Derived.BigQuiet
import Derived.Deep.DeepCutAuto
import Derived.IntWalk
import Derived.Lib.Hide
import Derived.Laws.AppendOwnNone
/- Plain facts on worlds, slices and frames that all the seat's texts share. No program in sight. -/
namespace Go.Proofs.Ytcmpjkopdjncdaa
open Go.RowKit

/-- All blocks that were there are as they were, but those of S; the streams are as they were. -/
structure Fr (S : List Nat) (w w' : World) : Prop where
  os : w'.os = w.os
  tape : w'.tape = w.tape
  output : w'.output = w.output
  size : w.heap.size ≤ w'.heap.size
  block : ∀ k, k < w.heap.size → k ∉ S → w'.heap[k]? = w.heap[k]?

namespace Fr
theorem refl (S : List Nat) (w : World) : Fr S w w := ⟨rfl, rfl, rfl, Nat.le_refl _, fun _ _ _ => rfl⟩
theorem trans {S : List Nat} {a b c : World} (h : Fr S a b) (k : Fr S b c) : Fr S a c :=
  ⟨k.os.trans h.os, k.tape.trans h.tape, k.output.trans h.output, Nat.le_trans h.size k.size,
    fun i hi hS => (k.block i (Nat.lt_of_lt_of_le hi h.size) hS).trans (h.block i hi hS)⟩
/-- A step whose written blocks are new, or among S. -/
theorem step {S T : List Nat} {a b c : World} (h : Fr S a b) (k : Fr T b c) (hT : ∀ x ∈ T, x ∈ S ∨ a.heap.size ≤ x) : Fr S a c :=
  ⟨k.os.trans h.os, k.tape.trans h.tape, k.output.trans h.output, Nat.le_trans h.size k.size,
    fun i hi hS => (k.block i (Nat.lt_of_lt_of_le hi h.size) (fun hm => by rcases hT i hm with h1 | h1 <;> first | exact hS h1 | omega)).trans (h.block i hi hS)⟩
theorem quiet {S : List Nat} {a b c : World} (h : Fr S a b) (k : Fr [] b c) : Fr S a c := h.step k (fun _ hx => by cases hx)
theorem mono {S T : List Nat} {a b : World} (h : Fr S a b) (hS : ∀ x ∈ S, x ∈ T) : Fr T a b :=
  ⟨h.os, h.tape, h.output, h.size, fun i hi hT => h.block i hi (fun hm => hT (hS i hm))⟩
theorem any {S : List Nat} {a b : World} (h : Fr [] a b) : Fr S a b := h.mono (fun _ hx => by cases hx)
theorem drewN {S : List Nat} {a b : World} (h : Fr S a b) (n : Nat) : Fr S a (b.drewN n) := h.trans ⟨rfl, rfl, rfl, Nat.le_refl _, fun _ _ _ => rfl⟩
theorem drew {S : List Nat} {a b : World} (h : Fr S a b) : Fr S a b.drew := h.trans ⟨rfl, rfl, rfl, Nat.le_refl _, fun _ _ _ => rfl⟩
theorem alloc {S : List Nat} {a b : World} (h : Fr S a b) (o : Obj) : Fr S a (b.alloc o) :=
  h.trans ⟨rfl, rfl, rfl, by simp, fun k hk _ => Below.heap_alloc _ _ _ hk⟩
theorem setCell {S : List Nat} {a b : World} (h : Fr S a b) {p : Addr} (hp : p.block ∈ S ∨ a.heap.size ≤ p.block) (u : Value) : Fr S a (b.setCell p u) :=
  h.step (T := [p.block]) ⟨rfl, rfl, rfl, by simp, fun k _ hk => Below.heap_setCell _ _ _ _ (fun e => hk (by simp [e]))⟩ (fun x hx => by simp at hx; subst hx; exact hp)
theorem grown {S : List Nat} {a b c : World} {row : Option Nat} (h : Fr S a b) (hg : b.grownBy c row) (hr : ∀ k, row = some k → k ∈ S ∨ a.heap.size ≤ k) : Fr S a c :=
  h.step (T := row.toList) ⟨hg.os, hg.tape, hg.output, hg.size, fun k hk hn => hg.block k hk (fun e => hn (by simp [← e]))⟩ (fun x hx => hr x (by simpa using hx))
theorem below {a b : World} (h : Fr [] a b) : Below a.heap.size a b := ⟨h.os, h.tape, h.output, h.size, fun k hk => h.block k hk (by simp)⟩
theorem ofBelow {a b : World} (h : Below a.heap.size a b) : Fr [] a b := ⟨h.os, h.tape, h.output, h.size, fun k hk _ => h.block k hk⟩
theorem cell {S : List Nat} {a b : World} (h : Fr S a b) {p : Addr} (hp : p.block < a.heap.size) (hS : p.block ∉ S) : b.cell? p = a.cell? p := World.cell?_of_block (w := a) (h.block _ hp hS)
theorem frozen {S : List Nat} {a b : World} (h : Fr S a b) {p : Addr} (hp : p.block < a.heap.size) (hS : p.block ∉ S) : b.frozen? p = a.frozen? p := World.frozen?_of_block (w := a) (h.block _ hp hS)
theorem cellSome {S : List Nat} {a b : World} (h : Fr S a b) {p : Addr} {v : Value} (hc : a.cell? p = some v) (hS : p.block ∉ S) : b.cell? p = some v := (h.cell (World.block_lt_of_cell? _ _ hc) hS).trans hc
/-- What the walk uses as rules: old cells and old marks. -/
theorem rules {a b : World} (h : Fr [] a b) : (∀ k o, k < a.heap.size → b.cell? ⟨k, o, none⟩ = a.cell? ⟨k, o, none⟩) ∧ (∀ k o, k < a.heap.size → b.frozen? ⟨k, o, none⟩ = a.frozen? ⟨k, o, none⟩) :=
  ⟨fun k o hk => h.cell (p := ⟨k, o, none⟩) hk (by simp), fun k o hk => h.frozen (p := ⟨k, o, none⟩) hk (by simp)⟩
end Fr

/-- The slice value v reads as the cells xs (elements of one cell). -/
def Sl (w : World) (v : Value) (xs : List Value) : Prop :=
  ∃ a cap, v = .slice a xs.length cap ∧ xs.length ≤ cap ∧ cap ≤ maxLen ∧ (a = none → cap = 0) ∧
    ∀ p, a = some p → 0 < cap → p.spot = none ∧ p.block < w.heap.size ∧ ∀ i x, xs[i]? = some x → w.cell? ⟨p.block, p.off + i, none⟩ = some x

/-- The block of a slice value. -/
def blockOf : Value → Option Nat
  | .slice (some p) _ _ => some p.block
  | _ => none
/-- The block of a slice value that has room for an element. -/
def liveOf : Value → Option Nat
  | .slice (some p) _ c => if 0 < c then some p.block else none
  | _ => none
theorem live_block {v : Value} {b : Nat} (h : liveOf v = some b) : blockOf v = some b := by
  unfold liveOf at h
  split at h
  · split at h
    · exact h
    · cases h
  · cases h

namespace Sl
theorem nil (w : World) : Sl w (.slice none 0 0) [] := ⟨none, 0, rfl, by simp, by unfold maxLen; omega, fun _ => rfl, fun p hp _ => by cases hp⟩
/-- A new slice of one element. -/
theorem one (w : World) (x : Value) (t : TypeId) : Sl (w.alloc (.cells #[x] t)) (.slice (some ⟨w.heap.size, 0, none⟩) 1 1) [x] := by
  refine ⟨_, 1, rfl, by simp, by unfold maxLen; omega, fun h => ?_, ?_⟩
  · cases h
  · rintro p hp _
    simp only [Option.some.injEq] at hp
    subst hp
    refine ⟨rfl, by simp, fun i y hy => ?_⟩
    simpa using hy
theorem frL {w w' : World} {v : Value} {xs : List Value} {S : List Nat} (h : Sl w v xs) (hf : Fr S w w') (hS : ∀ b, liveOf v = some b → b ∉ S) : Sl w' v xs := by
  obtain ⟨a, cap, rfl, h1, h2, h3, h4⟩ := h
  refine ⟨a, cap, rfl, h1, h2, h3, ?_⟩
  rintro p rfl hc0
  obtain ⟨s, hb, hc⟩ := h4 p rfl hc0
  exact ⟨s, Nat.lt_of_lt_of_le hb hf.size, fun i x hx => (hf.cell (p := ⟨p.block, p.off + i, none⟩) hb (hS _ (by simp [liveOf, hc0]))).trans (hc i x hx)⟩
theorem fr {w w' : World} {v : Value} {xs : List Value} {S : List Nat} (h : Sl w v xs) (hf : Fr S w w') (hS : ∀ b, blockOf v = some b → b ∉ S) : Sl w' v xs := h.frL hf (fun b hb => hS b (live_block hb))
theorem keep {w w' : World} {v : Value} {xs : List Value} (h : Sl w v xs) (hf : Fr [] w w') : Sl w' v xs := h.fr hf (by simp)
theorem lt {w : World} {v : Value} {xs : List Value} (h : Sl w v xs) : ∀ b, liveOf v = some b → b < w.heap.size := by
  obtain ⟨a, cap, rfl, h1, h2, h3, h4⟩ := h
  intro b hb
  cases a with
  | none => simp [liveOf] at hb
  | some p =>
    simp only [liveOf] at hb
    split at hb
    · rename_i hc0
      cases hb
      exact (h4 p rfl hc0).2.1
    · cases hb
/-- The element at a place. -/
theorem at_ {w : World} {a : Option Addr} {n cap : Nat} {xs : List Value} (h : Sl w (.slice a n cap) xs) {k : Nat} (hk : k < n) :
    ∃ b o, a = some ⟨b, o, none⟩ ∧ b < w.heap.size ∧ ∀ i x, xs[i]? = some x → w.cell? ⟨b, o + i, none⟩ = some x := by
  obtain ⟨a', cap', e, h1, h2, h3, h4⟩ := h
  simp only [Value.slice.injEq] at e
  obtain ⟨rfl, rfl, rfl⟩ := e
  cases a with
  | none => have := h3 rfl; omega
  | some p =>
    obtain ⟨b, o, s⟩ := p
    obtain ⟨s', hb, hc⟩ := h4 _ rfl (by omega)
    simp only at s'
    subst s'
    exact ⟨b, o, rfl, hb, hc⟩
theorem len {w : World} {a : Option Addr} {n cap : Nat} {xs : List Value} (h : Sl w (.slice a n cap) xs) : n = xs.length ∧ n ≤ cap ∧ cap ≤ maxLen ∧ (a = none → cap = 0) := by
  obtain ⟨a', cap', e, h1, h2, h3, h4⟩ := h
  simp only [Value.slice.injEq] at e
  obtain ⟨rfl, rfl, rfl⟩ := e
  exact ⟨rfl, h1, h2, h3⟩
theorem isSlice {w : World} {v : Value} {xs : List Value} (h : Sl w v xs) : ∃ a n c, v = .slice a n c := by
  obtain ⟨a, cap, e, _⟩ := h
  exact ⟨a, _, cap, e⟩
theorem shape {w : World} {v : Value} {xs : List Value} (h : Sl w v xs) : ∃ a cap, v = .slice a xs.length cap := by
  obtain ⟨a, cap, e, _⟩ := h
  exact ⟨a, cap, e⟩
/-- A part of a slice, as the walk spells it. -/
theorem sub {w : World} {a : Option Addr} {n cap : Nat} {xs : List Value} (h : Sl w (.slice a n cap) xs) (k m : Nat) (hk : k + m ≤ n) :
    Sl w (.slice (if cap = k then a else Option.map (fun x => x.add k) a) m (cap - k)) ((xs.drop k).take m) := by
  obtain ⟨a', cap', e, h1, h2, h3, h4⟩ := h
  simp only [Value.slice.injEq] at e
  obtain ⟨rfl, rfl, rfl⟩ := e
  have hl : ((xs.drop k).take m).length = m := by simp; omega
  refine ⟨if cap = k then a else Option.map (fun x => x.add k) a, cap - k, by rw [hl], by omega, by omega, ?_, ?_⟩
  · intro ha
    split at ha
    · have := h3 ha; omega
    · cases a with
      | none => have := h3 rfl; omega
      | some p => simp at ha
  · intro p hp hc0
    split at hp
    · omega
    · cases a with
      | none => simp at hp
      | some q =>
        simp only [Option.map_some, Option.some.injEq] at hp
        obtain ⟨s, hb, hc⟩ := h4 q rfl (by omega)
        obtain ⟨qb, qo, qs⟩ := q
        simp only at s
        subst s
        have hq : (⟨qb, qo, none⟩ : Addr).add k = ⟨qb, qo + k, none⟩ := by unfold Addr.add; split <;> simp_all
        rw [hq] at hp
        subst hp
        refine ⟨rfl, hb, fun i x hx => ?_⟩
        have hx' : xs[k + i]? = some x := by
          rw [List.getElem?_take] at hx
          split at hx
          · simpa using hx
          · cases hx
        have := hc (k + i) x hx'
        simpa [Nat.add_assoc] using this
theorem sub' {w : World} {b o : Nat} {n cap : Nat} {xs : List Value} (h : Sl w (.slice (some ⟨b, o, none⟩) n cap) xs) (k m : Nat) (hk : k + m ≤ n) :
    Sl w (.slice (if cap = k then some ⟨b, o, none⟩ else some ⟨b, o + k, none⟩) m (cap - k)) ((xs.drop k).take m) := by
  have hq : (⟨b, o, none⟩ : Addr).add k = ⟨b, o + k, none⟩ := by unfold Addr.add; split <;> simp_all
  have := h.sub k m hk
  simp only [Option.map_some, hq] at this
  exact this
/-- Its first elements, with whatever capacity above. -/
theorem pre {w : World} {a : Option Addr} {n cap : Nat} {xs : List Value} (h : Sl w (.slice a n cap) xs) (m c : Nat) (hm : m ≤ n) (hc : m ≤ c) (hc2 : c ≤ cap) : Sl w (.slice a m c) (xs.take m) := by
  obtain ⟨a', cap', e, h1, h2, h3, h4⟩ := h
  simp only [Value.slice.injEq] at e
  obtain ⟨rfl, rfl, rfl⟩ := e
  have hl : (xs.take m).length = m := by simp; omega
  refine ⟨a, c, by rw [hl], by omega, by omega, fun ha => by have := h3 ha; omega, fun p hp hc0 => ?_⟩
  obtain ⟨s, hb, hx⟩ := h4 p hp (by omega)
  refine ⟨s, hb, fun i x hi => hx i x ?_⟩
  rw [List.getElem?_take] at hi
  split at hi
  · exact hi
  · cases hi
/-- A part of a slice lies in the same block. -/
theorem block_sub (a : Option Addr) (k m cap c' n : Nat) : blockOf (.slice (if cap = k then a else Option.map (fun x => x.add k) a) m c') = blockOf (.slice a n cap) := by
  split
  · cases a <;> rfl
  · cases a with
    | none => rfl
    | some p =>
      simp only [Option.map_some, blockOf, Option.some.injEq]
      unfold Addr.add
      split <;> rfl
theorem live_sub (a : Option Addr) (k m cap n b : Nat) (h : liveOf (.slice (if cap = k then a else Option.map (fun x => x.add k) a) m (cap - k)) = some b) : liveOf (.slice a n cap) = some b := by
  cases a with
  | none => split at h <;> simp [liveOf] at h
  | some p =>
    split at h
    · simp [liveOf] at h
      omega
    · simp only [Option.map_some, liveOf] at h
      split at h
      · rename_i hk
        have : (p.add k).block = p.block := by unfold Addr.add; split <;> rfl
        simp only [liveOf]
        rw [if_pos (by omega), ← h, this]
      · cases h
end Sl

/-- The row that the call owns reads as a slice. -/
theorem Sl.ofOwn {w : World} {base : Nat} {e : TypeId} {v : Value} {n : Nat} {xs : List Value} (h : w.ownsRow base e 1 v n xs) : Sl w v xs := by
  have hn : xs.length = n := by simpa using h.1
  subst hn
  rcases h.2 with ⟨rfl, h0⟩ | ⟨g, cap, cur, rfl, hb, hg, hc, hm, hs, ht⟩
  · have : xs = [] := List.eq_nil_of_length_eq_zero h0
    subst this
    exact Sl.nil w
  · refine ⟨_, cap, rfl, hc, hm, (fun h => by cases h), ?_⟩
    rintro p hp _
    simp only [Option.some.injEq] at hp
    subst hp
    refine ⟨rfl, (Array.getElem?_eq_some_iff.1 hg).1, fun i x hx => ?_⟩
    have := h.cells (g := g) rfl i x hx
    have hadd : (⟨g, 0, none⟩ : Addr).add i = ⟨g, 0 + i, none⟩ := by unfold Addr.add; split <;> simp_all
    rw [hadd] at this
    exact this
theorem Own.fr {w w' : World} {base : Nat} {e : TypeId} {size : Nat} {v : Value} {n : Nat} {xs : List Value} {S : List Nat} (h : w.ownsRow base e size v n xs) (hf : Fr S w w') (hS : ∀ b, blockOf v = some b → b ∉ S) : w'.ownsRow base e size v n xs := by
  refine ⟨h.1, ?_⟩
  rcases h.2 with hn | ⟨g, cap, cur, rfl, hb, hg, r⟩
  · exact .inl hn
  · exact .inr ⟨g, cap, cur, rfl, hb, by rw [hf.block g (Array.getElem?_eq_some_iff.1 hg).1 (hS g rfl)]; exact hg, r⟩
theorem Own.keep {w w' : World} {base : Nat} {e : TypeId} {size : Nat} {v : Value} {n : Nat} {xs : List Value} (h : w.ownsRow base e size v n xs) (hf : Fr [] w w') : w'.ownsRow base e size v n xs := Own.fr h hf (by simp)
theorem Own.mono {w : World} {base base' : Nat} {e : TypeId} {size : Nat} {v : Value} {n : Nat} {xs : List Value} (h : w.ownsRow base e size v n xs) (hb : base' ≤ base) : w.ownsRow base' e size v n xs := by
  refine ⟨h.1, ?_⟩
  rcases h.2 with hn | ⟨g, cap, cur, rfl, hb', r⟩
  · exact .inl hn
  · exact .inr ⟨g, cap, cur, rfl, by omega, r⟩
theorem Own.block {w : World} {base : Nat} {e : TypeId} {size : Nat} {v : Value} {n : Nat} {xs : List Value} (h : w.ownsRow base e size v n xs) : ∀ b, blockOf v = some b → base ≤ b ∧ b < w.heap.size := by
  intro b hb
  rcases h.2 with ⟨rfl, _⟩ | ⟨g, cap, cur, rfl, hb', hg, r⟩
  · simp [blockOf] at hb
  · simp only [blockOf, Option.some.injEq] at hb
    subst hb
    exact ⟨hb', (Array.getElem?_eq_some_iff.1 hg).1⟩
theorem Own.low {w w' : World} {base : Nat} {e : TypeId} {size : Nat} {v : Value} {n : Nat} {xs : List Value} {S : List Nat} (h : w.ownsRow base e size v n xs) (hf : Fr S w w') (hS : ∀ b ∈ S, b < base) : w'.ownsRow base e size v n xs :=
  Own.fr h hf (fun b hb hm => by have := (Own.block h b hb).1; have := hS b hm; omega)
theorem blockOf_own (v : Value) : v.ownBlock = blockOf v := by
  cases v <;> rfl

/-- 'append(s, x...)', s the call's own, x whatever slice of one-cell elements (nil, too). -/
theorem wpList_append_sl {P : Program} {w : World} {ops : Array Oper} {rest : List Oper} {o : Oper} {a : Act} {Q : Exit → Act → World → Prop} (hgd : o.guard = none) (s x : Operand) (t : TypeId)
    (ho : o.op = .call { callee := .builtin .append, args := #[s, x], argTypes := #[t, t] })
    (base : Nat) (e : TypeId) (z : Value) (bytes : Nat) (ht : P.underlying t = some (.slice e)) (hi : (P.info? e).map (fun i => (i.zero, i.size, i.bytes)) = some (some z, 1, bytes)) (hz : z.cells.size = 1)
    (v : Value) (n : Nat) (xs : List Value) (hs : a.eval s = v) (hown : w.ownsRow base e 1 v n xs)
    (vx : Value) (news : List Value) (hx : a.eval x = vx) (hnew : Sl w vx news) (h1 : ∀ u ∈ news, u.oneCell' = true)
    (h63 : n + news.length ≤ maxLen) (hbytes : (n + news.length) * bytes ≤ 140737488355328) (hbase : base ≤ w.heap.size)
    (h : ∀ v' w', w'.ownsRow base e 1 v' (n + news.length) (xs ++ news) → w.grownBy w' (blockOf v) → (v' = .slice none 0 0 ↔ v = .slice none 0 0 ∧ news = []) → wpList P ops Q rest (a.put o.dst v') w') : wpList P ops Q (o :: rest) a w := by
  obtain ⟨i, hi1, hi2, hi3, hi4⟩ := info_parts hi
  obtain ⟨ad, cap, rfl, h2, h3, h4, h5⟩ := hnew
  cases ad with
  | none =>
    obtain rfl := h4 rfl
    have hn : news = [] := List.eq_nil_of_length_eq_zero (by omega)
    subst hn
    refine wpList_append_own_none hgd s x t ho base e i 1 ht hi1 v n xs hs hown hx (h v w ?_ ⟨rfl, rfl, rfl, Nat.le_refl _, fun _ _ _ => rfl⟩ (by simp))
    simpa using hown
  | some p =>
    refine wpList_append_own w hgd s x t ho base e i z 1 bytes ht hi1 hi2 hi3 hi4 hz (by omega) v n xs hs hown p news.length cap news hx (by simp) ?_ h1 h63 hbytes hbase ?_
    · intro j u hu
      have hj := (List.getElem?_eq_some_iff.1 hu).1
      obtain ⟨sp, hb, hc⟩ := h5 p rfl (by omega)
      obtain ⟨pb, po, ps⟩ := p
      simp only at sp
      subst sp
      have := hc j u hu
      have hadd : (⟨pb, po, none⟩ : Addr).add j = ⟨pb, po + j, none⟩ := by unfold Addr.add; split <;> simp_all
      rw [hadd]
      exact this
    · intro v' w' g1 g2 g3
      rw [blockOf_own] at g2
      refine h v' w' g1 g2 ?_
      rw [g3]
      simp

/-- A block that holds just these cells, none of them frozen. -/
def Box (w : World) (g : Nat) (t : TypeId) (c : Array Value) : Prop := w.heap[g]? = some (.cells c t (0, 0))
namespace Box
theorem cell {w : World} {g : Nat} {t : TypeId} {c : Array Value} (h : Box w g t c) (i : Nat) : w.cell? ⟨g, i, none⟩ = c[i]? := cell_of_row w g i c t _ h
theorem free {w : World} {g : Nat} {t : TypeId} {c : Array Value} (h : Box w g t c) (i : Nat) : w.frozen? ⟨g, i, none⟩ = false := frozen_of_row w g i c t h
theorem lt {w : World} {g : Nat} {t : TypeId} {c : Array Value} (h : Box w g t c) : g < w.heap.size := (Array.getElem?_eq_some_iff.1 h).1
theorem new (w : World) (t : TypeId) (c : Array Value) : Box (w.alloc (.cells c t)) w.heap.size t c := heap_alloc_new w _
theorem fr {w w' : World} {g : Nat} {t : TypeId} {c : Array Value} {S : List Nat} (h : Box w g t c) (hf : Fr S w w') (hS : g ∉ S) : Box w' g t c := (hf.block g h.lt hS).trans h
theorem keep {w w' : World} {g : Nat} {t : TypeId} {c : Array Value} (h : Box w g t c) (hf : Fr [] w w') : Box w' g t c := h.fr hf (by simp)
theorem set {w : World} {g : Nat} {t : TypeId} {c : Array Value} (h : Box w g t c) (i : Nat) (v : Value) : Box (w.setCell ⟨g, i, none⟩ v) g t (c.setIfInBounds i v) := heap_setCell_same w g i c t v h
theorem setRow {w : World} {g : Nat} {t : TypeId} {c : Array Value} (h : Box w g t c) (c' : Array Value) : Box (w.setRow g c') g t c' := setRow_heap w g c c' t _ h
theorem frSetRow (w : World) (g : Nat) (c' : Array Value) : Fr [g] w (w.setRow g c') :=
  ⟨rfl, rfl, rfl, by simp, fun k hk hn => setRow_other w g k c' (fun e => hn (by simp [e]))⟩
end Box
theorem Fr.set {S : List Nat} {a b : World} (h : Fr S a b) {g i : Nat} (hp : g ∈ S ∨ a.heap.size ≤ g) (u : Value) : Fr S a (b.setCell ⟨g, i, none⟩ u) := h.setCell (p := ⟨g, i, none⟩) hp u

/-- A whole struct or array stored over a block. -/
theorem wpList_store_row {P : Program} {w : World} {ops : Array Oper} {rest : List Oper} {o : Oper} {a : Act} {Q : Exit → Act → World → Prop} (hgd : o.guard = none) (ty : TypeId) (x y : Operand)
    (ho : o.op = .store ty x y) (g : Nat) (hx : a.eval x = .pointer (some ⟨g, 0, none⟩)) (c c' : Array Value) (hy : a.eval y = .agg c') (t : TypeId) (hb : Box w g t c)
    (hi : (P.info? ty).map (·.size) = some c'.size) (hs : c'.size = c.size) (h1 : ∀ u ∈ c'.toList, u.oneCell' = true)
    (h : ∀ w', Box w' g t c' → Fr [g] w w' → wpList P ops Q rest (a.put o.dst undef) w') : wpList P ops Q (o :: rest) a w := by
  refine wpList_plain hgd fun K hK => ?_
  have hst := run_storeCells_at P g 0 t c'.toList 0 c w hb (by simp [hs]) h1
  simp only [Nat.add_zero, List.take_zero, List.nil_append, Nat.zero_add] at hst
  rw [List.drop_of_length_le (by simp [hs]), List.append_nil, Array.toArray_toList] at hst
  cases hq : P.info? ty with
  | none => simp [hq] at hi
  | some i =>
    have hsz : i.size = c'.size := by simpa [hq] using hi
    unfold Oper.wp execOp
    simp only [ho, hx, hy]
    simp [Instr.storeAt, Instr.sureAddr, storeVar, Sem.run_bind, sizeOf, typeInfo, hq, hsz, Value.cells, hst]
    exact hK _ _ (h _ (hb.setRow c') (Box.frSetRow w g c'))

/-- A byte as a value; a slice value reads as bytes. -/
def B8 (c : UInt8) : Value := .int .u8 c.toNat
def Bytes (w : World) (v : Value) (l : List UInt8) : Prop := Sl w v (l.map B8)
def W32 (c : UInt32) : Value := .int .u32 c.toNat
def Words (w : World) (v : Value) (l : List UInt32) : Prop := Sl w v (l.map W32)

theorem oneCell_B8 (l : List UInt8) : ∀ u ∈ l.map B8, u.oneCell' = true := by
  intro u hu
  obtain ⟨c, _, rfl⟩ := List.mem_map.1 hu
  rfl
theorem oneCell_int (k : IntKind) (n : Int) : ∀ u ∈ [Value.int k n], u.oneCell' = true := by
  intro u hu
  simp only [List.mem_singleton] at hu
  subst hu
  rfl
theorem oneCell_W32 (l : List UInt32) : ∀ u ∈ l.map W32, u.oneCell' = true := by
  intro u hu
  obtain ⟨c, _, rfl⟩ := List.mem_map.1 hu
  rfl

theorem i64_ofNat (n : Nat) : BitVec.ofInt 64 (n : Int) = BitVec.ofNat 64 n := by simp
theorem i64_and_nat (a b : Nat) (ha : a < 9223372036854775808) (hb : b < 9223372036854775808) : bits .and .i64 (a : Int) (b : Int) = ((a &&& b : Nat) : Int) := by
  show IntKind.i64.wrap ((BitVec.ofInt 64 (a : Int) &&& BitVec.ofInt 64 (b : Int)).toNat : Int) = _
  rw [i64_ofNat, i64_ofNat, BitVec.toNat_and, BitVec.toNat_ofNat, BitVec.toNat_ofNat]
  rw [Nat.mod_eq_of_lt (by omega), Nat.mod_eq_of_lt (by omega)]
  have := Nat.and_le_left (n := a) (m := b)
  exact IntWalk.i64_in _ (by omega)
theorem i64_or_nat (a b : Nat) (ha : a < 9223372036854775808) (hb : b < 9223372036854775808) : bits .or .i64 (a : Int) (b : Int) = ((a ||| b : Nat) : Int) := by
  show IntKind.i64.wrap ((BitVec.ofInt 64 (a : Int) ||| BitVec.ofInt 64 (b : Int)).toNat : Int) = _
  rw [i64_ofNat, i64_ofNat, BitVec.toNat_or, BitVec.toNat_ofNat, BitVec.toNat_ofNat]
  rw [Nat.mod_eq_of_lt (by omega), Nat.mod_eq_of_lt (by omega)]
  have : a ||| b < 2 ^ 63 := Nat.or_lt_two_pow (by omega) (by omega)
  exact IntWalk.i64_in _ (by omega)
theorem byte_and15 (n : Nat) (h : n < 256) : bits .and .i64 (n : Int) 15 = ((n % 16 : Nat) : Int) := by
  rw [show (15 : Int) = ((15 : Nat) : Int) from rfl, i64_and_nat _ _ (by omega) (by omega)]
  exact congrArg _ (Nat.and_two_pow_sub_one_eq_mod n 4)
theorem byte_tests : ∀ n < 256, (n &&& 16 = n / 16 % 2 * 16 ∧ n &&& 32 = n / 32 % 2 * 32 ∧ n &&& 128 = n / 128 % 2 * 128 ∧ n &&& 64 = n / 64 % 2 * 64) := by decide +kernel
theorem byte_and16 (n : Nat) (h : n < 256) : bits .and .i64 (n : Int) 16 = ((n / 16 % 2 * 16 : Nat) : Int) := by
  rw [show (16 : Int) = ((16 : Nat) : Int) from rfl, i64_and_nat _ _ (by omega) (by omega), (byte_tests n h).1]
theorem byte_and32 (n : Nat) (h : n < 256) : bits .and .i64 (n : Int) 32 = ((n / 32 % 2 * 32 : Nat) : Int) := by
  rw [show (32 : Int) = ((32 : Nat) : Int) from rfl, i64_and_nat _ _ (by omega) (by omega), (byte_tests n h).2.1]
theorem byte_and128 (n : Nat) (h : n < 256) : bits .and .i64 (n : Int) 128 = ((n / 128 % 2 * 128 : Nat) : Int) := by
  rw [show (128 : Int) = ((128 : Nat) : Int) from rfl, i64_and_nat _ _ (by omega) (by omega), (byte_tests n h).2.2.1]
theorem byte_andNot128 : ∀ n < 256, bits .andNot .i64 ((n : Nat) : Int) 128 = ((n % 128 : Nat) : Int) := by decide +kernel
theorem ret_int {k : IntKind} {a b : Int} (h : a = b) : Ending.returned (.int k a) = .returned (.int k b) := by rw [h]

/-- A number, the highest byte first. -/
def be (l : List UInt8) : Nat := l.foldl (fun a c => a * 256 + c.toNat) 0
theorem be_snoc (l : List UInt8) (c : UInt8) : be (l ++ [c]) = be l * 256 + c.toNat := by simp [be]
theorem be_take (l : List UInt8) (j : Nat) (h : j < l.length) : be (l.take (j + 1)) = be (l.take j) * 256 + l[j].toNat := by
  rw [List.take_succ_eq_append_getElem h, be_snoc]
theorem be_lt : ∀ (l : List UInt8), be l < 256 ^ l.length := by
  intro l
  suffices h : ∀ (l : List UInt8) (a : Nat), l.foldl (fun a c => a * 256 + c.toNat) a < (a + 1) * 256 ^ l.length by have := h l 0; simpa [be] using this
  intro l
  induction l with
  | nil => intro a; simp
  | cons c l ih =>
    intro a
    simp only [List.foldl_cons, List.length_cons]
    refine Nat.lt_of_lt_of_le (ih _) ?_
    have := c.toNat_lt
    rw [Nat.pow_succ, Nat.mul_comm (256 ^ l.length), ← Nat.mul_assoc]
    exact Nat.mul_le_mul_right _ (by omega)
theorem wrap_u64_nat (n : Nat) (h : n < 18446744073709551616) : IntKind.u64.wrap (n : Int) = n := IntWalk.u64_in _ (by omega)
theorem or_byte (n c : Nat) (hc : c < 256) (hn : n < 72057594037927936) : bits .or .u64 (IntKind.u64.wrap ((n : Int) * 256)) (IntKind.u64.wrap (c : Int)) = ((n * 256 + c : Nat) : Int) := by
  rw [show (n : Int) * 256 = ((n * 256 : Nat) : Int) from by simp, wrap_u64_nat _ (by omega), wrap_u64_nat _ (by omega), bits_or_u64_nat _ _ (by omega) (by omega)]
  have := Nat.two_pow_add_eq_or_of_lt (i := 8) (b := c) (by omega) n
  rw [show n * 256 = 2 ^ 8 * n from by omega, this]
theorem be_step (d : List UInt8) (j : Nat) (h : j < d.length) (h8 : d.length ≤ 8) :
    bits .or .u64 (IntKind.u64.wrap ((be (d.take j) : Int) * 256)) (IntKind.u64.wrap (d[j].toNat : Int)) = (be (d.take (j + 1)) : Int) := by
  have hb := be_lt (d.take j)
  have h7 : (d.take j).length ≤ 7 := by rw [List.length_take]; omega
  have hp : 256 ^ (d.take j).length ≤ 256 ^ 7 := Nat.pow_le_pow_right (by omega) h7
  rw [or_byte _ _ d[j].toNat_lt (by omega), be_take d j h]
end Go.Proofs.Ytcmpjkopdjncdaa
