import Derived.WalkKit
import Derived.WalkSpells
import Derived.WalkLawsBesides
import Derived.Deep.QuietTactic
import Derived.BigQuiet
import Derived.Deep.DeepCutAuto
import Derived.IntWalk
import Derived.Lib.Hide
import Derived.Laws.AppendOwnNone
/- Plain facts on worlds, slices and frames that all the seat's texts share. No program in sight. -/
namespace Go.Proofs.Ytngfenjekgdfbaa
open Go.RowKit

/-- All blocks that were there are as they were, but those of S; the streams are as they were. -/
structure Fr (S : List Nat) (w w' : World) : Prop where
  os : w'.os = w.os
  tape : w'.tape = w.tape
  output : w'.output = w.output
  size : w.heap.size ≤ w'.heap.size
  block : ∀ k, k < w.heap.size → k ∉ S → w'.heap[k]? = w.heap[k]?

namespace Fr
theorem refl (S : List Nat) (w : World) : Fr S w w := ⟨rfl, rfl, rfl, Nat.le_refl _, fun _ _ _ => rfl⟩
theorem trans {S : List Nat} {a b c : World} (h : Fr S a b) (k : Fr S b c) : Fr S a c :=
  ⟨k.os.trans h.os, k.tape.trans h.tape, k.output.trans h.output, Nat.le_trans h.size k.size,
    fun i hi hS => (k.block i (Nat.lt_of_lt_of_le hi h.size) hS).trans (h.block i hi hS)⟩
/-- A step whose written blocks are new, or among S. -/
theorem step {S T : List Nat} {a b c : World} (h : Fr S a b) (k : Fr T b c) (hT : ∀ x ∈ T, x ∈ S ∨ a.heap.size ≤ x) : Fr S a c :=
  ⟨k.os.trans h.os, k.tape.trans h.tape, k.output.trans h.output, Nat.le_trans h.size k.size,
    fun i hi hS => (k.block i (Nat.lt_of_lt_of_le hi h.size) (fun hm => by rcases hT i hm with h1 | h1 <;> first | exact hS h1 | omega)).trans (h.block i hi hS)⟩
theorem quiet {S : List Nat} {a b c : World} (h : Fr S a b) (k : Fr [] b c) : Fr S a c := h.step k (fun _ hx => by cases hx)
theorem mono {S T : List Nat} {a b : World} (h : Fr S a b) (hS : ∀ x ∈ S, x ∈ T) : Fr T a b :=
  ⟨h.os, h.tape, h.output, h.size, fun i hi hT => h.block i hi (fun hm => hT (hS i hm))⟩
theorem any {S : List Nat} {a b : World} (h : Fr [] a b) : Fr S a b := h.mono (fun _ hx => by cases hx)
theorem drewN {S : List Nat} {a b : World} (h : Fr S a b) (n : Nat) : Fr S a (b.drewN n) := h.trans ⟨rfl, rfl, rfl, Nat.le_refl _, fun _ _ _ => rfl⟩
theorem drew {S : List Nat} {a b : World} (h : Fr S a b) : Fr S a b.drew := h.trans ⟨rfl, rfl, rfl, Nat.le_refl _, fun _ _ _ => rfl⟩
theorem alloc {S : List Nat} {a b : World} (h : Fr S a b) (o : Obj) : Fr S a (b.alloc o) :=
  h.trans ⟨rfl, rfl, rfl, by simp, fun k hk _ => Below.heap_alloc _ _ _ hk⟩
theorem setCell {S : List Nat} {a b : World} (h : Fr S a b) {p : Addr} (hp : p.block ∈ S ∨ a.heap.size ≤ p.block) (u : Value) : Fr S a (b.setCell p u) :=
  h.step (T := [p.block]) ⟨rfl, rfl, rfl, by simp, fun k _ hk => Below.heap_setCell _ _ _ _ (fun e => hk (by simp [e]))⟩ (fun x hx => by simp at hx; subst hx; exact hp)
theorem grown {S : List Nat} {a b c : World} {row : Option Nat} (h : Fr S a b) (hg : b.grownBy c row) (hr : ∀ k, row = some k → k ∈ S ∨ a.heap.size ≤ k) : Fr S a c :=
  h.step (T := row.toList) ⟨hg.os, hg.tape, hg.output, hg.size, fun k hk hn => hg.block k hk (fun e => hn (by simp [← e]))⟩ (fun x hx => hr x (by simpa using hx))
theorem below {a b : World} (h : Fr [] a b) : Below a.heap.size a b := ⟨h.os, h.tape, h.output, h.size, fun k hk => h.block k hk (by simp)⟩
theorem ofBelow {a b : World} (h : Below a.heap.size a b) : Fr [] a b := ⟨h.os, h.tape, h.output, h.size, fun k hk _ => h.block k hk⟩
theorem cell {S : List Nat} {a b : World} (h : Fr S a b) {p : Addr} (hp : p.block < a.heap.size) (hS : p.block ∉ S) : b.cell? p = a.cell? p := World.cell?_of_block (w := a) (h.block _ hp hS)
theorem frozen {S : List Nat} {a b : World} (h : Fr S a b) {p : Addr} (hp : p.block < a.heap.size) (hS : p.block ∉ S) : b.frozen? p = a.frozen? p := World.frozen?_of_block (w := a) (h.block _ hp hS)
theorem cellSome {S : List Nat} {a b : World} (h : Fr S a b) {p : Addr} {v : Value} (hc : a.cell? p = some v) (hS : p.block ∉ S) : b.cell? p = some v := (h.cell (World.block_lt_of_cell? _ _ hc) hS).trans hc
/-- What the walk uses as rules: old cells and old marks. -/
theorem rules {a b : World} (h : Fr [] a b) : (∀ k o, k < a.heap.size → b.cell? ⟨k, o, none⟩ = a.cell? ⟨k, o, none⟩) ∧ (∀ k o, k < a.heap.size → b.frozen? ⟨k, o, none⟩ = a.frozen? ⟨k, o, none⟩) :=
  ⟨fun k o hk => h.cell (p := ⟨k, o, none⟩) hk (by simp), fun k o hk => h.frozen (p := ⟨k, o, none⟩) hk (by simp)⟩
end Fr

/-- The slice value v reads as the cells xs (elements of one cell). -/
def Sl (w : World) (v : Value) (xs : List Value) : Prop :=
  ∃ a cap, v = .slice a xs.length cap ∧ xs.length ≤ cap ∧ cap ≤ maxLen ∧ (a = none → cap = 0) ∧
    ∀ p, a = some p → 0 < cap → p.spot = none ∧ p.block < w.heap.size ∧ ∀ i x, xs[i]? = some x → w.cell? ⟨p.block, p.off + i, none⟩ = some x

/-- The block of a slice value. -/
def blockOf : Value → Option Nat
  | .slice (some p) _ _ => some p.block
  | _ => none
/-- The block of a slice value that has room for an element. -/
def liveOf : Value → Option Nat
  | .slice (some p) _ c => if 0 < c then some p.block else none
  | _ => none
theorem live_block {v : Value} {b : Nat} (h : liveOf v = some b) : blockOf v = some b := by
  unfold liveOf at h
  split at h
  · split at h
    · exact h
    · cases h
  · cases h

namespace Sl
theorem nil (w : World) : Sl w (.slice none 0 0) [] := ⟨none, 0, rfl, by simp, by unfold maxLen; omega, fun _ => rfl, fun p hp _ => by cases hp⟩
/-- A new slice of one element. -/
theorem one (w : World) (x : Value) (t : TypeId) : Sl (w.alloc (.cells #[x] t)) (.slice (some ⟨w.heap.size, 0, none⟩) 1 1) [x] := by
  refine ⟨_, 1, rfl, by simp, by unfold maxLen; omega, fun h => ?_, ?_⟩
  · cases h
  · rintro p hp _
    simp only [Option.some.injEq] at hp
    subst hp
    refine ⟨rfl, by simp, fun i y hy => ?_⟩
    simpa using hy
theorem frL {w w' : World} {v : Value} {xs : List Value} {S : List Nat} (h : Sl w v xs) (hf : Fr S w w') (hS : ∀ b, liveOf v = some b → b ∉ S) : Sl w' v xs := by
  obtain ⟨a, cap, rfl, h1, h2, h3, h4⟩ := h
  refine ⟨a, cap, rfl, h1, h2, h3, ?_⟩
  rintro p rfl hc0
  obtain ⟨s, hb, hc⟩ := h4 p rfl hc0
  exact ⟨s, Nat.lt_of_lt_of_le hb hf.size, fun i x hx => (hf.cell (p := ⟨p.block, p.off + i, none⟩) hb (hS _ (by simp [liveOf, hc0]))).trans (hc i x hx)⟩
theorem fr {w w' : World} {v : Value} {xs : List Value} {S : List Nat} (h : Sl w v xs) (hf : Fr S w w') (hS : ∀ b, blockOf v = some b → b ∉ S) : Sl w' v xs := h.frL hf (fun b hb => hS b (live_block hb))
theorem keep {w w' : World} {v : Value} {xs : List Value} (h : Sl w v xs) (hf : Fr [] w w') : Sl w' v xs := h.fr hf (by simp)
theorem lt {w : World} {v : Value} {xs : List Value} (h : Sl w v xs) : ∀ b, liveOf v = some b → b < w.heap.size := by
  obtain ⟨a, cap, rfl, h1, h2, h3, h4⟩ := h
  intro b hb
  cases a with
  | none => simp [liveOf] at hb
  | some p =>
    simp only [liveOf] at hb
    split at hb
    · rename_i hc0
      cases hb
      exact (h4 p rfl hc0).2.1
    · cases hb
/-- The element at a place. -/
theorem at_ {w : World} {a : Option Addr} {n cap : Nat} {xs : List Value} (h : Sl w (.slice a n cap) xs) {k : Nat} (hk : k < n) :
    ∃ b o, a = some ⟨b, o, none⟩ ∧ b < w.heap.size ∧ ∀ i x, xs[i]? = some x → w.cell? ⟨b, o + i, none⟩ = some x := by
  obtain ⟨a', cap', e, h1, h2, h3, h4⟩ := h
  simp only [Value.slice.injEq] at e
  obtain ⟨rfl, rfl, rfl⟩ := e
  cases a with
  | none => have := h3 rfl; omega
  | some p =>
    obtain ⟨b, o, s⟩ := p
    obtain ⟨s', hb, hc⟩ := h4 _ rfl (by omega)
    simp only at s'
    subst s'
    exact ⟨b, o, rfl, hb, hc⟩
theorem len {w : World} {a : Option Addr} {n cap : Nat} {xs : List Value} (h : Sl w (.slice a n cap) xs) : n = xs.length ∧ n ≤ cap ∧ cap ≤ maxLen ∧ (a = none → cap = 0) := by
  obtain ⟨a', cap', e, h1, h2, h3, h4⟩ := h
  simp only [Value.slice.injEq] at e
  obtain ⟨rfl, rfl, rfl⟩ := e
  exact ⟨rfl, h1, h2, h3⟩
theorem isSlice {w : World} {v : Value} {xs : List Value} (h : Sl w v xs) : ∃ a n c, v = .slice a n c := by
  obtain ⟨a, cap, e, _⟩ := h
  exact ⟨a, _, cap, e⟩
theorem shape {w : World} {v : Value} {xs : List Value} (h : Sl w v xs) : ∃ a cap, v = .slice a xs.length cap := by
  obtain ⟨a, cap, e, _⟩ := h
  exact ⟨a, cap, e⟩
/-- A part of a slice, as the walk spells it. -/
theorem sub {w : World} {a : Option Addr} {n cap : Nat} {xs : List Value} (h : Sl w (.slice a n cap) xs) (k m : Nat) (hk : k + m ≤ n) :
    Sl w (.slice (if cap = k then a else Option.map (fun x => x.add k) a) m (cap - k)) ((xs.drop k).take m) := by
  obtain ⟨a', cap', e, h1, h2, h3, h4⟩ := h
  simp only [Value.slice.injEq] at e
  obtain ⟨rfl, rfl, rfl⟩ := e
  have hl : ((xs.drop k).take m).length = m := by simp; omega
  refine ⟨if cap = k then a else Option.map (fun x => x.add k) a, cap - k, by rw [hl], by omega, by omega, ?_, ?_⟩
  · intro ha
    split at ha
    · have := h3 ha; omega
    · cases a with
      | none => have := h3 rfl; omega
      | some p => simp at ha
  · intro p hp hc0
    split at hp
    · omega
    · cases a with
      | none => simp at hp
      | some q =>
        simp only [Option.map_some, Option.some.injEq] at hp
        obtain ⟨s, hb, hc⟩ := h4 q rfl (by omega)
        obtain ⟨qb, qo, qs⟩ := q
        simp only at s
        subst s
        have hq : (⟨qb, qo, none⟩ : Addr).add k = ⟨qb, qo + k, none⟩ := by unfold Addr.add; split <;> simp_all
        rw [hq] at hp
        subst hp
        refine ⟨rfl, hb, fun i x hx => ?_⟩
        have hx' : xs[k + i]? = some x := by
          rw [List.getElem?_take] at hx
          split at hx
          · simpa using hx
          · cases hx
        have := hc (k + i) x hx'
        simpa [Nat.add_assoc] using this
theorem sub' {w : World} {b o : Nat} {n cap : Nat} {xs : List Value} (h : Sl w (.slice (some ⟨b, o, none⟩) n cap) xs) (k m : Nat) (hk : k + m ≤ n) :
    Sl w (.slice (if cap = k then some ⟨b, o, none⟩ else some ⟨b, o + k, none⟩) m (cap - k)) ((xs.drop k).take m) := by
  have hq : (⟨b, o, none⟩ : Addr).add k = ⟨b, o + k, none⟩ := by unfold Addr.add; split <;> simp_all
  have := h.sub k m hk
  simp only [Option.map_some, hq] at this
  exact this
/-- Its first elements, with whatever capacity above. -/
theorem pre {w : World} {a : Option Addr} {n cap : Nat} {xs : List Value} (h : Sl w (.slice a n cap) xs) (m c : Nat) (hm : m ≤ n) (hc : m ≤ c) (hc2 : c ≤ cap) : Sl w (.slice a m c) (xs.take m) := by
  obtain ⟨a', cap', e, h1, h2, h3, h4⟩ := h
  simp only [Value.slice.injEq] at e
  obtain ⟨rfl, rfl, rfl⟩ := e
  have hl : (xs.take m).length = m := by simp; omega
  refine ⟨a, c, by rw [hl], by omega, by omega, fun ha => by have := h3 ha; omega, fun p hp hc0 => ?_⟩
  obtain ⟨s, hb, hx⟩ := h4 p hp (by omega)
  refine ⟨s, hb, fun i x hi => hx i x ?_⟩
  rw [List.getElem?_take] at hi
  split at hi
  · exact hi
  · cases hi
/-- A part of a slice lies in the same block. -/
theorem block_sub (a : Option Addr) (k m cap c' n : Nat) : blockOf (.slice (if cap = k then a else Option.map (fun x => x.add k) a) m c') = blockOf (.slice a n cap) := by
  split
  · cases a <;> rfl
  · cases a with
    | none => rfl
    | some p =>
      simp only [Option.map_some, blockOf, Option.some.injEq]
      unfold Addr.add
      split <;> rfl
theorem live_sub (a : Option Addr) (k m cap n b : Nat) (h : liveOf (.slice (if cap = k then a else Option.map (fun x => x.add k) a) m (cap - k)) = some b) : liveOf (.slice a n cap) = some b := by
  cases a with
  | none => split at h <;> simp [liveOf] at h
  | some p =>
    split at h
    · simp [liveOf] at h
      omega
    · simp only [Option.map_some, liveOf] at h
      split at h
      · rename_i hk
        have : (p.add k).block = p.block := by unfold Addr.add; split <;> rfl
        simp only [liveOf]
        rw [if_pos (by omega), ← h, this]
      · cases h
end Sl

/-- The row that the call owns reads as a slice. -/
theorem Sl.ofOwn {w : World} {base : Nat} {e : TypeId} {v : Value} {n : Nat} {xs : List Value} (h : w.ownsRow base e 1 v n xs) : Sl w v xs := by
  have hn : xs.length = n := by simpa using h.1
  subst hn
  rcases h.2 with ⟨rfl, h0⟩ | ⟨g, cap, cur, rfl, hb, hg, hc, hm, hs, ht⟩
  · have : xs = [] := List.eq_nil_of_length_eq_zero h0
    subst this
    exact Sl.nil w
  · refine ⟨_, cap, rfl, hc, hm, (fun h => by cases h), ?_⟩
    rintro p hp _
    simp only [Option.some.injEq] at hp
    subst hp
    refine ⟨rfl, (Array.getElem?_eq_some_iff.1 hg).1, fun i x hx => ?_⟩
    have := h.cells (g := g) rfl i x hx
    have hadd : (⟨g, 0, none⟩ : Addr).add i = ⟨g, 0 + i, none⟩ := by unfold Addr.add; split <;> simp_all
    rw [hadd] at this
    exact this
theorem Own.fr {w w' : World} {base : Nat} {e : TypeId} {size : Nat} {v : Value} {n : Nat} {xs : List Value} {S : List Nat} (h : w.ownsRow base e size v n xs) (hf : Fr S w w') (hS : ∀ b, blockOf v = some b → b ∉ S) : w'.ownsRow base e size v n xs := by
  refine ⟨h.1, ?_⟩
  rcases h.2 with hn | ⟨g, cap, cur, rfl, hb, hg, r⟩
  · exact .inl hn
  · exact .inr ⟨g, cap, cur, rfl, hb, by rw [hf.block g (Array.getElem?_eq_some_iff.1 hg).1 (hS g rfl)]; exact hg, r⟩
theorem Own.keep {w w' : World} {base : Nat} {e : TypeId} {size : Nat} {v : Value} {n : Nat} {xs : List Value} (h : w.ownsRow base e size v n xs) (hf : Fr [] w w') : w'.ownsRow base e size v n xs := Own.fr h hf (by simp)
theorem Own.mono {w : World} {base base' : Nat} {e : TypeId} {size : Nat} {v : Value} {n : Nat} {xs : List Value} (h : w.ownsRow base e size v n xs) (hb : base' ≤ base) : w.ownsRow base' e size v n xs := by
  refine ⟨h.1, ?_⟩
  rcases h.2 with hn | ⟨g, cap, cur, rfl, hb', r⟩
  · exact .inl hn
  · exact .inr ⟨g, cap, cur, rfl, by omega, r⟩
theorem Own.block {w : World} {base : Nat} {e : TypeId} {size : Nat} {v : Value} {n : Nat} {xs : List Value} (h : w.ownsRow base e size v n xs) : ∀ b, blockOf v = some b → base ≤ b ∧ b < w.heap.size := by
  intro b hb
  rcases h.2 with ⟨rfl, _⟩ | ⟨g, cap, cur, rfl, hb', hg, r⟩
  · simp [blockOf] at hb
  · simp only [blockOf, Option.some.injEq] at hb
    subst hb
    exact ⟨hb', (Array.getElem?_eq_some_iff.1 hg).1⟩
theorem Own.low {w w' : World} {base : Nat} {e : TypeId} {size : Nat} {v : Value} {n : Nat} {xs : List Value} {S : List Nat} (h : w.ownsRow base e size v n xs) (hf : Fr S w w') (hS : ∀ b ∈ S, b < base) : w'.ownsRow base e size v n xs :=
  Own.fr h hf (fun b hb hm => by have := (Own.block h b hb).1; have := hS b hm; omega)
theorem blockOf_own (v : Value) : v.ownBlock = blockOf v := by
  cases v <;> rfl

/-- 'append(s, x...)', s the call's own, x whatever slice of one-cell elements (nil, too). -/
theorem wpList_append_sl {P : Program} {w : World} {ops : Array Oper} {rest : List Oper} {o : Oper} {a : Act} {Q : Exit → Act → World → Prop} (hgd : o.guard = none) (s x : Operand) (t : TypeId)
    (ho : o.op = .call { callee := .builtin .append, args := #[s, x], argTypes := #[t, t] })
    (base : Nat) (e : TypeId) (z : Value) (bytes : Nat) (ht : P.underlying t = some (.slice e)) (hi : (P.info? e).map (fun i => (i.zero, i.size, i.bytes)) = some (some z, 1, bytes)) (hz : z.cells.size = 1)
    (v : Value) (n : Nat) (xs : List Value) (hs : a.eval s = v) (hown : w.ownsRow base e 1 v n xs)
    (vx : Value) (news : List Value) (hx : a.eval x = vx) (hnew : Sl w vx news) (h1 : ∀ u ∈ news, u.oneCell' = true)
    (h63 : n + news.length ≤ maxLen) (hbytes : (n + news.length) * bytes ≤ 140737488355328) (hbase : base ≤ w.heap.size)
    (h : ∀ v' w', w'.ownsRow base e 1 v' (n + news.length) (xs ++ news) → w.grownBy w' (blockOf v) → (v' = .slice none 0 0 ↔ v = .slice none 0 0 ∧ news = []) → wpList P ops Q rest (a.put o.dst v') w') : wpList P ops Q (o :: rest) a w := by
  obtain ⟨i, hi1, hi2, hi3, hi4⟩ := info_parts hi
  obtain ⟨ad, cap, rfl, h2, h3, h4, h5⟩ := hnew
  cases ad with
  | none =>
    obtain rfl := h4 rfl
    have hn : news = [] := List.eq_nil_of_length_eq_zero (by omega)
    subst hn
    refine wpList_append_own_none hgd s x t ho base e i 1 ht hi1 v n xs hs hown hx (h v w ?_ ⟨rfl, rfl, rfl, Nat.le_refl _, fun _ _ _ => rfl⟩ (by simp))
    simpa using hown
  | some p =>
    refine wpList_append_own w hgd s x t ho base e i z 1 bytes ht hi1 hi2 hi3 hi4 hz (by omega) v n xs hs hown p news.length cap news hx (by simp) ?_ h1 h63 hbytes hbase ?_
    · intro j u hu
      have hj := (List.getElem?_eq_some_iff.1 hu).1
      obtain ⟨sp, hb, hc⟩ := h5 p rfl (by omega)
      obtain ⟨pb, po, ps⟩ := p
      simp only at sp
      subst sp
      have := hc j u hu
      have hadd : (⟨pb, po, none⟩ : Addr).add j = ⟨pb, po + j, none⟩ := by unfold Addr.add; split <;> simp_all
      rw [hadd]
      exact this
    · intro v' w' g1 g2 g3
      rw [blockOf_own] at g2
      refine h v' w' g1 g2 ?_
      rw [g3]
      simp

/-- A block that holds just these cells, none of them frozen. -/
def Box (w : World) (g : Nat) (t : TypeId) (c : Array Value) : Prop := w.heap[g]? = some (.cells c t (0, 0))
namespace Box
theorem cell {w : World} {g : Nat} {t : TypeId} {c : Array Value} (h : Box w g t c) (i : Nat) : w.cell? ⟨g, i, none⟩ = c[i]? := cell_of_row w g i c t _ h
theorem free {w : World} {g : Nat} {t : TypeId} {c : Array Value} (h : Box w g t c) (i : Nat) : w.frozen? ⟨g, i, none⟩ = false := frozen_of_row w g i c t h
theorem lt {w : World} {g : Nat} {t : TypeId} {c : Array Value} (h : Box w g t c) : g < w.heap.size := (Array.getElem?_eq_some_iff.1 h).1
theorem new (w : World) (t : TypeId) (c : Array Value) : Box (w.alloc (.cells c t)) w.heap.size t c := heap_alloc_new w _
theorem fr {w w' : World} {g : Nat} {t : TypeId} {c : Array Value} {S : List Nat} (h : Box w g t c) (hf : Fr S w w') (hS : g ∉ S) : Box w' g t c := (hf.block g h.lt hS).trans h
theorem keep {w w' : World} {g : Nat} {t : TypeId} {c : Array Value} (h : Box w g t c) (hf : Fr [] w w') : Box w' g t c := h.fr hf (by simp)
theorem set {w : World} {g : Nat} {t : TypeId} {c : Array Value} (h : Box w g t c) (i : Nat) (v : Value) : Box (w.setCell ⟨g, i, none⟩ v) g t (c.setIfInBounds i v) := heap_setCell_same w g i c t v h
theorem setRow {w : World} {g : Nat} {t : TypeId} {c : Array Value} (h : Box w g t c) (c' : Array Value) : Box (w.setRow g c') g t c' := setRow_heap w g c c' t _ h
theorem frSetRow (w : World) (g : Nat) (c' : Array Value) : Fr [g] w (w.setRow g c') :=
  ⟨rfl, rfl, rfl, by simp, fun k hk hn => setRow_other w g k c' (fun e => hn (by simp [e]))⟩
end Box
theorem Fr.set {S : List Nat} {a b : World} (h : Fr S a b) {g i : Nat} (hp : g ∈ S ∨ a.heap.size ≤ g) (u : Value) : Fr S a (b.setCell ⟨g, i, none⟩ u) := h.setCell (p := ⟨g, i, none⟩) hp u

/-- A whole struct or array stored over a block. -/
theorem wpList_store_row {P : Program} {w : World} {ops : Array Oper} {rest : List Oper} {o : Oper} {a : Act} {Q : Exit → Act → World → Prop} (hgd : o.guard = none) (ty : TypeId) (x y : Operand)
    (ho : o.op = .store ty x y) (g : Nat) (hx : a.eval x = .pointer (some ⟨g, 0, none⟩)) (c c' : Array Value) (hy : a.eval y = .agg c') (t : TypeId) (hb : Box w g t c)
    (hi : (P.info? ty).map (·.size) = some c'.size) (hs : c'.size = c.size) (h1 : ∀ u ∈ c'.toList, u.oneCell' = true)
    (h : ∀ w', Box w' g t c' → Fr [g] w w' → wpList P ops Q rest (a.put o.dst undef) w') : wpList P ops Q (o :: rest) a w := by
  refine wpList_plain hgd fun K hK => ?_
  have hst := run_storeCells_at P g 0 t c'.toList 0 c w hb (by simp [hs]) h1
  simp only [Nat.add_zero, List.take_zero, List.nil_append, Nat.zero_add] at hst
  rw [List.drop_of_length_le (by simp [hs]), List.append_nil, Array.toArray_toList] at hst
  cases hq : P.info? ty with
  | none => simp [hq] at hi
  | some i =>
    have hsz : i.size = c'.size := by simpa [hq] using hi
    unfold Oper.wp execOp
    simp only [ho, hx, hy]
    simp [Instr.storeAt, Instr.sureAddr, storeVar, Sem.run_bind, sizeOf, typeInfo, hq, hsz, Value.cells, hst]
    exact hK _ _ (h _ (hb.setRow c') (Box.frSetRow w g c'))

/-- A byte as a value; a slice value reads as bytes. -/
def B8 (c : UInt8) : Value := .int .u8 c.toNat
def Bytes (w : World) (v : Value) (l : List UInt8) : Prop := Sl w v (l.map B8)
def W32 (c : UInt32) : Value := .int .u32 c.toNat
def Words (w : World) (v : Value) (l : List UInt32) : Prop := Sl w v (l.map W32)

theorem oneCell_B8 (l : List UInt8) : ∀ u ∈ l.map B8, u.oneCell' = true := by
  intro u hu
  obtain ⟨c, _, rfl⟩ := List.mem_map.1 hu
  rfl
theorem oneCell_int (k : IntKind) (n : Int) : ∀ u ∈ [Value.int k n], u.oneCell' = true := by
  intro u hu
  simp only [List.mem_singleton] at hu
  subst hu
  rfl
theorem oneCell_W32 (l : List UInt32) : ∀ u ∈ l.map W32, u.oneCell' = true := by
  intro u hu
  obtain ⟨c, _, rfl⟩ := List.mem_map.1 hu
  rfl

theorem i64_ofNat (n : Nat) : BitVec.ofInt 64 (n : Int) = BitVec.ofNat 64 n := by simp
theorem i64_and_nat (a b : Nat) (ha : a < 9223372036854775808) (hb : b < 9223372036854775808) : bits .and .i64 (a : Int) (b : Int) = ((a &&& b : Nat) : Int) := by
  show IntKind.i64.wrap ((BitVec.ofInt 64 (a : Int) &&& BitVec.ofInt 64 (b : Int)).toNat : Int) = _
  rw [i64_ofNat, i64_ofNat, BitVec.toNat_and, BitVec.toNat_ofNat, BitVec.toNat_ofNat]
  rw [Nat.mod_eq_of_lt (by omega), Nat.mod_eq_of_lt (by omega)]
  have := Nat.and_le_left (n := a) (m := b)
  exact IntWalk.i64_in _ (by omega)
theorem i64_or_nat (a b : Nat) (ha : a < 9223372036854775808) (hb : b < 9223372036854775808) : bits .or .i64 (a : Int) (b : Int) = ((a ||| b : Nat) : Int) := by
  show IntKind.i64.wrap ((BitVec.ofInt 64 (a : Int) ||| BitVec.ofInt 64 (b : Int)).toNat : Int) = _
  rw [i64_ofNat, i64_ofNat, BitVec.toNat_or, BitVec.toNat_ofNat, BitVec.toNat_ofNat]
  rw [Nat.mod_eq_of_lt (by omega), Nat.mod_eq_of_lt (by omega)]
  have : a ||| b < 2 ^ 63 := Nat.or_lt_two_pow (by omega) (by omega)
  exact IntWalk.i64_in _ (by omega)
theorem byte_and15 (n : Nat) (h : n < 256) : bits .and .i64 (n : Int) 15 = ((n % 16 : Nat) : Int) := by
  rw [show (15 : Int) = ((15 : Nat) : Int) from rfl, i64_and_nat _ _ (by omega) (by omega)]
  exact congrArg _ (Nat.and_two_pow_sub_one_eq_mod n 4)
theorem byte_tests : ∀ n < 256, (n &&& 16 = n / 16 % 2 * 16 ∧ n &&& 32 = n / 32 % 2 * 32 ∧ n &&& 128 = n / 128 % 2 * 128 ∧ n &&& 64 = n / 64 % 2 * 64) := by decide +kernel
theorem byte_and16 (n : Nat) (h : n < 256) : bits .and .i64 (n : Int) 16 = ((n / 16 % 2 * 16 : Nat) : Int) := by
  rw [show (16 : Int) = ((16 : Nat) : Int) from rfl, i64_and_nat _ _ (by omega) (by omega), (byte_tests n h).1]
theorem byte_and32 (n : Nat) (h : n < 256) : bits .and .i64 (n : Int) 32 = ((n / 32 % 2 * 32 : Nat) : Int) := by
  rw [show (32 : Int) = ((32 : Nat) : Int) from rfl, i64_and_nat _ _ (by omega) (by omega), (byte_tests n h).2.1]
theorem byte_and128 (n : Nat) (h : n < 256) : bits .and .i64 (n : Int) 128 = ((n / 128 % 2 * 128 : Nat) : Int) := by
  rw [show (128 : Int) = ((128 : Nat) : Int) from rfl, i64_and_nat _ _ (by omega) (by omega), (byte_tests n h).2.2.1]
theorem byte_andNot128 : ∀ n < 256, bits .andNot .i64 ((n : Nat) : Int) 128 = ((n % 128 : Nat) : Int) := by decide +kernel
theorem ret_int {k : IntKind} {a b : Int} (h : a = b) : Ending.returned (.int k a) = .returned (.int k b) := by rw [h]

/-- A number, the highest byte first. -/
def be (l : List UInt8) : Nat := l.foldl (fun a c => a * 256 + c.toNat) 0
theorem be_snoc (l : List UInt8) (c : UInt8) : be (l ++ [c]) = be l * 256 + c.toNat := by simp [be]
theorem be_take (l : List UInt8) (j : Nat) (h : j < l.length) : be (l.take (j + 1)) = be (l.take j) * 256 + l[j].toNat := by
  rw [List.take_succ_eq_append_getElem h, be_snoc]
theorem be_lt : ∀ (l : List UInt8), be l < 256 ^ l.length := by
  intro l
  suffices h : ∀ (l : List UInt8) (a : Nat), l.foldl (fun a c => a * 256 + c.toNat) a < (a + 1) * 256 ^ l.length by have := h l 0; simpa [be] using this
  intro l
  induction l with
  | nil => intro a; simp
  | cons c l ih =>
    intro a
    simp only [List.foldl_cons, List.length_cons]
    refine Nat.lt_of_lt_of_le (ih _) ?_
    have := c.toNat_lt
    rw [Nat.pow_succ, Nat.mul_comm (256 ^ l.length), ← Nat.mul_assoc]
    exact Nat.mul_le_mul_right _ (by omega)
theorem wrap_u64_nat (n : Nat) (h : n < 18446744073709551616) : IntKind.u64.wrap (n : Int) = n := IntWalk.u64_in _ (by omega)
theorem or_byte (n c : Nat) (hc : c < 256) (hn : n < 72057594037927936) : bits .or .u64 (IntKind.u64.wrap ((n : Int) * 256)) (IntKind.u64.wrap (c : Int)) = ((n * 256 + c : Nat) : Int) := by
  rw [show (n : Int) * 256 = ((n * 256 : Nat) : Int) from by simp, wrap_u64_nat _ (by omega), wrap_u64_nat _ (by omega), bits_or_u64_nat _ _ (by omega) (by omega)]
  have := Nat.two_pow_add_eq_or_of_lt (i := 8) (b := c) (by omega) n
  rw [show n * 256 = 2 ^ 8 * n from by omega, this]
theorem be_step (d : List UInt8) (j : Nat) (h : j < d.length) (h8 : d.length ≤ 8) :
    bits .or .u64 (IntKind.u64.wrap ((be (d.take j) : Int) * 256)) (IntKind.u64.wrap (d[j].toNat : Int)) = (be (d.take (j + 1)) : Int) := by
  have hb := be_lt (d.take j)
  have h7 : (d.take j).length ≤ 7 := by rw [List.length_take]; omega
  have hp : 256 ^ (d.take j).length ≤ 256 ^ 7 := Nat.pow_le_pow_right (by omega) h7
  rw [or_byte _ _ d[j].toNat_lt (by omega), be_take d j h]
end Go.Proofs.Ytngfenjekgdfbaa

/- Shapes: which places of a block each repair has; what can be told of which. No program in sight. -/
namespace Go.Proofs.Ytngfenjekgdfbaa

/-- Those of an equation that are not known, each once. -/
def openI (known eq : List Int) : List Int := eq.foldl (fun out x => if known.contains x || out.contains x then out else out ++ [x]) []
/-- What one round tells, and by which equation. -/
def roundI : List Int → Nat → List (List Int) → List (Int × Nat)
  | _, _, [] => []
  | all, i, e :: es => match openI all e with
    | [x] => (x, i) :: roundI (all ++ [x]) (i + 1) es
    | _ => roundI all (i + 1) es
/-- Round by round, till one tells nothing. -/
def peelI : Nat → List Int → List (List Int) → List (Int × Nat)
  | 0, _, _ => []
  | f + 1, all, eqs => match roundI all 0 eqs with
    | [] => []
    | ts => ts ++ peelI f (all ++ ts.map Prod.fst) eqs
/-- How many equations are still open. -/
def opens (all : List Int) (eqs : List (List Int)) : Nat := (eqs.filter fun e => !(openI all e).isEmpty).length
def closureI (known : List Int) (eqs : List (List Int)) : List Int := known ++ (peelI (eqs.length + 1) known eqs).map Prod.fst
def peelableI (lost known : List Int) (eqs : List (List Int)) : Bool := lost.all fun x => (closureI (known.filter fun y => !lost.contains y) eqs).contains x
theorem open_mem {known : List Int} : ∀ {eq out : List Int} {x : Int}, x ∈ eq.foldl (fun out x => if known.contains x || out.contains x then out else out ++ [x]) out ↔ x ∈ out ∨ (x ∈ eq ∧ x ∉ known)
  | [], out, x => by simp
  | e :: eq, out, x => by
    rw [List.foldl_cons, open_mem]
    by_cases h : known.contains e || out.contains e
    · rw [if_pos h]
      simp only [Bool.or_eq_true, List.contains_iff_mem] at h
      constructor
      · rintro (h1 | ⟨h1, h2⟩)
        · exact .inl h1
        · exact .inr ⟨List.mem_cons_of_mem _ h1, h2⟩
      · rintro (h1 | ⟨h1, h2⟩)
        · exact .inl h1
        · rcases List.mem_cons.1 h1 with rfl | h1
          · rcases h with h | h
            · exact (h2 h).elim
            · exact .inl h
          · exact .inr ⟨h1, h2⟩
    · rw [if_neg h]
      simp only [Bool.or_eq_true, List.contains_iff_mem, not_or] at h
      simp only [List.mem_append, List.mem_cons, List.not_mem_nil, or_false]
      constructor
      · rintro ((h1 | rfl) | ⟨h1, h2⟩)
        · exact .inl h1
        · exact .inr ⟨.inl rfl, h.1⟩
        · exact .inr ⟨.inr h1, h2⟩
      · rintro (h1 | ⟨rfl | h1, h2⟩)
        · exact .inl (.inl h1)
        · exact .inl (.inr rfl)
        · exact .inr ⟨h1, h2⟩
theorem mem_open {known eq : List Int} {x : Int} : x ∈ openI known eq ↔ x ∈ eq ∧ x ∉ known := by
  unfold openI
  rw [open_mem]
  simp
/-- What is open depends on what is known alone, not on how it lies. -/
theorem open_congr {a b : List Int} (h : ∀ x, x ∈ a ↔ x ∈ b) (eq : List Int) : openI a eq = openI b eq := by
  unfold openI
  have hc : ∀ x, a.contains x = b.contains x := fun x => by rw [Bool.eq_iff_iff, List.contains_iff_mem, List.contains_iff_mem]; exact h x
  simp only [hc]
theorem round_congr : ∀ {eqs : List (List Int)} {a b : List Int} {i : Nat}, (∀ x, x ∈ a ↔ x ∈ b) → roundI a i eqs = roundI b i eqs
  | [], _, _, _, _ => rfl
  | e :: es, a, b, i, h => by
    unfold roundI
    rw [open_congr h e]
    split
    · exact congrArg (List.cons _) (round_congr (fun y => by simp only [List.mem_append, h y]))
    · exact round_congr h
theorem opens_le {a b : List Int} (h : ∀ x, x ∈ a → x ∈ b) (eqs : List (List Int)) : opens b eqs ≤ opens a eqs := by
  unfold opens
  induction eqs with
  | nil => simp
  | cons e es ih =>
    have h1 : (openI b e).isEmpty = false → (openI a e).isEmpty = false := by
      intro hb
      rw [List.isEmpty_eq_false_iff_exists_mem] at hb ⊢
      obtain ⟨x, hx⟩ := hb
      rw [mem_open] at hx
      exact ⟨x, mem_open.2 ⟨hx.1, fun hm => hx.2 (h x hm)⟩⟩
    rw [List.filter_cons, List.filter_cons]
    cases hb : (openI b e).isEmpty with
    | false =>
      rw [h1 hb]
      simpa using ih
    | true =>
      cases ha : (openI a e).isEmpty with
      | false => simp; omega
      | true => simpa using ih
/-- A round that tells something closes an equation. -/
theorem round_opens : ∀ {eqs : List (List Int)} {all : List Int} {i : Nat}, roundI all i eqs ≠ [] → opens (all ++ (roundI all i eqs).map Prod.fst) eqs < opens all eqs
  | [], _, _, h => by simp [roundI] at h
  | e :: es, all, i, h => by
    have hcons : ∀ a : List Int, opens a (e :: es) = (if (openI a e).isEmpty then 0 else 1) + opens a es := fun a => by
      unfold opens
      rw [List.filter_cons]
      cases (openI a e).isEmpty
      · simp; omega
      · simp
    unfold roundI at h ⊢
    split at h
    · rename_i x hx
      simp only [List.map_cons]
      have hmem : ∀ y, y ∈ openI all e ↔ y = x := fun y => by rw [hx]; simp
      have hclosed : openI (all ++ x :: (roundI (all ++ [x]) (i + 1) es).map Prod.fst) e = [] := by
        rw [List.eq_nil_iff_forall_not_mem]
        intro y hy
        rw [mem_open] at hy
        have h2 : y ∈ openI all e := mem_open.2 ⟨hy.1, fun hm => hy.2 (List.mem_append.2 (.inl hm))⟩
        rw [hmem] at h2
        exact hy.2 (List.mem_append.2 (.inr (by simp [h2])))
      rw [hcons, hcons, hclosed, hx]
      have h3 := opens_le (a := all) (b := all ++ x :: (roundI (all ++ [x]) (i + 1) es).map Prod.fst) (fun y hy => List.mem_append.2 (.inl hy)) es
      simp
      omega
    · rename_i hne
      have ih := round_opens (all := all) (i := i + 1) (eqs := es) h
      · rw [hcons, hcons]
        have h3 : (if (openI (all ++ (roundI all (i + 1) es).map Prod.fst) e).isEmpty then 0 else 1) ≤ (if (openI all e).isEmpty then 0 else 1) := by
          have := opens_le (a := all) (b := all ++ (roundI all (i + 1) es).map Prod.fst) (fun y hy => List.mem_append.2 (.inl hy)) [e]
          unfold opens at this
          simp only [List.filter_cons, List.filter_nil] at this
          revert this
          cases (openI (all ++ (roundI all (i + 1) es).map Prod.fst) e).isEmpty <;> cases (openI all e).isEmpty <;> simp
        omega
/-- Enough rounds are enough. -/
theorem peel_fuel : ∀ {f g : Nat} {all : List Int} {eqs : List (List Int)}, opens all eqs < f → opens all eqs < g → peelI f all eqs = peelI g all eqs
  | 0, _, _, _, h, _ => by omega
  | _, 0, _, _, _, h => by omega
  | f + 1, g + 1, all, eqs, hf, hg => by
    unfold peelI
    cases hr : roundI all 0 eqs with
    | nil => rfl
    | cons t ts =>
      simp only
      have h1 := round_opens (all := all) (i := 0) (eqs := eqs) (by rw [hr]; simp)
      rw [hr] at h1
      rw [peel_fuel (f := f) (g := g) (by omega) (by omega)]
/-- All that can be told, one by one. -/
def peelT (all : List Int) (eqs : List (List Int)) : List (Int × Nat) := peelI (opens all eqs + 1) all eqs
theorem peel_none {all : List Int} {eqs : List (List Int)} (h : roundI all 0 eqs = []) : peelT all eqs = [] := by
  unfold peelT peelI
  rw [h]
theorem peel_some {all : List Int} {eqs : List (List Int)} (h : roundI all 0 eqs ≠ []) : peelT all eqs = roundI all 0 eqs ++ peelT (all ++ (roundI all 0 eqs).map Prod.fst) eqs := by
  have h1 := round_opens h
  conv => lhs; unfold peelT peelI
  cases hr : roundI all 0 eqs with
  | nil => exact (h hr).elim
  | cons t ts =>
    simp only
    rw [hr] at h1
    unfold peelT
    rw [peel_fuel (f := opens all eqs) (g := opens (all ++ (t :: ts).map Prod.fst) eqs + 1) (by omega) (by omega)]
theorem opens_len (all : List Int) (eqs : List (List Int)) : opens all eqs ≤ eqs.length := List.length_filter_le _ _
theorem closure_eq (known : List Int) (eqs : List (List Int)) : closureI known eqs = known ++ (peelT known eqs).map Prod.fst := by
  unfold closureI peelT
  have := opens_len known eqs
  rw [peel_fuel (f := eqs.length + 1) (g := opens known eqs + 1) (by omega) (by omega)]
/-- A round tells each thing once, and none that was known. -/
theorem round_fresh : ∀ {eqs : List (List Int)} {all : List Int} {i : Nat}, (∀ p ∈ roundI all i eqs, p.1 ∉ all) ∧ ((roundI all i eqs).map Prod.fst).Nodup
  | [], _, _ => by simp [roundI]
  | e :: es, all, i => by
    unfold roundI
    split
    · rename_i x hx
      have ih := round_fresh (eqs := es) (all := all ++ [x]) (i := i + 1)
      have hxm : x ∉ all := (mem_open.1 (show x ∈ openI all e by rw [hx]; simp)).2
      refine ⟨?_, ?_⟩
      · intro p hp
        rcases List.mem_cons.1 hp with rfl | hp
        · exact hxm
        · exact fun hm => ih.1 p hp (List.mem_append.2 (.inl hm))
      · rw [List.map_cons, List.nodup_cons]
        refine ⟨?_, ih.2⟩
        intro hm
        obtain ⟨p, hp, he⟩ := List.mem_map.1 hm
        exact ih.1 p hp (by rw [he]; simp)
    · exact round_fresh
end Go.Proofs.Ytngfenjekgdfbaa

/- Shapes as lists: rows by a predicate, by lot; a rising row with one more. No program in sight. -/
namespace Go.Proofs.Ytngfenjekgdfbaa

/-- A rising list with one more. -/
def insI (xs : List Int) (x : Int) : List Int := xs.takeWhile (fun y => decide (y ≤ x)) ++ x :: xs.dropWhile (fun y => decide (y ≤ x))
theorem ins_perm (xs : List Int) (x : Int) : (insI xs x).Perm (xs ++ [x]) := by
  unfold insI
  refine (List.perm_middle).trans ?_
  rw [List.takeWhile_append_dropWhile]
  exact (List.perm_append_comm (l₁ := [x]) (l₂ := xs))
theorem mem_ins {xs : List Int} {x y : Int} : y ∈ insI xs x ↔ y ∈ xs ∨ y = x := by
  rw [(ins_perm xs x).mem_iff, List.mem_append, List.mem_singleton]
theorem takeWhile_le {p : Int → Bool} : ∀ {xs : List Int}, ∀ y ∈ xs.takeWhile p, p y = true
  | [], y, h => by simp at h
  | z :: zs, y, h => by
    rw [List.takeWhile_cons] at h
    split at h
    · rcases List.mem_cons.1 h with rfl | h
      · assumption
      · exact takeWhile_le y h
    · simp at h
theorem dropWhile_gt : ∀ {xs : List Int} {x : Int}, xs.Pairwise (· ≤ ·) → ∀ y ∈ xs.dropWhile (fun y => decide (y ≤ x)), x < y
  | [], _, _, y, h => by simp at h
  | z :: zs, x, hs, y, h => by
    rw [List.dropWhile_cons] at h
    rw [List.pairwise_cons] at hs
    split at h
    · exact dropWhile_gt hs.2 y h
    · rename_i hz
      simp at hz
      rcases List.mem_cons.1 h with rfl | h
      · exact hz
      · have := hs.1 y h; omega
theorem ins_sorted {xs : List Int} {x : Int} (h : xs.Pairwise (· ≤ ·)) : (insI xs x).Pairwise (· ≤ ·) := by
  unfold insI
  rw [List.pairwise_append]
  refine ⟨h.sublist (List.takeWhile_sublist _), ?_, ?_⟩
  · rw [List.pairwise_cons]
    exact ⟨fun y hy => by have := dropWhile_gt h y hy; omega, h.sublist (List.dropWhile_sublist _)⟩
  · intro a ha b hb
    have h1 := takeWhile_le a ha
    simp at h1
    rcases List.mem_cons.1 hb with rfl | hb
    · exact h1
    · have := dropWhile_gt h b hb; omega
/-- What append and sort make of a rising row is what insert makes. -/
theorem sort_ins {xs ys : List Int} {x : Int} (h : xs.Pairwise (· ≤ ·)) (hs : ys.Pairwise (· ≤ ·)) (hp : ys.Perm (xs ++ [x])) : ys = insI xs x :=
  List.Perm.eq_of_pairwise (le := (· ≤ ·)) (fun a b _ _ h1 h2 => by omega) hs (ins_sorted h) (hp.trans (ins_perm xs x).symm)
/-- A row by a predicate. -/
def rowBy (k : Nat) (f : Nat → Bool) : List Int := ((List.range k).filter f).map fun p => ((p : Nat) : Int)
theorem rowBy_succ (k : Nat) (f : Nat → Bool) : rowBy (k + 1) f = rowBy k f ++ if f k then [((k : Nat) : Int)] else [] := by
  unfold rowBy
  rw [List.range_succ, List.filter_append, List.map_append]
  cases h : f k <;> simp [h]
theorem rowBy_rises (k : Nat) (f : Nat → Bool) : (rowBy k f).Pairwise (· < ·) := by
  induction k with
  | zero => simp [rowBy]
  | succ k ih =>
    rw [rowBy_succ, List.pairwise_append]
    refine ⟨ih, by split <;> simp, ?_⟩
    intro a ha b hb
    unfold rowBy at ha
    obtain ⟨p, hp, rfl⟩ := List.mem_map.1 ha
    have h1 := List.mem_range.1 (List.mem_filter.1 hp).1
    split at hb
    · simp at hb; omega
    · simp at hb
theorem mem_rowBy {k : Nat} {f : Nat → Bool} {x : Int} : x ∈ rowBy k f ↔ ∃ p : Nat, p < k ∧ f p = true ∧ x = (p : Int) := by
  unfold rowBy
  simp only [List.mem_map, List.mem_filter, List.mem_range]
  constructor
  · rintro ⟨p, ⟨h1, h2⟩, rfl⟩; exact ⟨p, h1, h2, rfl⟩
  · rintro ⟨p, h1, h2, rfl⟩; exact ⟨p, ⟨h1, h2⟩, rfl⟩
def runS (k n : Nat) : List (List Int) := (List.range n).map fun i => rowBy k fun p => decide (i * k / n ≤ p) && decide (p < (i + 1) * k / n)
def spreadS (k n : Nat) : List (List Int) := (List.range n).map fun i => rowBy k fun p => p % n == i
/-- What a seed becomes. -/
def nextS (s : UInt64) : UInt64 := 6364136223846793005 * s + 1442695040888963407
/-- A row by lot: the places so far, the seed behind. -/
def lotRow (s : UInt64) : Nat → List Int × UInt64
  | 0 => ([], s)
  | k + 1 => let r := lotRow s k; let t := nextS r.2; (if 9223372036854775808 ≤ t.toNat then r.1 ++ [((k : Nat) : Int)] else r.1, t)
def lotsS (s : UInt64) (k : Nat) : Nat → List (List Int) × UInt64
  | 0 => ([], s)
  | n + 1 => let r := lotsS s k n; let t := lotRow r.2 k; (r.1 ++ [t.1], t.2)
/-- A place is given to a row. -/
def giveS (s : List (List Int)) (i : Nat) (x : Int) : List (List Int) := s.set i (insI (s.getD i []) x)
def hasS (s : List (List Int)) (x : Int) : Bool := s.any fun r => r.contains x
/-- Each place a row: those that have none are given one by one. -/
def fullS (n : Nat) (s : List (List Int)) : Nat → List (List Int)
  | 0 => s
  | k + 1 => let r := fullS n s k; if hasS r ((k : Nat) : Int) then r else giveS r (k % n) ((k : Nat) : Int)
/-- Each row a place. -/
def noneS (k : Nat) (s : List (List Int)) : Nat → List (List Int)
  | 0 => s
  | i + 1 => let r := noneS k s i; if (r.getD i []).isEmpty then giveS r i ((i % k : Nat) : Int) else r
def randomS (s : UInt64) (k n : Nat) : List (List Int) := noneS k (fullS n (lotsS s k n).1 k) n
/-- The shape of a kind; none of a block or of a number that may not be. -/
def ofS (kind : Int) (seed : UInt64) (k n : Int) : List (List Int) :=
  if k < 1 ∨ 48 < k ∨ n < 1 then [] else
    let m := (min n k).toNat
    if kind = 1 then spreadS k.toNat m else if kind = 2 then randomS seed k.toNat m else runS k.toNat m
theorem lotRow_rises (s : UInt64) : ∀ k : Nat, (lotRow s k).1.Pairwise (· < ·) ∧ ∀ x ∈ (lotRow s k).1, 0 ≤ x ∧ x < (k : Int)
  | 0 => by simp [lotRow]
  | k + 1 => by
    obtain ⟨h1, h2⟩ := lotRow_rises s k
    unfold lotRow
    simp only
    split
    · refine ⟨?_, ?_⟩
      · rw [List.pairwise_append]
        exact ⟨h1, by simp, fun a ha b hb => by have := h2 a ha; simp at hb; omega⟩
      · intro x hx
        rcases List.mem_append.1 hx with hx | hx
        · have := h2 x hx; omega
        · simp at hx; omega
    · exact ⟨h1, fun x hx => by have := h2 x hx; omega⟩
end Go.Proofs.Ytngfenjekgdfbaa

/- Shapes: how many that follow one another can be lost. No program in sight. -/
namespace Go.Proofs.Ytngfenjekgdfbaa

/-- A round that tells so many closes so many equations. -/
theorem round_count : ∀ {eqs : List (List Int)} {all : List Int} {i : Nat}, (roundI all i eqs).length + opens (all ++ (roundI all i eqs).map Prod.fst) eqs ≤ opens all eqs
  | [], all, i => by simp [roundI, opens]
  | e :: es, all, i => by
    have hcons : ∀ a : List Int, opens a (e :: es) = (if (openI a e).isEmpty then 0 else 1) + opens a es := fun a => by
      unfold opens
      rw [List.filter_cons]
      cases (openI a e).isEmpty
      · simp; omega
      · simp
    unfold roundI
    split
    · rename_i x hx
      simp only [List.map_cons, List.length_cons]
      have hclosed : openI (all ++ x :: (roundI (all ++ [x]) (i + 1) es).map Prod.fst) e = [] := by
        rw [List.eq_nil_iff_forall_not_mem]
        intro y hy
        rw [mem_open] at hy
        have h2 : y ∈ openI all e := mem_open.2 ⟨hy.1, fun hm => hy.2 (List.mem_append.2 (.inl hm))⟩
        rw [hx] at h2
        exact hy.2 (List.mem_append.2 (.inr (by simp at h2; simp [h2])))
      have ih := round_count (all := all ++ [x]) (i := i + 1) (eqs := es)
      rw [List.append_assoc, List.singleton_append] at ih
      have h3 := opens_le (a := all) (b := all ++ [x]) (fun y hy => List.mem_append.2 (.inl hy)) es
      rw [hcons, hcons, hclosed, hx]
      simp
      omega
    · have ih := round_count (all := all) (i := i + 1) (eqs := es)
      have h3 := opens_le (a := all) (b := all ++ (roundI all (i + 1) es).map Prod.fst) (fun y hy => List.mem_append.2 (.inl hy)) [e]
      have h4 : (if (openI (all ++ (roundI all (i + 1) es).map Prod.fst) e).isEmpty then 0 else 1) ≤ (if (openI all e).isEmpty then 0 else 1) := by
        unfold opens at h3
        simp only [List.filter_cons, List.filter_nil] at h3
        revert h3
        cases (openI (all ++ (roundI all (i + 1) es).map Prod.fst) e).isEmpty <;> cases (openI all e).isEmpty <;> simp
      rw [hcons, hcons]
      omega
theorem peel_count : ∀ (f : Nat) (all : List Int) (eqs : List (List Int)), (peelI f all eqs).length ≤ opens all eqs
  | 0, all, eqs => by simp [peelI]
  | f + 1, all, eqs => by
    unfold peelI
    cases hr : roundI all 0 eqs with
    | nil => simp
    | cons t ts =>
      simp only [List.length_append]
      have h1 := round_count (all := all) (i := 0) (eqs := eqs)
      rw [hr] at h1
      have h2 := peel_count f (all ++ (t :: ts).map Prod.fst) eqs
      omega
/-- An equation is told by a round if but one of it is open. -/
theorem round_tells : ∀ {eqs : List (List Int)} {all : List Int} {i : Nat} {e : List Int}, roundI all i eqs = [] → e ∈ eqs → (openI all e).length ≠ 1
  | [], _, _, _, _, he => by simp at he
  | d :: es, all, i, e, h, he => by
    unfold roundI at h
    split at h
    · cases h
    · rename_i hne
      rcases List.mem_cons.1 he with rfl | he
      · intro h1
        match ho : openI all e, h1 with
        | [x], _ => exact hne x ho
      · exact round_tells h he
/-- What all that can be told leaves open has no equation with but one open. -/
theorem peel_closed : ∀ (n : Nat) (all : List Int) (eqs : List (List Int)), opens all eqs ≤ n → roundI (all ++ (peelT all eqs).map Prod.fst) 0 eqs = []
  | n, all, eqs, hn => by
    by_cases h : roundI all 0 eqs = []
    · rw [peel_none h]; simpa using h
    · rw [peel_some h, List.map_append, ← List.append_assoc]
      have h1 := round_opens h
      match n with
      | 0 => omega
      | n + 1 => exact peel_closed n _ eqs (by omega)
theorem closure_closed {known : List Int} {eqs : List (List Int)} {e : List Int} (he : e ∈ eqs) : (openI (closureI known eqs) e).length ≠ 1 := by
  rw [closure_eq]
  exact round_tells (peel_closed _ known eqs (Nat.le_refl _)) he
theorem open_nodup {known : List Int} : ∀ {eq out : List Int}, out.Nodup → (eq.foldl (fun out x => if known.contains x || out.contains x then out else out ++ [x]) out).Nodup
  | [], out, h => h
  | e :: eq, out, h => by
    rw [List.foldl_cons]
    apply open_nodup
    split
    · exact h
    · rename_i hn
      simp only [Bool.or_eq_true, List.contains_iff_mem, not_or] at hn
      rw [List.nodup_append]
      exact ⟨h, by simp, fun a ha b hb => by simp at hb; subst hb; intro hab; subst hab; exact hn.2 ha⟩
/-- Told is what stands alone in a row. -/
theorem told_alone {known : List Int} {eqs : List (List Int)} {e : List Int} {p : Int} (he : e ∈ eqs) (hp : p ∈ e) (ho : ∀ y ∈ e, y ≠ p → y ∈ known) : p ∈ closureI known eqs := by
  refine Classical.byContradiction fun hn => ?_
  have hk : ∀ y, y ∈ known → y ∈ closureI known eqs := fun y hy => by unfold closureI; exact List.mem_append.2 (.inl hy)
  have h1 : ∀ y, y ∈ openI (closureI known eqs) e ↔ y = p := fun y => by
    rw [mem_open]
    constructor
    · rintro ⟨h2, h3⟩
      exact Classical.byContradiction fun hne => h3 (hk y (ho y h2 hne))
    · rintro rfl
      exact ⟨hp, hn⟩
  have h2 : (openI (closureI known eqs) e).Nodup := open_nodup (by simp)
  refine closure_closed (known := known) he ?_
  generalize openI (closureI known eqs) e = l at h1 h2
  match l with
  | [] => exact absurd ((h1 p).2 rfl) (by simp)
  | [_] => rfl
  | a :: b :: l =>
    have ha := (h1 a).1 (by simp)
    have hb := (h1 b).1 (by simp)
    rw [List.nodup_cons] at h2
    exact absurd (by rw [ha, hb]; simp) h2.1
/-- More can't be told than there are equations. -/
theorem told_few {known lost : List Int} {eqs : List (List Int)} (hd : lost.Nodup) (hk : ∀ x ∈ lost, x ∉ known) (hl : ∀ x ∈ lost, x ∈ closureI known eqs) : lost.length ≤ eqs.length := by
  have h1 : lost.length ≤ ((peelT known eqs).map Prod.fst).length := by
    refine List.Nodup.length_le_of_subset hd ?_
    intro x hx
    have h2 := hl x hx
    rw [closure_eq] at h2
    rcases List.mem_append.1 h2 with h2 | h2
    · exact (hk x hx h2).elim
    · exact h2
  have h2 := peel_count (opens known eqs + 1) known eqs
  have h3 := opens_len known eqs
  rw [List.length_map] at h1
  unfold peelT at h1
  omega
end Go.Proofs.Ytngfenjekgdfbaa

/- Shapes: bursts. No program in sight. -/
namespace Go.Proofs.Ytngfenjekgdfbaa

def uptoI (k : Nat) : List Int := (List.range k).map fun p => ((p : Nat) : Int)
/-- So many that follow one another. -/
def winI (a r : Nat) : List Int := (List.range r).map fun i => ((a + i : Nat) : Int)
theorem mem_upto {k : Nat} {x : Int} : x ∈ uptoI k ↔ 0 ≤ x ∧ x < (k : Int) := by
  unfold uptoI
  simp only [List.mem_map, List.mem_range]
  constructor
  · rintro ⟨p, hp, rfl⟩; omega
  · rintro ⟨h1, h2⟩; exact ⟨x.toNat, by omega, by omega⟩
theorem mem_win {a r : Nat} {x : Int} : x ∈ winI a r ↔ (a : Int) ≤ x ∧ x < (a : Int) + r := by
  unfold winI
  simp only [List.mem_map, List.mem_range]
  constructor
  · rintro ⟨p, hp, rfl⟩; omega
  · rintro ⟨h1, h2⟩; exact ⟨(x - a).toNat, by omega, by omega⟩
theorem win_nodup (a r : Nat) : (winI a r).Nodup := by
  unfold winI
  have h : ((List.range r).map fun i => ((a + i : Nat) : Int)).Pairwise (· < ·) := by
    rw [List.pairwise_map]
    exact List.pairwise_lt_range.imp (fun h => by omega)
  exact h.imp (fun h => by omega)
theorem win_len (a r : Nat) : (winI a r).length = r := by simp [winI]
/-- Any so many that follow one another can be lost. -/
def survivesS (s : List (List Int)) (k r : Nat) : Bool := (List.range (k + 1 - r)).all fun a => peelableI (winI a r) (uptoI k) s
/-- How many can be lost, from so many on. -/
def burstR (s : List (List Int)) (k : Nat) : Nat → Nat → Nat
  | 0, row => row
  | f + 1, row => if row < k && survivesS s k (row + 1) then burstR s k f (row + 1) else row
def burstS (s : List (List Int)) (k : Nat) : Nat := burstR s k k 0
theorem burstR_le {s : List (List Int)} {k : Nat} : ∀ {f row : Nat}, row ≤ k → row ≤ burstR s k f row ∧ burstR s k f row ≤ k
  | 0, row, h => ⟨Nat.le_refl _, h⟩
  | f + 1, row, h => by
    unfold burstR
    split
    · rename_i hc
      simp only [Bool.and_eq_true, decide_eq_true_eq] at hc
      have := burstR_le (s := s) (k := k) (f := f) (row := row + 1) (by omega)
      omega
    · exact ⟨Nat.le_refl _, h⟩
/-- What is reached survives. -/
theorem burstR_survives {s : List (List Int)} {k : Nat} : ∀ {f row : Nat}, row ≤ k → ∀ r, row < r → r ≤ burstR s k f row → survivesS s k r = true
  | 0, row, _, r, h1, h2 => by unfold burstR at h2; omega
  | f + 1, row, h, r, h1, h2 => by
    unfold burstR at h2
    split at h2
    · rename_i hc
      simp only [Bool.and_eq_true, decide_eq_true_eq] at hc
      by_cases hr : r = row + 1
      · rw [hr]; exact hc.2
      · exact burstR_survives (f := f) (row := row + 1) (by omega) r (by omega) h2
    · omega
/-- As far as all survive, so far it reaches. -/
theorem burstR_ge {s : List (List Int)} {k m : Nat} (hm : m ≤ k) : ∀ {f row : Nat}, m ≤ row + f → row ≤ m → (∀ r, row < r → r ≤ m → survivesS s k r = true) → m ≤ burstR s k f row
  | 0, row, h1, h2, _ => by unfold burstR; omega
  | f + 1, row, h1, h2, hs => by
    unfold burstR
    by_cases hr : row = m
    · subst hr
      split
      · rename_i hc
        simp only [Bool.and_eq_true, decide_eq_true_eq] at hc
        have := (burstR_le (s := s) (k := k) (f := f) (row := row + 1) (by omega)).1
        omega
      · exact Nat.le_refl _
    · rw [if_pos (by simp only [Bool.and_eq_true, decide_eq_true_eq]; exact ⟨by omega, hs _ (by omega) (by omega)⟩)]
      exact burstR_ge hm (by omega) (by omega) (fun r h3 h4 => hs r (by omega) h4)
theorem peelable_alone {lost known : List Int} {s : List (List Int)} (h : ∀ p ∈ lost, ∃ e ∈ s, p ∈ e ∧ ∀ y ∈ e, y ≠ p → y ∈ known ∧ y ∉ lost) : peelableI lost known s = true := by
  unfold peelableI
  rw [List.all_eq_true]
  intro p hp
  obtain ⟨e, he, hpe, ho⟩ := h p hp
  rw [List.contains_iff_mem]
  refine told_alone he hpe (fun y hy hne => ?_)
  obtain ⟨h1, h2⟩ := ho y hy hne
  rw [List.mem_filter]
  exact ⟨h1, by simpa using h2⟩
/-- Not more can be lost than there are repairs. -/
theorem survives_few {s : List (List Int)} {k r : Nat} (hr : r ≤ k) (h : survivesS s k r = true) : r ≤ s.length := by
  unfold survivesS at h
  rw [List.all_eq_true] at h
  have h1 := h 0 (List.mem_range.2 (by omega))
  unfold peelableI at h1
  rw [List.all_eq_true] at h1
  have h2 := told_few (win_nodup 0 r) (known := (uptoI k).filter fun y => !(winI 0 r).contains y) (eqs := s) (fun x hx hm => by
    rw [List.mem_filter] at hm
    simp [hx] at hm) (fun x hx => by have := h1 x hx; rwa [List.contains_iff_mem] at this)
  rw [win_len] at h2
  exact h2
theorem burst_few {s : List (List Int)} {k : Nat} : burstS s k ≤ s.length := by
  unfold burstS
  rcases Nat.eq_zero_or_pos (burstR s k k 0) with h | h
  · omega
  · have h1 := (burstR_le (s := s) (k := k) (f := k) (row := 0) (Nat.zero_le _)).2
    exact survives_few h1 (burstR_survives (Nat.zero_le _) _ h (Nat.le_refl _))
/-- One can be lost, if each place has a repair. -/
theorem burst_one {s : List (List Int)} {k : Nat} (hk : 1 ≤ k) (hc : ∀ p : Nat, p < k → ∃ e ∈ s, ((p : Nat) : Int) ∈ e) (hb : ∀ e ∈ s, ∀ y ∈ e, 0 ≤ y ∧ y < (k : Int)) : 1 ≤ burstS s k := by
  unfold burstS
  refine burstR_ge (m := 1) hk (by omega) (by omega) (fun r h1 h2 => ?_)
  obtain rfl : r = 1 := by omega
  unfold survivesS
  rw [List.all_eq_true]
  intro a ha
  rw [List.mem_range] at ha
  refine peelable_alone (fun p hp => ?_)
  rw [mem_win] at hp
  obtain rfl : p = (a : Int) := by omega
  obtain ⟨e, he, hpe⟩ := hc a (by omega)
  exact ⟨e, he, hpe, fun y hy hne => ⟨mem_upto.2 (hb e he y hy), fun hm => by rw [mem_win] at hm; omega⟩⟩
end Go.Proofs.Ytngfenjekgdfbaa

/- Shapes: what holds of a shape of every kind. No program in sight. -/
namespace Go.Proofs.Ytngfenjekgdfbaa

/-- A rising row of places of a block. -/
structure GoodR (k : Nat) (e : List Int) : Prop where
  rise : e.Pairwise (· < ·)
  bnd : ∀ y ∈ e, 0 ≤ y ∧ y < (k : Int)
theorem rowBy_good (k : Nat) (f : Nat → Bool) : GoodR k (rowBy k f) :=
  ⟨rowBy_rises k f, fun y hy => by obtain ⟨p, h1, -, rfl⟩ := mem_rowBy.1 hy; omega⟩
theorem lotRow_good (s : UInt64) (k : Nat) : GoodR k (lotRow s k).1 := ⟨(lotRow_rises s k).1, (lotRow_rises s k).2⟩
theorem ins_good {k : Nat} {xs : List Int} {x : Int} (h : GoodR k xs) (hx : x ∉ xs) (hb : 0 ≤ x ∧ x < (k : Int)) : GoodR k (insI xs x) := by
  refine ⟨?_, fun y hy => ?_⟩
  · have h1 := ins_sorted (x := x) (h.rise.imp (fun h => Int.le_of_lt h))
    have h2 : (insI xs x).Nodup := by
      rw [(ins_perm xs x).nodup_iff, List.nodup_append]
      exact ⟨h.rise.imp (fun h => by omega), by simp, fun a ha b hb => by simp at hb; subst hb; intro hab; subst hab; exact hx ha⟩
    exact (h1.and h2).imp (fun h => by have h3 := h.1; have h4 := h.2; omega)
  · rcases mem_ins.1 hy with hy | rfl
    · exact h.bnd y hy
    · exact hb
/-- A shape of n repairs of a block of k. -/
structure GoodS (k n : Nat) (s : List (List Int)) : Prop where
  len : s.length = n
  rows : ∀ e ∈ s, GoodR k e
theorem give_good {k n : Nat} {s : List (List Int)} {i : Nat} {x : Int} (h : GoodS k n s) (hx : x ∉ s.getD i []) (hb : 0 ≤ x ∧ x < (k : Int)) : GoodS k n (giveS s i x) := by
  unfold giveS
  refine ⟨by rw [List.length_set]; exact h.len, fun e he => ?_⟩
  by_cases hi : i < s.length
  · rcases List.mem_or_eq_of_mem_set he with he | rfl
    · exact h.rows e he
    · refine ins_good ?_ hx hb
      rw [List.getD_eq_getElem?_getD, List.getElem?_eq_getElem hi]
      exact h.rows _ (List.getElem_mem hi)
  · rw [List.set_eq_of_length_le (by omega)] at he
    exact h.rows e he
theorem give_has {s : List (List Int)} {i : Nat} {x y : Int} (hi : i < s.length) : hasS (giveS s i x) y = true ↔ hasS s y = true ∨ y = x := by
  unfold hasS giveS
  simp only [List.any_eq_true, List.contains_iff_mem]
  constructor
  · rintro ⟨e, he, hy⟩
    rcases List.mem_or_eq_of_mem_set he with he | rfl
    · exact .inl ⟨e, he, hy⟩
    · rcases mem_ins.1 hy with hy | hy
      · rw [List.getD_eq_getElem?_getD, List.getElem?_eq_getElem hi] at hy
        exact .inl ⟨_, List.getElem_mem hi, hy⟩
      · exact .inr hy
  · rintro (⟨e, he, hy⟩ | rfl)
    · obtain ⟨j, hj, rfl⟩ := List.getElem_of_mem he
      by_cases hij : i = j
      · subst hij
        refine ⟨insI (s.getD i []) x, List.mem_of_getElem? (i := i) (by rw [List.getElem?_set_self hj]), mem_ins.2 (.inl ?_)⟩
        rw [List.getD_eq_getElem?_getD, List.getElem?_eq_getElem hj]
        exact hy
      · exact ⟨s[j], List.mem_of_getElem? (i := j) (by rw [List.getElem?_set_ne hij, List.getElem?_eq_getElem hj]), hy⟩
    · exact ⟨insI (s.getD i []) y, List.mem_of_getElem? (i := i) (by rw [List.getElem?_set_self hi]), mem_ins.2 (.inr rfl)⟩
theorem lots_good (s : UInt64) (k : Nat) : ∀ n : Nat, GoodS k n (lotsS s k n).1
  | 0 => ⟨rfl, by simp [lotsS]⟩
  | n + 1 => by
    have ih := lots_good s k n
    unfold lotsS
    refine ⟨by simp [ih.len], fun e he => ?_⟩
    rcases List.mem_append.1 he with he | he
    · exact ih.rows e he
    · simp at he
      subst he
      exact lotRow_good _ k
theorem full_good {n k : Nat} {s : List (List Int)} (h : GoodS k n s) (hn : 0 < n) : ∀ m : Nat, m ≤ k → GoodS k n (fullS n s m) ∧ ∀ p : Nat, p < m → hasS (fullS n s m) (p : Int) = true
  | 0, _ => ⟨h, fun p hp => by omega⟩
  | m + 1, hm => by
    obtain ⟨h1, h2⟩ := full_good h hn m (by omega)
    unfold fullS
    simp only
    split
    · rename_i hh
      refine ⟨h1, fun p hp => ?_⟩
      by_cases e : p = m
      · subst e; exact hh
      · exact h2 p (by omega)
    · rename_i hh
      have hlt : m % n < (fullS n s m).length := by rw [h1.len]; exact Nat.mod_lt _ hn
      refine ⟨give_good h1 (fun hx => hh ?_) (by omega), fun p hp => ?_⟩
      · unfold hasS
        simp only [List.any_eq_true, List.contains_iff_mem]
        rw [List.getD_eq_getElem?_getD, List.getElem?_eq_getElem hlt] at hx
        exact ⟨_, List.getElem_mem hlt, hx⟩
      · rw [give_has hlt]
        by_cases e : p = m
        · subst e; exact .inr rfl
        · exact .inl (h2 p (by omega))
end Go.Proofs.Ytngfenjekgdfbaa

/- Shapes: each place a repair, each repair a place. No program in sight. -/
namespace Go.Proofs.Ytngfenjekgdfbaa

theorem give_at {s : List (List Int)} {i j : Nat} {x : Int} (hi : i < s.length) : (giveS s i x).getD j [] = if i = j then insI (s.getD i []) x else s.getD j [] := by
  unfold giveS
  rw [List.getD_eq_getElem?_getD, List.getD_eq_getElem?_getD (l := s) (i := j)]
  by_cases h : i = j
  · subst h
    rw [if_pos rfl, List.getElem?_set_self hi]
    rfl
  · rw [if_neg h, List.getElem?_set_ne h]
theorem ins_ne (xs : List Int) (x : Int) : insI xs x ≠ [] := by
  unfold insI
  simp
theorem none_good {n k : Nat} {s : List (List Int)} (h : GoodS k n s) (hk : 0 < k) (hc : ∀ p : Nat, p < k → hasS s (p : Int) = true) : ∀ m : Nat, m ≤ n → GoodS k n (noneS k s m) ∧ (∀ p : Nat, p < k → hasS (noneS k s m) (p : Int) = true) ∧ ∀ i : Nat, i < m → (noneS k s m).getD i [] ≠ []
  | 0, _ => ⟨h, hc, fun i hi => by omega⟩
  | m + 1, hm => by
    obtain ⟨h1, h2, h3⟩ := none_good h hk hc m (by omega)
    have hlt : m < (noneS k s m).length := by rw [h1.len]; omega
    unfold noneS
    simp only
    split
    · rename_i he
      have he' : (noneS k s m).getD m [] = [] := by simpa using he
      refine ⟨give_good h1 (by rw [he']; simp) (by have := Nat.mod_lt m hk; omega), fun p hp => ?_, fun i hi => ?_⟩
      · rw [give_has hlt]; exact .inl (h2 p hp)
      · rw [give_at hlt]
        split
        · exact ins_ne _ _
        · exact h3 i (by omega)
    · rename_i he
      refine ⟨h1, h2, fun i hi => ?_⟩
      by_cases hi2 : i = m
      · subst hi2; simpa using he
      · exact h3 i (by omega)
/-- Each place has a repair, each repair a place. -/
structure FullS (k n : Nat) (s : List (List Int)) : Prop where
  good : GoodS k n s
  has : ∀ p : Nat, p < k → ∃ e ∈ s, ((p : Nat) : Int) ∈ e
  some : ∀ e ∈ s, e ≠ []
theorem random_full (s : UInt64) {k n : Nat} (hk : 0 < k) (hn : 0 < n) : FullS k n (randomS s k n) := by
  unfold randomS
  obtain ⟨h1, h2⟩ := full_good (lots_good s k n) hn k (Nat.le_refl _)
  obtain ⟨h3, h4, h5⟩ := none_good h1 hk h2 n (Nat.le_refl _)
  refine ⟨h3, fun p hp => ?_, fun e he => ?_⟩
  · have h6 := h4 p hp
    unfold hasS at h6
    simpa using h6
  · obtain ⟨i, hi, rfl⟩ := List.getElem_of_mem he
    have h6 := h5 i (by rw [h3.len] at hi; exact hi)
    rw [List.getD_eq_getElem?_getD, List.getElem?_eq_getElem hi] at h6
    exact h6
theorem spread_full {k n : Nat} (hn : 0 < n) (hnk : n ≤ k) : FullS k n (spreadS k n) := by
  unfold spreadS
  refine ⟨⟨by simp, fun e he => ?_⟩, fun p hp => ?_, fun e he => ?_⟩
  · obtain ⟨i, -, rfl⟩ := List.mem_map.1 he
    exact rowBy_good _ _
  · exact ⟨_, List.mem_map.2 ⟨p % n, List.mem_range.2 (Nat.mod_lt _ hn), rfl⟩, mem_rowBy.2 ⟨p, hp, by simp, rfl⟩⟩
  · obtain ⟨i, hi, rfl⟩ := List.mem_map.1 he
    have hi := List.mem_range.1 hi
    exact List.ne_nil_of_mem (mem_rowBy.2 ⟨i, by omega, by simp [Nat.mod_eq_of_lt hi], rfl⟩)
theorem run_find (k n p : Nat) (hn : 0 < n) (hp : p < k) : ∃ i, i < n ∧ i * k / n ≤ p ∧ p < (i + 1) * k / n := by
  have h : ∀ m : Nat, p < m * k / n → ∃ i, i < m ∧ i * k / n ≤ p ∧ p < (i + 1) * k / n := by
    intro m
    induction m with
    | zero => intro h; simp at h
    | succ m ih =>
      intro h
      by_cases h2 : p < m * k / n
      · obtain ⟨i, h3, h4⟩ := ih h2
        exact ⟨i, by omega, h4⟩
      · exact ⟨m, by omega, by omega, h⟩
  exact h n (by rw [Nat.mul_div_cancel_left _ hn]; exact hp)
theorem run_full {k n : Nat} (hn : 0 < n) (hnk : n ≤ k) : FullS k n (runS k n) := by
  unfold runS
  refine ⟨⟨by simp, fun e he => ?_⟩, fun p hp => ?_, fun e he => ?_⟩
  · obtain ⟨i, -, rfl⟩ := List.mem_map.1 he
    exact rowBy_good _ _
  · obtain ⟨i, h1, h2, h3⟩ := run_find k n p hn hp
    exact ⟨_, List.mem_map.2 ⟨i, List.mem_range.2 h1, rfl⟩, mem_rowBy.2 ⟨p, hp, by simp [h2, h3], rfl⟩⟩
  · obtain ⟨i, hi, rfl⟩ := List.mem_map.1 he
    have hi := List.mem_range.1 hi
    have h1 : i * k / n < (i + 1) * k / n := by
      rw [Nat.succ_mul]
      have h2 : i * k / n + 1 ≤ (i * k + n) / n := by rw [Nat.add_div_right _ hn]; exact Nat.le_refl _
      have h3 : (i * k + n) / n ≤ (i * k + k) / n := Nat.div_le_div_right (by omega)
      omega
    have h4 : (i + 1) * k / n ≤ k := by
      have h5 : (i + 1) * k ≤ n * k := Nat.mul_le_mul_right _ (by omega)
      have h6 := Nat.div_le_div_right (c := n) h5
      rw [Nat.mul_div_cancel_left _ hn] at h6
      exact h6
    exact List.ne_nil_of_mem (mem_rowBy.2 ⟨i * k / n, by omega, by simp [h1], rfl⟩)
/-- With places as far apart as there are repairs, so many that follow one another can be lost. -/
theorem spread_burst {k n : Nat} (hn : 0 < n) (hnk : n ≤ k) : burstS (spreadS k n) k = n := by
  have hf := spread_full hn hnk
  refine Nat.le_antisymm (by have := burst_few (s := spreadS k n) (k := k); rwa [hf.good.len] at this) ?_
  unfold burstS
  refine burstR_ge hnk (by omega) (by omega) (fun r h1 h2 => ?_)
  unfold survivesS
  rw [List.all_eq_true]
  intro a ha
  rw [List.mem_range] at ha
  refine peelable_alone (fun p hp => ?_)
  rw [mem_win] at hp
  obtain ⟨q, rfl⟩ : ∃ q : Nat, p = (q : Int) := ⟨p.toNat, by omega⟩
  refine ⟨rowBy k (fun p => p % n == q % n), List.mem_map.2 ⟨q % n, List.mem_range.2 (Nat.mod_lt _ hn), rfl⟩, mem_rowBy.2 ⟨q, by omega, by simp, rfl⟩, fun y hy hne => ?_⟩
  obtain ⟨z, hz1, hz2, rfl⟩ := mem_rowBy.1 hy
  have hz3 : z % n = q % n := by simpa using hz2
  refine ⟨mem_upto.2 (by omega), fun hm => ?_⟩
  rw [mem_win] at hm
  have hzq : z ≠ q := fun h => hne (by rw [h])
  have h4 := Nat.div_add_mod z n
  have h5 := Nat.div_add_mod q n
  rw [hz3] at h4
  rcases Nat.lt_trichotomy (z / n) (q / n) with h | h | h
  · have h6 : n * (z / n) + n ≤ n * (q / n) := by rw [← Nat.mul_succ]; exact Nat.mul_le_mul_left _ h
    omega
  · rw [h] at h4; omega
  · have h6 : n * (q / n) + n ≤ n * (z / n) := by rw [← Nat.mul_succ]; exact Nat.mul_le_mul_left _ h
    omega
end Go.Proofs.Ytngfenjekgdfbaa

/- Shapes: with Run and Spread each place has just one repair. No program in sight. -/
namespace Go.Proofs.Ytngfenjekgdfbaa

theorem upto_succ (k : Nat) : uptoI (k + 1) = uptoI k ++ [((k : Nat) : Int)] := by
  unfold uptoI
  rw [List.range_succ, List.map_append]
  rfl
theorem upto_nodup (k : Nat) : (uptoI k).Nodup := by
  have h : (uptoI k).Pairwise (· < ·) := by
    unfold uptoI
    rw [List.pairwise_map]
    exact List.pairwise_lt_range.imp (fun h => by omega)
  exact h.imp (fun h => by omega)
/-- A run's row, behind all places ahead of it. -/
theorem run_row {a b : Nat} (hab : a ≤ b) : ∀ {k : Nat}, uptoI (min a k) ++ rowBy k (fun p => decide (a ≤ p) && decide (p < b)) = uptoI (min b k)
  | 0 => by simp [rowBy, uptoI]
  | k + 1 => by
    have ih := run_row hab (k := k)
    rw [rowBy_succ]
    by_cases h1 : a ≤ k
    · by_cases h2 : k < b
      · rw [if_pos (by simp [h1, h2]), show min a (k + 1) = min a k by omega, ← List.append_assoc, ih, show min b (k + 1) = k + 1 by omega, show min b k = k by omega, upto_succ]
      · rw [if_neg (by simp [h2]), List.append_nil, show min a (k + 1) = min a k by omega, ih, show min b (k + 1) = min b k by omega]
    · rw [if_neg (by simp [h1]), List.append_nil]
      have h3 : rowBy k (fun p => decide (a ≤ p) && decide (p < b)) = [] := by
        rw [List.eq_nil_iff_forall_not_mem]
        intro x hx
        obtain ⟨p, hp, hf, -⟩ := mem_rowBy.1 hx
        simp at hf
        omega
      rw [h3, List.append_nil, show min a (k + 1) = k + 1 by omega, show min b (k + 1) = k + 1 by omega]
theorem run_flat (k n : Nat) (hn : 0 < n) : ∀ m : Nat, m ≤ n → (((List.range m).map fun i => rowBy k fun p => decide (i * k / n ≤ p) && decide (p < (i + 1) * k / n)).flatten) = uptoI (m * k / n)
  | 0, _ => by simp [uptoI]
  | m + 1, hm => by
    have hle : ∀ j : Nat, j ≤ n → j * k / n ≤ k := fun j hj => by
      have h6 := Nat.div_le_div_right (c := n) (Nat.mul_le_mul_right k hj)
      rw [Nat.mul_div_cancel_left _ hn] at h6
      exact h6
    have hab : m * k / n ≤ (m + 1) * k / n := Nat.div_le_div_right (Nat.mul_le_mul_right _ (by omega))
    rw [List.range_succ, List.map_append, List.flatten_append, run_flat k n hn m (by omega)]
    have h1 := run_row hab (k := k)
    rw [Nat.min_eq_left (hle m (by omega)), Nat.min_eq_left (hle (m + 1) hm)] at h1
    simpa using h1
/-- Runs follow one another. -/
theorem run_concat {k n : Nat} (hn : 0 < n) : (runS k n).flatten = uptoI k := by
  unfold runS
  rw [run_flat k n hn n (Nat.le_refl _), Nat.mul_div_cancel_left _ hn]
theorem spread_concat {k n : Nat} (hn : 0 < n) : ((spreadS k n).flatten).Perm (uptoI k) := by
  have hnd : ((spreadS k n).flatten).Nodup := by
    unfold List.Nodup
    rw [List.pairwise_flatten]
    refine ⟨fun e he => ?_, ?_⟩
    · unfold spreadS at he
      obtain ⟨i, -, rfl⟩ := List.mem_map.1 he
      exact (rowBy_rises _ _).imp (fun h => by omega)
    · unfold spreadS
      rw [List.pairwise_map]
      refine List.pairwise_lt_range.imp (fun {a b} h => ?_)
      intro x hx y hy hxy
      subst hxy
      obtain ⟨p, -, h1, rfl⟩ := mem_rowBy.1 hx
      obtain ⟨q, -, h2, h3⟩ := mem_rowBy.1 hy
      have : p = q := by omega
      subst this
      simp at h1 h2
      omega
  rw [List.perm_ext_iff_of_nodup hnd (upto_nodup k)]
  intro x
  rw [mem_upto, List.mem_flatten]
  constructor
  · rintro ⟨e, he, hx⟩
    unfold spreadS at he
    obtain ⟨i, -, rfl⟩ := List.mem_map.1 he
    obtain ⟨p, hp, -, rfl⟩ := mem_rowBy.1 hx
    omega
  · rintro ⟨h1, h2⟩
    refine ⟨rowBy k (fun p => p % n == x.toNat % n), ?_, mem_rowBy.2 ⟨x.toNat, by omega, by simp, by omega⟩⟩
    unfold spreadS
    exact List.mem_map.2 ⟨x.toNat % n, List.mem_range.2 (Nat.mod_lt _ hn), rfl⟩
/-- How many places a run has: so many, or one more. -/
theorem run_size {k n i : Nat} (hn : 0 < n) (hi : i < n) : (rowBy k fun p => decide (i * k / n ≤ p) && decide (p < (i + 1) * k / n)).length = (i + 1) * k / n - i * k / n ∧ k / n ≤ (i + 1) * k / n - i * k / n ∧ (i + 1) * k / n - i * k / n ≤ k / n + 1 := by
  have hle : (i + 1) * k / n ≤ k := by
    have h6 := Nat.div_le_div_right (c := n) (Nat.mul_le_mul_right k (show i + 1 ≤ n by omega))
    rw [Nat.mul_div_cancel_left _ hn] at h6
    exact h6
  have hab : i * k / n ≤ (i + 1) * k / n := Nat.div_le_div_right (Nat.mul_le_mul_right _ (by omega))
  refine ⟨?_, ?_⟩
  · have h1 := congrArg List.length (run_row hab (k := k))
    rw [List.length_append] at h1
    simp only [uptoI, List.length_map, List.length_range] at h1
    omega
  · rw [Nat.succ_mul]
    have e1 := Nat.div_add_mod (i * k) n
    have e2 := Nat.div_add_mod k n
    have e3 := Nat.div_add_mod (i * k + k) n
    have m1 := Nat.mod_lt (i * k) hn
    have m2 := Nat.mod_lt k hn
    have m3 := Nat.mod_lt (i * k + k) hn
    generalize i * k = A at *
    generalize hX : A / n = X at *
    generalize hY : k / n = Y at *
    generalize hZ : (A + k) / n = Z at *
    constructor
    · refine Classical.byContradiction fun h => ?_
      have h1 : Z + 1 ≤ X + Y := by omega
      have h2 : n * (Z + 1) ≤ n * (X + Y) := Nat.mul_le_mul_left _ h1
      rw [Nat.mul_add, Nat.mul_add] at h2
      omega
    · refine Classical.byContradiction fun h => ?_
      have h1 : X + Y + 2 ≤ Z := by omega
      have h2 : n * (X + Y + 2) ≤ n * Z := Nat.mul_le_mul_left _ h1
      rw [Nat.mul_add, Nat.mul_add] at h2
      omega
theorem succ_div_mod {k n : Nat} (hn : 0 < n) : (k % n + 1 = n ∧ (k + 1) / n = k / n + 1 ∧ (k + 1) % n = 0) ∨ (k % n + 1 < n ∧ (k + 1) / n = k / n ∧ (k + 1) % n = k % n + 1) := by
  have e := Nat.div_add_mod k n
  have m := Nat.mod_lt k hn
  by_cases h : k % n + 1 = n
  · left
    have h1 : k + 1 = n * (k / n + 1) := by rw [Nat.mul_add, Nat.mul_one]; omega
    exact ⟨h, by rw [h1, Nat.mul_div_cancel_left _ hn], by rw [h1, Nat.mul_mod_right]⟩
  · right
    have h1 : k + 1 = n * (k / n) + (k % n + 1) := by omega
    refine ⟨by omega, ?_, ?_⟩
    · conv => lhs; rw [h1]
      rw [Nat.mul_add_div hn, Nat.div_eq_of_lt (show k % n + 1 < n by omega), Nat.add_zero]
    · conv => lhs; rw [h1]
      rw [Nat.mul_add_mod, Nat.mod_eq_of_lt (by omega)]
/-- How many places a row of Spread has: so many, or one more. -/
theorem spread_size {n i : Nat} (hn : 0 < n) (hi : i < n) : ∀ k : Nat, (rowBy k fun p => p % n == i).length = k / n + if i < k % n then 1 else 0
  | 0 => by simp [rowBy]
  | k + 1 => by
    have hb : (if (k % n == i) = true then [((k : Nat) : Int)] else []).length = if k % n = i then 1 else 0 := by
      by_cases h : k % n = i
      · rw [if_pos h, if_pos (by simpa using h)]; rfl
      · rw [if_neg h, if_neg (by simpa using h)]; rfl
    rw [rowBy_succ, List.length_append, spread_size hn hi k, hb]
    have hd := succ_div_mod (k := k) hn
    generalize (k + 1) / n = q1 at *
    generalize (k + 1) % n = r1 at *
    generalize k / n = q at *
    generalize k % n = r at *
    rcases hd with ⟨h1, h2, h3⟩ | ⟨h1, h2, h3⟩
    · subst h2 h3
      repeat' split
      all_goals omega
    · subst h2 h3
      repeat' split
      all_goals omega
end Go.Proofs.Ytngfenjekgdfbaa

/- Shapes: bursts as the document reckons them. No program in sight. -/
namespace Go.Proofs.Ytngfenjekgdfbaa

theorem peelable_congr {l1 l2 k1 k2 : List Int} {s : List (List Int)} (h : ∀ x, x ∈ l1 ↔ x ∈ l2) (hk : (k1.filter fun y => !l1.contains y) = k2.filter fun y => !l2.contains y) : peelableI l1 k1 s = peelableI l2 k2 s := by
  unfold peelableI
  rw [hk]
  generalize closureI (k2.filter fun y => !l2.contains y) s = c
  rw [Bool.eq_iff_iff, List.all_eq_true, List.all_eq_true]
  exact ⟨fun g x hx => g x ((h x).2 hx), fun g x hx => g x ((h x).1 hx)⟩
def inWin (a r : Nat) (y : Int) : Bool := decide ((a : Int) ≤ y) && decide (y < (a : Int) + r)
def lostU (a r p : Nat) : List Int := (uptoI p).filter (inWin a r)
def knownU (a r p : Nat) : List Int := (uptoI p).filter fun y => !inWin a r y
theorem lostU_succ (a r p : Nat) : lostU a r (p + 1) = lostU a r p ++ if inWin a r (p : Int) then [(p : Int)] else [] := by
  unfold lostU
  rw [upto_succ, List.filter_append]
  cases h : inWin a r (p : Int) <;> simp [h]
theorem knownU_succ (a r p : Nat) : knownU a r (p + 1) = knownU a r p ++ if inWin a r (p : Int) then [] else [(p : Int)] := by
  unfold knownU
  rw [upto_succ, List.filter_append]
  cases h : inWin a r (p : Int) <;> simp [h]
theorem upto_len (k : Nat) : (uptoI k).length = k := by simp [uptoI]
theorem lostU_len (a r p : Nat) : (lostU a r p).length ≤ p := by
  have := List.length_filter_le (inWin a r) (uptoI p)
  rwa [upto_len] at this
theorem knownU_len (a r p : Nat) : (knownU a r p).length ≤ p := by
  have := List.length_filter_le (fun y => !inWin a r y) (uptoI p)
  rwa [upto_len] at this
theorem win_peel {a r k : Nat} (h : a + r ≤ k) (s : List (List Int)) : peelableI (lostU a r k) (knownU a r k) s = peelableI (winI a r) (uptoI k) s := by
  have hm : ∀ x, x ∈ lostU a r k ↔ x ∈ winI a r := fun x => by
    unfold lostU inWin
    rw [List.mem_filter, mem_upto, mem_win]
    simp
    omega
  have hc : ∀ y, (lostU a r k).contains y = (winI a r).contains y := fun y => by rw [Bool.eq_iff_iff, List.contains_iff_mem, List.contains_iff_mem]; exact hm y
  refine peelable_congr hm ?_
  simp only [hc]
  unfold knownU
  rw [List.filter_filter]
  refine List.filter_congr (fun y hy => ?_)
  have h1 : (winI a r).contains y = inWin a r y := by
    rw [Bool.eq_iff_iff, List.contains_iff_mem, mem_win]
    unfold inWin
    simp
  rw [h1]
  cases inWin a r y <;> rfl
theorem survives_no {s : List (List Int)} {k r a : Nat} (h : a + r ≤ k) (hp : peelableI (winI a r) (uptoI k) s = false) : survivesS s k r = false := by
  unfold survivesS
  rw [List.all_eq_false]
  exact ⟨a, List.mem_range.2 (by omega), by rw [hp]; simp⟩
theorem survives_yes {s : List (List Int)} {k r a : Nat} (h : k < a + r) (hp : ∀ b, b < a → b + r ≤ k → peelableI (winI b r) (uptoI k) s = true) : survivesS s k r = true := by
  unfold survivesS
  rw [List.all_eq_true]
  intro b hb
  have := List.mem_range.1 hb
  exact hp b (by omega) (by omega)
theorem burst_first {s : List (List Int)} {k r : Nat} (h1 : 1 ≤ r) (hr : r ≤ k) (hp : ∀ q, 1 ≤ q → q < r → survivesS s k q = true) (hn : survivesS s k r = false) : burstS s k = r - 1 := by
  unfold burstS
  have h2 := burstR_le (s := s) (k := k) (f := k) (row := 0) (Nat.zero_le _)
  have h3 := burstR_ge (s := s) (k := k) (m := r - 1) (by omega) (f := k) (row := 0) (by omega) (by omega) (fun q hq1 hq2 => hp q (by omega) (by omega))
  have h4 : ¬ r ≤ burstR s k k 0 := fun h => by
    have := burstR_survives (s := s) (k := k) (f := k) (row := 0) (Nat.zero_le _) r (by omega) h
    rw [this] at hn
    cases hn
  omega
theorem burst_all {s : List (List Int)} {k : Nat} (hp : ∀ q, 1 ≤ q → q ≤ k → survivesS s k q = true) : burstS s k = k := by
  unfold burstS
  have h2 := burstR_le (s := s) (k := k) (f := k) (row := 0) (Nat.zero_le _)
  have h3 := burstR_ge (s := s) (k := k) (m := k) (by omega) (f := k) (row := 0) (by omega) (by omega) (fun q hq1 hq2 => hp q (by omega) (by omega))
  omega
/-- How many that follow one another can be lost, of whatever number. -/
def burstI (s : List (List Int)) (k : Int) : Nat := if k < 1 ∨ 48 < k then 0 else burstS s k.toNat
end Go.Proofs.Ytngfenjekgdfbaa
