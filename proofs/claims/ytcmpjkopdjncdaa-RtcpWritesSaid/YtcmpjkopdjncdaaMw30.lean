import Derived.Test.YtcmpjkopdjncdaaMw15
import Derived.Test.YtcmpjkopdjncdaaMw27
import Derived.Test.YtcmpjkopdjncdaaMw26
/- The iterators mask.Bits and cover.Each, and cover.Seqs, Repair (printed by gen_bits1.py). -/
namespace Go.Proofs.Ytcmpjkopdjncdaa
open Go.RowKit Go.Shelf

attribute [local go_sem] Oper.semAt_some

theorem Kx.step {Xs : List (Nat × Nat)} {W A B : World} {g : Nat} (h : Kx Xs W A) (hf : Fr [g] A B) (hg : W.heap.size ≤ g) (hX : ∀ p ∈ Xs, p.1 < W.heap.size) : Kx Xs W B := by
  have e : ∀ k, k < W.heap.size → B.heap[k]? = A.heap[k]? := fun k hk => hf.block k (by have := h.size; omega) (by simp; omega)
  exact ⟨Nat.le_trans h.size hf.size, fun k o hk hgd => (e k (Array.getElem?_eq_some_iff.1 hk).1).trans (h.blocks k o hk hgd), fun k hk hgd => (h.gd k hk hgd).congr fun p hp => e p.1 (hX p hp), fun hl => (h.low hl).congr (fun p hp => e p.1 (hX p hp)) hf.size⟩
theorem Kx.put {Xs : List (Nat × Nat)} {W A : World} {g : Nat} {o : Obj} (h : Kx Xs W A) (hg : W.heap.size ≤ g) (hX : ∀ p ∈ Xs, p.1 < W.heap.size) : Kx Xs W (A.putObj g o) := by
  have e : ∀ k, k < W.heap.size → (A.putObj g o).heap[k]? = A.heap[k]? := fun k hk => World.putObj_heap_other (by omega)
  have hz := putObj_size A g o
  exact ⟨by rw [hz]; exact h.size, fun k o' hk hgd => (e k (Array.getElem?_eq_some_iff.1 hk).1).trans (h.blocks k o' hk hgd), fun k hk hgd => (h.gd k hk hgd).congr fun p hp => e p.1 (hX p hp), fun hl => (h.low hl).congr (fun p hp => e p.1 (hX p hp)) (by rw [hz]; exact Nat.le_refl _)⟩
/-- How many places the mask in a box still has. -/
def leftOf (p : Value) (w : World) : Nat :=
  match p with
  | .pointer (some a) => match w.cell? ⟨a.block, 0, none⟩, w.cell? ⟨a.block, 1, none⟩ with
    | some (.int _ x), some (.int _ y) => (Msk.list ⟨BitVec.ofNat 64 x.toNat, BitVec.ofNat 64 y.toNat⟩).length
    | _, _ => 0
  | _ => 0
theorem roundIn_any {n m : Nat} {P : Program} {l l' : Nat} {f : FuncId} {tmps : Array Value} {assign body : Code} {w : World} {R : Ending → World → Prop} (h : RoundIn Fence.wide n P l f tmps assign body w R) : RoundIn (Fence.wide.inRound l') m P l f tmps assign body w R :=
  ⟨h.1, fun c cs _ => h.2 c cs (fun d hd => by cases hd)⟩
theorem AbX.le {β : Type} {Xs : List (Nat × Nat)} {B B' : Nat} {J : β → World → Prop} (h : AbX Xs B J) (hb : B ≤ B') : AbX Xs B' J := fun s W W' row hs hg hr => h s W W' row hs hg (fun r e => ⟨Nat.le_trans hb (hr r e).1, (hr r e).2⟩)
theorem AbX.and {β : Type} {Xs : List (Nat × Nat)} {B : Nat} {J K : β → World → Prop} (h : AbX Xs B J) (k : AbX Xs B K) : AbX Xs B (fun s W => J s W ∧ K s W) := fun s W W' row hs hg hr => ⟨h s W W' row hs.1 hg hr, k s W W' row hs.2 hg hr⟩
theorem AbX.box {β : Type} {Xs : List (Nat × Nat)} {B : Nat} {g : Nat} {t : TypeId} {c : Array Value} (hg : g < B) (hX : ∀ p ∈ Xs, p.1 < B) : AbX Xs B (fun (_ : β) W => Box W g t c ∧ Gd Xs W g ∧ B ≤ W.heap.size) := fun s W W' row hs hgr hr =>
  ⟨(hgr.block g hs.1.lt (fun e => by have := (hr g e.symm).1; omega)).trans hs.1, hs.2.1.congr fun p hp => hgr.block p.1 (by have := hX p hp; have := hs.2.2; omega) (fun e => by have := (hr p.1 e.symm).1; have := hX p hp; omega), Nat.le_trans hs.2.2 hgr.size⟩
end Go.Proofs.Ytcmpjkopdjncdaa

/- The iterator of cover.Each (printed by gen_bits1.py). -/
namespace Go.Proofs.Ytcmpjkopdjncdaa
open Go.RowKit Go.Shelf

attribute [local go_sem] Oper.semAt_some

end Go.Proofs.Ytcmpjkopdjncdaa

/- cover.Each, Seqs, Repair (printed by gen_seqs.py). -/
namespace Go.Proofs.Ytcmpjkopdjncdaa
open Go.RowKit Go.Shelf

attribute [local go_sem] Oper.semAt_some

theorem wpListIn_append_fr {F : Fence} {n : Nat} {P : Program} {w : World} {ops : Array Oper} {rest : List Oper} {o : Oper} {a : Act} {Q : Exit → Act → World → Prop} (hgd : o.guard = none) (s x : Operand) (t : TypeId)
    (ho : o.op = .call { callee := .builtin .append, args := #[s, x], argTypes := #[t, t] })
    (base : Nat) (e : TypeId) (z : Value) (size bytes : Nat) (ht : P.underlying t = some (.slice e)) (hi : (P.info? e).map (fun i => (i.zero, i.size, i.bytes)) = some (some z, size, bytes)) (hz : z.cells.size = size) (hsz : 0 < size)
    (v : Value) (k : Nat) (xs : List Value) (hs : a.eval s = v) (hown : w.ownsRow base e size v k xs)
    (ad : Addr) (m c : Nat) (news : List Value) (hx : a.eval x = .slice (some ad) m c) (hl : news.length = m * size) (hnews : ∀ j u, news[j]? = some u → w.cell? (ad.add j) = some u) (h1 : ∀ u ∈ news, u.oneCell' = true)
    (h63 : k + m ≤ maxLen) (hbytes : (k + m) * bytes ≤ 140737488355328) (hbase : base ≤ w.heap.size)
    (h : ∀ v' w', w'.ownsRow base e size v' (k + m) (xs ++ news) → Fr (blockOf v).toList w w' → (∀ b, blockOf v' = some b → blockOf v = some b ∨ w.heap.size ≤ b) → (v' = .slice none 0 0 ↔ v = .slice none 0 0 ∧ m = 0) → wpListIn F n P ops Q rest (a.put o.dst v') w') : wpListIn F n P ops Q (o :: rest) a w := by
  refine wpListIn_plain hgd fun K hK => ?_
  obtain ⟨i, hi1, hi2, hi3, hi4⟩ := info_parts hi
  obtain ⟨v', w', hr, h2, h3, h4, h5⟩ := run_append_fresh (P := P) w base t o.type e i z size bytes ht hi1 hi2 hi3 hi4 hz hsz v k xs hown ad m c news hl hnews h1 h63 hbytes hbase
  unfold Oper.wpIn
  refine ⟨by simp [Oper.about, ho, resolve, Target.leads, Sem.run_pure], ?_⟩
  rw [Oper.semAt_plain F _ _ (by rw [ho]; intro c hc'; cases hc')]
  simp [execOp, ho, resolve, invoke, builtin, hs, hx, hr, Result.andThen]
  exact hK _ _ (h v' w' h2 h3 h5 h4)
/-- A step of the body: it turns blocks of its own alone, and what then lies in its boxes lies where it lay, or new. -/
theorem Kx.body {Xs : List (Nat × Nat)} {W W' : World} {S : List Nat} (h : Fr S W W') (hS : ∀ g ∈ S, W.heap.size ≤ g ∨ ¬ Gd Xs W g ∧ ∃ o : Obj, W.heap[g]? = some o ∧ o.isCells = true)
    (hn : ∀ p ∈ Xs, ∀ v b, W'.cell? ⟨p.1, p.2, none⟩ = some v → blockOf v = some b → b < W'.heap.size ∧ (W.heap.size ≤ b ∨ ¬ Gd Xs W b)) : Kx Xs W W' := by
  refine ⟨h.size, fun k o hk hg => ?_, fun k hk hg p hp => ⟨(hg p hp).1, fun v hv hb => ?_⟩, fun _ p hp v b hv hb => (hn p hp v b hv hb).1⟩
  · have hlt := (Array.getElem?_eq_some_iff.1 hk).1
    rw [h.block k hlt (fun hm => ?_)]
    · exact hk
    · rcases hS k hm with h1 | ⟨h1, o', ho', hc⟩
      · omega
      · rcases hg with hg | hg
        · exact h1 hg
        · rw [hk] at ho'; cases ho'; rw [hc] at hg; cases hg
  · rcases (hn p hp v k hv hb).2 with h1 | h1
    · omega
    · exact h1 hg
def seqsOf (base : UInt16) (m : Msk) : List UInt16 := m.list.map fun i => add16 base (i : Nat)
set_option maxRecDepth 100000 in
theorem info_u16 : (Try.prog.info? 79).map (fun i => (i.zero, i.size, i.bytes)) = some (some (.int .u16 0), 1, 2) := by kernel_rfl
end Go.Proofs.Ytcmpjkopdjncdaa
