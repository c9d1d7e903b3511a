import Derived.Test.YtcmpjkopdjncdaaMq45
import Derived.Test.YtcmpjkopdjncdaaMq13
import Derived.Test.YtcmpjkopdjncdaaMq42
import Derived.Test.YtcmpjkopdjncdaaMq41
/- RtcpReports: what holds in its loops; a body behind which a range's mark is taken. No law of the program in sight. -/
namespace Go.Proofs.Ytcmpjkopdjncdaa
open Go.RowKit Go.Shelf

/-- A function's result that lies in memory: a truth value. -/
theorem results_cell_bool {P : Program} {fn : Func} {p : Tmp} {ty : TypeId} (h : fn.results = #[.cell p ty]) (tmps : Array Value) (w : World) (g : Nat) (b : Bool)
    (hp : tmps.getD p undef = .pointer (some ⟨g, 0, none⟩)) (hc : w.cell? ⟨g, 0, none⟩ = some (.bool b)) (hu : P.underlying ty = some .bool) :
    (results fn tmps).run P w = .ok (.bool b) w := by
  have hp' : tmps[p]?.getD undef = .pointer (some ⟨g, 0, none⟩) := by simpa using hp
  have h2 : (loadVar ty ⟨g, 0, none⟩).run P w = .ok (.bool b) w := by
    simp [loadVar, isAgg, Sem.run_bind, run_underlying hu, load, Sem.run, hc]
  simp [results, h, hp', asAddr, h2]
/-- What a function's body must achieve whose last range's mark is taken as it leaves. -/
def bodyPostN (n : Nat) (P : Program) (fn : Func) (R : Ending → World → Prop) : Exit → Act → World → Prop
  | .normal, a, w | .ret, a, w => LeavesInM Fence.wide n P fn a.tmps R a.defers .returning w
  | _, _, _ => False
theorem calls_of_wpN {P : Program} (n : Nat) {f : FuncId} {fn : Func} {c : Code} {args : Array Value} {w : World} {R : Ending → World → Prop} (hf : P.funcs[f]? = some fn) (hb : fn.body = some c)
    (h : c.wp P (bodyPostN n P fn R) { tmps := args ++ Array.replicate (fn.ntmps - args.size) undef, defers := [] } w) : Calls P f args w R := by
  refine (callsIn_wide (n := n)).1 (callsIn_of_wp_marks hf hb trivial (wpIn_wide.2 (Go.wp_mono h fun e a w hq => ?_)) rfl)
  cases e <;> first | exact hq | exact hq.elim
theorem ret_plain {n : Nat} {P : Program} {fn : Func} {R : Ending → World → Prop} {a : Act} {w : World} {v : Value} (hr : (results fn a.tmps).run P w = .ok v w) (hd : a.defers = []) (hR : R (.returned v) w) : bodyPostN n P fn R .ret a w := by
  unfold bodyPostN
  simp only [hd]
  exact ⟨v, hr, hR⟩
theorem ret_mark {n : Nat} {P : Program} {fn : Func} {R : Ending → World → Prop} {a : Act} {w : World} {v : Value} {D : Nat} (hd : a.defers = [{ target := .collected D, args := #[] }]) (hD : w.heap[D]? = some (.deferred (some [])))
    (hr : (results fn a.tmps).run P (w.putObj D (.deferred none)) = .ok v (w.putObj D (.deferred none))) (hR : R (.returned v) (w.putObj D (.deferred none))) : bodyPostN n P fn R .ret a w := by
  unfold bodyPostN
  simp only [hd]
  exact ⟨by simp, .inl ⟨_, _, rfl, run_takeDeferred hD, v, hr, hR⟩⟩
theorem ret_mark_cell {n : Nat} {P : Program} {fn : Func} {R : Ending → World → Prop} {a : Act} {w : World} {D g : Nat} {b : Bool} {p : Tmp} {ty t : TypeId} (hfn : fn.results = #[.cell p ty]) (hp : a.tmps.getD p undef = .pointer (some ⟨g, 0, none⟩)) (hu : P.underlying ty = some .bool)
    (hd : a.defers = [{ target := .collected D, args := #[] }]) (hD : w.heap[D]? = some (.deferred (some []))) (hB : Box w g t #[.bool b]) (hne : g ≠ D) (hR : ∀ w', Fr [D] w w' → R (.returned (.bool b)) w') : bodyPostN n P fn R .ret a w := by
  have hB2 : Box (w.putObj D (.deferred none)) g t #[.bool b] := (World.putObj_heap_other hne).trans hB
  exact ret_mark hd hD (results_cell_bool hfn _ _ g b hp (hB2.cell 0) hu) (hR _ (Fr.ofGrown (grownBy_putObj' w D _)))
/-- What is built in the loops: two lists, in boxes; and boxes that stand apart from them. -/
structure TSt (w wr : World) (gw gt : Nat) (X : List Nat) (vw vt cw ct : Value) (A : List UInt32) (B : List Rpt) : Prop where
  bw : Box wr gw 40 #[cw]
  bt : Box wr gt 38 #[ct]
  ow : OwnEls 1 SrcR wr w.heap.size 36 vw A []
  ot : OwnEls 7 RptR wr w.heap.size 57 vt B []
  nw : ∀ b, blockOf vw = some b → b ≠ gw ∧ b ≠ gt ∧ b ∉ X
  nt : ∀ b, blockOf vt = some b → b ≠ gw ∧ b ≠ gt ∧ b ∉ X
  sep : ∀ b, blockOf vw = some b → blockOf vt ≠ some b
  lo : w.heap.size ≤ gw ∧ w.heap.size ≤ gt ∧ gw ≠ gt
  hX : ∀ x ∈ X, x < wr.heap.size
  fr : Fr [] w wr
namespace TSt
variable {w wr wr' : World} {gw gt : Nat} {X : List Nat} {vw vt cw ct : Value} {A : List UInt32} {B : List Rpt}
theorem keep (h : TSt w wr gw gt X vw vt cw ct A B) (hf : Fr [] wr wr') : TSt w wr' gw gt X vw vt cw ct A B :=
  ⟨h.bw.keep hf, h.bt.keep hf, h.ow.keep Rep.src hf, h.ot.keep Rep.rpt hf, h.nw, h.nt, h.sep, h.lo, fun x hx => Nat.lt_of_lt_of_le (h.hX x hx) hf.size, h.fr.trans hf⟩
theorem new (h : TSt w wr gw gt X vw vt cw ct A B) (hf : Fr [] wr wr') (hs : wr.heap.size < wr'.heap.size) : TSt w wr' gw gt (wr.heap.size :: X) vw vt cw ct A B := by
  have k := h.keep hf
  refine ⟨k.bw, k.bt, k.ow, k.ot, fun b hb => ?_, fun b hb => ?_, k.sep, k.lo, ?_, k.fr⟩
  · have h1 := h.nw b hb; have h2 := (h.ow.block b hb).2
    refine ⟨h1.1, h1.2.1, ?_⟩
    simp only [List.mem_cons, not_or]
    exact ⟨by omega, h1.2.2⟩
  · have h1 := h.nt b hb; have h2 := (h.ot.block b hb).2
    refine ⟨h1.1, h1.2.1, ?_⟩
    simp only [List.mem_cons, not_or]
    exact ⟨by omega, h1.2.2⟩
  · intro x hx
    rcases List.mem_cons.1 hx with rfl | hx
    · exact hs
    · exact k.hX x hx
theorem less (h : TSt w wr gw gt X vw vt cw ct A B) {X' : List Nat} (hX : ∀ x ∈ X', x ∈ X) : TSt w wr gw gt X' vw vt cw ct A B :=
  ⟨h.bw, h.bt, h.ow, h.ot, fun b hb => ⟨(h.nw b hb).1, (h.nw b hb).2.1, fun hm => (h.nw b hb).2.2 (hX b hm)⟩, fun b hb => ⟨(h.nt b hb).1, (h.nt b hb).2.1, fun hm => (h.nt b hb).2.2 (hX b hm)⟩, h.sep, h.lo, fun x hx => h.hX x (hX x hx), h.fr⟩
theorem offW (h : TSt w wr gw gt X vw vt cw ct A B) {x : Nat} (hx : x ∈ X) : x ∉ (blockOf vw).toList := fun hm => (h.nw x (mem_toList.1 hm)).2.2 hx
theorem offT (h : TSt w wr gw gt X vw vt cw ct A B) {x : Nat} (hx : x ∈ X) : x ∉ (blockOf vt).toList := fun hm => (h.nt x (mem_toList.1 hm)).2.2 hx
theorem appW (h : TSt w wr gw gt X vw vt cw ct A B) {vw' : Value} {A' : List UInt32} (ho : OwnEls 1 SrcR wr' w.heap.size 36 vw' A' []) (hf : Fr (blockOf vw).toList wr wr') (hb : ∀ b, blockOf vw' = some b → blockOf vw = some b ∨ wr.heap.size ≤ b) : TSt w wr' gw gt X vw' vt cw ct A' B := by
  have h1 := h.bw.lt; have h2 := h.bt.lt
  refine ⟨h.bw.fr hf (fun hm => (h.nw gw (mem_toList.1 hm)).1 rfl), h.bt.fr hf (fun hm => (h.nw gt (mem_toList.1 hm)).2.1 rfl), ho, h.ot.fr Rep.rpt hf (by simp) (fun b hb hm => h.sep b (mem_toList.1 hm) hb), fun b hbb => ?_, h.nt, fun b hbb hbt => ?_, h.lo, fun x hx => Nat.lt_of_lt_of_le (h.hX x hx) hf.size, h.fr.step hf (fun b hm => .inr (h.ow.block b (mem_toList.1 hm)).1)⟩
  · rcases hb b hbb with hv | hv
    · exact h.nw b hv
    · exact ⟨by omega, by omega, fun hm => by have := h.hX b hm; omega⟩
  · rcases hb b hbb with hv | hv
    · exact h.sep b hv hbt
    · have := (h.ot.block b hbt).2; omega
theorem appT (h : TSt w wr gw gt X vw vt cw ct A B) {vt' : Value} {B' : List Rpt} (ho : OwnEls 7 RptR wr' w.heap.size 57 vt' B' []) (hf : Fr (blockOf vt).toList wr wr') (hb : ∀ b, blockOf vt' = some b → blockOf vt = some b ∨ wr.heap.size ≤ b) : TSt w wr' gw gt X vw vt' cw ct A B' := by
  have h1 := h.bw.lt; have h2 := h.bt.lt
  refine ⟨h.bw.fr hf (fun hm => (h.nt gw (mem_toList.1 hm)).1 rfl), h.bt.fr hf (fun hm => (h.nt gt (mem_toList.1 hm)).2.1 rfl), h.ow.fr Rep.src hf (by simp) (fun b hb hm => h.sep b hb (mem_toList.1 hm)), ho, h.nw, fun b hbb => ?_, fun b hbw hbb => ?_, h.lo, fun x hx => Nat.lt_of_lt_of_le (h.hX x hx) hf.size, h.fr.step hf (fun b hm => .inr (h.ot.block b (mem_toList.1 hm)).1)⟩
  · rcases hb b hbb with hv | hv
    · exact h.nt b hv
    · exact ⟨by omega, by omega, fun hm => by have := h.hX b hm; omega⟩
  · rcases hb b hbb with hv | hv
    · exact h.sep b hbw hv
    · have := (h.ow.block b hbw).2; omega
theorem setW (h : TSt w wr gw gt X vw vt cw ct A B) {cw' : Value} (hb : Box wr' gw 40 #[cw']) (hf : Fr [gw] wr wr') : TSt w wr' gw gt X vw vt cw' ct A B :=
  ⟨hb, h.bt.fr hf (by have := h.lo.2.2; simp; omega), h.ow.fr Rep.src hf (by simp) (fun b hb hm => (h.nw b hb).1 (by simpa using hm)), h.ot.fr Rep.rpt hf (by simp) (fun b hb hm => (h.nt b hb).1 (by simpa using hm)), h.nw, h.nt, h.sep, h.lo, fun x hx => Nat.lt_of_lt_of_le (h.hX x hx) hf.size, h.fr.step hf (fun b hm => .inr (by have := h.lo.1; simp at hm; omega))⟩
theorem setT (h : TSt w wr gw gt X vw vt cw ct A B) {ct' : Value} (hb : Box wr' gt 38 #[ct']) (hf : Fr [gt] wr wr') : TSt w wr' gw gt X vw vt cw ct' A B :=
  ⟨h.bw.fr hf (by have := h.lo.2.2; simp; omega), hb, h.ow.fr Rep.src hf (by simp) (fun b hb hm => (h.nw b hb).2.1 (by simpa using hm)), h.ot.fr Rep.rpt hf (by simp) (fun b hb hm => (h.nt b hb).2.1 (by simpa using hm)), h.nw, h.nt, h.sep, h.lo, fun x hx => Nat.lt_of_lt_of_le (h.hX x hx) hf.size, h.fr.step hf (fun b hm => .inr (by have := h.lo.2.1; simp at hm; omega))⟩
end TSt
/-- The loads of the two lists and of what is told. -/
structure Lds (gw gt gx gr : Nat) (cw ct : Value) (cx : Array Value) (r : Rpt) (w' : World) : Prop where
  bw : Box w' gw 40 #[cw]
  bt : Box w' gt 38 #[ct]
  bx : Box w' gx 42 cx
  br : Box w' gr 57 (rpc7 r)
/-- What is told if it could be written. -/
def tlsOf (r : Int) (L : List (UInt32 × Rpt)) : List (UInt32 × Rpt) := if r = 0 then L else []
theorem tells7_len : ∀ {xs : List Itm}, (∀ x ∈ xs, x.reps.length ≤ 40) → (tells7 xs).length ≤ xs.length * 40
  | [], _ => by simp [tells7]
  | x :: xs, h => by
    have h1 := h x (by simp)
    have h2 := tells7_len (xs := xs) (fun y hy => h y (by simp [hy]))
    have h3 : tells7 (x :: xs) = (x.reps.map fun r => (x.ssrc, r)) ++ tells7 xs := by simp [tells7]
    rw [h3, List.length_append, List.length_map, List.length_cons, Nat.succ_mul]
    omega
theorem fews_tells {xs : List Itm} (h : fews xs = true) : (tells7 xs).length ≤ 320 := by
  unfold fews at h
  simp only [Bool.and_eq_true, decide_eq_true_eq, List.all_eq_true] at h
  have h1 := tells7_len (xs := xs) (fun x hx => by
    have := h.1 x hx
    unfold few7 at this
    simp only [Bool.and_eq_true, decide_eq_true_eq] at this
    exact this.1.1.1.1)
  have h2 : xs.length * 40 ≤ 8 * 40 := Nat.mul_le_mul_right _ h.2
  omega
/-- What a round of the walk keeps: how many came. -/
structure Rp7 (w : World) (B X : Nat) (n : Nat) (W : World) : Prop where
  box : Box W X 3 #[.int .i64 (n : Nat)]
  fr : Fr [X] w W
  size : B ≤ W.heap.size
theorem Rp7.abx {w : World} {B X : Nat} (hX : X < B) (hB : w.heap.size ≤ B) {P : List (UInt32 × Rpt) → Prop} : AbX [(X, 0)] B (fun pre W => Rp7 w B X pre.length W ∧ P pre) := by
  rintro pre A A' row ⟨⟨h1, h2, h3⟩, hp⟩ hg hr
  have hb : A'.heap[X]? = A.heap[X]? := hg.block X h1.lt (fun e => by have := (hr X e.symm).1; omega)
  exact ⟨⟨hb.trans h1, ⟨hg.os.trans h2.os, hg.tape.trans h2.tape, hg.output.trans h2.output, Nat.le_trans h2.size hg.size, fun k hk hn => (hg.block k (Nat.lt_of_lt_of_le hk h2.size) (fun e => by have := (hr k e.symm).1; omega)).trans (h2.block k hk hn)⟩, Nat.le_trans h3 hg.size⟩, hp⟩
theorem and63 (a : Int) : ∃ n : Nat, bits .and .i64 a 63 = (n : Int) ∧ n ≤ 63 := by
  have h : (BitVec.ofInt 64 a &&& BitVec.ofInt 64 63).toNat ≤ 63 := by
    rw [BitVec.toNat_and]
    exact Nat.and_le_right
  refine ⟨_, ?_, h⟩
  show IntKind.i64.wrap ((BitVec.ofInt 64 a &&& BitVec.ofInt 64 63).toNat : Int) = _
  exact IntWalk.i64_in _ (by omega)
theorem and4095' (c : Int) : ∃ n : Nat, bits .and .i64 c 4095 = (n : Int) ∧ n ≤ 4095 := by
  have h : (BitVec.ofInt 64 c &&& BitVec.ofInt 64 4095).toNat ≤ 4095 := by
    rw [BitVec.toNat_and]
    exact Nat.and_le_right
  refine ⟨_, ?_, h⟩
  show IntKind.i64.wrap ((BitVec.ofInt 64 c &&& BitVec.ofInt 64 4095).toNat : Int) = _
  exact IntWalk.i64_in _ (by omega)
end Go.Proofs.Ytcmpjkopdjncdaa
