import Derived.RangeFuncCalls
import Derived.TacticsIn
import Derived.Deep.QuietTactic
import Derived.Test.YtcmpjkopdjncdaaMq9
/- A region that draws its order inside a range over a function: what holds of it outside a round holds in the round. No program in sight. -/
namespace Go.Proofs.Ytcmpjkopdjncdaa
open Go.RowKit

section
variable {P : Program} {ops : Array Oper} {Q : Exit → Act → World → Prop} {n l : Nat}
/-- No operation defers, and none is a call of a row. -/
def plainOps (ops : Array Oper) : Bool := ops.all fun o => match o.op with
  | .defer _ => false
  | _ => true
theorem plain_spec (h : plainOps ops = true) {i : Nat} {o : Oper} (ho : ops[i]? = some o) : ∀ c, o.op ≠ .defer c := by
  intro c hc
  unfold plainOps at h
  have h1 := Array.all_eq_true_iff_forall_mem.1 h o (Array.mem_of_getElem? ho)
  rw [hc] at h1
  cases h1
theorem rowsIn_round {row : String} {args : Array Value} {w : World} {R : Value → World → Prop} (h : Rows P row args w R) : RowsIn (Fence.wide.inRound l) n P row args w R := by
  intro c cs _
  obtain ⟨v, w', h1, h2⟩ := h c cs
  exact ⟨v, w', h1, stepsIn_wide.2 h2⟩
theorem operIn_round {o : Oper} (ho : ∀ c, o.op ≠ .defer c) {a : Act} {w : World} {K : Act → World → Prop} (h : o.wp P a w K Q) : o.wpIn (Fence.wide.inRound l) n P a w K Q := by
  refine ⟨fun _ _ => trivial, ?_⟩
  rw [show (Fence.wide.inRound l).round = some l from rfl, Oper.semAt_some l _ _ ho]
  unfold Oper.wp at h
  generalize (execOp a.eval o).run P w = r at *
  cases r with
  | ok x w' =>
    cases x with
    | value v => exact h
    | skip => exact h
    | defer d => exact h
    | enter f args => exact ⟨fun h => by simp [Fence.inRound, Fence.wide] at h, CallsIn.inRound l (callsIn_wide.2 h)⟩
    | row r args => exact ⟨fun h => by simp [Fence.inRound, Fence.wide] at h, rowsIn_round h⟩
    | _ => exact h.elim
  | halt x w' => cases x <;> exact h
theorem opsIn_round (hp : plainOps ops = true) (hQ : ¬ LetsOut Q) : ∀ (is : List Nat) (a : Act) (w : World), wpOps P ops Q is a w → wpOpsIn (Fence.wide.inRound l) n P ops Q is a w
  | [], _, _, h => h
  | i :: is, a, w, h => by
    cases ho : ops[i]? with
    | none =>
      simp only [wpOps, ho] at h
      simp only [wpOpsIn, ho]
      exact opsIn_round hp hQ is a w h
    | some o =>
      simp only [wpOps, ho] at h
      simp only [wpOpsIn, ho]
      split
      · rename_i hw
        rw [if_pos hw] at h
        rcases h with h | h
        · exact operIn_round (plain_spec hp ho) (Oper.wp_mono (fun a w h => opsIn_round hp hQ is a w h) h)
        · exact (hQ h.2).elim
      · rename_i hw
        rw [if_neg hw] at h
        exact ⟨fun _ _ => trivial, opsIn_round hp hQ is _ w h⟩
theorem wpIn_round_any {id : Nat} {a : Act} {w : World} (hm : P.follows .mixedOrders = true) (hp : plainOps ops = true) (hQ : ¬ LetsOut Q)
    (h : wpAny P .any ops Q ops.size (Array.replicate ops.size false) a w.drew) : (Code.region id ops true).wpIn (Fence.wide.inRound l) n P Q a w :=
  wpIn_region_draw fun t => opsIn_round hp hQ _ _ _ (by
    simp only [Region.schedule, hm, Bool.true_or, if_true]
    exact wpAny_sound ops.size t _ a _ h)
theorem wpIn_round_T {id : Nat} {a : Act} {w : World} (S : World → Prop) (T : List Nat) (m : Nat) (L : Array Bool) (hm : P.follows .mixedOrders = true) (hp : plainOps ops = true) (hQ : ¬ LetsOut Q) (hn : ops.size = m) (hL : Array.replicate m false = L)
    (h : wpAnyT P .any ops Q S T m L a w.drew) : (Code.region id ops true).wpIn (Fence.wide.inRound l) n P Q a w :=
  wpIn_round_any hm hp hQ (by subst hn hL; exact wpAnyT_any _ _ _ _ h)
theorem wpIn_round_quiet {id : Nat} {a : Act} {w : World} {os : List Oper} (hm : P.follows .mixedOrders = true) (hp : plainOps os.toArray = true) (hQ : ¬ LetsOut Q) (hB : Region.lexB .any os.toArray = true)
    (h : wpQuiet P os.toArray (fun w' => ∃ n, w' = w.drewN n) (fun a' => ∀ w', (∃ n, w' = w.drewN n) → Q .normal a' w') os a) : (Code.region id os.toArray true).wpIn (Fence.wide.inRound l) n P Q a w := by
  refine wpIn_round_any hm hp hQ ?_
  simp only [Region.lexB, Bool.and_eq_true] at hB
  refine wpAny_of_quiet (C := fun w' => ∃ n, w' = w.drewN n) (Q := fun a' => ∀ w', (∃ n, w' = w.drewN n) → Q .normal a' w') (fun _ w' hw' h => h w' hw') _ _ _ _ ⟨1, rfl⟩ ?_
  have := wpAnyQ_lex (C := fun w' => ∃ n, w' = w.drewN n) (md := .any) hB.1 os 0 (Array.replicate os.toArray.size false) a (by simp) (by simpa using hB.2) h
  simpa using this
end
end Go.Proofs.Ytcmpjkopdjncdaa
