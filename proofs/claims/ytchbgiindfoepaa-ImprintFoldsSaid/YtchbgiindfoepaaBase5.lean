/- 'copy(d, s)' into a block of the call's own; new rows of zeros. -/
import Derived.Test.YtchbgiindfoepaaBase4
import Derived.Laws.CopyOwn
import Derived.Deep.OwnRows
namespace Go.Proofs.Ytchbgiindfoepaa
open Go.RowKit

theorem addr_add (b o j : Nat) : (⟨b, o, none⟩ : Addr).add j = ⟨b, o + j, none⟩ := by unfold Addr.add; split <;> simp_all
theorem wp_copy_fr {P : Program} {w : World} {o : Oper} {a : Act} {K : Act → World → Prop} {Q : Exit → Act → World → Prop} (d s : Operand) (dT sT : TypeId)
    (ho : o.op = .call { callee := .builtin .copy, args := #[d, s], argTypes := #[dT, sT] }) (elem : TypeId) (hu : P.underlying dT = some (.slice elem)) (hsz : (P.info? elem).map (·.size) = some 1)
    (dp : Option Addr) (dLen dCap : Nat) (hd : a.eval d = .slice dp dLen dCap) (vx : Value) (src : List Value) (hs : a.eval s = vx) (hsl : Sl w vx src)
    (g off : Nat) (cur : List Value) (t : TypeId) (hg : Box w g t cur.toArray) (hdp : 0 < dLen → dp = some ⟨g, off, none⟩) (hn : src.length = dLen)
    (hfit : off + dLen ≤ cur.length) (h1 : ∀ v ∈ src, v.oneCell' = true)
    (h : ∀ w', Box w' g t (splice cur off src).toArray → Fr [g] w w' → K (a.put o.dst (goInt src.length)) w') :
    Oper.wp P o a w K Q := by
  obtain ⟨sp, cap, rfl, g2, g3, g4, g5⟩ := hsl
  by_cases h0 : src.length = 0
  · obtain rfl : src = [] := List.eq_nil_of_length_eq_zero h0
    have hrun := run_copy_none (P := P) w dT sT o.type elem dp sp dLen dCap 0 cap hu hsz (by simp)
    unfold Oper.wp
    simp [execOp, ho, resolve, invoke, builtin, hd, hs, hrun, Result.andThen]
    exact h w (by simpa [splice] using hg) (Fr.refl _ _)
  · obtain rfl := hdp (by omega)
    cases sp with
    | none => have := g4 rfl; omega
    | some ad =>
      obtain ⟨sb, so, ss⟩ := ad
      obtain ⟨hsp, hb, hc⟩ := g5 _ rfl (by omega)
      simp only at hsp
      subst hsp
      have hrun := run_copy_row (P := P) w dT sT o.type elem g off dLen dCap ⟨sb, so, none⟩ src.length cap cur.toArray t src hu hsz hg (by rw [hn]; simp) (fun j v hv => by rw [addr_add]; exact hc j v hv) (by simpa [hn] using hfit) h1
      unfold Oper.wp
      simp [execOp, ho, resolve, invoke, builtin, hd, hs, hrun, Result.andThen]
      exact h _ (by simpa [splice] using hg.setRow _) (Box.frSetRow w g _)
theorem wpList_copy_fr {P : Program} {w : World} {ops : Array Oper} {rest : List Oper} {o : Oper} {a : Act} {Q : Exit → Act → World → Prop} (hgd : o.guard = none) (d s : Operand) (dT sT : TypeId)
    (ho : o.op = .call { callee := .builtin .copy, args := #[d, s], argTypes := #[dT, sT] }) (elem : TypeId) (hu : P.underlying dT = some (.slice elem)) (hsz : (P.info? elem).map (·.size) = some 1)
    (dp : Option Addr) (dLen dCap : Nat) (hd : a.eval d = .slice dp dLen dCap) (vx : Value) (src : List Value) (hs : a.eval s = vx) (hsl : Sl w vx src)
    (g off : Nat) (cur : List Value) (t : TypeId) (hg : Box w g t cur.toArray) (hdp : 0 < dLen → dp = some ⟨g, off, none⟩) (hn : src.length = dLen)
    (hfit : off + dLen ≤ cur.length) (h1 : ∀ v ∈ src, v.oneCell' = true)
    (h : ∀ w', Box w' g t (splice cur off src).toArray → Fr [g] w w' → wpList P ops Q rest (a.put o.dst (goInt src.length)) w') :
    wpList P ops Q (o :: rest) a w :=
  wpList_plain hgd fun K hK => wp_copy_fr d s dT sT ho elem hu hsz dp dLen dCap hd vx src hs hsl g off cur t hg hdp hn hfit h1 fun w' h2 h3 => hK _ _ (h w' h2 h3)
theorem madeCells_one (z : Value) (m : Nat) : madeCells #[z] m = (List.replicate m z).toArray := by
  apply Array.ext
  · simp [madeCells]
  · intro k h1 h2
    have e : k % 1 = 0 := Nat.mod_one k
    simp [madeCells, e]
theorem box_own {w : World} {base g : Nat} {t : TypeId} {xs : List Value} (h : Box w g t xs.toArray) (hb : base ≤ g) (hm : xs.length ≤ maxLen) : w.ownsRow base t 1 (.slice (some ⟨g, 0, none⟩) xs.length xs.length) xs.length xs :=
  ⟨by simp, .inr ⟨g, xs.length, xs.toArray, rfl, hb, h, Nat.le_refl _, hm, by simp, by simp⟩⟩
/-- A part of a block reads as a slice. -/
theorem box_sl {w : World} {g off cap : Nat} {t : TypeId} {cur : Array Value} (h : Box w g t cur) (xs : List Value) (hc : ∀ i x, xs[i]? = some x → cur[off + i]? = some x) (hl : xs.length ≤ cap) (hm : cap ≤ maxLen) : Sl w (.slice (some ⟨g, off, none⟩) xs.length cap) xs := by
  refine ⟨_, cap, rfl, hl, hm, (fun e => by cases e), ?_⟩
  rintro p hp _
  simp only [Option.some.injEq] at hp
  subst hp
  exact ⟨rfl, h.lt, fun i x hx => (h.cell (off + i)).trans (hc i x hx)⟩

/-- Two may come up: whichever comes. -/
theorem wpAnyT_two {P : Program} {ops : Array Oper} {Q : Exit → Act → World → Prop} {md : Region.Mode} {S : World → Prop} {T : List Nat} {i j : Nat} {o o' : Oper} {fuel : Nat} {listed : Array Bool} {a : Act} {w : World} (hr : Region.ready md ops listed = [i, j]) (ho : ops[i]? = some o) (ho' : ops[j]? = some o')
    (h : ∀ K' : Act → World → Prop, Shut (∀ a w, (i ∉ T → S w) → wpAnyT P md ops Q S T fuel (listed.setIfInBounds i true) a w → K' a w) → if Region.wanted o (yielded ops a.tmps) = true then Oper.wp P o a w K' Q else K' (a.put o.dst undef) w)
    (h' : ∀ K' : Act → World → Prop, Shut (∀ a w, (j ∉ T → S w) → wpAnyT P md ops Q S T fuel (listed.setIfInBounds j true) a w → K' a w) → if Region.wanted o' (yielded ops a.tmps) = true then Oper.wp P o' a w K' Q else K' (a.put o'.dst undef) w) :
    wpAnyT P md ops Q S T (fuel + 1) listed a w :=
  ⟨fun h0 => (by rw [hr] at h0; cases h0), fun k hk => by
    rw [hr] at hk
    simp only [List.mem_cons, List.not_mem_nil, or_false] at hk
    rcases hk with rfl | rfl
    · exact wpOp_step ho fun K' hK => h K' (fun a w h1 h2 => hK a w ⟨h1, h2⟩)
    · exact wpOp_step ho' fun K' hK => h' K' (fun a w h1 h2 => hK a w ⟨h1, h2⟩)⟩
end Go.Proofs.Ytchbgiindfoepaa
