/- The walk of confluxlaw18.ShapeParts (printed by gen_sh25.py). -/
import Derived.Test.YtngfenjekgdfbaaMuSh24
namespace Go.Proofs.Ytngfenjekgdfbaa
open Go.RowKit Go.Maps

def oneD (xs : List Int) : DataW Unit := xs.foldl (fun D x => D.put (.int .i64 x) (.lit (.int .i64 1))) (.map [])
theorem oneD_snoc (xs : List Int) (x : Int) : (oneD xs).put (.int .i64 x) (.lit (.int .i64 1)) = oneD (xs ++ [x]) := by unfold oneD; rw [List.foldl_append]; rfl
theorem one_fold (y : Int) : ∀ (xs : List Int) (D : DataW Unit), IsMap D → (xs.foldl (fun D x => D.put (.int .i64 x) (.lit (.int .i64 1))) D).atKey (.int .i64 y) (.lit (.int .i64 0)) = if y ∈ xs then .lit (.int .i64 1) else D.atKey (.int .i64 y) (.lit (.int .i64 0))
  | [], D, _ => by simp
  | x :: xs, D, hD => by
    rw [List.foldl_cons, one_fold y xs _ (hD.put _ _)]
    by_cases h : y ∈ xs
    · simp [h]
    · by_cases hx : y = x
      · subst hx
        simp [h, atKey_put_same hD (k := .int .i64 y) trivial]
      · have : ¬ y ∈ x :: xs := by simp [h, hx]
        rw [if_neg h, if_neg this, atKey_put_other (by simpa using hx)]
theorem one_at (xs : List Int) (y : Int) : (oneD xs).atKey (.int .i64 y) (.lit (.int .i64 0)) = .lit (.int .i64 (if y ∈ xs then 1 else 0)) := by
  unfold oneD
  rw [one_fold y xs _ isMap_empty]
  by_cases h : y ∈ xs
  · simp [h]
  · simp [h, DataW.atKey]
theorem one_tidy : ∀ (xs : List Int) (D : DataW Unit), Tidy D → Tidy (xs.foldl (fun D x => D.put (.int .i64 x) (.lit (.int .i64 1))) D)
  | [], _, h => h
  | x :: xs, D, h => by rw [List.foldl_cons]; exact one_tidy xs _ (h.put (k := .int .i64 x) (show WideAt.IsKeyLit (.int .i64 x) from trivial) _)
theorem one_has : ∀ (xs : List Int) (D : DataW Unit) (y : Int), IsMap D → Maps.has (xs.foldl (fun D x => D.put (.int .i64 x) (.lit (.int .i64 1))) D) (.int .i64 y) = (decide (y ∈ xs) || Maps.has D (.int .i64 y))
  | [], _, _, _ => by simp
  | x :: xs, D, y, hD => by
    rw [List.foldl_cons, one_has xs _ y (hD.put _ _)]
    by_cases hx : y = x
    · subst hx
      rw [has_put_same hD (by exact trivial)]
      simp
    · rw [has_put_other (by simpa using hx)]
      simp [hx]
theorem one_size {xs : List Int} (h : xs.Nodup) : Maps.size (oneD xs) = xs.length := by
  have key : ∀ ys : List Int, ys.reverse.Nodup → Maps.size (oneD ys.reverse) = ys.length := by
    intro ys
    induction ys with
    | nil => intro _; rfl
    | cons y ys ih =>
      intro hn
      rw [List.reverse_cons] at hn ⊢
      rw [List.nodup_append] at hn
      have ht : Tidy (oneD ys.reverse) := one_tidy _ _ tidy_empty
      rw [← oneD_snoc, size_put ht, ih hn.1]
      have hh : Maps.has (oneD ys.reverse) (.int .i64 y) = false := by
        unfold oneD
        rw [one_has _ _ _ isMap_empty]
        have : y ∉ ys.reverse := fun hm => hn.2.2 y hm y (by simp) rfl
        simp [this, Maps.has]
      rw [hh]
      simp
  have := key xs.reverse (by rw [List.reverse_reverse]; exact h)
  rw [List.reverse_reverse, List.length_reverse] at this
  exact this
abbrev OneI (w : World) (b n : Nat) (xs : List Int) : Prop := w.ownsMap Try.prog 3 (plainElem (H := Unit) Try.prog 3) b n (oneD xs)
theorem OneI.fr {w w' : World} {S : List Nat} {b n : Nat} {xs : List Int} (h : OneI w b n xs) (hf : Fr S w w') (hb : b ∉ S) : OneI w' b n xs := Fr.ownsMap hf h hb
theorem zeroI (w : World) : (zeroValue 3).run Try.prog w = .ok (.int .i64 0) w := by kernel_rfl
theorem one_run {w : World} {b n : Nat} {xs : List Int} (h : OneI w b n xs) {y : Int} (hy : (Lit.int .i64 y).wf = true) : (Instr.lookup 38 (.map (some b)) (.int .i64 y) false).run Try.prog w = .ok (.int .i64 (if y ∈ xs then 1 else 0)) w := by
  obtain ⟨c, hrun, hat, -⟩ := h.lookup_int keyInt Try.underlying38 Try.underlying3 (zeroI w) (keyOf_int_mk Try.underlying3 hy)
  rw [one_at] at hat
  rw [hrun]
  congr 2
  injection hat with h1
  injection h1 with _ h2
  exact h2.symm
/-- What the law asks of a shape: with Run (t = 0) its places follow one another. -/
structure PartS (K N t : Nat) (sh : List (List Int)) : Prop where
  len : sh.length = N
  perm : sh.flatten.Perm (uptoI K)
  run : t = 0 → sh.flatten = uptoI K
  size : ∀ r ∈ sh, K / N ≤ r.length ∧ r.length ≤ K / N + 1
theorem part_run {K N : Nat} (hN : 0 < N) : PartS K N 0 (runS K N) :=
  ⟨by simp [runS], by rw [run_concat hN], fun _ => run_concat hN, fun r hr => by
    unfold runS at hr
    obtain ⟨i, hi, rfl⟩ := List.mem_map.1 hr
    obtain ⟨h1, h2, h3⟩ := run_size (k := K) hN (List.mem_range.1 hi)
    rw [h1]
    exact ⟨h2, h3⟩⟩
theorem part_spread {K N : Nat} (hN : 0 < N) : PartS K N 1 (spreadS K N) :=
  ⟨by simp [spreadS], spread_concat hN, fun h => by omega, fun r hr => by
    unfold spreadS at hr
    obtain ⟨i, hi, rfl⟩ := List.mem_map.1 hr
    have h1 := spread_size hN (List.mem_range.1 hi) K
    rw [h1]
    split <;> omega⟩
theorem PartS.nodup {K N t : Nat} {sh : List (List Int)} (h : PartS K N t sh) : sh.flatten.Nodup := (h.perm.nodup_iff).2 (upto_nodup K)
theorem PartS.pre {K N t j i : Nat} {sh : List (List Int)} {r : List Int} {x : Int} (h : PartS K N t sh) (hr : sh[j]? = some r) (hx : r[i]? = some x) : x ∉ (sh.take j).flatten ++ r.take i ∧ (0 ≤ x ∧ x < (K : Int)) ∧ (t = 0 → x = (((sh.take j).flatten ++ r.take i).length : Nat)) := by
  obtain ⟨hj, hrj⟩ := List.getElem?_eq_some_iff.1 hr
  obtain ⟨hi, hxi⟩ := List.getElem?_eq_some_iff.1 hx
  have a1 : sh.flatten = (sh.take j).flatten ++ (r ++ (sh.drop (j + 1)).flatten) := by
    rw [← List.flatten_cons, ← hrj, ← List.drop_eq_getElem_cons hj, ← List.flatten_append, List.take_append_drop]
  have a2 : r = r.take i ++ x :: r.drop (i + 1) := by rw [← hxi, ← List.drop_eq_getElem_cons hi, List.take_append_drop]
  have e1 : sh.flatten = ((sh.take j).flatten ++ r.take i) ++ (x :: (r.drop (i + 1) ++ (sh.drop (j + 1)).flatten)) := by
    rw [a1]
    have a3 : r ++ (sh.drop (j + 1)).flatten = r.take i ++ x :: (r.drop (i + 1) ++ (sh.drop (j + 1)).flatten) := by
      have a4 := congrArg (fun l => l ++ (sh.drop (j + 1)).flatten) a2
      simpa using a4
    rw [a3, List.append_assoc]
  clear a1 a2
  refine ⟨fun hm => ?_, ?_, fun ht => ?_⟩
  · have hn := h.nodup
    rw [e1, List.nodup_append] at hn
    exact hn.2.2 _ hm _ (by simp) rfl
  · have hm : x ∈ uptoI K := h.perm.mem_iff.1 (by rw [e1]; simp)
    exact mem_upto.1 hm
  · have h2 := h.run ht
    rw [e1] at h2
    have h3 := congrArg (fun l => l[((sh.take j).flatten ++ r.take i).length]?) h2
    simp only [List.getElem?_append_right (Nat.le_refl _), Nat.sub_self, List.getElem?_cons_zero] at h3
    generalize ((sh.take j).flatten ++ r.take i).length = m at *
    unfold uptoI at h3
    rw [List.getElem?_map] at h3
    by_cases hm : m < K
    · rw [List.getElem?_range hm] at h3
      simpa using h3
    · rw [List.getElem?_eq_none (by simp; omega)] at h3
      cases h3
end Go.Proofs.Ytngfenjekgdfbaa
