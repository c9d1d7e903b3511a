import Derived.Test.YtbmpiemhfndnbaaMw19
import Derived.Test.YtbmpiemhfndnbaaMw30
import Derived.Test.YtbmpiemhfndnbaaMw24
/- What WindowOrders asks of a window: what comes out rises, each thing once. No program in sight. -/
namespace Go.Proofs.Ytbmpiemhfndnbaa

/-- The things in a window, and the marks, behind k steps. T: how many were taken; C: when each came. -/
structure OInv (ops : List Op21_) (k : Nat) (s : Win) (C : Int → Option Int) (T : Int) (Dn : List Int) : Prop where
  inv : WInv k s
  kept : ∀ o ∈ s.all, 0 ≤ o.x ∧ o.x < k ∧ (∃ op, ops[o.x.toNat]? = some op ∧ op.q = low16 o.n) ∧ C o.x = some o.at_
  done : ∀ x ∈ Dn, 0 ≤ x ∧ x < k
  once : (s.all.map (·.x) ++ Dn).Nodup
  cnt : T = (s.all.length : Int) + Dn.length
  late : ∀ x, (k : Int) ≤ x → C x = none
  tk : T ≤ k
/-- Between what comes out and what is marked. -/
structure OMid (ops : List Op21_) (k : Nat) (s : Win) (C : Int → Option Int) (T : Int) (Dn : List Int) (got : List Held_) (out : Bool) : Prop where
  inv : WInv k s
  kept : ∀ o ∈ got ++ s.all, 0 ≤ o.x ∧ o.x < k ∧ (∃ op, ops[o.x.toNat]? = some op ∧ op.q = low16 o.n) ∧ C o.x = some o.at_
  done : ∀ x ∈ Dn, 0 ≤ x ∧ x < k
  once : ((got ++ s.all).map (·.x) ++ Dn).Nodup
  cnt : T = (s.all.length : Int) + (Dn.length + got.length)
  late : ∀ x, (k : Int) ≤ x → C x = none
  rises : got.Pairwise fun a b => a.n < b.n
  near : ∀ a ∈ got, ∀ b ∈ got, b.n - a.n < 32768
  wait : out = true → ∀ o ∈ s.all, s.now < o.at_ + s.wait
  tk : T ≤ k
theorem OMid.next {ops : List Op21_} {k : Nat} {s : Win} {C : Int → Option Int} {T : Int} {Dn : List Int} {got : List Held_} {out : Bool} (h : OMid ops k s C T Dn got out) : OInv ops k s C T (Dn ++ got.map (·.x)) where
  inv := h.inv
  kept := fun o ho => h.kept o (by simp [ho])
  done := fun x hx => by
    rcases List.mem_append.1 hx with hx | hx
    · exact h.done x hx
    · obtain ⟨o, ho, rfl⟩ := List.mem_map.1 hx
      have := h.kept o (by simp [ho])
      exact ⟨this.1, this.2.1⟩
  once := by
    have := h.once
    refine (List.Perm.nodup_iff ?_).1 this
    rw [List.map_append, List.append_assoc]
    refine List.perm_append_comm.trans ?_
    rw [List.append_assoc]
  cnt := by have := h.cnt; rw [List.length_append, List.length_map]; omega
  late := h.late
  tk := h.tk
theorem inRange {c : Nat} {s : Win} (h : WInv c s) : ∀ a ∈ s.all, ∀ b ∈ s.all, b.n - a.n < 32768 := by
  intro a ha b hb
  cases hh : s.hi with
  | none => rw [(h.old hh).1] at ha; cases ha
  | some k =>
    have h1 := h.hi k hh
    have h2 := h.low a ha
    have h3 := h1.2.2.2.2.2 b hb
    have := h.size
    omega
/-- What comes out by a release. -/
theorem OInv.release {ops : List Op21_} {k : Nat} {s : Win} {C : Int → Option Int} {T : Int} {Dn : List Int} (h : OInv ops k s C T Dn) (now : Int) : OMid ops (k + 1) (s.release now).1 C T Dn (s.release now).2 true := by
  have hi := (h.inv.release now).mono (Nat.le_succ k)
  have ht := h.inv.tick now
  obtain ⟨h1, h2, h3, h4, h5⟩ := relL_spec (s.tick now).wait (s.tick now).now (s.tick now).next (s.tick now).all ht.sorted ht.low
  have e : (s.release now).2 ++ (s.release now).1.all = s.all := h1
  have hr := ht.sorted
  have hn := inRange ht
  have hall : (s.tick now).all = s.all := rfl
  rw [hall, ← e] at hr hn
  have hd : ∀ d, dueL (s.release now).1.wait (s.release now).1.all = some d → (s.release now).1.now < d := h4
  generalize (s.release now).1 = s1 at *
  generalize (s.release now).2 = got at *
  refine ⟨hi, fun o ho => ?_, fun x hx => ?_, ?_, ?_, fun x hx => h.late x (by omega), (List.pairwise_append.1 hr).1, fun a ha b hb => hn a (by simp [ha]) b (by simp [hb]), fun _ o ho => ?_, by have := h.tk; omega⟩
  · rw [e] at ho
    obtain ⟨g1, g2, g3⟩ := h.kept o ho
    exact ⟨g1, by omega, g3⟩
  · have := h.done x hx; omega
  · rw [e]; exact h.once
  · have := h.cnt; rw [← e, List.length_append] at this; omega
  · cases hq : dueL s1.wait s1.all with
    | none => rw [dueL_none.1 hq] at ho; cases ho
    | some d =>
      have a1 := hd d hq
      have a2 := dueL_le hq o ho
      omega
theorem insW_perm (o : Held_) : ∀ (l : List Held_), (insW o l).Perm (o :: l)
  | [] => List.Perm.refl _
  | p :: l => by
    unfold insW
    split
    · exact List.Perm.refl _
    · exact (List.Perm.cons p (insW_perm o l)).trans (List.Perm.swap o p l)
/-- A thing that isn't taken changes but the time. -/
theorem OInv.not_put {ops : List Op21_} {k : Nat} {s : Win} {C : Int → Option Int} {T : Int} {Dn : List Int} (h : OInv ops k s C T Dn) (q : UInt16) (now : Int) (he : (s.put q k now).2.2 ≠ 0) :
    (s.put q k now).2.1 = [] ∧ OMid ops (k + 1) (s.put q k now).1 C T Dn [] false := by
  have hi := h.inv.put q k now
  have key : (s.put q k now).2.1 = [] ∧ (s.put q k now).1.all = s.all := by
    unfold Win.put at he ⊢
    simp only at he ⊢
    split
    · exact ⟨rfl, rfl⟩
    · split
      · exact ⟨rfl, rfl⟩
      · rename_i h1 h2
        rw [if_neg h1, if_neg h2] at he
        exact absurd rfl he
  refine ⟨key.1, hi, fun o ho => ?_, fun x hx => ?_, ?_, ?_, fun x hx => h.late x (by omega), List.Pairwise.nil, fun a ha => (by cases ha), fun e => (by cases e), by have := h.tk; omega⟩
  · rw [List.nil_append, key.2] at ho
    obtain ⟨g1, g2, g3⟩ := h.kept o ho
    exact ⟨g1, by omega, g3⟩
  · have := h.done x hx; omega
  · rw [List.nil_append, key.2]; exact h.once
  · have := h.cnt; rw [key.2]; simp; omega
/-- A thing that is taken. -/
theorem OInv.put {ops : List Op21_} {k : Nat} {s : Win} {C C' : Int → Option Int} {T : Int} {Dn : List Int} (h : OInv ops k s C T Dn) (op : Op21_) (hop : ops[k]? = some op) (now : Int) (he : (s.put op.q k now).2.2 = 0)
    (hC : ∀ x, C' x = if (k : Int) = x then some (tickT s.now now) else C x) :
    OMid ops (k + 1) (s.put op.q k now).1 C' (T + 1) Dn (s.put op.q k now).2.1 false := by
  have hi := h.inv.put op.q k now
  have ht := h.inv.tick now
  obtain ⟨n, nx, hq, hgot, hall⟩ : ∃ n nx, (low16 n = op.q) ∧ (s.put op.q k now).2.1 = s.all.filter (fun o => decide (o.n < nx)) ∧ (s.put op.q k now).1.all = insW ⟨n, k, tickT s.now now⟩ (s.all.filter fun o => !decide (o.n < nx)) := by
    refine ⟨peekW s.hi op.q, ?_⟩
    have hm := peekW_mod (hi := s.hi) (q := op.q)
    have hl : low16 (peekW s.hi op.q) = op.q := by
      apply UInt16.toNat_inj.1
      have := low16_nat (peekW s.hi op.q)
      omega
    unfold Win.put at he ⊢
    simp only at he ⊢
    split
    · rename_i h1; rw [if_pos h1] at he; cases he
    · rename_i h1
      rw [if_neg h1] at he
      split
      · rename_i h2; rw [if_pos h2] at he; cases he
      · exact ⟨_, hl, rfl, rfl⟩
  have hperm : ((s.put op.q k now).2.1 ++ (s.put op.q k now).1.all).Perm (⟨n, k, tickT s.now now⟩ :: s.all) := by
    rw [hgot, hall]
    refine (List.Perm.append_left _ (insW_perm _ _)).trans ?_
    refine List.perm_middle.trans (List.Perm.cons _ ?_)
    exact List.filter_append_perm (fun o : Held_ => decide (o.n < nx)) s.all
  have hlen := hperm.length_eq
  have hsub : ∀ o ∈ (s.put op.q k now).2.1, o ∈ s.all := fun o ho => by rw [hgot] at ho; exact (List.mem_filter.1 ho).1
  have hrise : (s.put op.q k now).2.1.Pairwise fun a b => a.n < b.n := by rw [hgot]; exact h.inv.sorted.filter _
  generalize (s.put op.q k now).1 = s1 at *
  generalize (s.put op.q k now).2.1 = got at *
  have hn := inRange h.inv
  refine ⟨hi, fun o ho => ?_, fun x hx => ?_, ?_, ?_, fun x hx => ?_, hrise, fun a ha b hb => hn a (hsub a ha) b (hsub b hb), fun e => (by cases e), by have := h.tk; omega⟩
  · rcases List.mem_cons.1 (hperm.mem_iff.1 ho) with rfl | ho
    · refine ⟨by show (0 : Int) ≤ k; omega, by show (k : Int) < _; omega, ⟨op, hop, hq.symm⟩, ?_⟩
      rw [hC, if_pos rfl]
    · obtain ⟨g1, g2, g3, g4⟩ := h.kept o ho
      exact ⟨g1, by omega, g3, by rw [hC, if_neg (by omega)]; exact g4⟩
  · have := h.done x hx; omega
  · refine (List.Perm.nodup_iff ((hperm.map (·.x)).append_right Dn)).2 ?_
    rw [List.map_cons, List.cons_append, List.nodup_cons]
    refine ⟨fun hm => ?_, h.once⟩
    rcases List.mem_append.1 hm with hm | hm
    · obtain ⟨o, ho, e⟩ := List.mem_map.1 hm
      have := (h.kept o ho).2.1
      have e : o.x = k := e
      omega
    · have := (h.done _ hm).2
      have e : (⟨n, k, tickT s.now now⟩ : Held_).x = k := rfl
      omega
  · have := h.cnt
    rw [List.length_append, List.length_cons] at hlen
    omega
  · rw [hC, if_neg (by omega)]; exact h.late x (by omega)
/-- Numbers that rise by less than half the round. -/
theorem low_rises {a b : Int} (h1 : a < b) (h2 : b - a < 32768) : 0 < IntKind.i16.wrap (IntKind.u16.wrap (((low16 b).toNat : Int) - (low16 a).toNat)) := by
  rw [low16_nat, low16_nat, IntKind.wrap_u16, wrap_i16]
  omega
end Go.Proofs.Ytbmpiemhfndnbaa
