import Derived.Test.YtcmpjkopdjncdaaMw1
import Derived.Test.YtcmpjkopdjncdaaMw17
/- Numbers of 16 bits that go round: how far ahead, the least one, the span; the mask of how far numbers are ahead of a base. No program in sight. -/
namespace Go.Proofs.Ytcmpjkopdjncdaa

/-- By how much a is ahead of b. -/
def ahd (a b : UInt16) : Int := if (a - b).toNat < 32768 then ((a - b).toNat : Int) else ((a - b).toNat : Int) - 65536
theorem ahd_lt (a b : UInt16) : -32768 ≤ ahd a b ∧ ahd a b < 32768 := by
  have := (a - b).toNat_lt
  unfold ahd
  split <;> omega
theorem ahd_self (a : UInt16) : ahd a a = 0 := by
  unfold ahd
  simp
theorem sub_toNat (a b : UInt16) : (a - b).toNat = (a.toNat + 65536 - b.toNat) % 65536 := by
  have ha := a.toNat_lt; have hb := b.toNat_lt
  rw [UInt16.toNat_sub]
  omega
theorem ahd_def (a b : UInt16) : ahd a b = if ((a.toNat : Int) - b.toNat) % 65536 < 32768 then ((a.toNat : Int) - b.toNat) % 65536 else ((a.toNat : Int) - b.toNat) % 65536 - 65536 := by
  have ha := a.toNat_lt; have hb := b.toNat_lt
  unfold ahd
  rw [sub_toNat]
  have : (((a.toNat + 65536 - b.toNat) % 65536 : Nat) : Int) = ((a.toNat : Int) - b.toNat) % 65536 := by omega
  split <;> split <;> omega
/-- Differences: modulo 2^16 they add. -/
theorem ahd_add (a b c : UInt16) : ∃ k : Int, ahd a c = ahd a b + ahd b c + 65536 * k := by
  have ha := a.toNat_lt; have hb := b.toNat_lt; have hc := c.toNat_lt
  rw [ahd_def, ahd_def, ahd_def]
  refine ⟨(if ((a.toNat : Int) - c.toNat) % 65536 < 32768 then ((a.toNat : Int) - c.toNat) % 65536 else ((a.toNat : Int) - c.toNat) % 65536 - 65536) / 65536 - ((if ((a.toNat : Int) - b.toNat) % 65536 < 32768 then ((a.toNat : Int) - b.toNat) % 65536 else ((a.toNat : Int) - b.toNat) % 65536 - 65536) + (if ((b.toNat : Int) - c.toNat) % 65536 < 32768 then ((b.toNat : Int) - c.toNat) % 65536 else ((b.toNat : Int) - c.toNat) % 65536 - 65536)) / 65536, ?_⟩
  split <;> split <;> split <;> omega
theorem ahd_inj {a b c : UInt16} (h : ahd a c = ahd b c) : a = b := by
  have ha := a.toNat_lt; have hb := b.toNat_lt; have hc := c.toNat_lt
  rw [ahd_def, ahd_def] at h
  apply UInt16.toNat_inj.1
  split at h <;> split at h <;> omega
theorem add16_ahd (a b : UInt16) : add16 b (ahd a b) = a := by
  have ha := a.toNat_lt; have hb := b.toNat_lt
  apply UInt16.toNat_inj.1
  have := add16_nat b (ahd a b)
  rw [ahd_def] at this ⊢
  split at this <;> rename_i h <;> (try rw [if_pos h]) <;> (try rw [if_neg h]) <;> omega
theorem ahd_add16 {a : UInt16} {n : Int} (h0 : -32768 ≤ n) (h1 : n < 32768) : ahd (add16 a n) a = n := by
  have ha := a.toNat_lt
  have := add16_nat a n
  rw [ahd_def]
  split <;> omega

/-- The least and the greatest of how far numbers are ahead of the first one. -/
def lowOf (x : UInt16) (ns : List UInt16) : Int := ns.foldl (fun a n => min a (ahd n x)) 0
def highOf (x : UInt16) (ns : List UInt16) : Int := ns.foldl (fun a n => max a (ahd n x)) 0
theorem low_snoc (x : UInt16) (ns : List UInt16) (n : UInt16) : lowOf x (ns ++ [n]) = min (lowOf x ns) (ahd n x) := by simp [lowOf]
theorem high_snoc (x : UInt16) (ns : List UInt16) (n : UInt16) : highOf x (ns ++ [n]) = max (highOf x ns) (ahd n x) := by simp [highOf]
theorem min_fold (x : UInt16) : ∀ (ns : List UInt16) (z : Int), ns.foldl (fun a n => min a (ahd n x)) z ≤ z ∧ (∀ n ∈ ns, ns.foldl (fun a n => min a (ahd n x)) z ≤ ahd n x) ∧ (ns.foldl (fun a n => min a (ahd n x)) z = z ∨ ∃ n ∈ ns, ns.foldl (fun a n => min a (ahd n x)) z = ahd n x)
  | [], z => by simp
  | n :: l, z => by
    obtain ⟨h1, h2, h3⟩ := min_fold x l (min z (ahd n x))
    rw [List.foldl_cons]
    generalize l.foldl (fun a n => min a (ahd n x)) (min z (ahd n x)) = r at *
    refine ⟨by omega, ?_, ?_⟩
    · intro m hm
      rcases List.mem_cons.1 hm with rfl | hm
      · omega
      · exact h2 m hm
    · rcases h3 with h3 | ⟨m, hm, h3⟩
      · by_cases h : z ≤ ahd n x
        · exact .inl (by omega)
        · exact .inr ⟨n, by simp, by omega⟩
      · exact .inr ⟨m, by simp [hm], h3⟩
theorem max_fold (x : UInt16) : ∀ (ns : List UInt16) (z : Int), z ≤ ns.foldl (fun a n => max a (ahd n x)) z ∧ (∀ n ∈ ns, ahd n x ≤ ns.foldl (fun a n => max a (ahd n x)) z) ∧ (ns.foldl (fun a n => max a (ahd n x)) z = z ∨ ∃ n ∈ ns, ns.foldl (fun a n => max a (ahd n x)) z = ahd n x)
  | [], z => by simp
  | n :: l, z => by
    obtain ⟨h1, h2, h3⟩ := max_fold x l (max z (ahd n x))
    rw [List.foldl_cons]
    generalize l.foldl (fun a n => max a (ahd n x)) (max z (ahd n x)) = r at *
    refine ⟨by omega, ?_, ?_⟩
    · intro m hm
      rcases List.mem_cons.1 hm with rfl | hm
      · omega
      · exact h2 m hm
    · rcases h3 with h3 | ⟨m, hm, h3⟩
      · by_cases h : ahd n x ≤ z
        · exact .inl (by omega)
        · exact .inr ⟨n, by simp, by omega⟩
      · exact .inr ⟨m, by simp [hm], h3⟩
theorem low_spec (x : UInt16) (ns : List UInt16) : lowOf x ns ≤ 0 ∧ (∀ n ∈ ns, lowOf x ns ≤ ahd n x) ∧ (lowOf x ns = 0 ∨ ∃ n ∈ ns, lowOf x ns = ahd n x) := min_fold x ns 0
theorem high_spec (x : UInt16) (ns : List UInt16) : 0 ≤ highOf x ns ∧ (∀ n ∈ ns, ahd n x ≤ highOf x ns) ∧ (highOf x ns = 0 ∨ ∃ n ∈ ns, highOf x ns = ahd n x) := max_fold x ns 0
theorem low_bd (x : UInt16) (ns : List UInt16) : -32768 ≤ lowOf x ns ∧ lowOf x ns ≤ 0 ∧ 0 ≤ highOf x ns ∧ highOf x ns < 32768 := by
  obtain ⟨h1, h2, h3⟩ := low_spec x ns
  obtain ⟨g1, g2, g3⟩ := high_spec x ns
  refine ⟨?_, h1, g1, ?_⟩
  · rcases h3 with h | ⟨n, _, h⟩
    · omega
    · have := ahd_lt n x; omega
  · rcases g3 with h | ⟨n, _, h⟩
    · omega
    · have := ahd_lt n x; omega

/-- The mask of how far numbers are ahead of a base; has one come twice? -/
def fromL (base : UInt16) : List UInt16 → Msk → Bool → Except Int (Msk × Bool)
  | [], m, t => .ok (m, t)
  | n :: l, m, t => if ahd n base < 0 ∨ 109 ≤ ahd n base then .error 31 else fromL base l (m.or (Msk.bit (ahd n base).toNat)) (t || m.has (ahd n base).toNat)
def cvFrom (base : UInt16) (ns : List UInt16) : Except Int Msk :=
  match fromL base ns Msk.zero false with
  | .error k => .error k
  | .ok (m, t) => if ns = [] then .error 4 else if t then .error 5 else .ok m
theorem fromL_append (base : UInt16) : ∀ (l l' : List UInt16) (m : Msk) (t : Bool), fromL base (l ++ l') m t = match fromL base l m t with | .error k => .error k | .ok (m', t') => fromL base l' m' t'
  | [], _, _, _ => rfl
  | n :: l, l', m, t => by
    show (if ahd n base < 0 ∨ 109 ≤ ahd n base then .error 31 else fromL base (l ++ l') (m.or (Msk.bit (ahd n base).toNat)) (t || m.has (ahd n base).toNat)) = match (if ahd n base < 0 ∨ 109 ≤ ahd n base then .error 31 else fromL base l (m.or (Msk.bit (ahd n base).toNat)) (t || m.has (ahd n base).toNat) : Except Int (Msk × Bool)) with | .error k => .error k | .ok (m', t') => fromL base l' m' t'
    by_cases h : ahd n base < 0 ∨ 109 ≤ ahd n base
    · rw [if_pos h, if_pos h]
    · rw [if_neg h, if_neg h]
      exact fromL_append base l l' _ _
/-- Where all are near: what the mask has. -/
theorem fromL_ok {base : UInt16} : ∀ {l : List UInt16} {m m' : Msk} {t t' : Bool}, fromL base l m t = .ok (m', t') → (∀ n ∈ l, 0 ≤ ahd n base ∧ ahd n base < 109) ∧
    (∀ i, i < 128 → (m'.has i = true ↔ m.has i = true ∨ ∃ n ∈ l, ahd n base = i)) ∧ (t' = false ↔ t = false ∧ l.Nodup ∧ ∀ n ∈ l, m.has (ahd n base).toNat = false)
  | [], m, m', t, t', h => by
    simp only [fromL, Except.ok.injEq, Prod.mk.injEq] at h
    obtain ⟨rfl, rfl⟩ := h
    simp
  | n :: l, m, m', t, t', h => by
    unfold fromL at h
    split at h
    · cases h
    · rename_i hn
      obtain ⟨g1, g2, g3⟩ := fromL_ok h
      have h0 : 0 ≤ ahd n base ∧ ahd n base < 109 := by omega
      have hlt : (ahd n base).toNat < 128 := by omega
      refine ⟨?_, ?_, ?_⟩
      · intro k hk
        rcases List.mem_cons.1 hk with rfl | hk
        · exact h0
        · exact g1 k hk
      · intro i hi
        rw [g2 i hi, Msk.has_or, Msk.has_bit hlt]
        constructor
        · rintro (h | ⟨k, hk, h⟩)
          · rw [Bool.or_eq_true] at h
            rcases h with h | h
            · exact .inl h
            · refine .inr ⟨n, by simp, ?_⟩
              have : i = (ahd n base).toNat := by simpa using h
              omega
          · exact .inr ⟨k, by simp [hk], h⟩
        · rintro (h | ⟨k, hk, h⟩)
          · exact .inl (by rw [h]; rfl)
          · rcases List.mem_cons.1 hk with rfl | hk
            · refine .inl ?_
              rw [Bool.or_eq_true]
              right
              simp
              omega
            · exact .inr ⟨k, hk, h⟩
      · rw [g3, Bool.or_eq_false_iff, List.nodup_cons]
        constructor
        · rintro ⟨⟨a1, a2⟩, a3, a4⟩
          refine ⟨a1, ⟨fun hm => ?_, a3⟩, ?_⟩
          · have := a4 n hm
            rw [Msk.has_or, Msk.has_bit hlt] at this
            simp at this
          · intro k hk
            rcases List.mem_cons.1 hk with rfl | hk
            · exact a2
            · have := a4 k hk
              rw [Msk.has_or, Bool.or_eq_false_iff] at this
              exact this.1
        · rintro ⟨a1, ⟨a2, a3⟩, a4⟩
          refine ⟨⟨a1, a4 n (by simp)⟩, a3, ?_⟩
          intro k hk
          rw [Msk.has_or, Msk.has_bit hlt, a4 k (by simp [hk])]
          have hne : ahd k base ≠ ahd n base := fun e => a2 (by rw [← ahd_inj e]; exact hk)
          have := g1 k hk
          have : ¬ (ahd k base).toNat = (ahd n base).toNat := by omega
          simpa using this
theorem fromL_total {base : UInt16} : ∀ {l : List UInt16} {m : Msk} {t : Bool}, (∀ n ∈ l, 0 ≤ ahd n base ∧ ahd n base < 109) → ∃ m' t', fromL base l m t = .ok (m', t')
  | [], m, t, _ => ⟨m, t, rfl⟩
  | n :: l, m, t, h => by
    have h0 := h n (by simp)
    unfold fromL
    rw [if_neg (by omega)]
    exact fromL_total (fun k hk => h k (by simp [hk]))
/-- What Of answers. -/
def cvOf : List UInt16 → Except Int (UInt16 × Msk)
  | [] => .error 4
  | x :: l => if 109 ≤ highOf x (x :: l) - lowOf x (x :: l) then .error 31 else
    match cvFrom (add16 x (lowOf x (x :: l))) (x :: l) with
    | .error k => .error k
    | .ok m => .ok (add16 x (lowOf x (x :: l)), m)
theorem cvOf_cons (x : UInt16) (l : List UInt16) : cvOf (x :: l) = if 109 ≤ highOf x (x :: l) - lowOf x (x :: l) then .error 31 else match cvFrom (add16 x (lowOf x (x :: l))) (x :: l) with | .error k => .error k | .ok m => .ok (add16 x (lowOf x (x :: l)), m) := rfl
/-- Numbers that are near each other, each once; the least is base. -/
structure Near (ns : List UInt16) (base : UInt16) (m : Msk) : Prop where
  mem : base ∈ ns
  near : ∀ n ∈ ns, 0 ≤ ahd n base ∧ ahd n base < 109
  nodup : ns.Nodup
  has : ∀ i, i < 128 → (m.has i = true ↔ ∃ n ∈ ns, ahd n base = i)
theorem Near.one {ns ns' : List UInt16} {b b' : UInt16} {m m' : Msk} (h : Near ns b m) (k : Near ns' b' m') (hp : ∀ n, n ∈ ns ↔ n ∈ ns') : b = b' ∧ m = m' := by
  have e : b = b' := by
    have h1 := h.near b' ((hp b').2 k.mem)
    have h2 := k.near b ((hp b).1 h.mem)
    obtain ⟨q, hq⟩ := ahd_add b b' b
    rw [ahd_self] at hq
    exact ahd_inj (c := b') (by rw [ahd_self]; omega)
  subst e
  refine ⟨rfl, Msk.ext_has fun i hi => ?_⟩
  rw [Bool.eq_iff_iff, h.has i hi, k.has i hi]
  constructor
  · rintro ⟨n, hn, e⟩; exact ⟨n, (hp n).1 hn, e⟩
  · rintro ⟨n, hn, e⟩; exact ⟨n, (hp n).2 hn, e⟩
theorem cvOf_ok {ns : List UInt16} {b : UInt16} {m : Msk} : cvOf ns = .ok (b, m) ↔ Near ns b m := by
  cases ns with
  | nil =>
    constructor
    · intro h; cases h
    · intro h; cases h.mem
  | cons x l =>
    obtain ⟨l1, l2, l3⟩ := low_spec x (x :: l)
    obtain ⟨g1, g2, g3⟩ := high_spec x (x :: l)
    have lb := low_bd x (x :: l)
    have hmem : add16 x (lowOf x (x :: l)) ∈ x :: l := by
      rcases l3 with h | ⟨n, hn, h⟩
      · rw [h, ← ahd_self x, add16_ahd]; simp
      · rw [h, add16_ahd]; exact hn
    constructor
    · intro h
      rw [cvOf_cons] at h
      split at h
      · cases h
      unfold cvFrom at h
      generalize add16 x (lowOf x (x :: l)) = base at *
      split at h
      · cases h
      rename_i h2
      split at h2
      · cases h2
      rename_i m2 t2 h3
      rw [if_neg (by simp)] at h2
      split at h2
      · cases h2
      rename_i ht
      cases h2
      cases h
      obtain ⟨q1, q2, q3⟩ := fromL_ok h3
      refine ⟨hmem, q1, (q3.1 (by simpa using ht)).2.1, fun i hi => ?_⟩
      rw [q2 i hi, Msk.has_zero]
      simp
    · intro h
      -- x = base + d, all lie between 0 and 109
      have hx := h.near x (by simp)
      have hd : ∀ n ∈ x :: l, ahd n x = ahd n b - ahd x b := fun n hn => by
        obtain ⟨q, hq⟩ := ahd_add n x b
        have := h.near n hn
        have := ahd_lt n x
        omega
      have e1 : lowOf x (x :: l) = - ahd x b := by
        have hb := l2 b h.mem
        rw [hd b h.mem, ahd_self] at hb
        rcases l3 with h3 | ⟨n, hn, h3⟩
        · omega
        · rw [hd n hn] at h3
          have := h.near n hn
          omega
      have e2 : highOf x (x :: l) - lowOf x (x :: l) < 109 := by
        rcases g3 with h3 | ⟨n, hn, h3⟩
        · omega
        · rw [hd n hn] at h3
          have := h.near n hn
          omega
      have e3 : add16 x (lowOf x (x :: l)) = b := by
        obtain ⟨q, hq⟩ := ahd_add b x b
        rw [ahd_self] at hq
        have h5 : ahd b x = - ahd x b := by
          have := hd b h.mem
          rw [ahd_self] at this
          omega
        rw [e1, ← h5, add16_ahd]
      rw [cvOf_cons, if_neg (by omega), e3]
      unfold cvFrom
      obtain ⟨m2, t2, h6⟩ := fromL_total (m := Msk.zero) (t := false) h.near
      obtain ⟨q1, q2, q3⟩ := fromL_ok h6
      have ht : t2 = false := q3.2 ⟨rfl, h.nodup, fun n _ => Msk.has_zero _⟩
      subst ht
      rw [h6]
      have hm : m2 = m := Msk.ext_has fun i hi => by
        rw [Bool.eq_iff_iff, q2 i hi, h.has i hi, Msk.has_zero]
        simp
      rw [hm]
      simp
/-- The same numbers in another order. -/
theorem cvOf_perm {ns ns' : List UInt16} {b : UInt16} {m : Msk} (h : cvOf ns = .ok (b, m)) (hp : ns.Perm ns') : cvOf ns' = .ok (b, m) := by
  rw [cvOf_ok] at h ⊢
  exact ⟨hp.mem_iff.1 h.mem, fun n hn => h.near n (hp.mem_iff.2 hn), hp.nodup_iff.1 h.nodup, fun i hi => by
    rw [h.has i hi]
    constructor
    · rintro ⟨n, hn, e⟩; exact ⟨n, hp.mem_iff.1 hn, e⟩
    · rintro ⟨n, hn, e⟩; exact ⟨n, hp.mem_iff.2 hn, e⟩⟩
/-- A part of them. -/
theorem cvOf_sub {ns ns' : List UInt16} {b : UInt16} {m : Msk} (h : cvOf ns = .ok (b, m)) (hs : ns'.Sublist ns) (hne : ns' ≠ []) : ∃ b' m', cvOf ns' = .ok (b', m') := by
  rw [cvOf_ok] at h
  have hnd := h.nodup.sublist hs
  have hnear : ∀ n ∈ ns', 0 ≤ ahd n b ∧ ahd n b < 109 := fun n hn => h.near n (hs.subset hn)
  -- the least of them
  obtain ⟨b', hb', hmin⟩ : ∃ b' ∈ ns', ∀ n ∈ ns', ahd b' b ≤ ahd n b := by
    clear hnd hs h
    induction ns' with
    | nil => exact absurd rfl hne
    | cons x l ih =>
      by_cases hl : l = []
      · subst hl
        exact ⟨x, by simp, fun n hn => by simp at hn; subst hn; exact Int.le_refl _⟩
      · obtain ⟨y, hy, hm⟩ := ih hl (fun n hn => hnear n (by simp [hn]))
        by_cases hxy : ahd x b ≤ ahd y b
        · refine ⟨x, by simp, fun n hn => ?_⟩
          rcases List.mem_cons.1 hn with rfl | hn
          · exact Int.le_refl _
          · have := hm n hn; omega
        · refine ⟨y, by simp [hy], fun n hn => ?_⟩
          rcases List.mem_cons.1 hn with rfl | hn
          · omega
          · exact hm n hn
  have hn2 : ∀ n ∈ ns', 0 ≤ ahd n b' ∧ ahd n b' < 109 := fun n hn => by
    obtain ⟨q, hq⟩ := ahd_add n b b'
    obtain ⟨q2, hq2⟩ := ahd_add b b' b
    have h1 := hnear n hn
    have h2 := hnear b' hb'
    have h3 := hmin n hn
    have h4 := ahd_lt n b'
    have h5 := ahd_lt b b'
    rw [ahd_self] at hq2
    omega
  obtain ⟨m2, t2, h6⟩ := fromL_total (m := Msk.zero) (t := false) hn2
  obtain ⟨q1, q2, q3⟩ := fromL_ok h6
  refine ⟨b', m2, cvOf_ok.2 ⟨hb', hn2, hnd, fun i hi => ?_⟩⟩
  rw [q2 i hi, Msk.has_zero]
  simp
/-- How many there are. -/
theorem cvOf_count {ns : List UInt16} {b : UInt16} {m : Msk} (h : cvOf ns = .ok (b, m)) : m.list.length = ns.length ∧ (m.list.map fun i => add16 b (i : Nat)).Perm ns := by
  rw [cvOf_ok] at h
  have hperm : (m.list.map fun i => add16 b (i : Nat)).Perm ns := by
    refine (List.perm_ext_iff_of_nodup ?_ h.nodup).2 fun n => ?_
    · unfold Msk.list
      refine List.pairwise_map.2 (List.Pairwise.imp_of_mem ?_ ((List.nodup_range' (s := 0) (n := 128)).filter m.has))
      intro i j hi hj hne e
      refine hne ?_
      have h1 := Msk.list_lt (m := m) hi
      have h2 := Msk.list_lt (m := m) hj
      have : ahd (add16 b (i : Nat)) b = ahd (add16 b (j : Nat)) b := by rw [e]
      rw [ahd_add16 (by omega) (by omega), ahd_add16 (by omega) (by omega)] at this
      omega
    · rw [List.mem_map]
      constructor
      · rintro ⟨i, hi, rfl⟩
        have h1 := Msk.list_lt hi
        rw [Msk.mem_list, h.has i h1] at hi
        obtain ⟨k, hk, e⟩ := hi
        rw [← e, add16_ahd]
        exact hk
      · intro hn
        have h1 := h.near n hn
        refine ⟨(ahd n b).toNat, ?_, ?_⟩
        · rw [Msk.mem_list, h.has _ (by omega)]
          exact ⟨n, hn, by omega⟩
        · rw [show (((ahd n b).toNat : Nat) : Int) = ahd n b by omega, add16_ahd]
  exact ⟨by rw [← hperm.length_eq, List.length_map], hperm⟩
end Go.Proofs.Ytcmpjkopdjncdaa
