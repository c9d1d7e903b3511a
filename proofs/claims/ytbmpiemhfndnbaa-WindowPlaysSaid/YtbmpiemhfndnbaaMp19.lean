import Derived.Test.YtbmpiemhfndnbaaMp1
import Derived.Test.YtbmpiemhfndnbaaMp18
/- Numbers of 16 bits that go round: how far ahead, the least one, the span; the mask of how far numbers are ahead of a base. No program in sight. -/
namespace Go.Proofs.Ytbmpiemhfndnbaa

/-- By how much a is ahead of b. -/
def ahd (a b : UInt16) : Int := if (a - b).toNat < 32768 then ((a - b).toNat : Int) else ((a - b).toNat : Int) - 65536
theorem ahd_lt (a b : UInt16) : -32768 ≤ ahd a b ∧ ahd a b < 32768 := by
  have := (a - b).toNat_lt
  unfold ahd
  split <;> omega
theorem ahd_self (a : UInt16) : ahd a a = 0 := by
  unfold ahd
  simp
theorem sub_toNat (a b : UInt16) : (a - b).toNat = (a.toNat + 65536 - b.toNat) % 65536 := by
  have ha := a.toNat_lt; have hb := b.toNat_lt
  rw [UInt16.toNat_sub]
  omega
theorem ahd_def (a b : UInt16) : ahd a b = if ((a.toNat : Int) - b.toNat) % 65536 < 32768 then ((a.toNat : Int) - b.toNat) % 65536 else ((a.toNat : Int) - b.toNat) % 65536 - 65536 := by
  have ha := a.toNat_lt; have hb := b.toNat_lt
  unfold ahd
  rw [sub_toNat]
  have : (((a.toNat + 65536 - b.toNat) % 65536 : Nat) : Int) = ((a.toNat : Int) - b.toNat) % 65536 := by omega
  split <;> split <;> omega
/-- Differences: modulo 2^16 they add. -/
theorem ahd_add (a b c : UInt16) : ∃ k : Int, ahd a c = ahd a b + ahd b c + 65536 * k := by
  have ha := a.toNat_lt; have hb := b.toNat_lt; have hc := c.toNat_lt
  rw [ahd_def, ahd_def, ahd_def]
  refine ⟨(if ((a.toNat : Int) - c.toNat) % 65536 < 32768 then ((a.toNat : Int) - c.toNat) % 65536 else ((a.toNat : Int) - c.toNat) % 65536 - 65536) / 65536 - ((if ((a.toNat : Int) - b.toNat) % 65536 < 32768 then ((a.toNat : Int) - b.toNat) % 65536 else ((a.toNat : Int) - b.toNat) % 65536 - 65536) + (if ((b.toNat : Int) - c.toNat) % 65536 < 32768 then ((b.toNat : Int) - c.toNat) % 65536 else ((b.toNat : Int) - c.toNat) % 65536 - 65536)) / 65536, ?_⟩
  split <;> split <;> split <;> omega
theorem ahd_inj {a b c : UInt16} (h : ahd a c = ahd b c) : a = b := by
  have ha := a.toNat_lt; have hb := b.toNat_lt; have hc := c.toNat_lt
  rw [ahd_def, ahd_def] at h
  apply UInt16.toNat_inj.1
  split at h <;> split at h <;> omega
theorem add16_ahd (a b : UInt16) : add16 b (ahd a b) = a := by
  have ha := a.toNat_lt; have hb := b.toNat_lt
  apply UInt16.toNat_inj.1
  have := add16_nat b (ahd a b)
  rw [ahd_def] at this ⊢
  split at this <;> rename_i h <;> (try rw [if_pos h]) <;> (try rw [if_neg h]) <;> omega
theorem ahd_add16 {a : UInt16} {n : Int} (h0 : -32768 ≤ n) (h1 : n < 32768) : ahd (add16 a n) a = n := by
  have ha := a.toNat_lt
  have := add16_nat a n
  rw [ahd_def]
  split <;> omega

/-- The least and the greatest of how far numbers are ahead of the first one. -/
def lowOf (x : UInt16) (ns : List UInt16) : Int := ns.foldl (fun a n => min a (ahd n x)) 0
def highOf (x : UInt16) (ns : List UInt16) : Int := ns.foldl (fun a n => max a (ahd n x)) 0
theorem low_snoc (x : UInt16) (ns : List UInt16) (n : UInt16) : lowOf x (ns ++ [n]) = min (lowOf x ns) (ahd n x) := by simp [lowOf]
theorem high_snoc (x : UInt16) (ns : List UInt16) (n : UInt16) : highOf x (ns ++ [n]) = max (highOf x ns) (ahd n x) := by simp [highOf]
theorem min_fold (x : UInt16) : ∀ (ns : List UInt16) (z : Int), ns.foldl (fun a n => min a (ahd n x)) z ≤ z ∧ (∀ n ∈ ns, ns.foldl (fun a n => min a (ahd n x)) z ≤ ahd n x) ∧ (ns.foldl (fun a n => min a (ahd n x)) z = z ∨ ∃ n ∈ ns, ns.foldl (fun a n => min a (ahd n x)) z = ahd n x)
  | [], z => by simp
  | n :: l, z => by
    obtain ⟨h1, h2, h3⟩ := min_fold x l (min z (ahd n x))
    rw [List.foldl_cons]
    generalize l.foldl (fun a n => min a (ahd n x)) (min z (ahd n x)) = r at *
    refine ⟨by omega, ?_, ?_⟩
    · intro m hm
      rcases List.mem_cons.1 hm with rfl | hm
      · omega
      · exact h2 m hm
    · rcases h3 with h3 | ⟨m, hm, h3⟩
      · by_cases h : z ≤ ahd n x
        · exact .inl (by omega)
        · exact .inr ⟨n, by simp, by omega⟩
      · exact .inr ⟨m, by simp [hm], h3⟩
theorem max_fold (x : UInt16) : ∀ (ns : List UInt16) (z : Int), z ≤ ns.foldl (fun a n => max a (ahd n x)) z ∧ (∀ n ∈ ns, ahd n x ≤ ns.foldl (fun a n => max a (ahd n x)) z) ∧ (ns.foldl (fun a n => max a (ahd n x)) z = z ∨ ∃ n ∈ ns, ns.foldl (fun a n => max a (ahd n x)) z = ahd n x)
  | [], z => by simp
  | n :: l, z => by
    obtain ⟨h1, h2, h3⟩ := max_fold x l (max z (ahd n x))
    rw [List.foldl_cons]
    generalize l.foldl (fun a n => max a (ahd n x)) (max z (ahd n x)) = r at *
    refine ⟨by omega, ?_, ?_⟩
    · intro m hm
      rcases List.mem_cons.1 hm with rfl | hm
      · omega
      · exact h2 m hm
    · rcases h3 with h3 | ⟨m, hm, h3⟩
      · by_cases h : ahd n x ≤ z
        · exact .inl (by omega)
        · exact .inr ⟨n, by simp, by omega⟩
      · exact .inr ⟨m, by simp [hm], h3⟩
theorem low_spec (x : UInt16) (ns : List UInt16) : lowOf x ns ≤ 0 ∧ (∀ n ∈ ns, lowOf x ns ≤ ahd n x) ∧ (lowOf x ns = 0 ∨ ∃ n ∈ ns, lowOf x ns = ahd n x) := min_fold x ns 0
theorem high_spec (x : UInt16) (ns : List UInt16) : 0 ≤ highOf x ns ∧ (∀ n ∈ ns, ahd n x ≤ highOf x ns) ∧ (highOf x ns = 0 ∨ ∃ n ∈ ns, highOf x ns = ahd n x) := max_fold x ns 0
theorem low_bd (x : UInt16) (ns : List UInt16) : -32768 ≤ lowOf x ns ∧ lowOf x ns ≤ 0 ∧ 0 ≤ highOf x ns ∧ highOf x ns < 32768 := by
  obtain ⟨h1, h2, h3⟩ := low_spec x ns
  obtain ⟨g1, g2, g3⟩ := high_spec x ns
  refine ⟨?_, h1, g1, ?_⟩
  · rcases h3 with h | ⟨n, _, h⟩
    · omega
    · have := ahd_lt n x; omega
  · rcases g3 with h | ⟨n, _, h⟩
    · omega
    · have := ahd_lt n x; omega

/-- The mask of how far numbers are ahead of a base; has one come twice? -/
def fromL (base : UInt16) : List UInt16 → Msk → Bool → Except Int (Msk × Bool)
  | [], m, t => .ok (m, t)
  | n :: l, m, t => if ahd n base < 0 ∨ 109 ≤ ahd n base then .error 31 else fromL base l (m.or (Msk.bit (ahd n base).toNat)) (t || m.has (ahd n base).toNat)
def cvFrom (base : UInt16) (ns : List UInt16) : Except Int Msk :=
  match fromL base ns Msk.zero false with
  | .error k => .error k
  | .ok (m, t) => if ns = [] then .error 4 else if t then .error 5 else .ok m
theorem fromL_append (base : UInt16) : ∀ (l l' : List UInt16) (m : Msk) (t : Bool), fromL base (l ++ l') m t = match fromL base l m t with | .error k => .error k | .ok (m', t') => fromL base l' m' t'
  | [], _, _, _ => rfl
  | n :: l, l', m, t => by
    show (if ahd n base < 0 ∨ 109 ≤ ahd n base then .error 31 else fromL base (l ++ l') (m.or (Msk.bit (ahd n base).toNat)) (t || m.has (ahd n base).toNat)) = match (if ahd n base < 0 ∨ 109 ≤ ahd n base then .error 31 else fromL base l (m.or (Msk.bit (ahd n base).toNat)) (t || m.has (ahd n base).toNat) : Except Int (Msk × Bool)) with | .error k => .error k | .ok (m', t') => fromL base l' m' t'
    by_cases h : ahd n base < 0 ∨ 109 ≤ ahd n base
    · rw [if_pos h, if_pos h]
    · rw [if_neg h, if_neg h]
      exact fromL_append base l l' _ _
/-- Where all are near: what the mask has. -/
theorem fromL_ok {base : UInt16} : ∀ {l : List UInt16} {m m' : Msk} {t t' : Bool}, fromL base l m t = .ok (m', t') → (∀ n ∈ l, 0 ≤ ahd n base ∧ ahd n base < 109) ∧
    (∀ i, i < 128 → (m'.has i = true ↔ m.has i = true ∨ ∃ n ∈ l, ahd n base = i)) ∧ (t' = false ↔ t = false ∧ l.Nodup ∧ ∀ n ∈ l, m.has (ahd n base).toNat = false)
  | [], m, m', t, t', h => by
    simp only [fromL, Except.ok.injEq, Prod.mk.injEq] at h
    obtain ⟨rfl, rfl⟩ := h
    simp
  | n :: l, m, m', t, t', h => by
    unfold fromL at h
    split at h
    · cases h
    · rename_i hn
      obtain ⟨g1, g2, g3⟩ := fromL_ok h
      have h0 : 0 ≤ ahd n base ∧ ahd n base < 109 := by omega
      have hlt : (ahd n base).toNat < 128 := by omega
      refine ⟨?_, ?_, ?_⟩
      · intro k hk
        rcases List.mem_cons.1 hk with rfl | hk
        · exact h0
        · exact g1 k hk
      · intro i hi
        rw [g2 i hi, Msk.has_or, Msk.has_bit hlt]
        constructor
        · rintro (h | ⟨k, hk, h⟩)
          · rw [Bool.or_eq_true] at h
            rcases h with h | h
            · exact .inl h
            · refine .inr ⟨n, by simp, ?_⟩
              have : i = (ahd n base).toNat := by simpa using h
              omega
          · exact .inr ⟨k, by simp [hk], h⟩
        · rintro (h | ⟨k, hk, h⟩)
          · exact .inl (by rw [h]; rfl)
          · rcases List.mem_cons.1 hk with rfl | hk
            · refine .inl ?_
              rw [Bool.or_eq_true]
              right
              simp
              omega
            · exact .inr ⟨k, hk, h⟩
      · rw [g3, Bool.or_eq_false_iff, List.nodup_cons]
        constructor
        · rintro ⟨⟨a1, a2⟩, a3, a4⟩
          refine ⟨a1, ⟨fun hm => ?_, a3⟩, ?_⟩
          · have := a4 n hm
            rw [Msk.has_or, Msk.has_bit hlt] at this
            simp at this
          · intro k hk
            rcases List.mem_cons.1 hk with rfl | hk
            · exact a2
            · have := a4 k hk
              rw [Msk.has_or, Bool.or_eq_false_iff] at this
              exact this.1
        · rintro ⟨a1, ⟨a2, a3⟩, a4⟩
          refine ⟨⟨a1, a4 n (by simp)⟩, a3, ?_⟩
          intro k hk
          rw [Msk.has_or, Msk.has_bit hlt, a4 k (by simp [hk])]
          have hne : ahd k base ≠ ahd n base := fun e => a2 (by rw [← ahd_inj e]; exact hk)
          have := g1 k hk
          have : ¬ (ahd k base).toNat = (ahd n base).toNat := by omega
          simpa using this
theorem fromL_total {base : UInt16} : ∀ {l : List UInt16} {m : Msk} {t : Bool}, (∀ n ∈ l, 0 ≤ ahd n base ∧ ahd n base < 109) → ∃ m' t', fromL base l m t = .ok (m', t')
  | [], m, t, _ => ⟨m, t, rfl⟩
  | n :: l, m, t, h => by
    have h0 := h n (by simp)
    unfold fromL
    rw [if_neg (by omega)]
    exact fromL_total (fun k hk => h k (by simp [hk]))
/-- What Of answers. -/
def cvOf : List UInt16 → Except Int (UInt16 × Msk)
  | [] => .error 4
  | x :: l => if 109 ≤ highOf x (x :: l) - lowOf x (x :: l) then .error 31 else
    match cvFrom (add16 x (lowOf x (x :: l))) (x :: l) with
    | .error k => .error k
    | .ok m => .ok (add16 x (lowOf x (x :: l)), m)
theorem cvOf_cons (x : UInt16) (l : List UInt16) : cvOf (x :: l) = if 109 ≤ highOf x (x :: l) - lowOf x (x :: l) then .error 31 else match cvFrom (add16 x (lowOf x (x :: l))) (x :: l) with | .error k => .error k | .ok m => .ok (add16 x (lowOf x (x :: l)), m) := rfl
/-- Numbers that are near each other, each once; the least is base. -/
structure Near (ns : List UInt16) (base : UInt16) (m : Msk) : Prop where
  mem : base ∈ ns
  near : ∀ n ∈ ns, 0 ≤ ahd n base ∧ ahd n base < 109
  nodup : ns.Nodup
  has : ∀ i, i < 128 → (m.has i = true ↔ ∃ n ∈ ns, ahd n base = i)
theorem Near.one {ns ns' : List UInt16} {b b' : UInt16} {m m' : Msk} (h : Near ns b m) (k : Near ns' b' m') (hp : ∀ n, n ∈ ns ↔ n ∈ ns') : b = b' ∧ m = m' := by
  have e : b = b' := by
    have h1 := h.near b' ((hp b').2 k.mem)
    have h2 := k.near b ((hp b).1 h.mem)
    obtain ⟨q, hq⟩ := ahd_add b b' b
    rw [ahd_self] at hq
    exact ahd_inj (c := b') (by rw [ahd_self]; omega)
  subst e
  refine ⟨rfl, Msk.ext_has fun i hi => ?_⟩
  rw [Bool.eq_iff_iff, h.has i hi, k.has i hi]
  constructor
  · rintro ⟨n, hn, e⟩; exact ⟨n, (hp n).1 hn, e⟩
  · rintro ⟨n, hn, e⟩; exact ⟨n, (hp n).2 hn, e⟩
theorem cvOf_ok {ns : List UInt16} {b : UInt16} {m : Msk} : cvOf ns = .ok (b, m) ↔ Near ns b m := by
  cases ns with
  | nil =>
    constructor
    · intro h; cases h
    · intro h; cases h.mem
  | cons x l =>
    obtain ⟨l1, l2, l3⟩ := low_spec x (x :: l)
    obtain ⟨g1, g2, g3⟩ := high_spec x (x :: l)
    have lb := low_bd x (x :: l)
    have hmem : add16 x (lowOf x (x :: l)) ∈ x :: l := by
      rcases l3 with h | ⟨n, hn, h⟩
      · rw [h, ← ahd_self x, add16_ahd]; simp
      · rw [h, add16_ahd]; exact hn
    constructor
    · intro h
      rw [cvOf_cons] at h
      split at h
      · cases h
      unfold cvFrom at h
      generalize add16 x (lowOf x (x :: l)) = base at *
      split at h
      · cases h
      rename_i h2
      split at h2
      · cases h2
      rename_i m2 t2 h3
      rw [if_neg (by simp)] at h2
      split at h2
      · cases h2
      rename_i ht
      cases h2
      cases h
      obtain ⟨q1, q2, q3⟩ := fromL_ok h3
      refine ⟨hmem, q1, (q3.1 (by simpa using ht)).2.1, fun i hi => ?_⟩
      rw [q2 i hi, Msk.has_zero]
      simp
    · intro h
      -- x = base + d, all lie between 0 and 109
      have hx := h.near x (by simp)
      have hd : ∀ n ∈ x :: l, ahd n x = ahd n b - ahd x b := fun n hn => by
        obtain ⟨q, hq⟩ := ahd_add n x b
        have := h.near n hn
        have := ahd_lt n x
        omega
      have e1 : lowOf x (x :: l) = - ahd x b := by
        have hb := l2 b h.mem
        rw [hd b h.mem, ahd_self] at hb
        rcases l3 with h3 | ⟨n, hn, h3⟩
        · omega
        · rw [hd n hn] at h3
          have := h.near n hn
          omega
      have e2 : highOf x (x :: l) - lowOf x (x :: l) < 109 := by
        rcases g3 with h3 | ⟨n, hn, h3⟩
        · omega
        · rw [hd n hn] at h3
          have := h.near n hn
          omega
      have e3 : add16 x (lowOf x (x :: l)) = b := by
        obtain ⟨q, hq⟩ := ahd_add b x b
        rw [ahd_self] at hq
        have h5 : ahd b x = - ahd x b := by
          have := hd b h.mem
          rw [ahd_self] at this
          omega
        rw [e1, ← h5, add16_ahd]
      rw [cvOf_cons, if_neg (by omega), e3]
      unfold cvFrom
      obtain ⟨m2, t2, h6⟩ := fromL_total (m := Msk.zero) (t := false) h.near
      obtain ⟨q1, q2, q3⟩ := fromL_ok h6
      have ht : t2 = false := q3.2 ⟨rfl, h.nodup, fun n _ => Msk.has_zero _⟩
      subst ht
      rw [h6]
      have hm : m2 = m := Msk.ext_has fun i hi => by
        rw [Bool.eq_iff_iff, q2 i hi, h.has i hi, Msk.has_zero]
        simp
      rw [hm]
      simp
/-- The same numbers in another order. -/
theorem cvOf_perm {ns ns' : List UInt16} {b : UInt16} {m : Msk} (h : cvOf ns = .ok (b, m)) (hp : ns.Perm ns') : cvOf ns' = .ok (b, m) := by
  rw [cvOf_ok] at h ⊢
  exact ⟨hp.mem_iff.1 h.mem, fun n hn => h.near n (hp.mem_iff.2 hn), hp.nodup_iff.1 h.nodup, fun i hi => by
    rw [h.has i hi]
    constructor
    · rintro ⟨n, hn, e⟩; exact ⟨n, hp.mem_iff.1 hn, e⟩
    · rintro ⟨n, hn, e⟩; exact ⟨n, hp.mem_iff.2 hn, e⟩⟩
/-- A part of them. -/
theorem cvOf_sub {ns ns' : List UInt16} {b : UInt16} {m : Msk} (h : cvOf ns = .ok (b, m)) (hs : ns'.Sublist ns) (hne : ns' ≠ []) : ∃ b' m', cvOf ns' = .ok (b', m') := by
  rw [cvOf_ok] at h
  have hnd := h.nodup.sublist hs
  have hnear : ∀ n ∈ ns', 0 ≤ ahd n b ∧ ahd n b < 109 := fun n hn => h.near n (hs.subset hn)
  -- the least of them
  obtain ⟨b', hb', hmin⟩ : ∃ b' ∈ ns', ∀ n ∈ ns', ahd b' b ≤ ahd n b := by
    clear hnd hs h
    induction ns' with
    | nil => exact absurd rfl hne
    | cons x l ih =>
      by_cases hl : l = []
      · subst hl
        exact ⟨x, by simp, fun n hn => by simp at hn; subst hn; exact Int.le_refl _⟩
      · obtain ⟨y, hy, hm⟩ := ih hl (fun n hn => hnear n (by simp [hn]))
        by_cases hxy : ahd x b ≤ ahd y b
        · refine ⟨x, by simp, fun n hn => ?_⟩
          rcases List.mem_cons.1 hn with rfl | hn
          · exact Int.le_refl _
          · have := hm n hn; omega
        · refine ⟨y, by simp [hy], fun n hn => ?_⟩
          rcases List.mem_cons.1 hn with rfl | hn
          · omega
          · exact hm n hn
  have hn2 : ∀ n ∈ ns', 0 ≤ ahd n b' ∧ ahd n b' < 109 := fun n hn => by
    obtain ⟨q, hq⟩ := ahd_add n b b'
    obtain ⟨q2, hq2⟩ := ahd_add b b' b
    have h1 := hnear n hn
    have h2 := hnear b' hb'
    have h3 := hmin n hn
    have h4 := ahd_lt n b'
    have h5 := ahd_lt b b'
    rw [ahd_self] at hq2
    omega
  obtain ⟨m2, t2, h6⟩ := fromL_total (m := Msk.zero) (t := false) hn2
  obtain ⟨q1, q2, q3⟩ := fromL_ok h6
  refine ⟨b', m2, cvOf_ok.2 ⟨hb', hn2, hnd, fun i hi => ?_⟩⟩
  rw [q2 i hi, Msk.has_zero]
  simp
/-- How many there are. -/
theorem cvOf_count {ns : List UInt16} {b : UInt16} {m : Msk} (h : cvOf ns = .ok (b, m)) : m.list.length = ns.length ∧ (m.list.map fun i => add16 b (i : Nat)).Perm ns := by
  rw [cvOf_ok] at h
  have hperm : (m.list.map fun i => add16 b (i : Nat)).Perm ns := by
    refine (List.perm_ext_iff_of_nodup ?_ h.nodup).2 fun n => ?_
    · unfold Msk.list
      refine List.pairwise_map.2 (List.Pairwise.imp_of_mem ?_ ((List.nodup_range' (s := 0) (n := 128)).filter m.has))
      intro i j hi hj hne e
      refine hne ?_
      have h1 := Msk.list_lt (m := m) hi
      have h2 := Msk.list_lt (m := m) hj
      have : ahd (add16 b (i : Nat)) b = ahd (add16 b (j : Nat)) b := by rw [e]
      rw [ahd_add16 (by omega) (by omega), ahd_add16 (by omega) (by omega)] at this
      omega
    · rw [List.mem_map]
      constructor
      · rintro ⟨i, hi, rfl⟩
        have h1 := Msk.list_lt hi
        rw [Msk.mem_list, h.has i h1] at hi
        obtain ⟨k, hk, e⟩ := hi
        rw [← e, add16_ahd]
        exact hk
      · intro hn
        have h1 := h.near n hn
        refine ⟨(ahd n b).toNat, ?_, ?_⟩
        · rw [Msk.mem_list, h.has _ (by omega)]
          exact ⟨n, hn, by omega⟩
        · rw [show (((ahd n b).toNat : Nat) : Int) = ahd n b by omega, add16_ahd]
  exact ⟨by rw [← hperm.length_eq, List.length_map], hperm⟩
end Go.Proofs.Ytbmpiemhfndnbaa

/- Windows: things by their numbers, rising; what is put, what is due, what comes out. No program in sight. -/
namespace Go.Proofs.Ytbmpiemhfndnbaa

/-- A thing that is held: its number, the thing, when it came. -/
structure Held_ where
  n : Int
  x : Int
  at_ : Int
/-- A window; hi: the highest number, if there was one. -/
structure Win where
  size : Int
  wait : Int
  hi : Option Int
  next : Int
  now : Int
  all : List Held_
def clip (lo hi x : Int) : Int := min (max x lo) hi
def Win.new (size wait : Int) : Win := ⟨clip 1 64 size, clip 0 50 wait, none, 0, 0, []⟩
def tickT (t now : Int) : Int := max t (min now 1099511627776)
def Win.tick (s : Win) (now : Int) : Win := { s with now := tickT s.now now }
def peekW (hi : Option Int) (q : UInt16) : Int := match hi with
  | none => 4294967296 + (q.toNat : Int)
  | some h => h + ahd q (UInt16.ofNat (h % 65536).toNat)
def insW (o : Held_) : List Held_ → List Held_
  | [] => [o]
  | p :: l => if p.n > o.n then o :: p :: l else p :: insW o l
/-- What a thing that is put does: the window behind it, what is let go, the error's number. -/
def Win.put (s : Win) (q : UInt16) (x now : Int) : Win × List Held_ × Int :=
  let s := s.tick now
  let n := peekW s.hi q
  if s.hi.isSome ∧ n < s.next then (s, [], 50)
  else if s.all.any (fun o => o.n == n) then (s, [], 5)
  else
    let hi := match s.hi with | none => n | some h => max h n
    let next0 := match s.hi with | none => n | some _ => s.next
    let next := if n ≥ next0 + s.size then n - s.size + 1 else next0
    (⟨s.size, s.wait, some hi, next, s.now, insW ⟨n, x, s.now⟩ (s.all.filter fun o => !(o.n < next))⟩, s.all.filter fun o => o.n < next, 0)
def dueL (wait : Int) : List Held_ → Option Int
  | [] => none
  | o :: l => match dueL wait l with | none => some (o.at_ + wait) | some d => some (min (o.at_ + wait) d)
/-- What comes out, what stays, the next number. -/
def relL (wait now : Int) : Int → List Held_ → List Held_ × List Held_ × Int
  | next, [] => ([], [], next)
  | next, o :: l =>
    if o.n = next then let r := relL wait now (next + 1) l; (o :: r.1, r.2)
    else match dueL wait (o :: l) with
      | none => ([], o :: l, next)
      | some d => if d > now then ([], o :: l, next) else let r := relL wait now (o.n + 1) l; (o :: r.1, r.2)
def Win.release (s : Win) (now : Int) : Win × List Held_ :=
  let s := s.tick now
  let r := relL s.wait s.now s.next s.all
  ({ s with all := r.2.1, next := r.2.2 }, r.1)

/-- What windows keep to; c: a bound on how far numbers have come. -/
structure WInv (c : Nat) (s : Win) : Prop where
  size : 1 ≤ s.size ∧ s.size ≤ 64
  wait : 0 ≤ s.wait ∧ s.wait ≤ 50
  now : 0 ≤ s.now ∧ s.now ≤ 1099511627776
  sorted : s.all.Pairwise fun a b => a.n < b.n
  old : s.hi = none → s.all = [] ∧ s.next = 0
  hi : ∀ h, s.hi = some h → 4294967296 ≤ h ∧ h ≤ 4295032832 + 32768 * c ∧ 4294967296 ≤ s.next ∧ s.next ≤ h + 1 ∧ h < s.next + s.size ∧ ∀ o ∈ s.all, o.n ≤ h
  low : ∀ o ∈ s.all, s.next ≤ o.n
  time : ∀ o ∈ s.all, 0 ≤ o.at_ ∧ o.at_ ≤ s.now
theorem clip_in {lo hi x : Int} (h : lo ≤ hi) : lo ≤ clip lo hi x ∧ clip lo hi x ≤ hi := by unfold clip; omega
theorem WInv.new (size wait : Int) : WInv 0 (Win.new size wait) where
  size := clip_in (by omega)
  wait := clip_in (by omega)
  now := ⟨by show (0 : Int) ≤ 0; omega, by show (0 : Int) ≤ _; omega⟩
  sorted := List.Pairwise.nil
  old := fun _ => ⟨rfl, rfl⟩
  hi := fun h e => by cases e
  low := fun o h => by cases h
  time := fun o h => by cases h
theorem tickT_in {t now : Int} (h : 0 ≤ t ∧ t ≤ 1099511627776) : 0 ≤ tickT t now ∧ tickT t now ≤ 1099511627776 ∧ t ≤ tickT t now := by unfold tickT; omega
theorem WInv.tick {c : Nat} {s : Win} (h : WInv c s) (now : Int) : WInv c (s.tick now) := by
  have ht := tickT_in h.now (now := now)
  exact ⟨h.size, h.wait, ⟨ht.1, ht.2.1⟩, h.sorted, h.old, h.hi, h.low, fun o ho => ⟨(h.time o ho).1, Int.le_trans (h.time o ho).2 ht.2.2⟩⟩
theorem WInv.mono {c d : Nat} {s : Win} (h : WInv c s) (hd : c ≤ d) : WInv d s :=
  ⟨h.size, h.wait, h.now, h.sorted, h.old, fun k e => by have := h.hi k e; refine ⟨this.1, by omega, this.2.2⟩, h.low, h.time⟩

theorem mem_insW {o p : Held_} : ∀ {l : List Held_}, p ∈ insW o l ↔ p = o ∨ p ∈ l
  | [] => by simp [insW]
  | q :: l => by
    unfold insW
    split
    · simp
    · rw [List.mem_cons, mem_insW, List.mem_cons]
      exact ⟨fun h => by rcases h with h | h | h <;> simp [h], fun h => by rcases h with h | h | h <;> simp [h]⟩
theorem length_insW (o : Held_) : ∀ (l : List Held_), (insW o l).length = l.length + 1
  | [] => rfl
  | q :: l => by
    unfold insW
    split
    · rfl
    · rw [List.length_cons, length_insW o l, List.length_cons]
theorem sorted_insW {o : Held_} : ∀ {l : List Held_}, l.Pairwise (fun a b => a.n < b.n) → (∀ p ∈ l, p.n ≠ o.n) → (insW o l).Pairwise fun a b => a.n < b.n
  | [], _, _ => by simp [insW]
  | q :: l, h, hn => by
    have hq := List.pairwise_cons.1 h
    have hqn := hn q (by simp)
    unfold insW
    split
    · rename_i hlt
      refine List.pairwise_cons.2 ⟨fun p hp => ?_, h⟩
      rcases List.mem_cons.1 hp with rfl | hp
      · exact hlt
      · have := hq.1 p hp; omega
    · rename_i hlt
      refine List.pairwise_cons.2 ⟨fun p hp => ?_, sorted_insW hq.2 (fun p hp => hn p (by simp [hp]))⟩
      rcases mem_insW.1 hp with rfl | hp
      · omega
      · exact hq.1 p hp
theorem any_n {l : List Held_} {n : Int} : l.any (fun o => o.n == n) = true ↔ ∃ o ∈ l, o.n = n := by simp
theorem peekW_some {h : Int} {q : UInt16} : h - 32768 ≤ peekW (some h) q ∧ peekW (some h) q < h + 32768 := by
  have := ahd_lt q (UInt16.ofNat (h % 65536).toNat)
  show h - 32768 ≤ h + _ ∧ h + _ < h + 32768
  omega
/-- A number that doesn't go round is the number, modulo 2^16. -/
theorem peekW_mod {hi : Option Int} {q : UInt16} : (peekW hi q) % 65536 = q.toNat := by
  have hq := q.toNat_lt
  cases hi with
  | none => show (4294967296 + (q.toNat : Int)) % 65536 = _; omega
  | some h =>
    show (h + ahd q (UInt16.ofNat (h % 65536).toNat)) % 65536 = _
    have h1 : ((UInt16.ofNat (h % 65536).toNat).toNat : Int) = h % 65536 := by rw [UInt16.toNat_ofNat']; omega
    rw [ahd_def, h1]
    split <;> omega
/-- A thing that is put keeps the window what it is. -/
theorem WInv.put {c : Nat} {s : Win} (h : WInv c s) (q : UInt16) (x now : Int) : WInv (c + 1) (s.put q x now).1 := by
  have ht := h.tick now
  unfold Win.put
  simp only
  generalize s.tick now = s at ht ⊢
  clear h
  obtain ⟨size, wait, hi, next, now, all⟩ := s
  obtain ⟨h1, h2, h3, h4, h5, h6, h7, h8⟩ := ht
  simp only at h1 h2 h3 h4 h5 h6 h7 h8 ⊢
  split
  · exact ⟨h1, h2, h3, h4, h5, fun k e => by have := h6 k e; exact ⟨this.1, by omega, this.2.2⟩, h7, h8⟩
  rename_i hold
  split
  · exact ⟨h1, h2, h3, h4, h5, fun k e => by have := h6 k e; exact ⟨this.1, by omega, this.2.2⟩, h7, h8⟩
  rename_i htw
  have htw2 : ∀ o ∈ all, o.n ≠ peekW hi q := fun o ho e => htw (any_n.2 ⟨o, ho, e⟩)
  cases hi with
  | none =>
    obtain ⟨rfl, rfl⟩ := h5 rfl
    have hq := q.toNat_lt
    have hp : peekW none q = 4294967296 + (q.toNat : Int) := rfl
    simp only [hp]
    rw [if_neg (by omega)]
    refine ⟨h1, h2, h3, by simp [insW], fun e => (by cases e), fun k e => ?_, fun o ho => ?_, fun o ho => ?_⟩
    · cases e
      dsimp only
      refine ⟨by omega, by omega, by omega, by omega, by omega, fun o ho => ?_⟩
      simp [insW] at ho
      subst ho
      simp
    · simp [insW] at ho; subst ho; simp
    · simp [insW] at ho; subst ho; exact ⟨h3.1, Int.le_refl _⟩
  | some k =>
    obtain ⟨g1, g2, g3, g4, g5, g6⟩ := h6 k rfl
    have hp := peekW_some (h := k) (q := q)
    have hold2 : ¬ peekW (some k) q < next := fun e => hold ⟨rfl, e⟩
    generalize peekW (some k) q = n at *
    simp only
    generalize hnx : (if n ≥ next + size then n - size + 1 else next) = nx
    have hnx2 : next ≤ nx ∧ nx ≤ n ∧ n < nx + size ∧ (nx = next ∨ nx = n - size + 1) := by split at hnx <;> omega
    refine ⟨h1, h2, h3, sorted_insW (h4.filter _) (fun p hp => htw2 p (List.mem_filter.1 hp).1), fun e => (by cases e), fun k' e => ?_, fun o ho => ?_, fun o ho => ?_⟩
    · cases e
      dsimp only
      refine ⟨by omega, by omega, by omega, by omega, by omega, fun o ho => ?_⟩
      rcases mem_insW.1 ho with rfl | ho
      · show n ≤ max k n; omega
      · have := g6 o (List.mem_filter.1 ho).1; omega
    · rcases mem_insW.1 ho with rfl | ho
      · show nx ≤ n; omega
      · have := (List.mem_filter.1 ho).2; simp at this; exact this
    · rcases mem_insW.1 ho with rfl | ho
      · exact ⟨h3.1, Int.le_refl _⟩
      · exact h8 o (List.mem_filter.1 ho).1
theorem dueL_none {wait : Int} : ∀ {l : List Held_}, dueL wait l = none ↔ l = []
  | [] => by simp [dueL]
  | o :: l => by unfold dueL; split <;> simp
theorem dueL_le {wait d : Int} : ∀ {l : List Held_}, dueL wait l = some d → ∀ o ∈ l, d ≤ o.at_ + wait
  | [], h, _, _ => by cases h
  | o :: l, h, p, hp => by
    unfold dueL at h
    split at h
    · rename_i hn
      have := dueL_none.1 hn
      subst this
      cases h
      simp at hp; subst hp; exact Int.le_refl _
    · rename_i e he
      cases h
      rcases List.mem_cons.1 hp with rfl | hp
      · omega
      · have := dueL_le he p hp; omega
theorem dueL_mem {wait d : Int} : ∀ {l : List Held_}, dueL wait l = some d → ∃ o ∈ l, d = o.at_ + wait
  | [], h => by cases h
  | o :: l, h => by
    unfold dueL at h
    split at h
    · cases h; exact ⟨o, by simp, rfl⟩
    · rename_i e he
      cases h
      obtain ⟨p, hp, hd⟩ := dueL_mem he
      by_cases hc : o.at_ + wait ≤ e
      · exact ⟨o, by simp, by omega⟩
      · exact ⟨p, by simp [hp], by omega⟩
/-- What is due, however it was reckoned. -/
theorem dueL_of {wait d : Int} {l : List Held_} (h1 : ∀ o ∈ l, d ≤ o.at_ + wait) (h2 : ∃ o ∈ l, d = o.at_ + wait) : dueL wait l = some d := by
  cases h : dueL wait l with
  | none => rw [dueL_none] at h; subst h; obtain ⟨o, ho, -⟩ := h2; cases ho
  | some e =>
    obtain ⟨o, ho, hd⟩ := h2
    obtain ⟨p, hp, he⟩ := dueL_mem h
    have := dueL_le h o ho
    have := h1 p hp
    congr 1
    omega
/-- What comes out, then what stays, is what was there; what stays is not yet due. -/
theorem relL_spec (wait now : Int) : ∀ (next : Int) (l : List Held_), l.Pairwise (fun a b => a.n < b.n) → (∀ o ∈ l, next ≤ o.n) →
    (relL wait now next l).1 ++ (relL wait now next l).2.1 = l ∧ next ≤ (relL wait now next l).2.2 ∧ (∀ o ∈ (relL wait now next l).2.1, (relL wait now next l).2.2 ≤ o.n) ∧
    (∀ d, dueL wait (relL wait now next l).2.1 = some d → now < d) ∧ ((relL wait now next l).2.2 = next ∨ ∃ o ∈ l, (relL wait now next l).2.2 = o.n + 1)
  | next, [], _, _ => by simp [relL, dueL]
  | next, o :: l, hs, hl => by
    have hs2 := List.pairwise_cons.1 hs
    unfold relL
    split
    · rename_i he
      obtain ⟨h1, h2, h3, h4, h5⟩ := relL_spec wait now (next + 1) l hs2.2 (fun p hp => by have := hs2.1 p hp; omega)
      simp only
      refine ⟨by rw [List.cons_append, h1], by omega, h3, h4, ?_⟩
      rcases h5 with h5 | ⟨p, hp, h5⟩
      · exact .inr ⟨o, by simp, by omega⟩
      · exact .inr ⟨p, by simp [hp], h5⟩
    · rename_i he
      split
      · rename_i hd
        rw [dueL_none] at hd
        cases hd
      · rename_i d hd
        split
        · rename_i hgt
          exact ⟨rfl, Int.le_refl _, hl, fun e h => by simp only at h; rw [hd] at h; cases h; exact hgt, .inl rfl⟩
        · have hon := hl o (by simp)
          obtain ⟨h1, h2, h3, h4, h5⟩ := relL_spec wait now (o.n + 1) l hs2.2 (fun p hp => by have := hs2.1 p hp; omega)
          simp only
          refine ⟨by rw [List.cons_append, h1], by omega, h3, h4, ?_⟩
          rcases h5 with h5 | ⟨p, hp, h5⟩
          · exact .inr ⟨o, by simp, h5⟩
          · exact .inr ⟨p, by simp [hp], h5⟩
theorem WInv.release {c : Nat} {s : Win} (h : WInv c s) (now : Int) : WInv c (s.release now).1 := by
  have ht := h.tick now
  unfold Win.release
  simp only
  generalize s.tick now = s at ht ⊢
  clear h
  obtain ⟨h1, h2, h3, h4, h5⟩ := relL_spec s.wait s.now s.next s.all ht.sorted ht.low
  have hm : ∀ o ∈ (relL s.wait s.now s.next s.all).2.1, o ∈ s.all := fun o ho => by rw [← h1]; simp [ho]
  have hsrt := ht.sorted
  rw [← h1] at hsrt
  refine ⟨ht.size, ht.wait, ht.now, (List.pairwise_append.1 hsrt).2.1, fun e => ?_, fun k e => ?_, h3, fun o ho => ht.time o (hm o ho)⟩
  · obtain ⟨e1, e2⟩ := ht.old e
    refine ⟨List.eq_nil_iff_forall_not_mem.2 (fun o ho => by have h9 := hm o ho; rw [e1] at h9; cases h9), ?_⟩
    rcases h5 with h5 | ⟨o, ho, -⟩
    · exact h5.trans e2
    · rw [e1] at ho; cases ho
  · obtain ⟨g1, g2, g3, g4, g5, g6⟩ := ht.hi k e
    refine ⟨g1, g2, by show 4294967296 ≤ (relL s.wait s.now s.next s.all).2.2; omega, ?_, by show k < (relL s.wait s.now s.next s.all).2.2 + s.size; omega, fun o ho => g6 o (hm o ho)⟩
    show (relL s.wait s.now s.next s.all).2.2 ≤ k + 1
    rcases h5 with h5 | ⟨o, ho, h5⟩
    · omega
    · have := g6 o ho; omega
theorem len_span : ∀ (l : List Held_) (a b : Int), l.Pairwise (fun p q => p.n < q.n) → (∀ o ∈ l, a ≤ o.n ∧ o.n ≤ b) → a ≤ b + 1 → (l.length : Int) ≤ b + 1 - a
  | [], a, b, _, _, h => by simp; omega
  | o :: l, a, b, hs, hl, h => by
    have hs2 := List.pairwise_cons.1 hs
    have ho := hl o (by simp)
    have := len_span l (o.n + 1) b hs2.2 (fun p hp => ⟨by have := hs2.1 p hp; omega, (hl p (by simp [hp])).2⟩) (by omega)
    rw [List.length_cons]
    omega
theorem WInv.len {c : Nat} {s : Win} (h : WInv c s) : (s.all.length : Int) ≤ s.size := by
  cases hh : s.hi with
  | none => rw [(h.old hh).1]; have := h.size; simp; omega
  | some k =>
    obtain ⟨g1, g2, g3, g4, g5, g6⟩ := h.hi k hh
    have := len_span s.all s.next k h.sorted (fun o ho => ⟨h.low o ho, g6 o ho⟩) (by omega)
    omega
end Go.Proofs.Ytbmpiemhfndnbaa
