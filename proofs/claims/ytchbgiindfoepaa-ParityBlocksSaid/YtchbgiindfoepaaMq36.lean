import Derived.Test.YtchbgiindfoepaaMq34
import Derived.Test.YtchbgiindfoepaaMq35
import Derived.Test.YtchbgiindfoepaaMq30
import Derived.Test.YtchbgiindfoepaaMq18
import Derived.Test.YtchbgiindfoepaaMq27
import Derived.Test.YtchbgiindfoepaaMq32
/- Plain laws on repairs of packets: what a repair is, the order of the packets, parts of them. No program in sight. -/
namespace Go.Proofs.Ytchbgiindfoepaa
open Go.RowKit

theorem Bt.ext_byte {x y : Bt} (hl : x.body.length = y.body.length) (h : ∀ i, x.byte i = y.byte i) : x = y := by
  obtain ⟨h1, h2⟩ := (Bt.same_iff x y).1 ((Bt.same_byte x y).2 h)
  obtain ⟨a0, a1, a2, a3, a4, a5, a6, a7, a⟩ := x
  obtain ⟨b0, b1, b2, b3, b4, b5, b6, b7, b⟩ := y
  unfold Bt.head at h1
  simp only [List.cons.injEq, and_true] at h1
  obtain ⟨rfl, rfl, rfl, rfl, rfl, rfl, rfl, rfl⟩ := h1
  have : a = b := ext_getD hl h2
  rw [this]
theorem Bt.add_comm (x y : Bt) : x.add y = y.add x := Bt.ext_byte (by rw [Bt.add_body_len, Bt.add_body_len, Nat.max_comm]) fun i => by rw [Bt.byte_add, Bt.byte_add, UInt8.xor_comm]
theorem Bt.add_assoc (x y z : Bt) : (x.add y).add z = x.add (y.add z) := Bt.ext_byte (by simp only [Bt.add_body_len, Nat.max_assoc]) fun i => by simp only [Bt.byte_add, UInt8.xor_assoc]
theorem Bt.zero_add (x : Bt) : Bt.zero.add x = x := by rw [Bt.add_comm, Bt.add_zero]
theorem Bt.fold_add : ∀ (xs : List Bt) (z : Bt), xs.foldl Bt.add z = z.add (Bt.all xs)
  | [], z => by simp [Bt.all, Bt.add_zero]
  | x :: xs, z => by
    unfold Bt.all
    rw [List.foldl_cons, List.foldl_cons, Bt.fold_add xs, Bt.fold_add xs (Bt.zero.add x), Bt.zero_add, Bt.add_assoc]
theorem Bt.all_append (xs ys : List Bt) : Bt.all (xs ++ ys) = (Bt.all xs).add (Bt.all ys) := by
  conv => lhs; unfold Bt.all
  rw [List.foldl_append, Bt.fold_add ys]
  rfl
theorem Bt.all_one (x : Bt) : Bt.all [x] = x := by simp [Bt.all, Bt.zero_add]
theorem Bt.all_perm {xs ys : List Bt} (h : xs.Perm ys) : Bt.all xs = Bt.all ys := by
  induction h with
  | nil => rfl
  | @cons x l₁ l₂ _ ih =>
    have e : ∀ l : List Bt, Bt.all (x :: l) = (Bt.all [x]).add (Bt.all l) := fun l => Bt.all_append [x] l
    rw [e l₁, e l₂, ih]
  | swap x y l => rw [show y :: x :: l = [y] ++ ([x] ++ l) from rfl, show x :: y :: l = [x] ++ ([y] ++ l) from rfl, Bt.all_append, Bt.all_append, Bt.all_append, Bt.all_append, ← Bt.add_assoc, ← Bt.add_assoc, Bt.add_comm (Bt.all [y])]
  | trans _ _ h1 h2 => rw [h1, h2]

def okF (l : List UInt8) : Prop := ∃ p, parseR l = .ok p
def seqF (l : List UInt8) : UInt16 := match parseR l with | .ok p => p.seq | .error _ => 0
def ssF (l : List UInt8) : UInt32 := match parseR l with | .ok p => p.ssrc | .error _ => 0
theorem add_sum (s : Sheet) (l : List UInt8) (p : Pkt) : (s.add l p).sum = s.sum.add (imp l) := by unfold Sheet.add Sheet.begun; split <;> rfl
theorem add_seqs (s : Sheet) (l : List UInt8) (p : Pkt) : (s.add l p).seqs = s.seqs ++ [p.seq] := by unfold Sheet.add Sheet.begun; split <;> rfl
theorem add_next {s : Sheet} (h : s.seqs ≠ []) (l : List UInt8) (p : Pkt) : (s.add l p).ssrc = s.ssrc ∧ (s.add l p).alike = (s.alike && p.ssrc == s.ssrc) := by unfold Sheet.add Sheet.begun; rw [if_neg h]; exact ⟨rfl, rfl⟩
theorem add_first (l : List UInt8) (p : Pkt) : (Sheet.zero.add l p).ssrc = p.ssrc ∧ (Sheet.zero.add l p).alike = true := by
  unfold Sheet.add Sheet.begun
  rw [if_pos (show Sheet.zero.seqs = [] from rfl)]
  exact ⟨rfl, by simp [Sheet.summed, Sheet.noted, Sheet.held]⟩
theorem runL_sum : ∀ {ls : List (List UInt8)} {s s' : Sheet}, runL ls s = .ok s' → s'.sum = (ls.map imp).foldl Bt.add s.sum ∧ s'.seqs = s.seqs ++ ls.map seqF ∧ ∀ l ∈ ls, okF l
  | [], s, s', h => by cases h; simp
  | l :: ls, s, s', h => by
    unfold runL at h
    cases hp : parseR l with
    | error k => rw [hp] at h; cases h
    | ok p =>
      rw [hp] at h
      obtain ⟨h1, h2, h3⟩ := runL_sum h
      refine ⟨by rw [h1, add_sum]; rfl, by rw [h2, add_seqs, List.map_cons]; simp [seqF, hp], fun k hk => ?_⟩
      rcases List.mem_cons.1 hk with rfl | hk
      · exact ⟨p, hp⟩
      · exact h3 k hk
theorem runL_total : ∀ {ls : List (List UInt8)} (s : Sheet), (∀ l ∈ ls, okF l) → ∃ s', runL ls s = .ok s'
  | [], s, _ => ⟨s, rfl⟩
  | l :: ls, s, h => by
    obtain ⟨p, hp⟩ := h l (by simp)
    unfold runL
    rw [hp]
    exact runL_total _ (fun k hk => h k (by simp [hk]))
theorem runL_next : ∀ {ls : List (List UInt8)} {s s' : Sheet}, runL ls s = .ok s' → s.seqs ≠ [] → (s'.alike = true ↔ s.alike = true ∧ ∀ l ∈ ls, ssF l = s.ssrc)
  | [], s, s', h, _ => by cases h; simp
  | l :: ls, s, s', h, hs => by
    unfold runL at h
    cases hp : parseR l with
    | error k => rw [hp] at h; cases h
    | ok p =>
      rw [hp] at h
      have hq := add_next hs l p
      rw [runL_next h (by rw [add_seqs]; simp), hq.1, hq.2]
      simp [ssF, hp, and_assoc]
theorem runL_alike {ls : List (List UInt8)} {s' : Sheet} (hne : ls ≠ []) (h : runL ls Sheet.zero = .ok s') : s'.alike = true ↔ ∀ l ∈ ls, ∀ k ∈ ls, ssF l = ssF k := by
  obtain ⟨l, ls, rfl⟩ := List.exists_cons_of_ne_nil hne
  unfold runL at h
  cases hp : parseR l with
  | error k => rw [hp] at h; cases h
  | ok p =>
    rw [hp] at h
    have hq := add_first l p
    rw [runL_next h (by rw [add_seqs]; simp), hq.1, hq.2]
    have e : ssF l = p.ssrc := by simp [ssF, hp]
    constructor
    · rintro ⟨-, h2⟩ a ha b hb
      have h3 : ∀ c ∈ l :: ls, ssF c = p.ssrc := fun c hc => by
        rcases List.mem_cons.1 hc with rfl | hc
        · exact e
        · exact h2 c hc
      rw [h3 a ha, h3 b hb]
    · intro h2
      exact ⟨rfl, fun k hk => by rw [h2 k (by simp [hk]) l (by simp), e]⟩
/-- A repair is that of packets. -/
structure IsRep (ls : List (List UInt8)) (r : Rep_) : Prop where
  ne : ls ≠ []
  few : ls.length ≤ 48
  ok : ∀ l ∈ ls, okF l
  alike : ∀ l ∈ ls, ∀ k ∈ ls, ssF l = ssF k
  sum : r.bt = Bt.all (ls.map imp)
  near : Near (ls.map seqF) r.base r.m
theorem mkP_iff {ls : List (List UInt8)} {r : Rep_} : mkP ls = .ok r ↔ IsRep ls r := by
  constructor
  · intro h
    obtain ⟨h1, h2, s, hs, ha, hb, hc⟩ := mkP_ok h
    obtain ⟨g1, g2, g3⟩ := runL_sum hs
    refine ⟨h1, h2, g3, (runL_alike h1 hs).1 ha, by rw [hb, g1]; rfl, ?_⟩
    rw [g2] at hc
    exact cvOf_ok.1 hc
  · intro h
    obtain ⟨s, hs⟩ := runL_total Sheet.zero h.ok
    obtain ⟨g1, g2, g3⟩ := runL_sum hs
    have ha := (runL_alike h.ne hs).2 h.alike
    have hc := cvOf_ok.2 h.near
    unfold mkP
    rw [if_neg h.ne, if_neg (by have := h.few; omega), hs]
    simp only [ha, Bool.true_eq_false, if_false]
    rw [g2]
    simp only [Sheet.zero, List.nil_append, hc]
    rw [g1]
    have := h.sum
    obtain ⟨bt, b, m⟩ := r
    simp only at this
    subst this
    rfl
theorem mkP_perm {ls ls' : List (List UInt8)} {r : Rep_} (h : mkP ls = .ok r) (hp : ls.Perm ls') : mkP ls' = .ok r := by
  rw [mkP_iff] at h ⊢
  refine ⟨fun e => h.ne (by rw [e] at hp; exact List.perm_nil.1 hp), by rw [← hp.length_eq]; exact h.few, fun l hl => h.ok l (hp.mem_iff.2 hl), fun l hl k hk => h.alike l (hp.mem_iff.2 hl) k (hp.mem_iff.2 hk), ?_, ?_⟩
  · rw [h.sum]; exact Bt.all_perm (hp.map imp)
  · exact cvOf_ok.1 (cvOf_perm (cvOf_ok.2 h.near) (hp.map seqF))
theorem mkP_sub {ls ls' : List (List UInt8)} {r : Rep_} (h : mkP ls = .ok r) (hs : ls'.Sublist ls) (hne : ls' ≠ []) : ∃ r', mkP ls' = .ok r' := by
  rw [mkP_iff] at h
  obtain ⟨b, m, hc⟩ := cvOf_sub (cvOf_ok.2 h.near) (hs.map seqF) (by simpa using hne)
  exact ⟨⟨Bt.all (ls'.map imp), b, m⟩, mkP_iff.2 ⟨hne, Nat.le_trans hs.length_le h.few, fun l hl => h.ok l (hs.subset hl), fun l hl k hk => h.alike l (hs.subset hl) k (hs.subset hk), rfl, cvOf_ok.1 hc⟩⟩
theorem mkP_count {ls : List (List UInt8)} {r : Rep_} (h : mkP ls = .ok r) : (seqsOf r.base r.m).length = ls.length := by
  have := (cvOf_count (cvOf_ok.2 (mkP_iff.1 h).near)).1
  rw [List.length_map] at this
  rw [← this]
  simp [seqsOf]
theorem and63_xor : ∀ a < 256, ∀ b < 4, (UInt8.ofNat a ^^^ (UInt8.ofNat b <<< 6)) &&& 63 = UInt8.ofNat a &&& 63 := by decide +kernel
theorem and63_and63 (a : UInt8) : a &&& 63 &&& 63 = a &&& 63 := by
  rw [UInt8.and_assoc]
  rfl
theorem and63_add (a b : UInt8) (h1 : a &&& 63 = a) (h2 : b &&& 63 = b) : (a ^^^ b) &&& 63 = a ^^^ b := by
  apply UInt8.toNat_inj.1
  have e1 := congrArg UInt8.toNat h1
  have e2 := congrArg UInt8.toNat h2
  simp only [UInt8.toNat_and, UInt8.toNat_xor] at e1 e2 ⊢
  apply Nat.eq_of_testBit_eq
  intro i
  have g1 := congrArg (·.testBit i) e1
  have g2 := congrArg (·.testBit i) e2
  simp only [Nat.testBit_and, Nat.testBit_xor] at g1 g2 ⊢
  revert g1 g2
  cases (a.toNat.testBit i) <;> cases (b.toNat.testBit i) <;> cases (UInt8.toNat 63).testBit i <;> simp
theorem Bt.cut_fold : ∀ (xs : List Bt) (z : Bt), z.cut = z → (∀ x ∈ xs, x.cut = x) → (xs.foldl Bt.add z).cut = xs.foldl Bt.add z
  | [], z, h, _ => h
  | x :: xs, z, h, hx => by
    rw [List.foldl_cons]
    refine Bt.cut_fold xs _ ?_ (fun y hy => hx y (by simp [hy]))
    have h1 : z.h0 &&& 63 = z.h0 := congrArg Bt.h0 h
    have h2 : x.h0 &&& 63 = x.h0 := congrArg Bt.h0 (hx x (by simp))
    show ({ z.add x with h0 := (z.h0 ^^^ x.h0) &&& 63 } : Bt) = z.add x
    rw [and63_add _ _ h1 h2]
    rfl
theorem imp_cut (l : List UInt8) : (imp l).cut = imp l := by
  show ({ imp l with h0 := l.getD 0 0 &&& 63 &&& 63 } : Bt) = imp l
  rw [and63_and63]
  rfl
theorem mkP_cut {ls : List (List UInt8)} {r : Rep_} (h : mkP ls = .ok r) : r.bt.cut = r.bt := by
  rw [(mkP_iff.1 h).sum]
  exact Bt.cut_fold _ _ rfl (fun x hx => by obtain ⟨l, -, rfl⟩ := List.mem_map.1 hx; exact imp_cut l)
theorem holdsB_iff {ls : List (List UInt8)} {r : Rep_} : holdsB r ls = true ↔ ∃ q, mkP ls = .ok q ∧ q.base = r.base ∧ q.m = r.m ∧ q.bt.body.length = r.bt.body.length ∧ q.bt.cut.same r.bt.cut = true := by
  unfold holdsB
  cases h : mkP ls with
  | error k => simp
  | ok q =>
    simp only [Bool.and_eq_true, beq_iff_eq, Except.ok.injEq, exists_eq_left']
    constructor
    · rintro ⟨⟨⟨⟨h1, h2⟩, h3⟩, h4⟩, h5⟩
      refine ⟨h1, ?_, h4, h5⟩
      obtain ⟨qb, qs, ⟨a, b⟩⟩ := q
      obtain ⟨rb, rs, ⟨c, d⟩⟩ := r
      simp only at h2 h3
      rw [h2, h3]
    · rintro ⟨h1, h2, h4, h5⟩
      exact ⟨⟨⟨⟨h1, by rw [h2]⟩, by rw [h2]⟩, h4⟩, h5⟩
theorem holds_self {ls : List (List UInt8)} {r : Rep_} (h : mkP ls = .ok r) : holdsB r ls = true := holdsB_iff.2 ⟨r, h, rfl, rfl, rfl, Bt.same_refl _⟩
theorem holds_err {ls : List (List UInt8)} {k : Int} (h : mkP ls = .error k) (r : Rep_) : holdsB r ls = false := by unfold holdsB; rw [h]
theorem holds_count {ls ls' : List (List UInt8)} {r : Rep_} (h : mkP ls = .ok r) (hl : ls'.length ≠ ls.length) : holdsB r ls' = false := by
  rw [Bool.eq_false_iff]
  intro h2
  obtain ⟨q, hq, e1, e2, -⟩ := holdsB_iff.1 h2
  have g1 := mkP_count h
  have g2 := mkP_count hq
  rw [e1, e2] at g2
  omega
/-- One packet left out. -/
theorem rest_perm (ls : List (List UInt8)) {k : Nat} (hk : k < ls.length) : ls.Perm (ls.take k ++ ls.drop (k + 1) ++ [ls[k]]) := by
  have e : ls = ls.take k ++ (ls[k] :: ls.drop (k + 1)) := by rw [List.getElem_cons_drop, List.take_append_drop]
  conv => lhs; rw [e]
  rw [List.append_assoc]
  exact List.Perm.append_left _ (List.perm_append_singleton _ _).symm
theorem rest_ok {ls : List (List UInt8)} {r : Rep_} (h : mkP ls = .ok r) {k : Nat} (hk : k < ls.length) (hne : ls.take k ++ ls.drop (k + 1) ≠ []) :
    ∃ o, mkP (ls.take k ++ ls.drop (k + 1)) = .ok o ∧ o.bt.cut.add (imp ls[k]) = r.bt.cut ∧ holdsB r (ls.take k ++ ls.drop (k + 1)) = false := by
  have hp := rest_perm ls hk
  have h2 := mkP_perm h hp
  obtain ⟨o, ho⟩ := mkP_sub h2 (List.sublist_append_left _ _) hne
  refine ⟨o, ho, ?_, holds_count h ?_⟩
  · rw [mkP_cut ho, mkP_cut h, (mkP_iff.1 ho).sum, (mkP_iff.1 h2).sum, List.map_append (l₂ := [ls[k]]), Bt.all_append, List.map_cons, List.map_nil, Bt.all_one]
  · have := hp.length_eq
    rw [List.length_append, List.length_singleton] at this
    omega
theorem one_ok {ls : List (List UInt8)} {r : Rep_} (h : mkP ls = .ok r) (h1 : ls.length = 1) (hk : 0 < ls.length) : imp ls[0] = r.bt.cut ∧ r.m = Msk.bit 0 := by
  obtain ⟨l, rfl⟩ := List.length_eq_one_iff.1 h1
  refine ⟨by rw [mkP_cut h, (mkP_iff.1 h).sum, List.map_cons, List.map_nil, Bt.all_one]; rfl, ?_⟩
  have hn := (mkP_iff.1 h).near
  have hb : r.base = seqF l := by have := hn.mem; simpa using this
  refine Msk.ext_has fun i hi => ?_
  rw [Bool.eq_iff_iff, hn.has i hi, Msk.has_bit (by omega)]
  simp [hb, ahd_self]
  omega
theorem parts_ok {ls : List (List UInt8)} {r : Rep_} (h : mkP ls = .ok r) {k : Nat} (h0 : 0 < k) (hk : k < ls.length) :
    ∃ a b, mkP (ls.take k) = .ok a ∧ mkP (ls.drop k) = .ok b ∧ a.bt.cut.add b.bt.cut = r.bt.cut ∧ r.bt.body.length = max a.bt.body.length b.bt.body.length := by
  have n1 : ls.take k ≠ [] := fun e => by have h9 := congrArg List.length e; rw [List.length_take, List.length_nil] at h9; omega
  have n2 : ls.drop k ≠ [] := fun e => by have h9 := congrArg List.length e; rw [List.length_drop, List.length_nil] at h9; omega
  obtain ⟨a, ha⟩ := mkP_sub h (List.take_sublist k ls) n1
  obtain ⟨b, hb⟩ := mkP_sub h (List.drop_sublist k ls) n2
  have e : a.bt.add b.bt = r.bt := by
    rw [(mkP_iff.1 ha).sum, (mkP_iff.1 hb).sum, (mkP_iff.1 h).sum, ← Bt.all_append, ← List.map_append, List.take_append_drop]
  exact ⟨a, b, ha, hb, by rw [mkP_cut ha, mkP_cut hb, mkP_cut h, e], by rw [← e, Bt.add_body_len]⟩
theorem turn_holds {ls : List (List UInt8)} {r : Rep_} (h : mkP ls = .ok r) : holdsB { r with bt := { r.bt with h0 := r.bt.h0 ^^^ 192 } } ls = true := by
  refine holdsB_iff.2 ⟨r, h, rfl, rfl, rfl, ?_⟩
  have e : (r.bt.h0 ^^^ 192) &&& 63 = r.bt.h0 &&& 63 := by
    have := and63_xor r.bt.h0.toNat r.bt.h0.toNat_lt 3 (by omega)
    rw [UInt8.ofNat_toNat] at this
    exact this
  show r.bt.cut.same ({ r.bt with h0 := (r.bt.h0 ^^^ 192) &&& 63 } : Bt) = true
  rw [e]
  exact Bt.same_refl _
theorem turn_not {ls : List (List UInt8)} {r t : Rep_} (h : mkP ls = .ok r) (ht : t.bt.h1 ≠ r.bt.h1 ∨ t.bt.h2 ≠ r.bt.h2 ∨ t.bt.h3 ≠ r.bt.h3 ∨ t.bt.h4 ≠ r.bt.h4) : holdsB t ls = false := by
  rw [Bool.eq_false_iff]
  intro h2
  obtain ⟨q, hq, -, -, -, e⟩ := holdsB_iff.1 h2
  rw [h] at hq
  cases hq
  have e1 := ((Bt.same_iff _ _).1 e).1
  unfold Bt.head Bt.cut at e1
  simp only [List.cons.injEq, and_true] at e1
  obtain ⟨-, e1, e2, e3, e4, -⟩ := e1
  rcases ht with ht | ht | ht | ht
  · exact ht e1.symm
  · exact ht e2.symm
  · exact ht e3.symm
  · exact ht e4.symm
end Go.Proofs.Ytchbgiindfoepaa

/- What the loop of confluxref13.Make keeps. No walk yet. -/
namespace Go.Proofs.Ytchbgiindfoepaa
open Go.RowKit

/-- What a round of ref13.Make keeps: the imprints (xv), the numbers (sv), whether all are of one source (a, c). -/
structure MInv (w1 W : World) (N : Nat) (xv sv : Value) (ls : List (List UInt8)) (sh : Sheet) (a : Bool) (c : UInt32) (B : List Nat) : Prop where
  run : runL ls Sheet.zero = .ok sh
  xs : OwnEls 2 RbR W N 37 xv (ls.map imp) B
  xsep : ∀ b ∈ B, ∀ k, blockOf sv = some k → b ≠ k
  seqs : OwnV W N 42 W16 sv sh.seqs
  apart : ∀ b k, blockOf xv = some b → blockOf sv = some k → b ≠ k
  st : ls = [] ∧ a = true ∨ ls ≠ [] ∧ a = sh.alike ∧ c = sh.ssrc
  low : w1.heap.size ≤ N
  fr : Fr [] w1 W
section
variable {w1 W W' : World} {N : Nat} {xv sv xv' sv' : Value} {ls : List (List UInt8)} {sh : Sheet} {a : Bool} {c : UInt32} {B : List Nat}
theorem MInv.keep (h : MInv w1 W N xv sv ls sh a c B) (hf : Fr [] W W') : MInv w1 W' N xv sv ls sh a c B :=
  ⟨h.run, h.xs.keep Rep.rb hf, h.xsep, h.seqs.keep hf, h.apart, h.st, h.low, h.fr.trans hf⟩
/-- The numbers behind an append to the imprints. -/
theorem MInv.seqs_x (h : MInv w1 W N xv sv ls sh a c B) (hf : Fr (blockOf xv).toList W W') : OwnV W' N 42 W16 sv sh.seqs :=
  Own.fr h.seqs hf (fun b hb hm => h.apart b b (mem_toList.1 hm) hb rfl)
/-- The imprints behind an append to the numbers. -/
theorem MInv.xs_s (h : MInv w1 W N xv sv ls sh a c B) (hf : Fr (blockOf sv).toList W W') : OwnEls 2 RbR W' N 37 xv (ls.map imp) B :=
  h.xs.fr Rep.rb hf (fun b hb hm => h.xsep b hb b (mem_toList.1 hm) rfl) (fun b hb hm => h.apart b b hb (mem_toList.1 hm) rfl)
theorem seqs_run {ls : List (List UInt8)} {sh : Sheet} (h : runL ls Sheet.zero = .ok sh) : sh.seqs = ls.map seqF ∧ sh.sum = Bt.all (ls.map imp) := by
  obtain ⟨h1, h2, -⟩ := runL_sum h
  exact ⟨by rw [h2]; rfl, by rw [h1]; rfl⟩
/-- One packet more, as the reference reckons whether all are of one source. -/
theorem alike_next {ls : List (List UInt8)} {l : List UInt8} {p : Pkt} {sh : Sheet} {a : Bool} {c : UInt32} (h : runL ls Sheet.zero = .ok sh) (hp : parseR l = .ok p) (hst : ls = [] ∧ a = true ∨ ls ≠ [] ∧ a = sh.alike ∧ c = sh.ssrc) :
    runL (ls ++ [l]) Sheet.zero = .ok (sh.add l p) ∧ (sh.add l p).ssrc = (if ls = [] then p.ssrc else c) ∧ (sh.add l p).alike = (a && p.ssrc == (if ls = [] then p.ssrc else c)) := by
  refine ⟨by rw [runL_append, h]; exact runL_ok sh hp, ?_, ?_⟩
  · rcases hst with ⟨rfl, rfl⟩ | ⟨hne, rfl, rfl⟩
    · cases h
      rw [(add_first l p).1, if_pos rfl]
    · have hs : sh.seqs ≠ [] := by rw [(seqs_run h).1]; simpa using hne
      rw [(add_next hs l p).1, if_neg hne]
  · rcases hst with ⟨rfl, rfl⟩ | ⟨hne, rfl, rfl⟩
    · cases h
      rw [(add_first l p).2, if_pos rfl]
      simp
    · have hs : sh.seqs ≠ [] := by rw [(seqs_run h).1]; simpa using hne
      rw [(add_next hs l p).2, if_neg hne]
/-- A round: both lists have one more. -/
theorem MInv.next (h : MInv w1 W N xv sv ls sh a c B) {l : List UInt8} {p : Pkt} {w8 w9 w10 w11 : World} {B1 : List Nat} {gp : Nat} (hp : parseR l = .ok p) (h8 : Fr [] W w8)
    (hX : OwnEls 2 RbR w9 N 37 xv' (ls.map imp ++ [imp l]) (B ++ B1)) (h9 : Fr (blockOf xv).toList w8 w9) (hb1 : ∀ b, blockOf xv' = some b → blockOf xv = some b ∨ w8.heap.size ≤ b) (h10 : Fr [] w9 w10)
    (hS : OwnV w11 N 42 W16 sv' (sh.seqs ++ [p.seq])) (h11 : Fr (blockOf sv).toList w10 w11) (hb2 : ∀ b, blockOf sv' = some b → blockOf sv = some b ∨ w10.heap.size ≤ b)
    (hn : ∀ b ∈ B1, gp < b) (hg : ∀ b, blockOf sv = some b → b < gp) (hz : gp < w8.heap.size) :
    MInv w1 w11 N xv' sv' (ls ++ [l]) (sh.add l p) (sh.add l p).alike (sh.add l p).ssrc (B ++ B1) := by
  have hx9 := hX.lt Rep.rb
  have hxb := hX.block
  have hz9 := h9.size; have hz10 := h10.size
  refine ⟨(alike_next h.run hp h.st).1, ?_, fun b hb k hk e => ?_, ?_, fun b k hb hk e => ?_, .inr ⟨by simp, rfl, rfl⟩, h.low, ?_⟩
  · rw [List.map_append]
    refine (hX.keep Rep.rb h10).fr Rep.rb h11 (fun b hb hm => ?_) (fun b hb hm => ?_)
    · have hk := mem_toList.1 hm
      rcases List.mem_append.1 hb with hb | hb
      · exact h.xsep b hb b hk rfl
      · have h1 := hn b hb; have h2 := hg b hk; omega
    · have hk := mem_toList.1 hm
      have h2 := hg b hk
      rcases hb1 b hb with hb | hb
      · exact h.apart b b hb hk rfl
      · omega
  · subst e
    rcases hb2 b hk with hk | hk
    · have h2 := hg b hk
      rcases List.mem_append.1 hb with hb | hb
      · exact h.xsep b hb b hk rfl
      · have h1 := hn b hb; omega
    · have := hx9 b hb; omega
  · rw [add_seqs]
    exact hS
  · subst e
    rcases hb2 b hk with hk | hk
    · have h2 := hg b hk
      rcases hb1 b hb with hb | hb
      · exact h.apart b b hb hk rfl
      · omega
    · have := (hxb b hb).2; omega
  · refine ((h.fr.trans h8).step h9 (fun b hb => .inr ?_) |>.trans h10).step h11 (fun b hb => .inr ?_)
    · have := (h.xs.block b (mem_toList.1 hb)).1; have := h.low; omega
    · have := (h.seqs.block b (mem_toList.1 hb)).1; have := h.low; omega
theorem cvOf_err {ns : List UInt16} {k : Int} (h : cvOf ns = .error k) : k ≠ 0 := by
  have hfrom : ∀ (base : UInt16) (l : List UInt16) (m : Msk) (t : Bool) (k : Int), fromL base l m t = .error k → k ≠ 0 := by
    intro base l
    induction l with
    | nil => intro m t k h; cases h
    | cons n l ih =>
      intro m t k h
      unfold fromL at h
      split at h
      · cases h; decide
      · exact ih _ _ _ h
  cases ns with
  | nil => cases h; decide
  | cons x l =>
    rw [cvOf_cons] at h
    split at h
    · cases h; decide
    · split at h
      · rename_i k' hk
        cases h
        unfold cvFrom at hk
        split at hk
        · rename_i k2 h2
          cases hk
          exact hfrom _ _ _ _ _ h2
        · split at hk
          · cases hk; decide
          · split at hk
            · cases hk; decide
            · cases hk
      · cases h
/-- The cells of a repair whose head is written up to a place. -/
def hpart (r : Rep_) (vb : Value) (k : Nat) : Array Value := #[.int .u8 (if 0 < k then (r.bt.h0.toNat : Int) else 0), .int .u8 (if 1 < k then (r.bt.h1.toNat : Int) else 0), .int .u8 (if 2 < k then (r.bt.h2.toNat : Int) else 0), .int .u8 (if 3 < k then (r.bt.h3.toNat : Int) else 0), .int .u8 (if 4 < k then (r.bt.h4.toNat : Int) else 0), .int .u8 (if 5 < k then (r.bt.h5.toNat : Int) else 0), .int .u8 (if 6 < k then (r.bt.h6.toNat : Int) else 0), .int .u8 (if 7 < k then (r.bt.h7.toNat : Int) else 0), .int .u16 (r.base.toNat : Nat), .int .u64 (r.m.hi.toNat : Nat), .int .u64 (r.m.lo.toNat : Nat), vb]
theorem hpart_done (r : Rep_) (vb : Value) : hpart r vb 8 = rpc r vb := rfl
theorem hpart_next (r : Rep_) (vb : Value) (k : Nat) (hk : k < 8) : (hpart r vb k).setIfInBounds k (.int .u8 ((r.bt.head.getD k 0).toNat : Nat)) = hpart r vb (k + 1) := by
  rcases (by omega : k = 0 ∨ k = 1 ∨ k = 2 ∨ k = 3 ∨ k = 4 ∨ k = 5 ∨ k = 6 ∨ k = 7) with rfl | rfl | rfl | rfl | rfl | rfl | rfl | rfl <;> rfl
theorem hpart_at (r : Rep_) (vb : Value) (k : Nat) (hk : k < 8) : ∃ n : Int, (hpart r vb k)[k]? = some (.int .u8 n) := by
  rcases (by omega : k = 0 ∨ k = 1 ∨ k = 2 ∨ k = 3 ∨ k = 4 ∨ k = 5 ∨ k = 6 ∨ k = 7) with rfl | rfl | rfl | rfl | rfl | rfl | rfl | rfl <;> exact ⟨_, rfl⟩
end
end Go.Proofs.Ytchbgiindfoepaa

/- The walk of parity.Block (printed by gen_block.py). -/
namespace Go.Proofs.Ytchbgiindfoepaa
open Go.RowKit

/-- A repair as cells of a slice. -/
def RpR (w : World) (c : List Value) (r : Rep_) (B : List Nat) : Prop := ∃ vb, c = (rpc r vb).toList ∧ Bytes w vb r.bt.body ∧ B = (liveOf vb).toList
theorem Rep.rp : Rep 12 RpR where
  len := by rintro w c y B ⟨vb, rfl, -, -⟩; rfl
  one := by
    rintro w c y B ⟨vb, rfl, h, -⟩ u hu
    obtain ⟨a, n, cp, rfl⟩ := Sl.isSlice h
    simp at hu
    rcases hu with rfl | rfl | rfl | rfl | rfl | rfl | rfl | rfl | rfl | rfl | rfl | rfl <;> rfl
  lt := by
    rintro w c y B ⟨vb, rfl, h, rfl⟩ b hb
    exact Sl.lt h b (mem_toList.1 hb)
  fr := by
    rintro w w' c y B S ⟨vb, rfl, h, rfl⟩ hf hS
    exact ⟨vb, rfl, Sl.frL h hf (fun b hb => hS b (mem_toList.2 hb)), rfl⟩
def blockL (ls : List (List UInt8)) : List (List Int) → List Rep_ → Except Int (List Rep_)
  | [], acc => .ok acc
  | xs :: rest, acc => match someR ls xs with
    | .error k => .error k
    | .ok r => blockL ls rest (acc ++ [r])
theorem blockL_append (ls : List (List UInt8)) : ∀ (a b : List (List Int)) (acc : List Rep_), blockL ls (a ++ b) acc = match blockL ls a acc with | .error k => .error k | .ok s' => blockL ls b s'
  | [], _, _ => rfl
  | l :: a, b, s => by
    show (match someR ls l with | .error k => .error k | .ok r => blockL ls (a ++ b) (s ++ [r]) : Except Int (List Rep_)) = match (match someR ls l with | .error k => .error k | .ok r => blockL ls a (s ++ [r]) : Except Int (List Rep_)) with | .error k => .error k | .ok s' => blockL ls b s'
    cases someR ls l with
    | error k => rfl
    | ok p => exact blockL_append ls a b _
theorem blockL_ok {ls : List (List UInt8)} {y : List Int} {r : Rep_} (s : List Rep_) (h : someR ls y = .ok r) : blockL ls [y] s = .ok (s ++ [r]) := by
  unfold blockL
  rw [h]
  rfl
theorem blockL_err {ls : List (List UInt8)} {y : List Int} {k : Int} (r : List (List Int)) (s : List Rep_) (h : someR ls y = .error k) : blockL ls (y :: r) s = .error k := by
  unfold blockL
  rw [h]
theorem SlOf.keepI {w w' : World} {v : Value} {ls : List (List Int)} (h : SlOf Ints w v ls) (hf : Fr [] w w') : SlOf Ints w' v ls := by
  obtain ⟨vs, h1, h2, h3⟩ := h
  exact ⟨vs, h1.keep hf, h2, fun i x a hx ha => Sl.keep (h3 i x a hx ha) hf⟩
set_option maxRecDepth 100000 in
theorem info_rp : (Try.prog.info? 58).map (fun i => (i.zero, i.size, i.bytes)) = some (some (.agg rpz), 12, 56) := by kernel_rfl
theorem someR_1500 {ls : List (List UInt8)} {xs : List Int} {q : Rep_} (h : someR ls xs = .ok q) : q.bt.body.length ≤ 1500 := by
  unfold someR at h
  split at h
  · exact mkP_1500 h
  · cases h
/-- What a call that makes a block hands back. -/
def MadeB (x : Except Int (List Rep_)) (n : Nat) (e : Ending) (w' : World) : Prop := (∃ rs v' B, x = .ok rs ∧ e = .returned (.tuple #[v', .int .i64 0]) ∧ OwnEls 12 RpR w' n 58 v' rs B ∧ ∀ b ∈ B, n ≤ b) ∨ (∃ k, x = .error k ∧ k ≠ 0 ∧ e = .returned (.tuple #[.slice none 0 0, .int .i64 k]))
set_option maxRecDepth 100000 in
set_option maxHeartbeats 8000000 in
theorem pBlock_any {w : World} {v1 v2 : Value} {ls : List (List UInt8)} {sh : List (List Int)} (hl : BRows w v1 ls) (hx : SlOf Ints w v2 sh) (hsz : ls.length ≤ 1000) (hsh : sh.length ≤ 1000) (hsx : ∀ xs ∈ sh, xs.length ≤ 1000) :
    Calls Try.prog 35 #[v1, v2] w fun e w' => Fr [] w w' ∧ MadeB (blockL ls sh []) w.heap.size e w' := by
  obtain ⟨av, cv, rfl⟩ := hl.shape
  obtain ⟨ax, cx, rfl⟩ := hx.shape
  have HL := Lib.hid hl; have HX := Lib.hid hx; have HSX := Lib.hid hsx
  clear hl hx hsx
  go_enter Try.func35, Try.ntmps35
  go_wp2_with fail
  go_loopw [6, 13] (fun sv iv wr => ∃ (k : Nat) (rs : List Rep_) (Bs : List Nat), k ≤ sh.length ∧ iv = .int .i64 k ∧ blockL ls (sh.take k) [] = .ok rs ∧ rs.length = k ∧ OwnEls 12 RpR wr w.heap.size 58 sv rs Bs ∧ Fr [] w wr ∧ (∀ b ∈ Bs, w.heap.size ≤ b)) (fun _ iv _ => sh.length - (intOf iv).toNat)
  case atStart => exact ⟨0, [], [], Nat.zero_le _, rfl, rfl, rfl, OwnEls.nil _ _ _, Fr.refl _ _, by simp⟩
  case round =>
    obtain ⟨k, rs, Bs, hk, rfl, hR, hq, hO, hF, hBs⟩ := hrel
    obtain ⟨as_, cs, rfl⟩ := hO.shape
    have HRL := Lib.hid hR; have HQ := Lib.hid hq; have HO := Lib.hid hO; have HFQ := Lib.hid hF; have HBS := Lib.hid hBs
    clear hR hq hO hF hBs
    by_cases hlt : k < sh.length
    · obtain ⟨b, o, x, y, ea, hb, hy, hc, hx⟩ := HX.out.at_ hlt
      subst ea
      have hsy : y.length ≤ 1000 := HSX.out y (List.mem_of_getElem? hy)
      have HTF : Hid (sh = sh.take k ++ y :: sh.drop (k + 1)) := Lib.hid (by
        have h1 : sh[k] = y := by rw [List.getElem?_eq_getElem hlt] at hy; simpa using hy
        rw [← h1, List.getElem_cons_drop, List.take_append_drop])
      have HT : Hid (sh.take (k + 1) = sh.take k ++ [y]) := Lib.hid (by rw [List.take_add_one, hy]; rfl)
      obtain ⟨al, cl, rfl⟩ := Sl.shape hx
      rw [List.length_map] at hx hc
      have HXY := Lib.hid (Sl.keep hx HFQ.out)
      have HLR := Lib.hid (HL.out.keep HFQ.out)
      have d0 := HFQ.out.cellSome hc (by simp)
      clear hb hy hc hx
      go_wp2_with fail
      refine (pSome_any HLR.out HXY.out hsz hsy).mono ?_
      rintro e w3 ⟨hF, ⟨r, v', hm, rfl, hv⟩ | ⟨kk, hm, hk0, rfl⟩⟩
      · obtain ⟨vb, rfl, hb, hd⟩ := hv
        have hs := Sl.shape hb
        rw [List.length_map] at hs
        obtain ⟨ab, cb, rfl⟩ := hs
        have HRL := Lib.hid (show blockL ls (sh.take (k + 1)) [] = .ok (rs ++ [r]) by rw [HT.out, blockL_append, HRL.out]; exact blockL_ok rs hm)
        have HB := Lib.hid hb; have HD := Lib.hid hd; have HF3 := Lib.hid hF; have HSR := Lib.hid HFQ.out.size
        have HBL : Hid (r.bt.body.length ≤ 1500) := Lib.hid (someR_1500 hm)
        clear hm hb hd hF
        generalize hbn : r.bt.body.length = bn at *
        have HBN := Lib.hid hbn
        clear hbn
        go_upto_region 8 with (refine wpList_store_row rfl 58 (.tmp 9) (.tmp 21) rfl w3.heap.size rfl _ _ rfl 58 (Box.new w3 58 rpz) (by kernel_rfl) rfl (by simp [Value.oneCell']) ?_; intro w4 hY hG; have hFn := ((Fr.refl [] w3).alloc _).step hG (by simp); have HFn := Lib.hid hFn; have HMB := Lib.hid hY; clear hG hFn hY)
        have hS4 : w3.heap.size < w4.heap.size := HMB.out.lt
        have HS4 := Lib.hid hS4
        clear hS4
        generalize w3.heap.size = g at *
        obtain ⟨w5, e5, hF5, hB5, hs5⟩ := one_new w4 (rpc r (.slice ab bn cb)) 58
        have HB5 := Lib.hid hB5; have HF5 := Lib.hid hF5; have HS5 := Lib.hid hs5
        unfold rpc at e5
        have E5 := Lib.hid e5
        clear e5 hB5 hF5 hs5
        have HOS : Hid (OwnEls 12 RpR w5 w.heap.size 58 (.slice as_ rs.length cs) rs Bs) := Lib.hid (HO.out.keep Rep.rp ((HF3.out.trans HFn.out).trans HF5.out))
        have HBB : Hid (Bytes w5 (.slice ab bn cb) r.bt.body) := Lib.hid (Sl.keep HB.out (HFn.out.trans HF5.out))
        have HDJ : Hid (∀ b, blockOf (.slice as_ rs.length cs) = some b → b ∉ (liveOf (.slice ab bn cb)).toList) := Lib.hid (fun b hb hm => by have h1 := HD.out b (mem_toList.1 hm); have h2 := (HO.out.block b hb).2; omega)
        have HL1 : Hid (rs.length + 1 ≤ maxLen) := Lib.hid (by have := HQ.out; unfold maxLen; omega)
        have HL2 : Hid ((rs.length + 1) * 56 ≤ 140737488355328) := Lib.hid (by have := HQ.out; omega)
        have HL3 : Hid (w.heap.size ≤ w5.heap.size) := Lib.hid (by have := HSR.out; have := HF3.out.size; have := HFn.out.size; have := HF5.out.size; omega)
        go_wp2_with (first | (refine wpList_load_row_w rfl 58 (.tmp 9) rfl g rfl 58 _ _ HMB.out Try.underlying58 rfl (by kernel_rfl) ?_) | (at_builtin; (rw [E5.out]); refine wpList_append_el Rep.rp (by decide) rfl (.tmp 26) (.tmp 28) 69 rfl w.heap.size 58 (.agg rpz) 56 Try.underlying69 info_rp rfl (.slice as_ rs.length cs) rs Bs rfl HOS.out w4.heap.size 0 1 rfl (rpc r (.slice ab bn cb)).toList r (liveOf (.slice ab bn cb)).toList (box_range HB5.out) ⟨_, rfl, HBB.out, rfl⟩ HDJ.out HL1.out HL2.out HL3.out ?_; intro vs1 w6 hown1 hfr1 hbl1; have HV1 := Lib.hid hown1; have HF6 := Lib.hid hfr1; obtain ⟨as1, cs1, rfl⟩ := hown1.shape; clear hown1 hfr1 hbl1))
        exact ⟨⟨k + 1, _, _, by omega, by go_num, HRL.out, by rw [List.length_append, HQ.out]; rfl, by have h1 := HV1.out; rw [List.length_append] at h1; exact h1,
          ((((HFQ.out.trans HF3.out).trans HFn.out)).trans HF5.out).step HF6.out (fun b hb => .inr (HO.out.block b (mem_toList.1 hb)).1),
          fun b hb => by
            rcases List.mem_append.1 hb with hb | hb
            · exact HBS.out b hb
            · have := HD.out b (mem_toList.1 hb); have := HSR.out; omega⟩, by simp [intOf]; omega⟩
      · have hkb : (kk != 0) = true := bne_iff_ne.2 hk0
        have HK0 := Lib.hid hk0
        have HME : Hid (blockL ls sh [] = .error kk) := Lib.hid (by rw [HTF.out, blockL_append, HRL.out]; exact blockL_err _ rs hm)
        have HFQ := Lib.hid (HFQ.out.trans hF)
        clear hm hF hk0
        go_wp2_with (refine wpList_store_row rfl 58 (.tmp 9) (.tmp 21) rfl w3.heap.size rfl _ _ rfl 58 (Box.new w3 58 rpz) (by kernel_rfl) rfl (by simp [Value.oneCell']) ?_; intro w4 hY hG; have hFn := ((Fr.refl [] w3).alloc _).step hG (by simp); have HFn := Lib.hid hFn; clear hG hFn hY)
        go_ret2
        exact ⟨HFQ.out.trans HFn.out, .inr ⟨kk, HME.out, HK0.out, rfl⟩⟩
    · obtain rfl : k = sh.length := by omega
      rw [List.take_length] at HRL
      go_wp2_with fail
      go_ret2
      exact ⟨HFQ.out, .inl ⟨rs, _, _, HRL.out, rfl, HO.out, HBS.out⟩⟩
end Go.Proofs.Ytchbgiindfoepaa

/- The walk of parity.Numbers (printed by gen_numbers.py). -/
namespace Go.Proofs.Ytchbgiindfoepaa
open Go.RowKit

/-- A slice of numbers as a datum of one cell. -/
def SeqR (w : World) (c : List Value) (ns : List UInt16) (B : List Nat) : Prop := ∃ v, c = [v] ∧ Sl w v (ns.map W16) ∧ B = (liveOf v).toList
theorem Rep.seq : Rep 1 SeqR where
  len := by rintro w c y B ⟨v, rfl, -, -⟩; rfl
  one := by
    rintro w c y B ⟨v, rfl, h, -⟩ u hu
    obtain ⟨a, cp, rfl⟩ := Sl.shape h
    simp only [List.mem_singleton] at hu
    subst hu
    rfl
  lt := by
    rintro w c y B ⟨v, rfl, h, rfl⟩ b hb
    exact Sl.lt h b (by simpa using hb)
  fr := by
    rintro w w' c y B S ⟨v, rfl, h, rfl⟩ hf hS
    exact ⟨v, rfl, Sl.frL h hf (fun b hb => hS b (by simp [hb])), rfl⟩
set_option maxRecDepth 100000 in
theorem info_seq : (Try.prog.info? 77).map (fun i => (i.zero, i.size, i.bytes)) = some (some (.slice none 0 0), 1, 24) := by kernel_rfl
def nmb (r : Rep_) : List UInt16 := seqsOf r.base r.m
set_option maxRecDepth 100000 in
set_option maxHeartbeats 8000000 in
theorem pNumbers_any {w : World} {v : Value} {rs : List Rep_} {B : List Nat} (h : SlEls 12 RpR w v rs B) (hsz : rs.length ≤ 1000) :
    Calls Try.prog 37 #[v] w fun e w' => ∃ v' B', e = .returned v' ∧ OwnEls 1 SeqR w' w.heap.size 77 v' (rs.map nmb) B' ∧ Fr [] w w' := by
  obtain ⟨av, cv, rfl⟩ := h.shape
  have HL := Lib.hid h
  clear h
  go_enter Try.func37, Try.ntmps37
  go_wp2_with fail
  go_loopw [3, 8] (fun sv iv wr => ∃ (k : Nat) (Bs : List Nat), k ≤ rs.length ∧ iv = .int .i64 k ∧ OwnEls 1 SeqR wr w.heap.size 77 sv ((rs.take k).map nmb) Bs ∧ (∀ b ∈ Bs, w.heap.size ≤ b) ∧ Fr [] w wr) (fun _ iv _ => rs.length - (intOf iv).toNat)
  case atStart => exact ⟨0, [], Nat.zero_le _, rfl, OwnEls.nil _ _ _, by simp, Fr.refl _ _⟩
  case round =>
    obtain ⟨k, Bs, hk, rfl, hO, hBs, hF⟩ := hrel
    have HK : Hid (((rs.take k).map nmb).length = k) := Lib.hid (by rw [List.length_map, List.length_take]; omega)
    obtain ⟨as_, cs, rfl⟩ := hO.shape
    have HO := Lib.hid hO; have HFQ := Lib.hid hF; have HBS := Lib.hid hBs
    clear hO hF hBs
    generalize hxs : (rs.take k).map nmb = xs at *
    have HXS := Lib.hid hxs
    clear hxs
    by_cases hlt : k < rs.length
    · obtain ⟨b, o, c, y, B1, ea, hb, hy, ⟨vb, rfl, hbb, -⟩, -, hrg⟩ := (HL.out.keep Rep.rp HFQ.out).at_ Rep.rp hlt
      subst ea
      have HT : Hid ((rs.take (k + 1)).map nmb = xs ++ [nmb y]) := Lib.hid (by rw [List.take_add_one, hy, List.map_append, HXS.out]; rfl)
      obtain ⟨ab, nb, cb, rfl⟩ := Sl.isSlice hbb
      have HRG := Lib.hid hrg
      clear hb hy hbb hrg
      obtain ⟨w3, e3, hF3, hB3, hs3⟩ := one_new wr (rpc y (.slice ab nb cb)) 58
      have HB3 := Lib.hid hB3; have HF3 := Lib.hid hF3; have HS3 := Lib.hid hs3
      have HSZ : Hid (w.heap.size ≤ wr.heap.size) := Lib.hid HFQ.out.size
      unfold rpc at e3
      have E3 := Lib.hid e3
      clear e3 hB3 hF3 hs3
      go_upto_region 5 with (refine wpList_load_midA rfl 58 (.tmp 10) rfl b (o + k * 12) rfl (rpc y (.slice ab nb cb)) _ HRG.out Try.underlying58 rfl (by kernel_rfl) ?_)
      rw [E3.out]
      clear E3
      go_wp2_with (refine wpList_load_row_w rfl 58 (.tmp 5) rfl wr.heap.size rfl 58 _ _ HB3.out Try.underlying58 rfl (by kernel_rfl) ?_)
      refine (cvRepair_any y ab nb cb).mono ?_
      rintro e w4 ⟨v4, rfl, hO4, hF4⟩
      have hs4 := Sl.shape (Sl.ofOwn hO4)
      rw [List.length_map] at hs4
      obtain ⟨a4, c4, rfl⟩ := hs4
      have HQ := Lib.hid (Sl.ofOwn hO4)
      have HQB : Hid (∀ b, liveOf (.slice a4 (seqsOf y.base y.m).length c4) = some b → wr.heap.size ≤ b) := Lib.hid (fun b hb => by have := (Own.block hO4 b (live_block hb)).1; have := HF3.out.size; omega)
      have HF4 := Lib.hid (HF3.out.trans hF4)
      clear hO4 hF4
      generalize hqn : (seqsOf y.base y.m).length = qn at *
      clear hqn
      obtain ⟨w5, e5, hF5, hB5, hs5⟩ := one_new w4 #[.slice a4 qn c4] 77
      have HB5 := Lib.hid hB5; have HF5 := Lib.hid hF5; have HS5 := Lib.hid hs5; have E5 := Lib.hid e5
      clear hB5 hF5 hs5 e5
      have HOS : Hid (OwnEls 1 SeqR w5 w.heap.size 77 (.slice as_ xs.length cs) xs Bs) := Lib.hid (HO.out.keep Rep.seq (HF4.out.trans HF5.out))
      have HQ5 : Hid (Sl w5 (.slice a4 qn c4) ((seqsOf y.base y.m).map W16)) := Lib.hid (Sl.keep HQ.out HF5.out)
      have HDJ : Hid (∀ b, blockOf (.slice as_ xs.length cs) = some b → b ∉ (liveOf (.slice a4 qn c4)).toList) := Lib.hid (fun b hb hm => by have h1 := HQB.out b (mem_toList.1 hm); have h2 := (HO.out.block b hb).2; omega)
      have HL1 : Hid (xs.length + 1 ≤ maxLen) := Lib.hid (by have := HK.out; unfold maxLen; omega)
      have HL2 : Hid ((xs.length + 1) * 24 ≤ 140737488355328) := Lib.hid (by have := HK.out; omega)
      have HL3 : Hid (w.heap.size ≤ w5.heap.size) := Lib.hid (by have := HSZ.out; have := HF4.out.size; have := HF5.out.size; omega)
      go_wp2_with (at_builtin; (rw [E5.out]); refine wpList_append_el Rep.seq (by decide) rfl (.tmp 12) (.tmp 15) 74 rfl w.heap.size 77 (.slice none 0 0) 24 Try.underlying74 info_seq rfl (.slice as_ xs.length cs) xs Bs rfl HOS.out w4.heap.size 0 1 rfl [.slice a4 qn c4] (seqsOf y.base y.m) (liveOf (.slice a4 qn c4)).toList (box_range HB5.out) ⟨_, rfl, HQ5.out, rfl⟩ HDJ.out HL1.out HL2.out HL3.out ?_; intro vs1 w6 hown1 hfr1 hbl1; have HV1 := Lib.hid hown1; have HF6 := Lib.hid hfr1; obtain ⟨as1, cs1, rfl⟩ := hown1.shape; clear hown1 hfr1 hbl1)
      exact ⟨⟨k + 1, _, by omega, by go_num, by rw [HT.out]; have h1 := HV1.out; rw [List.length_append] at h1; exact h1,
        fun b hb => by
          rcases List.mem_append.1 hb with hb | hb
          · exact HBS.out b hb
          · have := HQB.out b (mem_toList.1 hb); have := HSZ.out; omega,
        ((HFQ.out.trans HF4.out).trans HF5.out).step HF6.out (fun b hb => .inr (HO.out.block b (mem_toList.1 hb)).1)⟩, by simp [intOf]; omega⟩
    · obtain rfl : k = rs.length := by omega
      rw [List.take_length] at HXS
      go_wp2_with fail
      go_ret
      exact ⟨_, _, rfl, by rw [HXS.out]; exact HO.out, HFQ.out⟩
end Go.Proofs.Ytchbgiindfoepaa

/- The walks of confluxref01.SameSeqs and SameAll, of the same lists (printed by gen_ref01d.py). -/
namespace Go.Proofs.Ytchbgiindfoepaa
open Go.RowKit

set_option maxRecDepth 100000 in
set_option maxHeartbeats 4000000 in
theorem r01SameSeqs_eq {w : World} {v1 v2 : Value} {l : List UInt16} (h1 : Seqs w v1 l) (h2 : Seqs w v2 l) :
    Calls Try.prog 38 #[v1, v2] w fun e w' => e = .returned (.bool true) ∧ Fr [] w w' := by
  obtain ⟨a1, c1, rfl⟩ := Sl.shape h1
  obtain ⟨a2, c2, rfl⟩ := Sl.shape h2
  rw [List.length_map] at h1 h2 ⊢
  have hlen := (Sl.len h1).2
  unfold maxLen at hlen
  have H1 := Lib.hid h1; have H2 := Lib.hid h2
  clear h1 h2
  go_enter Try.func38, Try.ntmps38
  go_wp2_with fail
  go_loopw [5] (fun i wr => ∃ j : Nat, j ≤ l.length ∧ i = .int .i64 j ∧ Fr [] w wr) (fun i _ => l.length - (intOf i).toNat)
  case atStart => exact ⟨0, Nat.zero_le _, rfl, Fr.refl _ _⟩
  case round =>
    obtain ⟨j, hj, rfl, hF⟩ := hrel
    have HF := Lib.hid hF
    clear hF
    by_cases hlt : j < l.length
    · obtain ⟨b1, o1, ea, -, hc1⟩ := Sl.at_ H1.out hlt
      obtain ⟨b2, o2, eb, -, hc2⟩ := Sl.at_ H2.out hlt
      subst ea eb
      have d1 := HF.out.cellSome (hc1 j (W16 l[j]) (by rw [List.getElem?_map, List.getElem?_eq_getElem hlt]; rfl)) (by simp)
      have d2 := HF.out.cellSome (hc2 j (W16 l[j]) (by rw [List.getElem?_map, List.getElem?_eq_getElem hlt]; rfl)) (by simp)
      unfold W16 at d1 d2
      clear hc1 hc2
      generalize l[j].toNat = q at *
      go_wp2_with fail
      go_quiet (fail)
      go_wp2_with fail
      go_roundw
      case rel => exact ⟨j + 1, by omega, by go_num, HF.out.drewN _⟩
      case measure => simp [intOf]; omega
    · obtain rfl : j = l.length := by omega
      go_wp2_with fail
      go_ret
      exact ⟨rfl, HF.out⟩
set_option maxRecDepth 100000 in
set_option maxHeartbeats 4000000 in
theorem r01SameAll_eq {w : World} {v1 v2 : Value} {ls : List (List UInt8)} (h1 : BRows w v1 ls) (h2 : BRows w v2 ls) (hs : ∀ l ∈ ls, l.length ≤ 1099511627776) :
    Calls Try.prog 34 #[v1, v2] w fun e w' => e = .returned (.bool true) ∧ Fr [] w w' := by
  obtain ⟨a1, c1, rfl⟩ := h1.shape
  obtain ⟨a2, c2, rfl⟩ := h2.shape
  have hlen := h1.len.2
  unfold maxLen at hlen
  have H1 := Lib.hid h1; have H2 := Lib.hid h2; have HSM := Lib.hid hs
  clear h1 h2 hs
  go_enter Try.func34, Try.ntmps34
  go_wp2_with fail
  go_loopw [5] (fun i wr => ∃ j : Nat, j ≤ ls.length ∧ i = .int .i64 j ∧ Fr [] w wr) (fun i _ => ls.length - (intOf i).toNat)
  case atStart => exact ⟨0, Nat.zero_le _, rfl, Fr.refl _ _⟩
  case round =>
    obtain ⟨j, hj, rfl, hF⟩ := hrel
    have HF := Lib.hid hF
    clear hF
    by_cases hlt : j < ls.length
    · obtain ⟨b1, o1, al, cl, ea, -, hc1, hx1⟩ := (H1.out.keep HF.out).at_ j hlt
      obtain ⟨b2, o2, am, cm, eb, -, hc2, hx2⟩ := (H2.out.keep HF.out).at_ j hlt
      subst ea eb
      have HC1 := Lib.hid hc1; have HC2 := Lib.hid hc2; have HX1 := Lib.hid hx1; have HX2 := Lib.hid hx2
      have HLN := Lib.hid (HSM.out ls[j] (List.getElem_mem hlt))
      clear hc1 hc2 hx1 hx2
      generalize ls[j] = l at *
      go_upto_region 6 with fail
      refine wp_region_T (fun w' => Fr [] wr.drew w') [] 10 #[false, false, false, false, false, false, false, false, false, false] (by kernel_rfl) rfl rfl ?_
      try simp only [List.append_eq, List.cons_append, List.nil_append]
      have hF := (Fr.refl [] wr).drew
      have HF := Lib.hid (HF.out.trans hF)
      have HC1 := Lib.hid (hF.cellSome HC1.out (by simp))
      have HC2 := Lib.hid (hF.cellSome HC2.out (by simp))
      have HX1 := Lib.hid (Sl.keep HX1.out hF)
      have HX2 := Lib.hid (Sl.keep HX2.out hF)
      clear hF
      have HSS : Hid (Fr [] wr.drew wr.drew) := Lib.hid (Fr.refl _ _)
      generalize wr.drew = wd at *
      refine wpAnyT_load (i := 0) (v := ?_) rfl (by kernel_rfl) (by kernel_rfl) (by kernel_rfl) (by kernel_rfl) (by kernel_rfl) (fun _ _ _ h => h) HSS.out (by rfl) ?_ ?_
      rotate_left
      · intro w hSw; skip; go_simp; try with_reducible rfl
      simp only [Act.put, List.getElem_toArray, List.getElem_cons_zero, List.getElem_cons_succ, List.setIfInBounds_toArray, List.set_cons_zero, List.set_cons_succ]
      refine wpAnyT_load (i := 1) (v := ?_) rfl (by kernel_rfl) (by kernel_rfl) (by kernel_rfl) (by kernel_rfl) (by kernel_rfl) (fun _ _ _ h => h) HSS.out (by rfl) ?_ ?_
      rotate_left
      · intro w hSw; skip; go_simp; try with_reducible rfl
      simp only [Act.put, List.getElem_toArray, List.getElem_cons_zero, List.getElem_cons_succ, List.setIfInBounds_toArray, List.set_cons_zero, List.set_cons_succ]
      refine wpAnyT_load (i := 2) (v := ?_) rfl (by kernel_rfl) (by kernel_rfl) (by kernel_rfl) (by kernel_rfl) (by kernel_rfl) (fun _ _ _ h => h) HSS.out (by rfl) ?_ ?_
      rotate_left
      · intro w hSw; skip; go_simp; try with_reducible rfl
      simp only [Act.put, List.getElem_toArray, List.getElem_cons_zero, List.getElem_cons_succ, List.setIfInBounds_toArray, List.set_cons_zero, List.set_cons_succ]
      refine wpAnyT_load (i := 3) (v := ?_) rfl (by kernel_rfl) (by kernel_rfl) (by kernel_rfl) (by kernel_rfl) (by kernel_rfl) (fun _ _ _ h => h) HSS.out (by rfl) ?_ ?_
      rotate_left
      · intro w hSw; have n0 := hSw.cellSome HC1.out (by simp); go_simp; try with_reducible rfl
      simp only [Act.put, List.getElem_toArray, List.getElem_cons_zero, List.getElem_cons_succ, List.setIfInBounds_toArray, List.set_cons_zero, List.set_cons_succ]
      refine wpAnyT_load (i := 4) (v := ?_) rfl (by kernel_rfl) (by kernel_rfl) (by kernel_rfl) (by kernel_rfl) (by kernel_rfl) (fun _ _ _ h => h) HSS.out (by rfl) ?_ ?_
      rotate_left
      · intro w hSw; skip; go_simp; try with_reducible rfl
      simp only [Act.put, List.getElem_toArray, List.getElem_cons_zero, List.getElem_cons_succ, List.setIfInBounds_toArray, List.set_cons_zero, List.set_cons_succ]
      refine wpAnyT_load (i := 5) (v := ?_) rfl (by kernel_rfl) (by kernel_rfl) (by kernel_rfl) (by kernel_rfl) (by kernel_rfl) (fun _ _ _ h => h) HSS.out (by rfl) ?_ ?_
      rotate_left
      · intro w hSw; skip; go_simp; try with_reducible rfl
      simp only [Act.put, List.getElem_toArray, List.getElem_cons_zero, List.getElem_cons_succ, List.setIfInBounds_toArray, List.set_cons_zero, List.set_cons_succ]
      refine wpAnyT_load (i := 6) (v := ?_) rfl (by kernel_rfl) (by kernel_rfl) (by kernel_rfl) (by kernel_rfl) (by kernel_rfl) (fun _ _ _ h => h) HSS.out (by rfl) ?_ ?_
      rotate_left
      · intro w hSw; skip; go_simp; try with_reducible rfl
      simp only [Act.put, List.getElem_toArray, List.getElem_cons_zero, List.getElem_cons_succ, List.setIfInBounds_toArray, List.set_cons_zero, List.set_cons_succ]
      refine wpAnyT_load (i := 7) (v := ?_) rfl (by kernel_rfl) (by kernel_rfl) (by kernel_rfl) (by kernel_rfl) (by kernel_rfl) (fun _ _ _ h => h) HSS.out (by rfl) ?_ ?_
      rotate_left
      · intro w hSw; have n0 := hSw.cellSome HC2.out (by simp); go_simp; try with_reducible rfl
      simp only [Act.put, List.getElem_toArray, List.getElem_cons_zero, List.getElem_cons_succ, List.setIfInBounds_toArray, List.set_cons_zero, List.set_cons_succ]
      refine wpAnyT_one (i := 8) (by kernel_rfl) rfl (fun K hK => ?_)
      rw [if_pos (by rfl)]
      go_simp
      refine (RSame_any (Sl.keep HX1.out HSS.out) (Sl.keep HX2.out HSS.out) HLN.out HLN.out).mono ?_
      rintro e wq ⟨rfl, hF⟩
      rw [beq_self_eq_true]
      go_simp
      have HSS := Lib.hid (HSS.out.trans hF)
      clear hF
      refine hK.out _ _ (fun _ => HSS.out) ?_
      clear hK K
      simp only [Act.put, List.getElem_toArray, List.getElem_cons_zero, List.getElem_cons_succ, List.setIfInBounds_toArray, List.set_cons_zero, List.set_cons_succ]
      refine wpAnyT_load (i := 9) (v := ?_) rfl (by kernel_rfl) (by kernel_rfl) (by kernel_rfl) (by kernel_rfl) (by kernel_rfl) (fun _ _ _ h => h) HSS.out (by rfl) ?_ ?_
      rotate_left
      · intro w hSw; skip; go_simp; try with_reducible rfl
      simp only [Act.put, List.getElem_toArray, List.getElem_cons_zero, List.getElem_cons_succ, List.setIfInBounds_toArray, List.set_cons_zero, List.set_cons_succ]
      refine wpAnyT_done (by kernel_rfl) ?_ _
      have HF := Lib.hid (HF.out.trans HSS.out)
      go_wp2_with fail
      go_roundw
      case rel => exact ⟨j + 1, by omega, by go_num, HF.out⟩
      case measure => simp [intOf]; omega
    · obtain rfl : j = ls.length := by omega
      go_wp2_with fail
      go_ret
      exact ⟨rfl, HF.out⟩
end Go.Proofs.Ytchbgiindfoepaa

/- The walks of confluxref01.Add, confluxref11.Seqs and Repair (printed by gen_ref11.py). -/
namespace Go.Proofs.Ytchbgiindfoepaa
open Go.RowKit

set_option maxHeartbeats 1000000 in
theorem r01Add_any (a : UInt16) {n : Nat} (hn : n < 65536) {w : World} :
    Calls Try.prog 96 #[.int .u16 (a.toNat : Nat), .int .i64 (n : Int)] w fun e w' => e = .returned (.int .u16 ((add16 a (n : Int)).toNat : Nat)) ∧ Fr [] w w' := by
  have ha := a.toNat_lt
  have hF := Lib.hid (Fr.refl [] w)
  have h1 : ((n : Int)).tmod 65536 = (n : Int) := by rw [Int.tmod_eq_emod_of_nonneg (by omega)]; omega
  have h2 : (((a.toNat : Nat) : Int) + (n : Int)).tmod 65536 = ((((a.toNat + n) % 65536 : Nat)) : Int) := by rw [Int.tmod_eq_emod_of_nonneg (by omega)]; omega
  have h3 : (add16 a (n : Int)).toNat = (a.toNat + n) % 65536 := by unfold add16; rw [UInt16.toNat_ofNat']; omega
  rw [h3]
  generalize a.toNat = x at *
  go_enter Try.func96, Try.ntmps96
  go_wp2
  go_ret
  refine ⟨ret_int ?_, hF.out⟩
  first | rfl | omega | (simp; omega)
set_option maxRecDepth 100000 in
set_option maxHeartbeats 4000000 in
theorem r11Seqs_any (base : UInt16) (m : Msk) {w : World} :
    Calls Try.prog 75 #[.int .u16 (base.toNat : Nat), .int .u64 (m.hi.toNat : Nat), .int .u64 (m.lo.toNat : Nat)] w fun e w' => ∃ v, e = .returned v ∧ OwnV w' w.heap.size 42 W16 v (seqsOf base m) ∧ Fr [] w w' := by
  obtain ⟨w1, e1, hF, hB1, hs1⟩ := one_new w #[] 42
  have HO : Hid (OwnV w1 w.heap.size 42 W16 (.slice (some ⟨w.heap.size, 0, none⟩) 0 0) []) := Lib.hid (by subst e1; exact OwnV.made w w.heap.size _ _ (Nat.le_refl _))
  have E1 := Lib.hid e1; have HF := Lib.hid hF
  clear e1 hF hB1 hs1
  go_enter Try.func75, Try.ntmps75
  go_upto_region 2 with fail
  try rw [E1.out]
  clear E1
  go_wp2_with fail
  refine (r02Of_any m).mono ?_
  rintro e w2 ⟨v2, rfl, hV, hF⟩
  have HO := Lib.hid (HO.out.keep hF)
  have HF := Lib.hid (HF.out.trans hF)
  have HV := Lib.hid hV.sl
  have HWS : Hid (w.heap.size < w2.heap.size) := Lib.hid (by have h1 := (HO.out.block w.heap.size rfl).2; exact h1)
  obtain ⟨a2, c2, rfl⟩ := hV.shape
  clear hV hF
  go_wp2_with fail
  refine (r02List_any HV.out (by rw [bitsL_len]; omega)).mono ?_
  rintro e w3 ⟨v3, rfl, hV, hF⟩
  have HO := Lib.hid (HO.out.keep hF)
  have HF := Lib.hid (HF.out.trans hF)
  rw [bitsL_len, idx_bits] at hV
  have HV := Lib.hid hV.sl
  obtain ⟨a3, c3, rfl⟩ := hV.shape
  have HVB : Hid (∀ b, blockOf (.slice a3 m.list.length c3) = some b → w.heap.size < b ∧ b < w3.heap.size) := Lib.hid (fun b hb => by have h1 := hV.block b hb; have h2 := HWS.out; omega)
  clear hV hF
  have hml := m.list_len
  have HML : Hid (∀ i ∈ m.list, i < 128) := Lib.hid (fun i hi => Msk.list_lt hi)
  have HSQ : Hid (seqsOf base m = m.list.map fun i => add16 base (i : Nat)) := Lib.hid rfl
  generalize m.list = is at *
  have HV0 := HV
  go_upto_region 4 with fail
  go_loopw [7, 9] (fun ov iv wr => ∃ j : Nat, j ≤ is.length ∧ iv = .int .i64 j ∧ OwnV wr w.heap.size 42 W16 ov ((is.take j).map fun (i : Nat) => add16 base i) ∧ Fr [] w wr ∧ Sl wr (.slice a3 is.length c3) (is.map NI) ∧ (∀ b, blockOf ov = some b → b = w.heap.size ∨ w3.heap.size ≤ b) ∧ w3.heap.size ≤ wr.heap.size) (fun _ iv _ => is.length - (intOf iv).toNat)
  case atStart => exact ⟨0, by omega, rfl, HO.out, HF.out, HV0.out, fun b hb => .inl (by simpa [blockOf] using hb.symm), Nat.le_refl _⟩
  case round =>
    clear HO HF
    obtain ⟨j, hj, rfl, hO, hF, hV, hob, hsz⟩ := hrel
    obtain ⟨ao, no, co, rfl⟩ := hO.isSlice
    have HO := Lib.hid hO; have HFQ := Lib.hid hF; have HV := Lib.hid hV; have HOB := Lib.hid hob; have HSZ := Lib.hid hsz
    clear hO hF hV hob hsz
    by_cases hlt : j < is.length
    · obtain ⟨bp, op, ea, hbp, hcp⟩ := HV.out.at_ (k := j) hlt
      subst ea
      have e2 := hcp j (NI is[j]) (by rw [List.getElem?_map, List.getElem?_eq_getElem hlt]; rfl)
      clear hcp hbp
      have hi := HML.out is[j] (List.getElem_mem hlt)
      have HSN : Hid ((is.take (j + 1)).map (fun (i : Nat) => add16 base i) = (is.take j).map (fun (i : Nat) => add16 base i) ++ [add16 base (is[j] : Nat)]) := Lib.hid (by rw [List.take_succ_eq_append_getElem hlt, List.map_append]; rfl)
      generalize is[j] = i at *
      go_wp2_with fail
      refine (r01Add_any base (by omega)).mono ?_
      rintro e w4 ⟨rfl, hF⟩
      have HO := Lib.hid (HO.out.keep hF); have HFQ := Lib.hid (HFQ.out.trans hF); have HV := Lib.hid (Sl.keep HV.out hF); have HSZ : Hid (w3.heap.size ≤ w4.heap.size) := Lib.hid (Nat.le_trans HSZ.out hF.size)
      clear hF e2
      have HLO : Hid (((is.take j).map fun (i : Nat) => add16 base i).length ≤ 1099511627776) := Lib.hid (by rw [List.length_map, List.length_take]; omega)
      have HIY := Lib.hid hi
      clear hi
      generalize add16 base (i : Nat) = y at *
      have A0 : Hid ((w4.alloc (.cells #[Value.int .u16 (y.toNat : Nat)] 42)).ownsRow w.heap.size 42 1 (.slice ao no co) (((is.take j).map fun (i : Nat) => add16 base i)).length ((((is.take j).map fun (i : Nat) => add16 base i)).map W16)) := Lib.hid (Own.keep HO.out ((Fr.refl [] w4).alloc _))
      have A1 : Hid ((((is.take j).map fun (i : Nat) => add16 base i)).length + [Value.int .u16 (y.toNat : Nat)].length ≤ maxLen) := Lib.hid (by have := HLO.out; unfold maxLen; simp only [List.length_singleton]; omega)
      have A2 : Hid (((((is.take j).map fun (i : Nat) => add16 base i)).length + [Value.int .u16 (y.toNat : Nat)].length) * 2 ≤ 140737488355328) := Lib.hid (by have := HLO.out; simp only [List.length_singleton]; omega)
      have A3 : Hid (Sl (w4.alloc (.cells #[Value.int .u16 (y.toNat : Nat)] 42)) (.slice (some ⟨w4.heap.size, 0, none⟩) 1 1) [Value.int .u16 (y.toNat : Nat)]) := Lib.hid (Sl.one w4 _ _)
      have A4 : Hid (w.heap.size ≤ (w4.alloc (.cells #[Value.int .u16 (y.toNat : Nat)] 42)).heap.size) := Lib.hid (by have := HFQ.out.size; simp; omega)
      go_wp2_with (at_builtin; refine wpList_append_slf rfl (.tmp 21) (.tmp 28) 77 rfl w.heap.size 42 (.int .u16 0) 2 Try.underlying77 info_u16 rfl (.slice ao no co) (((is.take j).map fun (i : Nat) => add16 base i)).length ((((is.take j).map fun (i : Nat) => add16 base i)).map W16) rfl A0.out (.slice (some ⟨w4.heap.size, 0, none⟩) 1 1) [Value.int .u16 (y.toNat : Nat)] rfl A3.out (by simp [Value.oneCell']) A1.out A2.out A4.out ?_; intro v3 w5 ho hg hfr; have HO3 := Lib.hid ho; have HG := Lib.hid hg; have HBL := Lib.hid hfr; clear ho hg hfr)
      have HN : Hid (OwnV w5 w.heap.size 42 W16 v3 (((is.take j).map fun (i : Nat) => add16 base i) ++ [y])) := Lib.hid (by
        have := HO3.out
        unfold OwnV
        rw [List.map_append, List.length_append]
        exact this)
      have HF3 : Hid (Fr [] w w5) := Lib.hid ((HFQ.out.alloc _).step HG.out (fun x hx => .inr (HO.out.block x (by simpa using hx)).1))
      rw [← HSN.out] at HN
      have hvn : Sl w5 (.slice (some ⟨bp, op, none⟩) is.length c3) (is.map NI) := Sl.frL (Sl.keep HV.out ((Fr.refl [] w4).alloc _)) HG.out (fun x hx hm => by have h1 := HVB.out x (live_block hx); have h2 := HOB.out x (by simpa using hm); omega)
      have hbn : ∀ b, blockOf v3 = some b → b = w.heap.size ∨ w3.heap.size ≤ b := fun b hb => by
        rcases HBL.out b hb with h | h
        · exact HOB.out b h
        · right
          have := HSZ.out
          simp at h
          omega
      have hsn : w3.heap.size ≤ w5.heap.size := by have := HSZ.out; have := HG.out.size; simp at this; omega
      have HVN := Lib.hid hvn; have HBN := Lib.hid hbn; have HSN2 := Lib.hid hsn
      clear hvn hbn hsn
      go_wp2_with fail
      exact ⟨⟨j + 1, by omega, by go_num, HN.out, HF3.out, HVN.out, HBN.out, HSN2.out⟩, by simp [intOf]; omega⟩
    · obtain rfl : j = is.length := by omega
      rw [List.take_length] at HO
      go_wp2_with fail
      go_ret
      exact ⟨_, rfl, by rw [HSQ.out]; exact HO.out, HFQ.out⟩
set_option maxRecDepth 100000 in
set_option maxHeartbeats 4000000 in
theorem r11Repair_any {w : World} {v : Value} {r : Rep_} (h : RpV w v r) :
    Calls Try.prog 39 #[v] w fun e w' => ∃ v', e = .returned v' ∧ OwnV w' w.heap.size 42 W16 v' (seqsOf r.base r.m) ∧ Fr [] w w' := by
  obtain ⟨vb, rfl, hb⟩ := h
  obtain ⟨a, n, c, rfl⟩ := Sl.isSlice hb
  obtain ⟨w1, e1, hF1, hB1, hs1⟩ := one_new w (rpc r (.slice a n c)) 58
  have HF := Lib.hid hF1; have HR := Lib.hid hB1; have E1 := Lib.hid e1
  clear hF1 hB1 e1 hs1 hb
  have x8 := HR.out.cell 8; have x9 := HR.out.cell 9; have x10 := HR.out.cell 10
  simp only [rpc, List.getElem?_toArray, List.getElem?_cons_succ, List.getElem?_cons_zero] at x8 x9 x10
  go_enter Try.func39, Try.ntmps39
  go_upto_region 1 with fail
  rw [E1.out]
  clear E1
  go_wp2_with fail
  refine (r11Seqs_any r.base r.m).mono ?_
  rintro e w2 ⟨v2, rfl, hV, hF⟩
  have HV : Hid (OwnV w2 w.heap.size 42 W16 v2 (seqsOf r.base r.m)) := Lib.hid (hV.mono HF.out.size)
  have HF := Lib.hid (HF.out.trans hF)
  obtain ⟨a2, c2, rfl⟩ := hV.shape
  clear hV hF x8 x9 x10
  go_wp2_with fail
  go_ret
  exact ⟨_, rfl, HV.out, HF.out⟩
end Go.Proofs.Ytchbgiindfoepaa
