/- The document's window: Put (printed by gen_r21c.py). -/
import Derived.Test.YtbmpiemhfndnbaaMp37
import Derived.Test.YtbmpiemhfndnbaaMp9
import Derived.Test.YtbmpiemhfndnbaaMp33
namespace Go.Proofs.Ytbmpiemhfndnbaa
open Go.RowKit

/-- What Put does, in the document's own numbers. -/
theorem put_raw {c : Nat} {s : Win} (hi : WInv c s) (hc : c ≤ 1000) (q : UInt16) (x now : Int) :
    (0 ≤ rhi s → peekW s.hi q = rhi s + ahd q (UInt16.ofNat (rhi s % 65536).toNat)) ∧ (¬ 0 ≤ rhi s → peekW s.hi q = 4294967296 + (q.toNat : Int)) ∧ 0 ≤ peekW s.hi q ∧ peekW s.hi q ≤ 4400000000 ∧ -1 ≤ rhi s ∧ rhi s ≤ 4400000000 ∧ -1 ≤ rnx s ∧ rnx s ≤ 4400000000 ∧
    (0 ≤ rnx s ∧ peekW s.hi q < rnx s → s.put q x now = (s.tick now, [], 50)) ∧
    (¬ (0 ≤ rnx s ∧ peekW s.hi q < rnx s) → (∃ o ∈ s.all, o.n = peekW s.hi q) → s.put q x now = (s.tick now, [], 5)) ∧
    (¬ (0 ≤ rnx s ∧ peekW s.hi q < rnx s) → (∀ o ∈ s.all, o.n ≠ peekW s.hi q) →
      ∀ N1 N2, N1 = (if rnx s < 0 then peekW s.hi q else rnx s) → N2 = (if N1 + s.size ≤ peekW s.hi q then peekW s.hi q - s.size + 1 else N1) →
      (s.put q x now).2.1 = s.all.filter (fun o => decide (o.n < N2)) ∧ (s.put q x now).1.all = insW ⟨peekW s.hi q, x, tickT s.now now⟩ (s.all.filter fun o => !decide (o.n < N2)) ∧ rnx (s.put q x now).1 = N2 ∧ rhi (s.put q x now).1 = (if rhi s < peekW s.hi q then peekW s.hi q else rhi s) ∧
      (s.put q x now).1.size = s.size ∧ (s.put q x now).1.wait = s.wait ∧ (s.put q x now).1.now = tickT s.now now ∧ (s.put q x now).2.2 = 0) := by
  have hpk := peek_in hi hc q
  obtain ⟨size, wait, hh, next, tt, all⟩ := s
  cases hh with
  | none =>
    obtain ⟨e1, e2⟩ := hi.old rfl
    simp only at e1 e2
    subst e1 e2
    have hq := q.toNat_lt
    have hr : rhi ⟨size, wait, none, 0, tt, []⟩ = -1 := rfl
    have hn : rnx ⟨size, wait, none, 0, tt, []⟩ = -1 := rfl
    rw [hr, hn]
    refine ⟨fun h => absurd h (by decide), fun _ => rfl, hpk.1, hpk.2, by decide, by decide, by decide, by decide, fun h => absurd h.1 (by decide), fun _ h => (by obtain ⟨o, ho, -⟩ := h; cases ho), fun _ _ N1 N2 h1 h2 => ?_⟩
    rw [if_pos (by decide)] at h1
    have hsz := hi.size
    simp only at hsz
    subst h1
    rw [if_neg (by simp only; omega)] at h2
    subst h2
    have hp := put_new (s := ⟨size, wait, none, 0, tt, []⟩) (q := q) (x := x) (now := now) (n := peekW none q) (nx := peekW none q) (by rintro ⟨e, -⟩; cases e) rfl rfl (by
      show peekW none q = if peekW none q ≥ peekW none q + size then peekW none q - size + 1 else peekW none q
      rw [if_neg (by omega)])
    rw [hp]
    refine ⟨rfl, rfl, rfl, ?_, rfl, rfl, rfl, rfl⟩
    rw [if_pos (by omega)]
    rfl
  | some k =>
    have h6 := hi.hi k rfl
    simp only at h6 hpk
    have hr : rhi ⟨size, wait, some k, next, tt, all⟩ = k := rfl
    have hn : rnx ⟨size, wait, some k, next, tt, all⟩ = next := rfl
    rw [hr, hn]
    have hp := peekW_some (h := k) (q := q)
    refine ⟨fun _ => rfl, fun h => absurd (by omega) h, hpk.1, hpk.2, by omega, by omega, by omega, by omega, fun h => ?_, fun h1 h2 => ?_, fun h1 h2 N1 N2 e1 e2 => ?_⟩
    · exact put_old (s := ⟨size, wait, some k, next, tt, all⟩) ⟨rfl, h.2⟩
    · cases hf : findH all (peekW (some k) q) with
      | none => obtain ⟨o, ho, e⟩ := h2; exact absurd e (findH_none.1 hf o ho)
      | some o => exact put_twice (s := ⟨size, wait, some k, next, tt, all⟩) (o := o) (fun e => h1 ⟨by omega, e.2⟩) hf
    · rw [if_neg (by omega)] at e1
      subst e1
      have e3 : N2 = (if peekW (some k) q ≥ N1 + size then peekW (some k) q - size + 1 else N1) := e2
      have h4 : max k (peekW (some k) q) = if k < peekW (some k) q then peekW (some k) q else k := by split <;> omega
      have hp := put_new (s := ⟨size, wait, some k, N1, tt, all⟩) (q := q) (x := x) (now := now) (n := peekW (some k) q) (nx := N2) (fun e => h1 ⟨by omega, e.2⟩) (findH_none.2 h2) rfl e3
      rw [hp]
      refine ⟨rfl, rfl, rfl, ?_, rfl, rfl, rfl, rfl⟩
      rw [← h4]
      rfl
/-- What stands behind so many elements: is the new one in? -/
def AOk (N : Int) (o : Held_) (l : List Held_) (d : Bool) (A : List Held_) : Prop :=
  (d = false ∧ A = l.filter (fun p => !decide (p.n < N)) ∧ ∀ p ∈ A, p.n ≤ o.n) ∨ (d = true ∧ A = insW o (l.filter fun p => !decide (p.n < N)) ∧ ∃ p ∈ l.filter (fun p => !decide (p.n < N)), o.n < p.n)
namespace AOk
variable {N : Int} {o p : Held_} {l A : List Held_} {d : Bool}
theorem gone (h : AOk N o l d A) (hp : p.n < N) : AOk N o (l ++ [p]) d A := by
  unfold AOk at h ⊢
  rw [List.filter_append, List.filter_cons_of_neg (by simpa using hp), List.filter_nil, List.append_nil]
  exact h
theorem keep_ (hp : ¬ p.n < N) : (l ++ [p]).filter (fun p => !decide (p.n < N)) = l.filter (fun p => !decide (p.n < N)) ++ [p] := by
  rw [List.filter_append, List.filter_cons_of_pos (by simpa using hp), List.filter_nil]
theorem more (h : AOk N o l true A) (hp : ¬ p.n < N) : AOk N o (l ++ [p]) true (A ++ [p]) := by
  rcases h with ⟨h, -⟩ | ⟨-, h1, h2⟩
  · cases h
  · refine .inr ⟨rfl, ?_, ?_⟩
    · rw [keep_ hp, insW_app h2, h1]
    · obtain ⟨r, hr, h3⟩ := h2
      exact ⟨r, by rw [keep_ hp]; simp [hr], h3⟩
theorem less (h : AOk N o l false A) (hp : ¬ p.n < N) (ho : ¬ o.n < p.n) : AOk N o (l ++ [p]) false (A ++ [p]) := by
  rcases h with ⟨-, h1, h2⟩ | ⟨h, -⟩
  · refine .inl ⟨rfl, by rw [keep_ hp, h1], fun r hr => ?_⟩
    rcases List.mem_append.1 hr with hr | hr
    · exact h2 r hr
    · simp at hr; subst hr; omega
  · cases h
theorem ins (h : AOk N o l false A) (hp : ¬ p.n < N) (ho : o.n < p.n) : AOk N o (l ++ [p]) true (A ++ [o] ++ [p]) := by
  rcases h with ⟨-, h1, h2⟩ | ⟨h, -⟩
  · refine .inr ⟨rfl, ?_, ⟨p, by rw [keep_ hp]; simp, ho⟩⟩
    rw [keep_ hp, ← h1, insW_mid ho h2]
  · cases h
theorem done (h : AOk N o l true A) : A = insW o (l.filter fun p => !decide (p.n < N)) := by
  rcases h with ⟨h, -⟩ | ⟨-, h1, -⟩
  · cases h
  · exact h1
theorem last (h : AOk N o l false A) : A ++ [o] = insW o (l.filter fun p => !decide (p.n < N)) := by
  rcases h with ⟨-, h1, h2⟩ | ⟨h, -⟩
  · rw [← h1, insW_last h2]
  · cases h
theorem len (h : AOk N o l d A) : A.length ≤ l.length + 1 := by
  have := List.length_filter_le (fun p : Held_ => !decide (p.n < N)) l
  rcases h with ⟨-, h1, -⟩ | ⟨-, h1, -⟩
  · rw [h1]; omega
  · rw [h1, length_insW]; omega
end AOk
/-- The world while Put runs: the window's cells, those of the result. -/
structure PSt (w W : World) (v : Value) (size wait N H T : Int) : Prop where
  box : Box W w.heap.size 28 (rw6 size wait v N H T)
  rb : Box W (w.heap.size + 1) 28 (rw6 0 0 (.slice none 0 0) 0 0 0)
  f : Fr [] w W
theorem PSt.keep {w W W' : World} {v : Value} {size wait N H T : Int} (h : PSt w W v size wait N H T) (hf : Fr [] W W') : PSt w W' v size wait N H T := ⟨h.box.keep hf, h.rb.keep hf, h.f.trans hf⟩
theorem PSt.fr {w W W' : World} {v : Value} {size wait N H T : Int} {S : List Nat} (h : PSt w W v size wait N H T) (hf : Fr S W W') (hS : ∀ b ∈ S, w.heap.size + 1 < b) : PSt w W' v size wait N H T :=
  ⟨h.box.fr hf (fun e => by have := hS _ e; omega), h.rb.fr hf (fun e => by have := hS _ e; omega), h.f.step hf (fun b hb => .inr (by have := hS b hb; omega))⟩
theorem PSt.put {w W W' : World} {v v' : Value} {size wait N H T N' H' : Int} (h : PSt w W v size wait N H T) (hf : Fr [w.heap.size] W W') (hB : Box W' w.heap.size 28 (rw6 size wait v' N' H' T)) : PSt w W' v' size wait N' H' T :=
  ⟨hB, h.rb.fr hf (by simp), h.f.step hf (fun b hb => .inr (by simp at hb; omega))⟩
/-- A round of Put's second loop. -/
structure PLp (w W : World) (v : Value) (size wait N H T : Int) (B0 : Nat) (all : List Held_) (o : Held_) (j : Nat) (d : Bool) (vg va : Value) (G A : List Held_) : Prop where
  st : PSt w W v size wait N H T
  g : OwnEls 3 OneR W B0 76 vg G []
  a : OwnEls 3 OneR W B0 76 va A []
  ne : ∀ b, blockOf vg = some b → blockOf va ≠ some b
  hg : G = (all.take j).filter (fun p => decide (p.n < N))
  ha : AOk N o (all.take j) d A
  sz : B0 ≤ W.heap.size
  b0 : w.heap.size + 1 < B0
theorem PLp.lens {w W : World} {v : Value} {size wait N H T : Int} {B0 : Nat} {all : List Held_} {o : Held_} {j : Nat} {d : Bool} {vg va : Value} {G A : List Held_} (h : PLp w W v size wait N H T B0 all o j d vg va G A) : G.length ≤ all.length ∧ A.length ≤ all.length + 1 := by
  have h1 := h.ha.len
  have h2 := List.length_filter_le (fun p : Held_ => decide (p.n < N)) (all.take j)
  rw [← h.hg] at h2
  rw [List.length_take] at h1 h2
  omega
/-- The slice of those that are let go, one longer. -/
theorem PLp.app_g {w W W1 W2 : World} {v : Value} {size wait N H T : Int} {B0 : Nat} {all : List Held_} {o p : Held_} {j : Nat} {d : Bool} {vg va vg' : Value} {G A : List Held_} (h : PLp w W v size wait N H T B0 all o j d vg va G A) (hf1 : Fr [] W W1) (hf2 : Fr (blockOf vg).toList W1 W2)
    (hO : OwnEls 3 OneR W2 B0 76 vg' (G ++ [p]) []) (hb : ∀ b, blockOf vg' = some b → blockOf vg = some b ∨ W1.heap.size ≤ b) (ht : all.take (j + 1) = all.take j ++ [p]) (hp : p.n < N) : PLp w W2 v size wait N H T B0 all o (j + 1) d vg' va (G ++ [p]) A := by
  have hb0 := h.b0
  refine ⟨(h.st.keep hf1).fr hf2 (fun b e => by have := (h.g.block b (mem_toList.1 e)).1; omega), hO, (h.a.keep Rep.held hf1).fr Rep.held hf2 (by simp) (fun b e1 e2 => h.ne b (mem_toList.1 e2) e1), fun b e1 e2 => ?_, ?_, ?_, Nat.le_trans h.sz (Nat.le_trans hf1.size hf2.size), hb0⟩
  · rcases hb b e1 with e | e
    · exact h.ne b e e2
    · have := (h.a.block b e2).2; have := hf1.size; omega
  · rw [ht, List.filter_append, List.filter_cons_of_pos (by simpa using hp), List.filter_nil, h.hg]
  · rw [ht]; exact h.ha.gone hp
/-- What the slice of those that stay becomes, with one element more: the world's part. -/
theorem PLp.app_a {w W W1 W2 : World} {v : Value} {size wait N H T : Int} {B0 : Nat} {all : List Held_} {o p : Held_} {vg va va' : Value} {G A : List Held_} (hst : PSt w W v size wait N H T) (hg : OwnEls 3 OneR W B0 76 vg G []) (ha : OwnEls 3 OneR W B0 76 va A []) (ne : ∀ b, blockOf vg = some b → blockOf va ≠ some b) (hb0 : w.heap.size + 1 < B0) (hf1 : Fr [] W W1) (hf2 : Fr (blockOf va).toList W1 W2)
    (hb : ∀ b, blockOf va' = some b → blockOf va = some b ∨ W1.heap.size ≤ b) : PSt w W2 v size wait N H T ∧ OwnEls 3 OneR W2 B0 76 vg G [] ∧ (∀ b, blockOf vg = some b → blockOf va' ≠ some b) := by
  refine ⟨(hst.keep hf1).fr hf2 (fun b e => by have := (ha.block b (mem_toList.1 e)).1; omega), (hg.keep Rep.held hf1).fr Rep.held hf2 (by simp) (fun b e1 e2 => ne b e1 (mem_toList.1 e2)), fun b e1 e2 => ?_⟩
  rcases hb b e2 with e | e
  · exact ne b e1 e
  · have := (hg.block b e1).2; have := hf1.size; omega
set_option maxRecDepth 100000 in
set_option maxHeartbeats 16000000 in
theorem r21Put_any {w : World} {c : Nat} {s : Win} {v : Value} (hi : WInv c s) (hc : c ≤ 1000) (h : SlEls 3 OneR w v s.all []) (q : UInt16) (x now : Int) :
    Calls Try.prog 12 #[.agg (rwc s v), .int .u16 (q.toNat : Nat), .int .i64 x, .int .i64 now] w fun e w' => ∃ v1 v2, e = .returned (.tuple #[.agg (rwc (s.put q x now).1 v1), v2, .int .i64 (s.put q x now).2.2]) ∧ SlEls 3 OneR w' v1 (s.put q x now).1.all [] ∧ SlEls 3 OneR w' v2 (s.put q x now).2.1 [] ∧ (∀ b, liveOf v1 = some b → liveOf v = some b ∨ w.heap.size ≤ b) ∧ (∀ b, liveOf v2 = some b → w.heap.size ≤ b) ∧ Fr [] w w' := by
  obtain ⟨av, cv, rfl⟩ := h.shape
  have hraw := put_raw hi hc q x now
  have HLN : Hid (s.all.length ≤ 64) := Lib.hid (hi.bounds hc).2.2.1
  have HSZE := Lib.hid hi.size
  have hnow := hi.now
  have HTK0 := Lib.hid (fun w => r21tick_any s.size s.wait (rnx s) (rhi s) s.now now hnow (a := av) (n := s.all.length) (c := cv) (w := w))
  have hqq := q.toNat_lt
  obtain ⟨T, hT⟩ : ∃ T, tickT s.now now = T := ⟨_, rfl⟩
  obtain ⟨H0, hH⟩ : ∃ H0, rhi s = H0 := ⟨_, rfl⟩
  obtain ⟨N0, hN⟩ : ∃ N0, rnx s = N0 := ⟨_, rfl⟩
  obtain ⟨n, hn⟩ : ∃ n, peekW s.hi q = n := ⟨_, rfl⟩
  have HTI : Hid (rwc (s.tick now) (.slice av s.all.length cv) = rw6 s.size s.wait (.slice av s.all.length cv) N0 H0 T) := Lib.hid (by
    have e1 : rnx (s.tick now) = N0 := hN
    have e2 : rhi (s.tick now) = H0 := hH
    have e3 : (s.tick now).now = T := hT
    show rw6 _ _ _ _ _ _ = _
    rw [e1, e2, e3]
    rfl)
  have HTA : Hid ((s.tick now).all = s.all) := Lib.hid rfl
  rw [hT] at HTK0 hraw
  show Calls _ _ #[.agg (rw6 s.size s.wait (.slice av s.all.length cv) (rnx s) (rhi s) s.now), _, _, _] _ _
  rw [hH, hN] at HTK0 hraw ⊢
  rw [hn] at hraw
  obtain ⟨hn1, hn2, hnl, hnu, hH1, hH2, hN1, hN2, hold, htw, hnew⟩ := hraw
  have HN1 := Lib.hid hn1; have HN2 := Lib.hid hn2; have HOLD := Lib.hid hold; have HTW := Lib.hid htw; have HNEW := Lib.hid hnew
  clear hT hH hN hn1 hn2 hold htw hnew hi hn
  obtain ⟨w2, e2, hF2, hB1, hB2, hs2⟩ := two_new w (rw6 s.size s.wait (.slice av s.all.length cv) N0 H0 s.now) 28 (rw6 0 0 (.slice none 0 0) 0 0 0) 28
  have HST : Hid (PSt w w2 (.slice av s.all.length cv) s.size s.wait N0 H0 s.now) := Lib.hid ⟨hB1, hB2, hF2⟩
  have E2 := Lib.hid e2; have HSL := Lib.hid h
  clear hF2 hB1 hB2 e2 h hs2
  go_enter Try.func12, Try.ntmps12
  go_upto_region 1 with fail
  rw [E2.out]
  clear E2
  go_wp2_with (refine wpList_load_row_w rfl 28 (.tmp 4) rfl w.heap.size rfl 28 _ _ HST.out.box Try.underlying28 rfl (by kernel_rfl) ?_)
  refine (HTK0.out _).mono ?_
  rintro e wt ⟨rfl, hF⟩
  have HST := Lib.hid (HST.out.keep hF)
  clear hF HTK0
  go_upto_region 2 with (refine wpList_store_row rfl 28 (.tmp 4) (.tmp 19) rfl w.heap.size rfl _ _ rfl 28 HST.out.box (by kernel_rfl) rfl one_rw6 ?_; intro w3 hY hG; have HY := Lib.hid hY; have HG := Lib.hid hG; clear hY hG)
  have HST : Hid (PSt w w3 (.slice av s.all.length cv) s.size s.wait N0 H0 T) := Lib.hid ⟨HY.out, HST.out.rb.fr HG.out (by simp), HST.out.f.step HG.out (fun b hb => .inr (by simp at hb; omega))⟩
  clear HY HG
  have hw0 : IntKind.i64.wrap (4294967296 + (q.toNat : Int)) = 4294967296 + (q.toNat : Int) := IntWalk.i64_in _ (by omega)
  have hw1 : wrap64 (4294967296 + (q.toNat : Int)) = 4294967296 + (q.toNat : Int) := IntWalk.wrap64_in _ ⟨by omega, by omega⟩
  have x3 := HST.out.box.cell 3; have x4 := HST.out.box.cell 4
  simp only [rw6, List.getElem?_toArray, List.getElem?_cons_succ, List.getElem?_cons_zero] at x3 x4
  go_upto_if 25 with fail
  go_cut [11] (fun nv wx => nv = .int .i64 n ∧ PSt w wx (.slice av s.all.length cv) s.size s.wait N0 H0 T)
  case first =>
    by_cases hh : 0 ≤ H0
    · have hhd : decide (0 ≤ H0) = true := decide_eq_true hh
      obtain ⟨qh, hqh⟩ : ∃ qh, UInt16.ofNat (H0 % 65536).toNat = qh := ⟨_, rfl⟩
      have HAH := Lib.hid (fun w => r01Ahead_any q qh (w := w))
      have hlt := ahd_lt q qh
      have hm1 : H0.tmod 65536 = H0 % 65536 := Int.tmod_eq_emod_of_nonneg hh
      have hm2 : IntKind.u16.wrap (H0 % 65536) = ((qh.toNat : Nat) : Int) := by
        rw [← hqh, UInt16.toNat_ofNat', IntKind.wrap_u16]; omega
      have hm3 : IntKind.i64.wrap (H0 % 65536) = H0 % 65536 := IntWalk.i64_in _ (by omega)
      have HNE : Hid (n = H0 + ahd q qh) := Lib.hid (by rw [HN1.out hh, hqh])
      have hsu : IntKind.i64.wrap (H0 + ahd q qh) = H0 + ahd q qh := IntWalk.i64_in _ (by omega)
      have hsu2 : wrap64 (H0 + ahd q qh) = H0 + ahd q qh := IntWalk.wrap64_in _ ⟨by omega, by omega⟩
      clear hw0 hw1 hqh
      go_upto_region 4 with fail
      refine wp_region_T (fun w' => Fr [] w3.drew w') [] 10 #[false, false, false, false, false, false, false, false, false, false] (by kernel_rfl) rfl rfl ?_
      try simp only [List.append_eq, List.cons_append, List.nil_append]
      have hF := (Fr.refl [] w3).drew
      have HST := Lib.hid (HST.out.keep hF)
      clear hF
      have HSS : Hid (Fr [] w3.drew w3.drew) := Lib.hid (Fr.refl _ _)
      generalize w3.drew = wd at *
      refine wpAnyT_load (i := 0) (v := ?_) rfl (by kernel_rfl) (by kernel_rfl) (by kernel_rfl) (by kernel_rfl) (by kernel_rfl) (fun _ _ _ h => h) HSS.out (by rfl) ?_ ?_
      rotate_left
      · intro w hSw; skip; go_simp; try with_reducible rfl
      simp only [Act.put, List.getElem_toArray, List.getElem_cons_zero, List.getElem_cons_succ, List.setIfInBounds_toArray, List.set_cons_zero, List.set_cons_succ]
      refine wpAnyT_load (i := 1) (v := ?_) rfl (by kernel_rfl) (by kernel_rfl) (by kernel_rfl) (by kernel_rfl) (by kernel_rfl) (fun _ _ _ h => h) HSS.out (by rfl) ?_ ?_
      rotate_left
      · intro w hSw; have n0 := (HST.out.keep hSw).box.cell 4; simp only [rw6, List.getElem?_toArray, List.getElem?_cons_succ, List.getElem?_cons_zero] at n0; go_simp; try with_reducible rfl
      simp only [Act.put, List.getElem_toArray, List.getElem_cons_zero, List.getElem_cons_succ, List.setIfInBounds_toArray, List.set_cons_zero, List.set_cons_succ]
      refine wpAnyT_load (i := 2) (v := ?_) rfl (by kernel_rfl) (by kernel_rfl) (by kernel_rfl) (by kernel_rfl) (by kernel_rfl) (fun _ _ _ h => h) HSS.out (by rfl) ?_ ?_
      rotate_left
      · intro w hSw; skip; go_simp; try with_reducible rfl
      simp only [Act.put, List.getElem_toArray, List.getElem_cons_zero, List.getElem_cons_succ, List.setIfInBounds_toArray, List.set_cons_zero, List.set_cons_succ]
      refine wpAnyT_load (i := 3) (v := ?_) rfl (by kernel_rfl) (by kernel_rfl) (by kernel_rfl) (by kernel_rfl) (by kernel_rfl) (fun _ _ _ h => h) HSS.out (by rfl) ?_ ?_
      rotate_left
      · intro w hSw; skip; go_simp; try with_reducible rfl
      simp only [Act.put, List.getElem_toArray, List.getElem_cons_zero, List.getElem_cons_succ, List.setIfInBounds_toArray, List.set_cons_zero, List.set_cons_succ]
      refine wpAnyT_load (i := 4) (v := ?_) rfl (by kernel_rfl) (by kernel_rfl) (by kernel_rfl) (by kernel_rfl) (by kernel_rfl) (fun _ _ _ h => h) HSS.out (by rfl) ?_ ?_
      rotate_left
      · intro w hSw; have n0 := (HST.out.keep hSw).box.cell 4; simp only [rw6, List.getElem?_toArray, List.getElem?_cons_succ, List.getElem?_cons_zero] at n0; go_simp; try with_reducible rfl
      simp only [Act.put, List.getElem_toArray, List.getElem_cons_zero, List.getElem_cons_succ, List.setIfInBounds_toArray, List.set_cons_zero, List.set_cons_succ]
      refine wpAnyT_load (i := 5) (v := ?_) rfl (by kernel_rfl) (by kernel_rfl) (by kernel_rfl) (by kernel_rfl) (by kernel_rfl) (fun _ _ _ h => h) HSS.out (by rfl) ?_ ?_
      rotate_left
      · intro w hSw; skip; go_simp; try with_reducible rfl
      simp only [Act.put, List.getElem_toArray, List.getElem_cons_zero, List.getElem_cons_succ, List.setIfInBounds_toArray, List.set_cons_zero, List.set_cons_succ]
      refine wpAnyT_load (i := 6) (v := ?_) rfl (by kernel_rfl) (by kernel_rfl) (by kernel_rfl) (by kernel_rfl) (by kernel_rfl) (fun _ _ _ h => h) HSS.out (by rfl) ?_ ?_
      rotate_left
      · intro w hSw; skip; go_simp; try with_reducible rfl
      simp only [Act.put, List.getElem_toArray, List.getElem_cons_zero, List.getElem_cons_succ, List.setIfInBounds_toArray, List.set_cons_zero, List.set_cons_succ]
      refine wpAnyT_one (i := 7) (by kernel_rfl) rfl (fun K hK => ?_)
      rw [if_pos (by rfl)]
      go_simp
      refine (HAH.out _).mono ?_
      rintro e we ⟨rfl, hF⟩
      have HSS := Lib.hid (HSS.out.trans hF)
      clear hF
      refine hK.out _ _ (fun _ => HSS.out) ?_
      clear hK K
      simp only [Act.put, List.getElem_toArray, List.getElem_cons_zero, List.getElem_cons_succ, List.setIfInBounds_toArray, List.set_cons_zero, List.set_cons_succ]
      refine wpAnyT_load (i := 8) (v := ?_) rfl (by kernel_rfl) (by kernel_rfl) (by kernel_rfl) (by kernel_rfl) (by kernel_rfl) (fun _ _ _ h => h) HSS.out (by rfl) ?_ ?_
      rotate_left
      · intro w hSw; skip; go_simp; try with_reducible rfl
      simp only [Act.put, List.getElem_toArray, List.getElem_cons_zero, List.getElem_cons_succ, List.setIfInBounds_toArray, List.set_cons_zero, List.set_cons_succ]
      refine wpAnyT_load (i := 9) (v := ?_) rfl (by kernel_rfl) (by kernel_rfl) (by kernel_rfl) (by kernel_rfl) (by kernel_rfl) (fun _ _ _ h => h) HSS.out (by rfl) ?_ ?_
      rotate_left
      · intro w hSw; skip; go_simp; try with_reducible rfl
      simp only [Act.put, List.getElem_toArray, List.getElem_cons_zero, List.getElem_cons_succ, List.setIfInBounds_toArray, List.set_cons_zero, List.set_cons_succ]
      refine wpAnyT_done (by kernel_rfl) ?_ _
      have hF := HSS.out
      have HST := Lib.hid (HST.out.keep hF)
      clear hF HSS
      go_wp2_with fail
      go_meet
      exact ⟨by rw [HNE.out], HST.out⟩
    · have hhd : decide (0 ≤ H0) = false := decide_eq_false hh
      have HNE : Hid (n = 4294967296 + (q.toNat : Int)) := Lib.hid (HN2.out (by omega))
      go_wp2_with fail
      go_meet
      exact ⟨by rw [HNE.out], HST.out⟩
  case rest =>
    obtain ⟨rfl, hst⟩ := hcut
    have HST := Lib.hid hst
    clear hst x3 x4 hw0 hw1 HN1 HN2
    have x2 := HST.out.box.cell 2; have x3 := HST.out.box.cell 3
    simp only [rw6, List.getElem?_toArray, List.getElem?_cons_succ, List.getElem?_cons_zero] at x2 x3
    by_cases hold : 0 ≤ N0 ∧ n < N0
    · have hd1 : decide (0 ≤ N0) = true := decide_eq_true hold.1
      have hd2 : decide (n < N0) = true := decide_eq_true hold.2
      have HP := Lib.hid (HOLD.out hold)
      clear hold
      go_wp2_with (first | (refine wpList_load_row_w rfl 28 (.tmp 4) rfl w.heap.size rfl 28 _ _ HST.out.box Try.underlying28 rfl (by kernel_rfl) ?_) | (refine wpList_store_row rfl 28 (.tmp 8) (.tmp 44) rfl (w.heap.size + 1) rfl _ _ rfl 28 HST.out.rb (by kernel_rfl) rfl one_rw6 ?_; intro w9 hY hG))
      refine bodyPost_ret (results_row_2 rfl _ _ (w.heap.size + 1) 28 _ _ rfl hY Try.underlying28 rfl (by kernel_rfl)) rfl ⟨.slice av s.all.length cv, .slice none 0 0, ?_, ?_, ?_, fun b hb => .inl hb, fun b hb => (by simp [liveOf] at hb), (HST.out.f.step hG (fun x hx => .inr (by simp at hx; omega)))⟩
      · rw [HP.out]
        show _ = Ending.returned (.tuple #[.agg (rwc (s.tick now) (.slice av s.all.length cv)), .slice none 0 0, .int .i64 50])
        rw [HTI.out]
        rfl
      · rw [HP.out]
        exact HSL.out.keep Rep.held (HST.out.f.step hG (fun x hx => .inr (by simp at hx; omega)))
      · rw [HP.out]
        exact SlEls.nil _
    have HNO := Lib.hid hold
    have HTW := Lib.hid (HTW.out hold); have HNEW := Lib.hid (HNEW.out hold)
    have hgd : (decide (0 ≤ N0) = true ∧ decide (n < N0) = false) ∨ decide (0 ≤ N0) = false := by
      by_cases h0 : 0 ≤ N0
      · exact .inl ⟨decide_eq_true h0, decide_eq_false (fun e => hold ⟨h0, e⟩)⟩
      · exact .inr (decide_eq_false h0)
    clear hold HOLD
    go_upto_region 5 with fail
    go_cut [43] (fun tv wx => tv = .bool false ∧ PSt w wx (.slice av s.all.length cv) s.size s.wait N0 H0 T)
    case first =>
      rcases hgd with ⟨hg1, hg2⟩ | hg1
      · go_wp2_with fail
        go_meet
        exact ⟨rfl, HST.out⟩
      · go_wp2_with fail
        go_meet
        exact ⟨rfl, HST.out⟩
    case rest =>
      obtain ⟨rfl, hst⟩ := hcut
      have HST := Lib.hid hst
      clear hst x2 x3 hgd
      go_upto_region 8 with fail
      go_loopw [12] (fun iv wr => ∃ j : Nat, j ≤ s.all.length ∧ iv = .int .i64 j ∧ (∀ o ∈ s.all.take j, o.n ≠ n) ∧ PSt w wr (.slice av s.all.length cv) s.size s.wait N0 H0 T) (fun iv _ => s.all.length - (Lib.intOf iv).toNat)
      case atStart => exact ⟨0, Nat.zero_le _, rfl, by simp, HST.out⟩
      case round =>
        clear HST
        obtain ⟨j, hj, rfl, hno, hst⟩ := hrel
        have HST := Lib.hid hst; have HNO := Lib.hid hno
        clear hst hno
        have x2 := HST.out.box.cell 2
        simp only [rw6, List.getElem?_toArray, List.getElem?_cons_succ, List.getElem?_cons_zero] at x2
        by_cases hlt : j < s.all.length
        · obtain ⟨b, o, cc, y, B1, ea, -, hy, ⟨rfl, -⟩, -, hrg⟩ := (HSL.out.keep Rep.held HST.out.f).at_ Rep.held (i := j) hlt
          rw [ea] at x2
          clear ea
          have d0 : wr.cell? ⟨b, o + j * 3, none⟩ = some (.int .i64 y.n) := hrg 0 _ rfl
          have HT : Hid (s.all.take (j + 1) = s.all.take j ++ [y]) := Lib.hid (by rw [List.take_add_one, hy]; rfl)
          have hj64 : j < 64 := by have := HLN.out; omega
          by_cases he : y.n = n
          · have HP := Lib.hid (HTW.out ⟨y, List.mem_of_getElem? hy, he⟩)
            have heb : (y.n == n) = true := beq_iff_eq.2 he
            clear hy hrg
            go_wp2_with (first | (refine wpList_load_row_w rfl 28 (.tmp 4) rfl w.heap.size rfl 28 _ _ HST.out.box Try.underlying28 rfl (by kernel_rfl) ?_) | (refine wpList_store_row rfl 28 (.tmp 8) (.tmp 60) rfl (w.heap.size + 1) rfl _ _ rfl 28 HST.out.rb (by kernel_rfl) rfl one_rw6 ?_; intro w9 hY hG))
            refine bodyPost_ret (results_row_2 rfl _ _ (w.heap.size + 1) 28 _ _ rfl hY Try.underlying28 rfl (by kernel_rfl)) rfl ⟨.slice av s.all.length cv, .slice none 0 0, ?_, ?_, ?_, fun b hb => .inl hb, fun b hb => (by simp [liveOf] at hb), (HST.out.f.step hG (fun x hx => .inr (by simp at hx; omega)))⟩
            · rw [HP.out]
              show _ = Ending.returned (.tuple #[.agg (rwc (s.tick now) (.slice av s.all.length cv)), .slice none 0 0, .int .i64 5])
              rw [HTI.out]
              rfl
            · rw [HP.out]
              exact HSL.out.keep Rep.held (HST.out.f.step hG (fun x hx => .inr (by simp at hx; omega)))
            · rw [HP.out]
              exact SlEls.nil _
          · have heb : (y.n == n) = false := beq_eq_false_iff_ne.2 he
            have HNE : Hid (y.n ≠ n) := Lib.hid he
            clear hy hrg he
            go_wp2_with fail
            exact ⟨⟨j + 1, by omega, by go_num, by rw [HT.out]; intro p hp; rcases List.mem_append.1 hp with hp | hp; (· exact HNO.out p hp); (· simp at hp; subst hp; exact HNE.out), HST.out⟩, by simp [Lib.intOf]; omega⟩
        · obtain rfl : j = s.all.length := by omega
          have HNEW := Lib.hid (HNEW.out (by have := HNO.out; rw [List.take_length] at this; exact this))
          clear hj hlt HNO HTW
          have x4 := HST.out.box.cell 4
          simp only [rw6, List.getElem?_toArray, List.getElem?_cons_succ, List.getElem?_cons_zero] at x4
          obtain ⟨H1, hH1e⟩ : ∃ H1, H1 = (if H0 < n then n else H0) := ⟨_, rfl⟩
          have HH1 := Lib.hid hH1e
          clear hH1e
          go_upto_if 64 with fail
          go_cut [] (fun wx => PSt w wx (.slice av s.all.length cv) s.size s.wait N0 H1 T)
          case first =>
            by_cases hc1 : H0 < n
            · have hd1 : decide (H0 < n) = true := decide_eq_true hc1
              have HE : Hid (H1 = n) := Lib.hid (by rw [HH1.out, if_pos hc1])
              have f4 := HST.out.box.free 4
              obtain ⟨w5, en, hFn, hBn, -⟩ := set_new HST.out.box 4 (.int .i64 n)
              simp only [rw6, List.setIfInBounds_toArray, List.set_cons_zero, List.set_cons_succ] at hBn
              have HSN := Lib.hid (HST.out.put hFn hBn)
              clear hFn hBn
              go_wp2_with fail
              go_meet
              rw [HE.out]
              exact HSN.out
            · have hd1 : decide (H0 < n) = false := decide_eq_false hc1
              have HE : Hid (H1 = H0) := Lib.hid (by rw [HH1.out, if_neg hc1])
              go_wp2_with fail
              go_meet
              rw [HE.out]
              exact HST.out
          case rest =>
            have HST := Lib.hid hcut
            clear hcut x2 x4
            have x3 := HST.out.box.cell 3
            simp only [rw6, List.getElem?_toArray, List.getElem?_cons_succ, List.getElem?_cons_zero] at x3
            go_upto_if 69 with fail
            obtain ⟨N1, hN1e⟩ : ∃ N1, N1 = (if N0 < 0 then n else N0) := ⟨_, rfl⟩
            have HNN1 := Lib.hid hN1e
            clear hN1e
            go_cut [] (fun wx => PSt w wx (.slice av s.all.length cv) s.size s.wait N1 H1 T)
            case first =>
              by_cases hc1 : N0 < 0
              · have hd1 : decide (N0 < 0) = true := decide_eq_true hc1
                have HE : Hid (N1 = n) := Lib.hid (by rw [HNN1.out, if_pos hc1])
                have f3 := HST.out.box.free 3
                obtain ⟨w5, en, hFn, hBn, -⟩ := set_new HST.out.box 3 (.int .i64 n)
                simp only [rw6, List.setIfInBounds_toArray, List.set_cons_zero, List.set_cons_succ] at hBn
                have HSN := Lib.hid (HST.out.put hFn hBn)
                clear hFn hBn
                go_wp2_with fail
                go_meet
                rw [HE.out]
                exact HSN.out
              · have hd1 : decide (N0 < 0) = false := decide_eq_false hc1
                have HE : Hid (N1 = N0) := Lib.hid (by rw [HNN1.out, if_neg hc1])
                go_wp2_with fail
                go_meet
                rw [HE.out]
                exact HST.out
            case rest =>
              have HST := Lib.hid hcut
              clear hcut x3
              have hN1b : 0 ≤ N1 ∧ N1 ≤ 4400000000 := by have := HNN1.out; split at this <;> omega
              obtain ⟨sz, hsz⟩ : ∃ sz, s.size = sz := ⟨_, rfl⟩
              have hszb := HSZE.out
              rw [hsz] at hszb HST HNEW
              have HSE := Lib.hid hsz
              clear hsz
              have x0 := HST.out.box.cell 0; have x3 := HST.out.box.cell 3
              simp only [rw6, List.getElem?_toArray, List.getElem?_cons_succ, List.getElem?_cons_zero] at x0 x3
              have hw1 : IntKind.i64.wrap (N1 + sz) = N1 + sz := IntWalk.i64_in _ (by omega)
              have hw2 : wrap64 (N1 + sz) = N1 + sz := IntWalk.wrap64_in _ ⟨by omega, by omega⟩
              have hw3 : IntKind.i64.wrap (n - sz) = n - sz := IntWalk.i64_in _ (by omega)
              have hw4 : wrap64 (n - sz) = n - sz := IntWalk.wrap64_in _ ⟨by omega, by omega⟩
              have hw5 : IntKind.i64.wrap (n - sz + 1) = n - sz + 1 := IntWalk.i64_in _ (by omega)
              have hw6 : wrap64 (n - sz + 1) = n - sz + 1 := IntWalk.wrap64_in _ ⟨by omega, by omega⟩
              obtain ⟨N2, hN2e⟩ : ∃ N2, N2 = (if N1 + sz ≤ n then n - sz + 1 else N1) := ⟨_, rfl⟩
              have HNN2 := Lib.hid hN2e
              clear hN2e
              go_upto_if 78 with fail
              go_cut [] (fun wx => PSt w wx (.slice av s.all.length cv) sz s.wait N2 H1 T)
              case first =>
                by_cases hc1 : N1 + sz ≤ n
                · have hd1 : decide (N1 + sz ≤ n) = true := decide_eq_true hc1
                  have HE : Hid (N2 = n - sz + 1) := Lib.hid (by rw [HNN2.out, if_pos hc1])
                  have f3 := HST.out.box.free 3
                  obtain ⟨w5, en, hFn, hBn, -⟩ := set_new HST.out.box 3 (.int .i64 (n - sz + 1))
                  simp only [rw6, List.setIfInBounds_toArray, List.set_cons_zero, List.set_cons_succ] at hBn
                  have HSN := Lib.hid (HST.out.put hFn hBn)
                  clear hFn hBn
                  go_wp2_with fail
                  go_meet
                  rw [HE.out]
                  exact HSN.out
                · have hd1 : decide (N1 + sz ≤ n) = false := decide_eq_false hc1
                  have HE : Hid (N2 = N1) := Lib.hid (by rw [HNN2.out, if_neg hc1])
                  go_wp2_with fail
                  go_meet
                  rw [HE.out]
                  exact HST.out
              case rest =>
                have HST := Lib.hid hcut
                clear hcut x0 x3 hw1 hw2 hw3 hw4 hw5 hw6
                have HNEW := Lib.hid (HNEW.out N1 N2 HNN1.out HNN2.out)
                obtain ⟨wa, ea, hFa, -, hsa⟩ := one_new wc #[] 76
                obtain ⟨wb, eb, hFb, -, hsb⟩ := one_new wa #[] 76
                obtain ⟨B0, hB0⟩ : ∃ B0, wc.heap.size = B0 := ⟨_, rfl⟩
                have HB0 : Hid (w.heap.size + 1 < B0) := Lib.hid (by have := HST.out.rb.lt; omega)
                have eab : (wc.alloc (.cells #[] 76)).alloc (.cells #[] 76) = wb := by rw [ea, eb]
                have HPL : Hid (PLp w wb (.slice av s.all.length cv) sz s.wait N2 H1 T B0 s.all ⟨n, x, T⟩ 0 false (.slice (some ⟨B0, 0, none⟩) 0 0) (.slice (some ⟨B0 + 1, 0, none⟩) 0 0) [] []) := Lib.hid (by
                  have hA : OwnEls 3 OneR wa B0 76 (.slice (some ⟨B0, 0, none⟩) 0 0) [] [] := by rw [← ea, ← hB0]; exact OwnEls.made wc _ _ (Nat.le_refl _)
                  have hBB : OwnEls 3 OneR wb B0 76 (.slice (some ⟨B0 + 1, 0, none⟩) 0 0) [] [] := by rw [← eb, ← hB0, ← hsa]; exact OwnEls.made wa _ _ (by omega)
                  exact ⟨(HST.out.keep hFa).keep hFb, hA.keep Rep.held hFb, hBB, fun b e1 e2 => by simp only [blockOf, Option.some.injEq] at e1 e2; omega, rfl, .inl ⟨rfl, rfl, by simp⟩, by omega, HB0.out⟩)
                have EAB := Lib.hid eab; have HBE := Lib.hid hB0
                have HSA : Hid (wa.heap.size = B0 + 1) := Lib.hid (by omega)
                clear ea eb eab hFa hFb hsa hsb HST
                go_upto_region 19 with fail
                rw [EAB.out]
                try simp only [HBE.out, World.heap_alloc, Array.size_push]
                clear EAB HBE HSA hB0
                go_upto_region 21 with fail
                go_loopw [13, 14, 15, 16] (fun gv kv dv iv wr => ∃ (j : Nat) (d : Bool) (G A : List Held_), j ≤ s.all.length ∧ iv = .int .i64 j ∧ dv = .bool d ∧ PLp w wr (.slice av s.all.length cv) sz s.wait N2 H1 T B0 s.all ⟨n, x, T⟩ j d gv kv G A) (fun _ _ _ iv _ => s.all.length - (Lib.intOf iv).toNat)
                case atStart => exact ⟨0, false, [], [], Nat.zero_le _, rfl, rfl, HPL.out⟩
                case round =>
                  clear HPL
                  obtain ⟨j, d, G, A, hj, rfl, rfl, hpl⟩ := hrel
                  obtain ⟨ag, cg, rfl⟩ := hpl.g.shape
                  obtain ⟨ak, ck, rfl⟩ := hpl.a.shape
                  have hlens := hpl.lens
                  have HLE : Hid (G.length ≤ 64 ∧ A.length ≤ 65) := Lib.hid (by have := HLN.out; omega)
                  have HPL := Lib.hid hpl; have HST := Lib.hid hpl.st
                  clear hpl hlens
                  have x2 := HST.out.box.cell 2; have x3 := HST.out.box.cell 3; have x5 := HST.out.box.cell 5
                  simp only [rw6, List.getElem?_toArray, List.getElem?_cons_succ, List.getElem?_cons_zero] at x2 x3 x5
                  by_cases hlt : j < s.all.length
                  · obtain ⟨b, oo, cc, y, B1, ea, -, hy, ⟨rfl, -⟩, -, hrg⟩ := (HSL.out.keep Rep.held HST.out.f).at_ Rep.held (i := j) hlt
                    rw [ea] at x2
                    have HEA := Lib.hid ea
                    clear ea
                    have d0 : wr.cell? ⟨b, oo + j * 3, none⟩ = some (.int .i64 y.n) := hrg 0 _ rfl
                    have HT : Hid (s.all.take (j + 1) = s.all.take j ++ [y]) := Lib.hid (by rw [List.take_add_one, hy]; rfl)
                    have hj64 : j < 64 := by have := HLN.out; omega
                    have HRG := Lib.hid hrg
                    clear hy hrg
                    by_cases hg : y.n < N2
                    · have hgd : decide (y.n < N2) = true := decide_eq_true hg
                      have HG := Lib.hid hg
                      clear hg
                      go_upto_region 23 with fail
                      go_quiet (fail)
                      generalize hw2 : wr.drewN _ = w5 at *
                      have hF5 : Fr [] wr w5 := by rw [← hw2]; exact (Fr.refl _ _).drewN _
                      have HPL : Hid (PLp w w5 (.slice av s.all.length cv) sz s.wait N2 H1 T B0 s.all ⟨n, x, T⟩ j d (.slice ag G.length cg) (.slice ak A.length ck) G A) := Lib.hid ⟨HPL.out.st.keep hF5, HPL.out.g.keep Rep.held hF5, HPL.out.a.keep Rep.held hF5, HPL.out.ne, HPL.out.hg, HPL.out.ha, Nat.le_trans HPL.out.sz hF5.size, HPL.out.b0⟩
                      have HST := Lib.hid HPL.out.st; have HSZ := Lib.hid HPL.out.sz
                      have HRG2 : Hid (w5.rangeAt b (oo + j * 3) (onec y).toList) := Lib.hid (fun j u hj => hF5.cellSome (HRG.out j u hj) (by simp))
                      replace d0 := hF5.cellSome d0 (by simp)
                      clear hF5 hw2 HRG x2 x3 x5
                      have x2 := HST.out.box.cell 2; have x3 := HST.out.box.cell 3; have x5 := HST.out.box.cell 5
                      simp only [rw6, List.getElem?_toArray, List.getElem?_cons_succ, List.getElem?_cons_zero] at x2 x3 x5
                      rw [HEA.out] at x2
                      obtain ⟨wa, ea, hFa, hBa, hsa⟩ := one_new w5 (onec y) 76
                      have EA := Lib.hid ea; have HBA := Lib.hid hBa; have HFA := Lib.hid hFa
                      have HL1 : Hid ((G).length + 1 ≤ maxLen) := Lib.hid (by have := HLE.out; unfold maxLen; omega)
                      have HL2 : Hid (((G).length + 1) * 24 ≤ 140737488355328) := Lib.hid (by have := HLE.out; omega)
                      have HL3 : Hid (B0 ≤ wa.heap.size) := Lib.hid (by have h1 := HSZ.out; have := hFa.size; omega)
                      clear ea hBa hFa hsa
                      go_wp2_with (first | (refine wpList_load_midA rfl 76 (.tmp 107) rfl b (oo + j * 3) rfl #[.int .i64 y.n, .int .i64 y.x, .int .i64 y.at_] _ HRG2.out Try.underlying76 rfl (by kernel_rfl) ?_) | (at_builtin; (rw [EA.out]); refine wpList_append_el Rep.held (by decide) rfl (.tmp 103) (.tmp 109) 26 rfl B0 76 (.agg #[.int .i64 0, .int .i64 0, .int .i64 0]) 24 Try.underlying26 info_held rfl (.slice ag G.length cg) G [] rfl (HPL.out.g.keep Rep.held HFA.out) w5.heap.size 0 1 rfl (onec y).toList y [] (box_range HBA.out) ⟨rfl, rfl⟩ (by simp) HL1.out HL2.out HL3.out ?_; intro vs1 w7 hown1 hfr1 hbl1; obtain ⟨as1, cs1, es1⟩ := hown1.shape; simp only [List.length_append, List.length_singleton] at es1; subst es1; have HV1 := Lib.hid hown1; have HF7 := Lib.hid hfr1; have HBL := Lib.hid hbl1; clear hown1 hfr1 hbl1))
                      exact ⟨⟨j + 1, d, _, _, by omega, by go_num, rfl, HPL.out.app_g HFA.out HF7.out HV1.out HBL.out HT.out HG.out⟩, by simp [Lib.intOf]; omega⟩
                    · have hgd : decide (y.n < N2) = false := decide_eq_false hg
                      have HG := Lib.hid hg
                      clear hg
                      go_upto_region 23 with fail
                      go_quiet (fail)
                      generalize hw2 : wr.drewN _ = w5 at *
                      have hF5 : Fr [] wr w5 := by rw [← hw2]; exact (Fr.refl _ _).drewN _
                      have HPL : Hid (PLp w w5 (.slice av s.all.length cv) sz s.wait N2 H1 T B0 s.all ⟨n, x, T⟩ j d (.slice ag G.length cg) (.slice ak A.length ck) G A) := Lib.hid ⟨HPL.out.st.keep hF5, HPL.out.g.keep Rep.held hF5, HPL.out.a.keep Rep.held hF5, HPL.out.ne, HPL.out.hg, HPL.out.ha, Nat.le_trans HPL.out.sz hF5.size, HPL.out.b0⟩
                      have HST := Lib.hid HPL.out.st; have HSZ := Lib.hid HPL.out.sz
                      have HRG2 : Hid (w5.rangeAt b (oo + j * 3) (onec y).toList) := Lib.hid (fun j u hj => hF5.cellSome (HRG.out j u hj) (by simp))
                      replace d0 := hF5.cellSome d0 (by simp)
                      clear hF5 hw2 HRG x2 x3 x5
                      have x2 := HST.out.box.cell 2; have x3 := HST.out.box.cell 3; have x5 := HST.out.box.cell 5
                      simp only [rw6, List.getElem?_toArray, List.getElem?_cons_succ, List.getElem?_cons_zero] at x2 x3 x5
                      rw [HEA.out] at x2
                      cases d with
                      | true =>
                        go_upto_region 28 with fail
                        obtain ⟨wa, ea, hFa, hBa, hsa⟩ := one_new w5 (onec y) 76
                        have EA := Lib.hid ea; have HBA := Lib.hid hBa; have HFA := Lib.hid hFa
                        have HL1 : Hid ((A).length + 1 ≤ maxLen) := Lib.hid (by have := HLE.out; unfold maxLen; omega)
                        have HL2 : Hid (((A).length + 1) * 24 ≤ 140737488355328) := Lib.hid (by have := HLE.out; omega)
                        have HL3 : Hid (B0 ≤ wa.heap.size) := Lib.hid (by have h1 := HSZ.out; have := hFa.size; omega)
                        clear ea hBa hFa hsa
                        go_wp2_with (first | (refine wpList_load_midA rfl 76 (.tmp 135) rfl b (oo + j * 3) rfl #[.int .i64 y.n, .int .i64 y.x, .int .i64 y.at_] _ HRG2.out Try.underlying76 rfl (by kernel_rfl) ?_) | (at_builtin; (rw [EA.out]); refine wpList_append_el Rep.held (by decide) rfl (.tmp 131) (.tmp 137) 26 rfl B0 76 (.agg #[.int .i64 0, .int .i64 0, .int .i64 0]) 24 Try.underlying26 info_held rfl (.slice ak A.length ck) A [] rfl (HPL.out.a.keep Rep.held HFA.out) w5.heap.size 0 1 rfl (onec y).toList y [] (box_range HBA.out) ⟨rfl, rfl⟩ (by simp) HL1.out HL2.out HL3.out ?_; intro vs1 w7 hown1 hfr1 hbl1; obtain ⟨as1, cs1, es1⟩ := hown1.shape; simp only [List.length_append, List.length_singleton] at es1; subst es1; have HV1 := Lib.hid hown1; have HF7 := Lib.hid hfr1; have HBL := Lib.hid hbl1; clear hown1 hfr1 hbl1))
                        obtain ⟨q1, q2, q3⟩ := PLp.app_a (all := s.all) (o := y) (p := y) HPL.out.st HPL.out.g HPL.out.a HPL.out.ne HPL.out.b0 HFA.out HF7.out HBL.out
                        exact ⟨⟨j + 1, true, G, _, by omega, by go_num, rfl, ⟨q1, q2, HV1.out, q3, by rw [HT.out, List.filter_append, List.filter_cons_of_neg (by have := HG.out; simpa using this), List.filter_nil, List.append_nil]; exact HPL.out.hg, by rw [HT.out]; exact HPL.out.ha.more HG.out, Nat.le_trans HPL.out.sz (Nat.le_trans HFA.out.size HF7.out.size), HPL.out.b0⟩⟩, by simp [Lib.intOf]; omega⟩
                      | false =>
                        by_cases hin : n < y.n
                        · have hnd : decide (n < y.n) = true := decide_eq_true hin
                          have HIN := Lib.hid hin
                          go_upto_region 26 with fail
                          obtain ⟨wa, ea, hFa, hBa, hsa⟩ := one_new w5 (onec (⟨n, x, T⟩ : Held_)) 76
                          have EA := Lib.hid ea; have HBA := Lib.hid hBa; have HFA := Lib.hid hFa
                          have HL1 : Hid ((A).length + 1 ≤ maxLen) := Lib.hid (by have := HLE.out; unfold maxLen; omega)
                          have HL2 : Hid (((A).length + 1) * 24 ≤ 140737488355328) := Lib.hid (by have := HLE.out; omega)
                          have HL3 : Hid (B0 ≤ wa.heap.size) := Lib.hid (by have h1 := HSZ.out; have := hFa.size; omega)
                          clear ea hBa hFa hsa
                          go_upto_region 27 with (first | (at_builtin; (rw [EA.out]); refine wpList_append_el Rep.held (by decide) rfl (.tmp 123) (.tmp 129) 26 rfl B0 76 (.agg #[.int .i64 0, .int .i64 0, .int .i64 0]) 24 Try.underlying26 info_held rfl (.slice ak A.length ck) A [] rfl (HPL.out.a.keep Rep.held HFA.out) w5.heap.size 0 1 rfl (onec (⟨n, x, T⟩ : Held_)).toList (⟨n, x, T⟩ : Held_) [] (box_range HBA.out) ⟨rfl, rfl⟩ (by simp) HL1.out HL2.out HL3.out ?_; intro vs1 w8 hown1 hfr1 hbl1; obtain ⟨as1, cs1, es1⟩ := hown1.shape; simp only [List.length_append, List.length_singleton] at es1; subst es1; have HV1 := Lib.hid hown1; have HF7 := Lib.hid hfr1; have HBL := Lib.hid hbl1; clear hown1 hfr1 hbl1))
                          obtain ⟨q1, q2, q3⟩ := PLp.app_a (all := s.all) (o := y) (p := y) HPL.out.st HPL.out.g HPL.out.a HPL.out.ne HPL.out.b0 HFA.out HF7.out HBL.out
                          have HQ1 := Lib.hid q1; have HQ2 := Lib.hid q2; have HQ3 := Lib.hid q3; have HVA := Lib.hid HV1.out
                          have HSZ := Lib.hid (Nat.le_trans HSZ.out (Nat.le_trans HFA.out.size HF7.out.size))
                          have HRG2 : Hid (w8.rangeAt b (oo + j * 3) (onec y).toList) := Lib.hid (((HSL.out.keep Rep.held HQ1.out.f).at_ Rep.held (i := j) hlt).elim fun b' h => by
                            obtain ⟨o', c', y', B1', ea', -, hy', ⟨rfl, -⟩, -, hrg'⟩ := h
                            rw [HEA.out] at ea'
                            cases ea'
                            have := List.getElem?_take_of_lt (l := s.all) (i := j) (j := j + 1) (by omega)
                            rw [HT.out, List.getElem?_append_right (by simp; omega)] at this
                            rw [hy', List.length_take] at this
                            rw [show j - min j s.all.length = 0 by omega] at this
                            cases this
                            exact hrg')
                          clear q1 q2 q3 HV1 HF7 HBL HFA HBA EA HL1 HL2 HL3 x2 x3 x5
                          have x2 := HQ1.out.box.cell 2
                          simp only [rw6, List.getElem?_toArray, List.getElem?_cons_succ, List.getElem?_cons_zero] at x2
                          rw [HEA.out] at x2
                          go_upto_region 28 with fail
                          obtain ⟨wa, ea, hFa, hBa, hsa⟩ := one_new w8 (onec y) 76
                          have EA := Lib.hid ea; have HBA := Lib.hid hBa; have HFA := Lib.hid hFa
                          have HL1 : Hid (((A ++ [(⟨n, x, T⟩ : Held_)])).length + 1 ≤ maxLen) := Lib.hid (by have := HLE.out; unfold maxLen; simp only [List.length_append, List.length_singleton]; omega)
                          have HL2 : Hid ((((A ++ [(⟨n, x, T⟩ : Held_)])).length + 1) * 24 ≤ 140737488355328) := Lib.hid (by have := HLE.out; simp only [List.length_append, List.length_singleton]; omega)
                          have HL3 : Hid (B0 ≤ wa.heap.size) := Lib.hid (by have h1 := HSZ.out; have := hFa.size; omega)
                          clear ea hBa hFa hsa
                          go_wp2_with (first | (refine wpList_load_midA rfl 76 (.tmp 135) rfl b (oo + j * 3) rfl #[.int .i64 y.n, .int .i64 y.x, .int .i64 y.at_] _ HRG2.out Try.underlying76 rfl (by kernel_rfl) ?_) | (at_builtin; (rw [EA.out]); refine wpList_append_el Rep.held (by decide) rfl (.tmp 131) (.tmp 137) 26 rfl B0 76 (.agg #[.int .i64 0, .int .i64 0, .int .i64 0]) 24 Try.underlying26 info_held rfl (.slice as1 (A.length + 1) cs1) (A ++ [(⟨n, x, T⟩ : Held_)]) [] rfl (HVA.out.keep Rep.held HFA.out) w8.heap.size 0 1 rfl (onec y).toList y [] (box_range HBA.out) ⟨rfl, rfl⟩ (by simp) (by have h := HL1.out; simp only [List.length_append, List.length_singleton] at h ⊢; exact h) (by have h := HL2.out; simp only [List.length_append, List.length_singleton] at h ⊢; exact h) HL3.out ?_; intro vs1 w7 hown1 hfr1 hbl1; obtain ⟨as1, cs1, es1⟩ := hown1.shape; simp only [List.length_append, List.length_singleton] at es1; subst es1; have HV1 := Lib.hid hown1; have HF7 := Lib.hid hfr1; have HBL := Lib.hid hbl1; clear hown1 hfr1 hbl1))
                          obtain ⟨q1, q2, q3⟩ := PLp.app_a (all := s.all) (o := y) (p := y) HQ1.out HQ2.out HVA.out HQ3.out HPL.out.b0 HFA.out HF7.out HBL.out
                          exact ⟨⟨j + 1, true, G, _, by omega, by go_num, rfl, ⟨q1, q2, HV1.out, q3, by rw [HT.out, List.filter_append, List.filter_cons_of_neg (by have := HG.out; simpa using this), List.filter_nil, List.append_nil]; exact HPL.out.hg, by rw [HT.out]; exact HPL.out.ha.ins HG.out HIN.out, Nat.le_trans HSZ.out (Nat.le_trans HFA.out.size HF7.out.size), HPL.out.b0⟩⟩, by simp [Lib.intOf]; omega⟩
                        · have hnd : decide (n < y.n) = false := decide_eq_false hin
                          have HIN := Lib.hid hin
                          go_upto_region 28 with fail
                          obtain ⟨wa, ea, hFa, hBa, hsa⟩ := one_new w5 (onec y) 76
                          have EA := Lib.hid ea; have HBA := Lib.hid hBa; have HFA := Lib.hid hFa
                          have HL1 : Hid ((A).length + 1 ≤ maxLen) := Lib.hid (by have := HLE.out; unfold maxLen; omega)
                          have HL2 : Hid (((A).length + 1) * 24 ≤ 140737488355328) := Lib.hid (by have := HLE.out; omega)
                          have HL3 : Hid (B0 ≤ wa.heap.size) := Lib.hid (by have h1 := HSZ.out; have := hFa.size; omega)
                          clear ea hBa hFa hsa
                          go_wp2_with (first | (refine wpList_load_midA rfl 76 (.tmp 135) rfl b (oo + j * 3) rfl #[.int .i64 y.n, .int .i64 y.x, .int .i64 y.at_] _ HRG2.out Try.underlying76 rfl (by kernel_rfl) ?_) | (at_builtin; (rw [EA.out]); refine wpList_append_el Rep.held (by decide) rfl (.tmp 131) (.tmp 137) 26 rfl B0 76 (.agg #[.int .i64 0, .int .i64 0, .int .i64 0]) 24 Try.underlying26 info_held rfl (.slice ak A.length ck) A [] rfl (HPL.out.a.keep Rep.held HFA.out) w5.heap.size 0 1 rfl (onec y).toList y [] (box_range HBA.out) ⟨rfl, rfl⟩ (by simp) HL1.out HL2.out HL3.out ?_; intro vs1 w7 hown1 hfr1 hbl1; obtain ⟨as1, cs1, es1⟩ := hown1.shape; simp only [List.length_append, List.length_singleton] at es1; subst es1; have HV1 := Lib.hid hown1; have HF7 := Lib.hid hfr1; have HBL := Lib.hid hbl1; clear hown1 hfr1 hbl1))
                          obtain ⟨q1, q2, q3⟩ := PLp.app_a (all := s.all) (o := y) (p := y) HPL.out.st HPL.out.g HPL.out.a HPL.out.ne HPL.out.b0 HFA.out HF7.out HBL.out
                          exact ⟨⟨j + 1, false, G, _, by omega, by go_num, rfl, ⟨q1, q2, HV1.out, q3, by rw [HT.out, List.filter_append, List.filter_cons_of_neg (by have := HG.out; simpa using this), List.filter_nil, List.append_nil]; exact HPL.out.hg, by rw [HT.out]; exact HPL.out.ha.less HG.out HIN.out, Nat.le_trans HPL.out.sz (Nat.le_trans HFA.out.size HF7.out.size), HPL.out.b0⟩⟩, by simp [Lib.intOf]; omega⟩
                  · obtain rfl : j = s.all.length := by omega
                    clear hj hlt
                    have HTL : Hid (s.all.take s.all.length = s.all) := Lib.hid List.take_length
                    have HGL : Hid (G = s.all.filter (fun p => decide (p.n < N2))) := Lib.hid (by have := HPL.out.hg; rw [HTL.out] at this; exact this)
                    have HSZ := Lib.hid HPL.out.sz
                    cases d with
                    | true =>
                      have HAL : Hid (A = insW ⟨n, x, T⟩ (s.all.filter fun p => !decide (p.n < N2))) := Lib.hid (by have := HPL.out.ha.done; rw [HTL.out] at this; exact this)
                      have HVA := Lib.hid HPL.out.a; have HVG := Lib.hid HPL.out.g
                      have x2 := HST.out.box.cell 2; have f2 := HST.out.box.free 2
                      simp only [rw6, List.getElem?_toArray, List.getElem?_cons_succ, List.getElem?_cons_zero] at x2
                      obtain ⟨w9, en, hFn, hBn, -⟩ := set_new HST.out.box 2 (.slice ak A.length ck)
                      simp only [rw6, List.setIfInBounds_toArray, List.set_cons_zero, List.set_cons_succ] at hBn
                      have HSN := Lib.hid (HST.out.put hFn hBn)
                      have HB1 := Lib.hid HB0.out
                      have HVA := Lib.hid (HVA.out.fr Rep.held hFn (by simp) (fun b hb hm => by have := (HVA.out.block b hb).1; have := HB1.out; simp at hm; omega)); have HVG := Lib.hid (HVG.out.fr Rep.held hFn (by simp) (fun b hb hm => by have := (HVG.out.block b hb).1; have := HB1.out; simp at hm; omega))
                      clear hFn hBn
                      go_upto_region 32 with fail
                      try rw [en]
                      clear en x2 f2
                      go_wp2_with (first | (refine wpList_load_row_w rfl 28 (.tmp 4) rfl w.heap.size rfl 28 _ _ HSN.out.box Try.underlying28 rfl (by kernel_rfl) ?_) | (refine wpList_store_row rfl 28 (.tmp 8) (.tmp 151) rfl (w.heap.size + 1) rfl _ _ rfl 28 HSN.out.rb (by kernel_rfl) rfl one_rw6 ?_; intro w9 hY hG))
                      refine bodyPost_ret (results_row_2 rfl _ _ (w.heap.size + 1) 28 _ _ rfl hY Try.underlying28 rfl (by kernel_rfl)) rfl ⟨.slice ak A.length ck, .slice ag G.length cg, ?_, ?_, ?_, fun b hb => .inr (by have := (HVA.out.block b (live_block hb)).1; have := HB1.out; omega), fun b hb => (by have := (HVG.out.block b (live_block hb)).1; have := HB1.out; omega), (HSN.out.f.step hG (fun x hx => .inr (by simp at hx; omega)))⟩
                      · obtain ⟨e1, e2, e3, e4, e5, e6, e7, e8⟩ := HNEW.out
                        rw [e8]
                        show _ = Ending.returned (.tuple #[.agg (rw6 _ _ _ _ _ _), _, _])
                        rw [e3, e4, e5, e6, e7, HSE.out, ← HH1.out]
                        rfl
                      · rw [HNEW.out.2.1, ← HAL.out]
                        exact (HVA.out.fr Rep.held hG (by simp) (fun b hb hm => by have := (HVA.out.block b hb).1; have := HB1.out; simp at hm; omega)).sl
                      · rw [HNEW.out.1, ← HGL.out]
                        exact (HVG.out.fr Rep.held hG (by simp) (fun b hb hm => by have := (HVG.out.block b hb).1; have := HB1.out; simp at hm; omega)).sl
                    | false =>
                      have HAL : Hid (A ++ [⟨n, x, T⟩] = insW ⟨n, x, T⟩ (s.all.filter fun p => !decide (p.n < N2))) := Lib.hid (by have := HPL.out.ha.last; rw [HTL.out] at this; exact this)
                      obtain ⟨wa, ea, hFa, hBa, hsa⟩ := one_new wr (onec (⟨n, x, T⟩ : Held_)) 76
                      have EA := Lib.hid ea; have HBA := Lib.hid hBa; have HFA := Lib.hid hFa
                      have HL1 : Hid ((A).length + 1 ≤ maxLen) := Lib.hid (by have := HLE.out; unfold maxLen; omega)
                      have HL2 : Hid (((A).length + 1) * 24 ≤ 140737488355328) := Lib.hid (by have := HLE.out; omega)
                      have HL3 : Hid (B0 ≤ wa.heap.size) := Lib.hid (by have h1 := HSZ.out; have := hFa.size; omega)
                      clear ea hBa hFa hsa
                      go_upto_region 31 with (first | (at_builtin; (rw [EA.out]); refine wpList_append_el Rep.held (by decide) rfl (.tmp 141) (.tmp 147) 26 rfl B0 76 (.agg #[.int .i64 0, .int .i64 0, .int .i64 0]) 24 Try.underlying26 info_held rfl (.slice ak A.length ck) A [] rfl (HPL.out.a.keep Rep.held HFA.out) wr.heap.size 0 1 rfl (onec (⟨n, x, T⟩ : Held_)).toList (⟨n, x, T⟩ : Held_) [] (box_range HBA.out) ⟨rfl, rfl⟩ (by simp) HL1.out HL2.out HL3.out ?_; intro vs1 w8 hown1 hfr1 hbl1; obtain ⟨as1, cs1, es1⟩ := hown1.shape; simp only [List.length_append, List.length_singleton] at es1; subst es1; have HV1 := Lib.hid hown1; have HF7 := Lib.hid hfr1; have HBL := Lib.hid hbl1; clear hown1 hfr1 hbl1))
                      obtain ⟨q1, q2, q3⟩ := PLp.app_a (all := s.all) (o := ⟨n, x, T⟩) (p := ⟨n, x, T⟩) HPL.out.st HPL.out.g HPL.out.a HPL.out.ne HPL.out.b0 HFA.out HF7.out HBL.out
                      have HST := Lib.hid q1; have HVG := Lib.hid q2; have HVA := Lib.hid HV1.out
                      clear q1 q2 q3 HV1 HF7 HBL HFA HBA EA HL1 HL2 HL3 x2 x3 x5
                      have x2 := HST.out.box.cell 2; have f2 := HST.out.box.free 2
                      simp only [rw6, List.getElem?_toArray, List.getElem?_cons_succ, List.getElem?_cons_zero] at x2
                      obtain ⟨w9, en, hFn, hBn, -⟩ := set_new HST.out.box 2 (.slice as1 (A.length + 1) cs1)
                      simp only [rw6, List.setIfInBounds_toArray, List.set_cons_zero, List.set_cons_succ] at hBn
                      have HSN := Lib.hid (HST.out.put hFn hBn)
                      have HB1 := Lib.hid HB0.out
                      have HVA := Lib.hid (HVA.out.fr Rep.held hFn (by simp) (fun b hb hm => by have := (HVA.out.block b hb).1; have := HB1.out; simp at hm; omega)); have HVG := Lib.hid (HVG.out.fr Rep.held hFn (by simp) (fun b hb hm => by have := (HVG.out.block b hb).1; have := HB1.out; simp at hm; omega))
                      clear hFn hBn
                      go_upto_region 32 with fail
                      try rw [en]
                      clear en x2 f2
                      go_wp2_with (first | (refine wpList_load_row_w rfl 28 (.tmp 4) rfl w.heap.size rfl 28 _ _ HSN.out.box Try.underlying28 rfl (by kernel_rfl) ?_) | (refine wpList_store_row rfl 28 (.tmp 8) (.tmp 151) rfl (w.heap.size + 1) rfl _ _ rfl 28 HSN.out.rb (by kernel_rfl) rfl one_rw6 ?_; intro w9 hY hG))
                      refine bodyPost_ret (results_row_2 rfl _ _ (w.heap.size + 1) 28 _ _ rfl hY Try.underlying28 rfl (by kernel_rfl)) rfl ⟨.slice as1 (A.length + 1) cs1, .slice ag G.length cg, ?_, ?_, ?_, fun b hb => .inr (by have := (HVA.out.block b (live_block hb)).1; have := HB1.out; omega), fun b hb => (by have := (HVG.out.block b (live_block hb)).1; have := HB1.out; omega), (HSN.out.f.step hG (fun x hx => .inr (by simp at hx; omega)))⟩
                      · obtain ⟨e1, e2, e3, e4, e5, e6, e7, e8⟩ := HNEW.out
                        rw [e8]
                        show _ = Ending.returned (.tuple #[.agg (rw6 _ _ _ _ _ _), _, _])
                        rw [e3, e4, e5, e6, e7, HSE.out, ← HH1.out]
                        rfl
                      · rw [HNEW.out.2.1, ← HAL.out]
                        exact (HVA.out.fr Rep.held hG (by simp) (fun b hb hm => by have := (HVA.out.block b hb).1; have := HB1.out; simp at hm; omega)).sl
                      · rw [HNEW.out.1, ← HGL.out]
                        exact (HVG.out.fr Rep.held hG (by simp) (fun b hb hm => by have := (HVG.out.block b hb).1; have := HB1.out; simp at hm; omega)).sl
end Go.Proofs.Ytbmpiemhfndnbaa
