import Derived.Maps.OwnIn
import Derived.OwnWalkIn
import Derived.TacticsInMore
import Derived.LoopNIn
import Derived.LoopIn
import Derived.Test.YtngfenjekgdfbaaMu15
import Derived.Test.YtngfenjekgdfbaaMu11
/- The walk of equate.round, to which the iterator hands yield on (printed by gen_sh12.py). -/
namespace Go.Proofs.Ytngfenjekgdfbaa
open Go.RowKit Go.Maps Go.Shelf

attribute [local go_sem] Oper.semAt_some
theorem KF.cell {S : List Nat} {W W' : World} (h : KF S W W') (hn : NoCells S W) {b o : Nat} {v : Value} (hc : W.cell? ⟨b, o, none⟩ = some v) : W'.cell? ⟨b, o, none⟩ = some v := by
  have hb := World.block_lt_of_cell? _ _ hc
  have hS : b ∉ S := fun hm => hn b hm o v hc
  rw [← hc]
  exact World.cell?_of_block (a := ⟨b, o, none⟩) (h.blocks b hb hS)
theorem Sl.kf {S : List Nat} {W W' : World} {v : Value} {xs : List Value} (h : Sl W v xs) (hk : KF S W W') (hn : NoCells S W) : Sl W' v xs := by
  obtain ⟨a, cap, rfl, h1, h2, h3, h4⟩ := h
  refine ⟨a, cap, rfl, h1, h2, h3, ?_⟩
  rintro p rfl h0
  obtain ⟨g1, g2, g3⟩ := h4 p rfl h0
  exact ⟨g1, Nat.lt_of_lt_of_le g2 hk.size, fun i x hx => hk.cell hn (g3 i x hx)⟩
theorem IRows.kf {S : List Nat} {W W' : World} {v : Value} {s : List (List Int)} (h : IRows W v s) (hk : KF S W W') (hn : NoCells S W) : IRows W' v s := by
  obtain ⟨vs, h1, h2, h3⟩ := h
  exact ⟨vs, h1.kf hk hn, h2, fun i x a hx ha => Sl.kf (h3 i x a hx ha) hk hn⟩
theorem SetI.nocells {w : World} {b n : Nat} {ks : List Int} (h : SetI w b n ks) : ∀ o v, w.cell? ⟨b, o, none⟩ ≠ some v := by
  obtain ⟨es, clock, h1, -⟩ := h
  intro o v hc
  unfold World.cell? at hc
  rw [h1] at hc
  simp at hc
theorem SetI.kf {S : List Nat} {W W' : World} {b n : Nat} {ks : List Int} (h : SetI W b n ks) (hk : KF S W W') (hb : b ∉ S) : SetI W' b n ks := by
  have hlt := h.lt
  obtain ⟨es, clock, h1, F, hs, hD⟩ := h
  exact ⟨es, clock, (hk.blocks b hlt hb).trans h1, F, hs, hD⟩
theorem KF.mono {S T : List Nat} {W W' : World} (h : KF S W W') (hS : ∀ b ∈ S, b ∈ T) : KF T W W' := ⟨h.size, fun k hk ht => h.blocks k hk (fun hm => ht (hS k hm))⟩
abbrev toldE (p : Int × Nat) : Array Value := #[.int .i64 p.1, .int .i64 (p.2 : Nat)]
theorem round_tell {all e : List Int} {es : List (List Int)} {i : Nat} {x : Int} (hx : openI all e = [x]) : roundI all i (e :: es) = (x, i) :: roundI (all ++ [x]) (i + 1) es := by
  conv => lhs; unfold roundI
  rw [hx]
theorem round_pass {all e : List Int} {es : List (List Int)} {i : Nat} (hx : (openI all e).length ≠ 1) : roundI all i (e :: es) = roundI all (i + 1) es := by
  conv => lhs; unfold roundI
  split
  · rename_i x hq; rw [hq] at hx; simp at hx
  · rfl
theorem ne_decide (d : List (Int × Nat)) (x : Int × Nat) : decide (d ++ [x] ≠ []) = true := by simp
set_option maxRecDepth 100000 in
set_option maxHeartbeats 8000000 in
theorem qRound_in {W : World} (n : Nat) (hn : 2 ≤ n) {mb k B0 l : Nat} {ks : List Int} {ve : Value} {eqs : List (List Int)} (J : List (Int × Nat) → World → Prop) (S : List Nat) (xs pre0 : List (Int × Nat))
    (hM : SetI W mb k ks) (hE : IRows W ve eqs) (hi : ∀ r ∈ eqs, ∀ x ∈ r, In64 x) (hz : SzS [] eqs) (hk : k ≤ 1099511627776) (hJ : AbF B0 J) (hB : B0 ≤ mb) (hS : ∀ b ∈ S, b < B0) (hNC : ∀ pre W', J pre W' → NoCells S W')
    (hY : ∀ pre x W1, (pre ++ [x]) <+: xs → J pre W1 → YieldAt Fence.wide (n - 1) Try.prog l (toldE x) W1 fun e W' => e = .returned (.bool true) ∧ J (pre ++ [x]) W' ∧ KF S W1 W')
    (hpre : pre0 ++ roundI ks 0 eqs <+: xs) (h0 : J pre0 W) :
    CallsIn Fence.wide n Try.prog 73 #[.map (some mb), ve, .func (.yield l) #[] #[]] W fun e W' => e = .returned (.tuple #[.bool (decide (roundI ks 0 eqs ≠ [])), .bool true]) ∧ SetI W' mb (k + (roundI ks 0 eqs).length) (ks ++ (roundI ks 0 eqs).map Prod.fst) ∧ J (pre0 ++ roundI ks 0 eqs) W' ∧ KF (mb :: S) W W' := by
  obtain ⟨ae, ce, rfl⟩ := SlOf.shape hE
  have hlen := hE.len
  have HM := Lib.hid hM; have HE := Lib.hid hE; have HI := Lib.hid hi; have HZ := Lib.hid hz; have HY := Lib.hid hY; have HPRE := Lib.hid hpre; have HJ0 := Lib.hid h0
  have HNC0 : Hid (NoCells (mb :: S) W) := Lib.hid (fun b hb => by
    rcases List.mem_cons.1 hb with rfl | hb
    · exact hM.nocells
    · exact hNC _ _ h0 b hb)
  have HMS : Hid (mb ∉ S) := Lib.hid (fun hm => by have := hS mb hm; omega)
  have hzl := hz.ls
  clear hM hE hi hz hY hpre h0
  refine callsIn_of_wp Try.func73 rfl trivial ?_ rfl
  simp only [Try.ntmps73, List.size_toArray, List.length_cons, List.length_nil, Nat.reduceAdd, Nat.reduceSub, Array.replicate_succ, Array.replicate_zero, List.push_toArray, List.append_toArray, List.nil_append, List.cons_append]
  gi_wp2
  gi_loopw [6, 13] (fun tv iv wr => ∃ (i : Nat) (dn : List (Int × Nat)) (al : List Int), i ≤ eqs.length ∧ tv = .bool (decide (dn ≠ [])) ∧ iv = .int .i64 i ∧ al = ks ++ dn.map Prod.fst ∧ roundI ks 0 eqs = dn ++ roundI al i (eqs.drop i) ∧ dn.length ≤ i ∧ SetI wr mb (k + dn.length) al ∧ J (pre0 ++ dn) wr ∧ KF (mb :: S) W wr) (fun _ iv _ => eqs.length - (intOf iv).toNat)
  case atStart => exact ⟨0, [], ks, Nat.zero_le _, by simp, rfl, by simp, by simp, by simp, HM.out, by simpa using HJ0.out, KF.refl _ _⟩
  case round =>
    obtain ⟨i, dn, al, hi, rfl, rfl, hal, hr, hdl, hM, hJd, hkf⟩ := hrel
    have HAL := Lib.hid hal; have HR := Lib.hid hr; have HM := Lib.hid hM; have HJD := Lib.hid hJd; have HKF := Lib.hid hkf
    clear hal hr hM hJd hkf HJ0
    by_cases hlt : i < eqs.length
    · have HER := Lib.hid (HE.out.kf HKF.out HNC0.out)
      obtain ⟨b, o, a1, c1, ea, hb, hcell, hR⟩ := IRows.at_ HER.out i hlt
      subst ea
      have d := hcell
      have HR1 := Lib.hid hR
      have HI1 := Lib.hid (HI.out _ (List.getElem_mem hlt))
      have HZ1 : Hid (eqs[i].length ≤ 1073741824) := Lib.hid (HZ.out.lr _ (List.getElem_mem hlt))
      have HDR : Hid (eqs.drop i = eqs[i] :: eqs.drop (i + 1)) := Lib.hid (List.drop_eq_getElem_cons hlt)
      clear hcell hR HER
      generalize eqs[i] = e at *
      gi_wp2
      refine ⟨trivial, ?_⟩
      refine ⟨fun _ => by omega, ?_⟩
      refine (callsIn_wide.2 (qOpen_any HM.out HR1.out HI1.out HZ1.out)).mono ?_
      rintro e' w4 ⟨v4, rfl, hO4, hF4⟩
      obtain ⟨a4, c4, rfl⟩ := hO4.shape
      have HM4 := Lib.hid (HM.out.fr hF4 (by simp))
      have HJ4 := Lib.hid (hJ.fr0 HJD.out hF4)
      have HK4 := Lib.hid (HKF.out.trans (KF.ofFr hF4.any))
      by_cases h1 : (openI al e).length = 1
      · obtain ⟨x, hx⟩ := List.length_eq_one_iff.1 h1
        have HRT : Hid (roundI ks 0 eqs = (dn ++ [(x, i)]) ++ roundI (al ++ [x]) (i + 1) (eqs.drop (i + 1))) := Lib.hid (by rw [HR.out, HDR.out, round_tell hx]; simp)
        have HXI : Hid ((Lit.int .i64 x).wf = true) := Lib.hid (HI1.out x (mem_open.1 (show x ∈ openI al e by rw [hx]; simp)).1).wf
        rw [hx] at hO4 ⊢
        clear h1 hx
        simp only [List.length_singleton] at hO4 ⊢
        obtain ⟨b4, o4, ea4, hb4, -⟩ := Sl.at_ hO4.sl (k := 0) (by omega)
        subst ea4
        have d4 := Ints.at_ (show Ints w4 _ [x] from hO4.sl) 0 (by simp)
        simp only [List.getElem_cons_zero, Nat.add_zero] at d4
        have hkm : k + dn.length < maxLen := by unfold maxLen; omega
        obtain ⟨v0, st, wA, wB, e1, e2, hMB, hFB⟩ := own_entry HM4.out keyInt Try.underlying67 (fun u => zeroBool u) hkm (key := .int .i64 x) (val := .bool true) (keyOf_int_mk Try.underlying3 HXI.out) (plainElem_bool Try.underlying4 true)
        have HNB4 : Hid (b4 ∉ [mb]) := Lib.hid (fun hm => by
          simp at hm
          exact HM4.out.nocells o4 _ (by rw [← hm]; exact d4))
        have d5 : wB.cell? ⟨b4, o4, none⟩ = some (.int .i64 x) := hFB.cellSome d4 HNB4.out
        have HMB : Hid (SetI wB mb (k + (dn ++ [(x, i)]).length) (al ++ [x])) := Lib.hid (by
          have h := hMB
          rw [seenD_snoc] at h
          rw [List.length_append]
          exact h)
        have HJB := Lib.hid (hJ.fr HJ4.out hFB hB)
        have HKB := Lib.hid (HK4.out.trans ((KF.ofFr hFB).mono (by simp)))
        have HPX : Hid ((pre0 ++ dn ++ [(x, i)]) <+: xs) := Lib.hid (by
          have h := HPRE.out
          rw [HRT.out, ← List.append_assoc, ← List.append_assoc] at h
          exact (List.prefix_append _ _).trans h)
        obtain ⟨fn, tmps, assign, body, hy, hR⟩ := HY.out _ (x, i) wB HPX.out HJB.out
        have HRN := Lib.hid hR
        clear hR hO4 hF4 hMB hFB
        gi_wp2
        refine ⟨fun _ => by omega, ?_⟩
        refine HRN.out.mono ?_
        rintro e'' W3 ⟨rfl, hJ3, hk3⟩
        clear hy e1 e2 d5 d4 d
        have HM3 : Hid (SetI W3 mb (k + (dn ++ [(x, i)]).length) (al ++ [x])) := Lib.hid (HMB.out.kf hk3 HMS.out)
        have HJ3 : Hid (J (pre0 ++ (dn ++ [(x, i)])) W3) := Lib.hid (by rw [← List.append_assoc]; exact hJ3)
        have HK3 := Lib.hid (HKB.out.trans (hk3.mono (T := mb :: S) (by simp; exact fun b hb => .inr hb)))
        have HA3 : Hid (al ++ [x] = ks ++ (dn ++ [(x, i)]).map Prod.fst) := Lib.hid (by rw [HAL.out]; simp)
        have HL3 : Hid ((dn ++ [(x, i)]).length ≤ i + 1) := Lib.hid (by simp; omega)
        clear hk3 hJ3
        gi_wp2
        go_roundw
        case rel => exact ⟨i + 1, dn ++ [(x, i)], al ++ [x], by omega, by rw [ne_decide], by go_num, HA3.out, HRT.out, HL3.out, HM3.out, HJ3.out, HK3.out⟩
        case measure => simp [intOf]; omega
      · have HRT : Hid (roundI ks 0 eqs = dn ++ roundI al (i + 1) (eqs.drop (i + 1))) := Lib.hid (by rw [HR.out, HDR.out, round_pass h1])
        have h1b : (((openI al e).length : Int) == 1) = false := beq_eq_false_iff_ne.2 (by omega)
        have h1i : ¬ ((openI al e).length : Int) = 1 := by omega
        clear h1 hO4 hF4 d
        generalize (openI al e).length = n4 at *
        gi_wp2
        go_roundw
        case rel => exact ⟨i + 1, dn, al, by omega, by simp, by go_num, HAL.out, HRT.out, by omega, HM4.out, HJ4.out, HK4.out⟩
        case measure => simp [intOf]; omega
    · obtain rfl : i = eqs.length := by omega
      have HE2 : Hid (roundI ks 0 eqs = dn) := Lib.hid (by have h := HR.out; rw [List.drop_length] at h; simpa [roundI] using h)
      gi_wp2
      refine bodyPost_ret (results_tmp2 rfl _ _ _) rfl ?_
      rw [HE2.out]
      exact ⟨rfl, by rw [← HAL.out]; exact HM.out, HJD.out, HKF.out⟩
end Go.Proofs.Ytngfenjekgdfbaa

/- The walks of equate.Peel, of its iterator, of Closure (printed by gen_sh13.py). -/
namespace Go.Proofs.Ytngfenjekgdfbaa
open Go.RowKit Go.Maps Go.Shelf

attribute [local go_sem] Oper.semAt_some
set_option maxRecDepth 100000 in
set_option maxHeartbeats 8000000 in
theorem qPeel_any {w : World} (v1 v2 : Value) (h1 : ∃ a n c, v1 = .slice a n c) (h2 : ∃ a n c, v2 = .slice a n c) :
    Calls Try.prog 64 #[v1, v2] w fun e w' => e = .returned (.func (.func 72) #[] #[.pointer (some ⟨w.heap.size, 0, none⟩), .pointer (some ⟨w.heap.size + 1, 0, none⟩)]) ∧ Box w' w.heap.size 33 #[v1] ∧ Box w' (w.heap.size + 1) 27 #[v2] ∧ Fr [] w w' ∧ w.heap.size + 1 < w'.heap.size := by
  obtain ⟨a1, n1, c1, rfl⟩ := h1
  obtain ⟨a2, n2, c2, rfl⟩ := h2
  obtain ⟨w1, e1, hF1, hB1, hB2, hs1⟩ := two_new w #[.slice a1 n1 c1] 33 #[.slice a2 n2 c2] 27
  have HF := Lib.hid hF1; have HB1 := Lib.hid hB1; have HB2 := Lib.hid hB2; have E1 := Lib.hid e1
  have HS : Hid (w.heap.size + 1 < w1.heap.size) := Lib.hid (by omega)
  clear hF1 hB1 hB2 hs1 e1
  go_enter Try.func64, Try.ntmps64
  go_wp2_with fail
  rw [E1.out]
  go_ret
  exact ⟨rfl, HB1.out, HB2.out, HF.out, HS.out⟩
theorem SetI.same {w : World} {b n m : Nat} {xs ys : List Int} (h : SetI w b n xs) (k : SetI w b m ys) (x : Int) : x ∈ xs ↔ x ∈ ys := by
  obtain ⟨es, clock, h1, -, -, hD⟩ := h
  obtain ⟨es', clock', h1', -, -, hD'⟩ := k
  rw [h1] at h1'
  cases h1'
  have e := hD.trans hD'.symm
  have e1 := seen_at xs x
  rw [e, seen_at] at e1
  simpa using e1.symm
/-- How much is still open can be told by the set that lies in memory. -/
theorem opensW_ex (b : Nat) (eqs : List (List Int)) : ∃ f : World → Nat, ∀ (w : World) (n : Nat) (al : List Int), SetI w b n al → f w = opens al eqs := by
  refine ⟨fun w => opens (Classical.epsilon fun al => ∃ n, SetI w b n al) eqs, fun w n al h => ?_⟩
  obtain ⟨m, hm⟩ := Classical.epsilon_spec (p := fun al => ∃ n, SetI w b n al) ⟨al, n, h⟩
  exact Nat.le_antisymm (opens_le (fun x hx => (h.same hm x).1 hx) eqs) (opens_le (fun x hx => (h.same hm x).2 hx) eqs)
theorem round_in : ∀ {eqs : List (List Int)} {al : List Int} {i : Nat} {p : Int × Nat}, p ∈ roundI al i eqs → ∃ e ∈ eqs, p.1 ∈ e
  | [], _, _, _, h => by simp [roundI] at h
  | e :: es, al, i, p, h => by
    unfold roundI at h
    split at h
    · rename_i x hx
      rcases List.mem_cons.1 h with rfl | h
      · exact ⟨e, by simp, (mem_open.1 (show x ∈ openI al e by rw [hx]; simp)).1⟩
      · obtain ⟨d, hd, hp⟩ := round_in h
        exact ⟨d, by simp [hd], hp⟩
    · obtain ⟨d, hd, hp⟩ := round_in h
      exact ⟨d, by simp [hd], hp⟩
theorem peelI_in : ∀ {f : Nat} {al : List Int} {eqs : List (List Int)} {p : Int × Nat}, p ∈ peelI f al eqs → ∃ e ∈ eqs, p.1 ∈ e
  | 0, _, _, _, h => by simp [peelI] at h
  | f + 1, al, eqs, p, h => by
    unfold peelI at h
    cases hr : roundI al 0 eqs with
    | nil => rw [hr] at h; simp at h
    | cons t ts =>
      rw [hr] at h
      rcases List.mem_append.1 h with h | h
      · exact round_in (by rw [hr]; exact h)
      · exact peelI_in h
theorem told_in64 {known : List Int} {eqs : List (List Int)} (hi : ∀ r ∈ eqs, ∀ x ∈ r, In64 x) {p : Int × Nat} (h : p ∈ peelT known eqs) : In64 p.1 := by
  obtain ⟨e, he, hp⟩ := peelI_in h
  exact hi e he _ hp
def flagOf : Value → Nat
  | .bool true => 1
  | _ => 0
set_option maxRecDepth 100000 in
set_option maxHeartbeats 8000000 in
theorem qPeel1_seq {w : World} (n : Nat) (hn : 3 ≤ n) {g1 g2 : Nat} {v1 v2 : Value} {known : List Int} {eqs : List (List Int)} (S : List Nat) (hSl : ∀ b ∈ S, b < w.heap.size) (hb1 : Box w g1 33 #[v1]) (hb2 : Box w g2 27 #[v2]) (h1 : Ints w v1 known) (h2 : IRows w v2 eqs)
    (hi1 : ∀ x ∈ known, In64 x) (hi2 : ∀ r ∈ eqs, ∀ x ∈ r, In64 x) (hz : SzS known eqs) :
    SeqF Fence.wide n 2 Try.prog 72 #[.pointer (some ⟨g1, 0, none⟩), .pointer (some ⟨g2, 0, none⟩)] toldE S (peelT known eqs) w := by
  intro lp J W hW hJ hJN hY h0
  have hFW := Fr.ofBelow hW
  have HB1 := Lib.hid (hb1.keep hFW); have HB2 := Lib.hid (hb2.keep hFW); have H1 := Lib.hid (Ints.keep h1 hFW); have H2 := Lib.hid (h2.keep hFW)
  have HSW : Hid (∀ b ∈ S, b < W.heap.size) := Lib.hid (fun b hb => Nat.lt_of_lt_of_le (hSl b hb) hW.size)
  have HY := Lib.hid hY; have HI1 := Lib.hid hi1; have HI2 := Lib.hid hi2; have HZ := Lib.hid hz; have HJ0 := Lib.hid h0
  have hls := hz.ls; have hlx := hz.lx
  clear hSl hb1 hb2 h1 h2 hi1 hi2 hz hY hFW h0
  obtain ⟨a1, c1, rfl⟩ := H1.out.shape
  obtain ⟨a2, c2, rfl⟩ := SlOf.shape H2.out
  have x0 := HB1.out.cell 0
  simp only [List.getElem?_toArray, List.getElem?_cons_zero] at x0
  show CallsIn _ _ _ _ #[.func (.yield lp) #[] #[], .pointer (some ⟨g1, 0, none⟩), .pointer (some ⟨g2, 0, none⟩)] W _
  refine callsIn_of_wp Try.func72 rfl trivial ?_ rfl
  simp only [Try.ntmps72, List.size_toArray, List.length_cons, List.length_nil, Nat.reduceAdd, Nat.reduceSub, Array.replicate_succ, Array.replicate_zero, List.push_toArray, List.append_toArray, List.nil_append, List.cons_append]
  gi_wp2
  refine ⟨trivial, ?_⟩
  refine ⟨fun _ => by omega, ?_⟩
  refine (callsIn_wide.2 (qSet_any H1.out HI1.out HZ.out.lx)).mono ?_
  rintro e W1 ⟨mb, rfl, hmb, hM1, hF1⟩
  have HM1 := Lib.hid hM1; have HF1 := Lib.hid hF1
  have HJ1 := Lib.hid (hJ.fr0 HJ0.out hF1)
  have HB21 := Lib.hid (HB2.out.keep hF1); have H21 := Lib.hid (H2.out.keep hF1)
  have HNC1 : Hid (NoCells (mb :: S) W1) := Lib.hid (fun b hb => by
    rcases List.mem_cons.1 hb with rfl | hb
    · exact hM1.nocells
    · exact hJN _ _ HJ1.out b hb)
  have HKW : Hid (KF S W W1) := Lib.hid (KF.ofFr hF1.any)
  obtain ⟨opensW, hopw⟩ := opensW_ex mb eqs
  have HOPW := Lib.hid hopw
  clear hM1 hF1 x0 hopw
  gi_wp2
  gi_loopw [5, 6] (fun tv mv wr => ∃ (tb : Bool) (dn : List (Int × Nat)) (al : List Int), tv = .bool tb ∧ mv = .bool true ∧ al = known ++ dn.map Prod.fst ∧ peelT known eqs = dn ++ (if tb then peelT al eqs else []) ∧ SetI wr mb (known.length + dn.length) al ∧ J dn wr ∧ KF (mb :: S) W1 wr) (fun tv _ wr => 2 * opensW wr + flagOf tv)
  case atStart => exact ⟨true, [], known, rfl, rfl, by simp, by simp, HM1.out, HJ1.out, KF.refl _ _⟩
  case round =>
    obtain ⟨tb, dn, al, rfl, rfl, hal, hp, hM, hJd, hkf⟩ := hrel
    have HAL := Lib.hid hal; have HP := Lib.hid hp; have HM := Lib.hid hM; have HJD := Lib.hid hJd; have HKF := Lib.hid hkf
    clear hal hp hM hJd hkf
    cases tb with
    | true =>
      have HP2 : Hid (peelT known eqs = dn ++ peelT al eqs) := Lib.hid HP.out
      have HDL : Hid (known.length + dn.length ≤ 1099511627776) := Lib.hid (by
        have h1 : (peelT known eqs).length ≤ eqs.length := Nat.le_trans (peel_count _ _ _) (opens_len _ _)
        rw [HP2.out, List.length_append] at h1
        omega)
      have HER := Lib.hid (H21.out.kf HKF.out HNC1.out)
      have x2 : wr.cell? ⟨g2, 0, none⟩ = some (.slice a2 eqs.length c2) := HKF.out.cell HNC1.out (by have h := HB21.out.cell 0; simp only [List.getElem?_toArray, List.getElem?_cons_zero] at h; exact h)
      have HPF : Hid (dn ++ roundI al 0 eqs <+: peelT known eqs) := Lib.hid (by
        rw [HP2.out]
        by_cases hr : roundI al 0 eqs = []
        · rw [hr, List.append_nil]; exact List.prefix_append _ _
        · rw [peel_some hr, ← List.append_assoc]; exact List.prefix_append _ _)
      have HSZ : Hid (SzS [] eqs) := Lib.hid ⟨by simp, HZ.out.ls, HZ.out.lr⟩
      have HYY : Hid (∀ pre x W1, (pre ++ [x]) <+: peelT known eqs → J pre W1 → YieldAt Fence.wide (n - 1 - 1) Try.prog lp (toldE x) W1 fun e W' => e = .returned (.bool true) ∧ J (pre ++ [x]) W' ∧ KF S W1 W') := Lib.hid (by rw [show n - 1 - 1 = n - 2 by omega]; exact HY.out)
      gi_wp2
      refine ⟨trivial, ?_⟩
      refine ⟨fun _ => by omega, ?_⟩
      refine (qRound_in (n - 1) (by omega) J S (peelT known eqs) dn HM.out HER.out HI2.out HSZ.out HDL.out hJ hmb HSW.out hJN HYY.out HPF.out HJD.out).mono ?_
      rintro e W2 ⟨rfl, hM2, hJ2, hK2⟩
      have HOP : Hid (roundI al 0 eqs ≠ [] → opens (al ++ (roundI al 0 eqs).map Prod.fst) eqs < opens al eqs) := Lib.hid round_opens
      have HPS : Hid (peelT al eqs = roundI al 0 eqs ++ (if roundI al 0 eqs = [] then [] else peelT (al ++ (roundI al 0 eqs).map Prod.fst) eqs)) := Lib.hid (by
        by_cases hr : roundI al 0 eqs = []
        · rw [if_pos hr, hr, peel_none hr]; rfl
        · rw [if_neg hr]; exact peel_some hr)
      have HO1 := Lib.hid (HOPW.out _ _ _ HM.out)
      have HO2 := Lib.hid (HOPW.out _ _ _ hM2)
      have HM2 := Lib.hid hM2; have HJ2 := Lib.hid hJ2; have HK2 := Lib.hid (HKF.out.trans hK2)
      generalize roundI al 0 eqs = rs at *
      clear hM2 hJ2 hK2 x2
      have HP3 : Hid (peelT known eqs = (dn ++ rs) ++ if rs = [] then [] else peelT (al ++ rs.map Prod.fst) eqs) := Lib.hid (by rw [HP2.out, HPS.out, List.append_assoc])
      have HA3 : Hid (al ++ rs.map Prod.fst = known ++ (dn ++ rs).map Prod.fst) := Lib.hid (by rw [HAL.out]; simp)
      have HM3 : Hid (SetI W2 mb (known.length + (dn ++ rs).length) (al ++ rs.map Prod.fst)) := Lib.hid (by have h := HM2.out; rw [List.length_append, ← Nat.add_assoc]; exact h)
      by_cases hrs : rs = []
      · have HRS := Lib.hid hrs
        have hd : decide (rs ≠ []) = false := by simp [hrs]
        rw [hd]
        rw [if_pos hrs] at HP3
        clear hrs hd
        gi_wp2
        go_roundw
        case rel => exact ⟨false, dn ++ rs, al ++ rs.map Prod.fst, rfl, rfl, HA3.out, HP3.out, HM3.out, HJ2.out, HK2.out⟩
        case measure =>
          show 2 * opensW W2 + 0 < 2 * opensW wr + 1
          rw [HO1.out, HO2.out, HRS.out]; simp
      · have HRS := Lib.hid hrs
        have hd : decide (rs ≠ []) = true := by simp [hrs]
        rw [hd]
        rw [if_neg hrs] at HP3
        clear hrs hd
        gi_wp2
        go_roundw
        case rel => exact ⟨true, dn ++ rs, al ++ rs.map Prod.fst, rfl, rfl, HA3.out, HP3.out, HM3.out, HJ2.out, HK2.out⟩
        case measure =>
          show 2 * opensW W2 + 1 < 2 * opensW wr + 1
          rw [HO1.out, HO2.out]; have := HOP.out HRS.out; omega
    | false =>
      have HP2 : Hid (peelT known eqs = dn) := Lib.hid (by have h := HP.out; simpa using h)
      gi_wp2
      go_end0
      exact ⟨⟨_, rfl⟩, by rw [HP2.out]; exact HJD.out, HKW.out.drop HKF.out hmb⟩
set_option maxRecDepth 100000 in
set_option maxHeartbeats 8000000 in
theorem qClosure_any {w : World} {v1 v2 : Value} {known : List Int} {eqs : List (List Int)} (h1 : Ints w v1 known) (h2 : IRows w v2 eqs) (hi1 : ∀ x ∈ known, In64 x) (hi2 : ∀ r ∈ eqs, ∀ x ∈ r, In64 x) (hz : SzS known eqs) :
    Calls Try.prog 51 #[v1, v2] w fun e w' => ∃ b n, e = .returned (.map (some b)) ∧ SetI w' b n (closureI known eqs) ∧ Fr [] w w' := by
  obtain ⟨a1, c1, rfl⟩ := h1.shape
  obtain ⟨a2, c2, rfl⟩ := SlOf.shape h2
  have H1 := Lib.hid h1; have H2 := Lib.hid h2; have HI1 := Lib.hid hi1; have HI2 := Lib.hid hi2; have HZ := Lib.hid hz
  have HCE := Lib.hid (closure_eq known eqs)
  have HPL : Hid ((peelT known eqs).length ≤ eqs.length) := Lib.hid (Nat.le_trans (peel_count _ _ _) (opens_len _ _))
  have hls := hz.ls; have hlx := hz.lx
  clear h1 h2 hi1 hi2 hz
  refine (callsIn_wide (n := 8)).1 ?_
  refine callsIn_of_wp_marks Try.func51 rfl trivial ?_ rfl
  simp only [Try.ntmps51, List.size_toArray, List.length_cons, List.length_nil, Nat.reduceAdd, Nat.reduceSub, Array.replicate_succ, Array.replicate_zero, List.push_toArray, List.append_toArray, List.nil_append, List.cons_append]
  gi_wp2
  refine ⟨trivial, ?_⟩
  refine (callsIn_wide.2 (qSet_any H1.out HI1.out HZ.out.lx)).mono ?_
  rintro e w1 ⟨mb, rfl, hmb, hM1, hF1⟩
  obtain ⟨w2, e2, hF2, hB2, hs2⟩ := one_new w1 #[.map (some mb)] 67
  have E2 := Lib.hid e2
  have HM2 := Lib.hid (hM1.fr hF2 (by simp)); have HB2 := Lib.hid hB2; have HF2 := Lib.hid (hF1.trans hF2)
  have HLT : Hid (mb < w1.heap.size ∧ w1.heap.size < w2.heap.size) := Lib.hid ⟨hM1.lt, by omega⟩
  clear hF1 hF2 hB2 hs2 hM1 e2
  gi_wp2
  rw [E2.out]
  clear E2
  refine ⟨trivial, ?_⟩
  refine (callsIn_wide.2 (qPeel_any (w := w2) (.slice a1 known.length c1) (.slice a2 eqs.length c2) ⟨_, _, _, rfl⟩ ⟨_, _, _, rfl⟩)).mono ?_
  rintro e w3 ⟨rfl, hB3, hB4, hF3, hs3⟩
  have HM3 := Lib.hid (HM2.out.fr hF3 (by simp)); have HB3 := Lib.hid (HB2.out.keep hF3); have HF3 := Lib.hid (HF2.out.trans hF3)
  have HL3 : Hid (mb < w3.heap.size ∧ w1.heap.size < w3.heap.size ∧ w.heap.size ≤ w3.heap.size) := Lib.hid (by have := HLT.out; have := hF3.size; have := HF3.out.size; omega)
  have HSEQ := Lib.hid (qPeel1_seq (w := w3) 7 (by omega) [mb] (by have := HL3.out; simp; omega) hB3 hB4 (H1.out.keep HF3.out) (H2.out.keep HF3.out) HI1.out HI2.out HZ.out)
  clear hB3 hB4 hF3 hs3 HM2 HB2 HF2
  gi_wp2
  refine wpIn_rangeF rfl (by omega) (gf := 72) (lb := #[.pointer (some ⟨w2.heap.size, 0, none⟩), .pointer (some ⟨w2.heap.size + 1, 0, none⟩)]) rfl trivial (enters_of Try.func72 (by kernel_rfl) rfl) HSEQ.out (Below.refl _ _) (fun _ => rfl) (by have := HL3.out; simp; omega)
    (fun pre W' => SetI W' mb (known.length + pre.length) (known ++ pre.map Prod.fst) ∧ Box W' w1.heap.size 67 #[.map (some mb)] ∧ Fr [] w W')
    ?abs (fun pre W' h => by intro b hb; simp at hb; subst hb; exact h.1.nocells) ⟨by simpa using HM3.out, HB3.out, HF3.out⟩
    (fun p => { tmps := #[.slice a1 known.length c1, .slice a2 eqs.length c2, undef, undef, .map none, .pointer (some ⟨w1.heap.size, 0, none⟩), .int .i64 p.1, .slice a1 known.length c1, .map (some mb), .slice a1 known.length c1, .slice a2 eqs.length c2, .func (.func 72) #[] #[.pointer (some ⟨w2.heap.size, 0, none⟩), .pointer (some ⟨w2.heap.size + 1, 0, none⟩)], .int .i64 p.1, .int .i64 (p.2 : Nat), undef, undef, undef], defers := [] }) ?assign ?body ?done
  case abs =>
    rintro pre A B row ⟨g1, g2, g3⟩ hgr hr
    have hl := HL3.out
    have hfr : Fr row.toList A B := (Fr.refl _ A).grown hgr (fun k hk => .inl (by simp [hk]))
    have hrow : ∀ b ∈ row.toList, w3.heap.size ≤ b := fun b hb => hr b (mem_toList.1 hb)
    refine ⟨g1.fr hfr (fun hm => by have := hrow mb hm; omega), g2.fr hfr (fun hm => by have := hrow _ hm; omega), g3.step hfr (fun b hb => .inr (by have := hrow b hb; omega))⟩
  case assign =>
    intro l' x W' K hK
    gi_wp2
    exact hK
  case body =>
    rintro l' pre p W' hl' hpre ⟨g1, g2, g3⟩ hsz
    have hlen : pre.length + 1 ≤ eqs.length := by
      have h1 := hpre.length_le
      have h2 := HPL.out
      simp at h1
      omega
    have HPI : Hid ((Lit.int .i64 p.1).wf = true) := Lib.hid (by
      have hm : p ∈ peelT known eqs := hpre.subset (by simp)
      exact (told_in64 HI2.out hm).wf)
    have x0 := g2.cell 0
    simp only [List.getElem?_toArray, List.getElem?_cons_zero] at x0
    have hkm : known.length + pre.length < maxLen := by unfold maxLen; omega
    obtain ⟨w9, hup, hm9, hg9⟩ := World.ownsMap.update g1 keyInt Try.underlying67 hkm (key := .int .i64 p.1) (val := .bool true) (keyOf_int_mk Try.underlying3 HPI.out) (plainElem_bool Try.underlying4 true)
    have HM9 := Lib.hid hm9; have HG9 := Lib.hid (Fr.ofGrownB hg9)
    have HB9 : Hid (Box w9 w1.heap.size 67 #[.map (some mb)]) := Lib.hid (g2.fr HG9.out (by have := HLT.out; simp; omega))
    have HF9 : Hid (Fr [] w w9) := Lib.hid (g3.step HG9.out (fun b hb => .inr (by simp at hb; omega)))
    clear hm9 hg9 g1 g2 g3
    gi_wp2
    refine ⟨KF.ofFr HG9.out, ?_, HB9.out, HF9.out⟩
    have h := HM9.out
    rw [seenD_snoc] at h
    rw [List.length_append, List.map_append, ← List.append_assoc]
    exact h
  case done =>
    rintro D W' hD ⟨g1, g2, g3⟩ hK hDk
    have x0 := g2.cell 0
    simp only [List.getElem?_toArray, List.getElem?_cons_zero] at x0
    have HM := Lib.hid g1; have HFR := Lib.hid g3
    clear g1 g2 g3 hK
    gi_wp2
    have hFD : Fr [D] W' (W'.putObj D (.deferred none)) := (Fr.refl [D] W').grown (grownBy_putObj' W' D _) (fun r hr => by cases hr; exact .inl (by simp))
    refine ⟨by simp, .inl ⟨_, _, rfl, run_takeDeferred hDk, ?_⟩⟩
    refine ⟨_, results_tmp rfl _ _ _, mb, known.length + (peelT known eqs).length, rfl, ?_, HFR.out.step hFD (fun x hx => .inr (by simp at hx; have := HL3.out; omega))⟩
    rw [HCE.out]
    exact HM.out.fr hFD (by have := HL3.out; simp; omega)
end Go.Proofs.Ytngfenjekgdfbaa
