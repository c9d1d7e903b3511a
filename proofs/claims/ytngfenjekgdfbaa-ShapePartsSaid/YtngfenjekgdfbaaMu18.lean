import Derived.Test.YtngfenjekgdfbaaMu16
import Derived.Test.YtngfenjekgdfbaaMu6
/- The walks of shape.Random, Of (printed by gen_sh16.py). -/
namespace Go.Proofs.Ytngfenjekgdfbaa
open Go.RowKit

def lotStep (s : UInt64) (_ _ : Nat) : Bool × UInt64 := (decide (9223372036854775808 ≤ (nextS s).toNat), nextS s)
theorem rowF_lot (i : Nat) (s : UInt64) : ∀ k : Nat, rowF lotStep i k s = lotRow s k
  | 0 => rfl
  | k + 1 => by
    unfold rowF lotRow
    rw [rowF_lot i s k]
    unfold lotStep
    simp
theorem fillF_lot (s : UInt64) (k : Nat) : ∀ n : Nat, fillF lotStep k n s = lotsS s k n
  | 0 => rfl
  | n + 1 => by
    unfold fillF lotsS
    rw [fillF_lot s k n]
    dsimp only
    rw [rowF_lot]
theorem GoodR.len {k : Nat} {e : List Int} (h : GoodR k e) : e.length ≤ k := by
  have h1 : e.Nodup := h.rise.imp (fun h => by omega)
  have h2 := List.Nodup.length_le_of_subset h1 (l₂ := uptoI k) (fun x hx => mem_upto.2 (h.bnd x hx))
  rwa [upto_len] at h2
theorem GoodR.le {k : Nat} {e : List Int} (h : GoodR k e) : e.Pairwise (· ≤ ·) := h.rise.imp (fun h => Int.le_of_lt h)
theorem full_next (n : Nat) (s : List (List Int)) (k : Nat) : fullS n s (k + 1) = if hasS (fullS n s k) ((k : Nat) : Int) then fullS n s k else giveS (fullS n s k) (k % n) ((k : Nat) : Int) := rfl
theorem none_next (k : Nat) (s : List (List Int)) (i : Nat) : noneS k s (i + 1) = if ((noneS k s i).getD i []).isEmpty then giveS (noneS k s i) i ((i % k : Nat) : Int) else noneS k s i := rfl
set_option maxRecDepth 100000 in
set_option maxHeartbeats 4000000 in
theorem shRandom_any {w : World} (s : UInt64) (k n : Int) :
    Calls Try.prog 15 #[.agg #[.int .u64 (s.toNat : Nat)], .int .i64 k, .int .i64 n] w fun e w' => ∃ v, e = .returned v ∧ RowsO w' w.heap.size v (ofS 2 s k n) ∧ Fr [] w w' := by
  obtain ⟨w1, e1, hF1, hB1, hs1⟩ := one_new w #[.int .u64 (s.toNat : Nat)] 25
  have E1 := Lib.hid e1; have HF := Lib.hid hF1; have HB1 := Lib.hid hB1; have HS1 := Lib.hid hs1
  clear hF1 hB1 hs1 e1
  go_enter Try.func15, Try.ntmps15
  go_upto_region 1 with fail
  rw [E1.out]
  clear E1
  go_wp2_with fail
  refine (shBounds_any k n).mono ?_
  rintro e w2 ⟨rfl, hF2⟩
  have HF := Lib.hid (HF.out.trans hF2)
  have HB1 := Lib.hid (HB1.out.keep hF2)
  have HS2 : Hid (w.heap.size + 1 ≤ w2.heap.size) := Lib.hid (by have := HS1.out; have := hF2.size; omega)
  obtain ⟨mn, hmn⟩ : ∃ mn, min n k = mn := ⟨_, rfl⟩
  obtain ⟨ok, hok⟩ : ∃ ok, okS k n = ok := ⟨_, rfl⟩
  rw [hok, hmn]
  have HMN := Lib.hid hmn; have HOK := Lib.hid hok
  clear hF2 hmn hok
  cases ok with
  | false =>
    have HE : Hid (ofS 2 s k n = []) := Lib.hid (ofS_no HOK.out)
    go_wp2_with fail
    go_ret
    exact ⟨_, rfl, by rw [HE.out]; exact RowsO.nil _ _, HF.out⟩
  | true =>
    obtain ⟨K, N, hk, hn, hK1, hK2, hN1, hN2, hn1⟩ := okS_yes HOK.out
    have HE : Hid (ofS 2 s k n = randomS s K N) := Lib.hid (by rw [ofS_yes hk hn hK1 hK2 hn1]; rfl)
    have hmn : mn = (N : Int) := by rw [← hn]; exact HMN.out.symm
    clear hn hn1
    subst hk hmn
    have HC : Hid (HasC 29 #[.pointer (some ⟨w.heap.size, 0, none⟩)] #[] lotStep (fun s W => Box W w.heap.size 25 #[.int .u64 (s.toNat : Nat)]) [w.heap.size] w2.heap.size N K) := Lib.hid (by
      refine ⟨enters_of Try.func29 (by kernel_rfl) rfl, ?_, ?_, by have := HS2.out; simp; omega⟩
      · rintro W u i p hi hp h2
        have e : (#[Value.pointer (some ⟨w.heap.size, 0, none⟩)] ++ (#[Value.int .i64 (i : Nat), Value.int .i64 (p : Nat)] ++ #[]) : Array Value) = #[.pointer (some ⟨w.heap.size, 0, none⟩), .int .i64 (i : Nat), .int .i64 (p : Nat)] := by simp
        rw [e]
        refine (shLot_any h2 i p).mono ?_
        rintro e W' ⟨rfl, hb, hF⟩
        simp only [lotStep]
        exact ⟨trivial, hb, hF⟩
      · rintro W W' T u h2 hF hT
        have := HS2.out
        exact h2.fr hF (fun hm => by have := hT _ hm; omega))
    have hN48 : N ≤ 48 := by omega
    go_wp2_with fail
    refine (shFill_any HC.out (s0 := s) HB1.out hN48 hK2).mono ?_
    rintro e w3 ⟨v3, rfl, hR, -, hF3⟩
    rw [fillF_lot] at hR
    have HFW : Hid (Fr [] w w3) := Lib.hid (HF.out.step hF3 (fun x hx => .inr (by simp at hx; omega)))
    have HG0 := Lib.hid (lots_good s K N)
    obtain ⟨a3, c3, rfl⟩ := hR.shape
    rw [HG0.out.len] at hR ⊢
    have HR := Lib.hid hR
    have HRD : Hid (randomS s K N = noneS K (fullS N (lotsS s K N).1 K) N) := Lib.hid (randomS.eq_1 s K N)
    generalize (lotsS s K N).1 = s0 at *
    have HS3 : Hid (w.heap.size ≤ w2.heap.size ∧ w2.heap.size ≤ w3.heap.size) := Lib.hid (by have := HS2.out; have := hF3.size; omega)
    clear hR hF3
    obtain ⟨base, hbase⟩ : ∃ base, w2.heap.size = base := ⟨_, rfl⟩
    rw [hbase] at HR HS3
    clear hbase
    go_upto_region 6 with fail
    go_loopw [25] (fun iv wr => ∃ p : Nat, p ≤ K ∧ iv = .int .i64 p ∧ RowsO wr base (.slice a3 N c3) (fullS N s0 p) ∧ Fr [] w wr ∧ base ≤ wr.heap.size) (fun iv _ => K - (intOf iv).toNat)
    case atStart => exact ⟨0, Nat.zero_le _, rfl, HR.out, HFW.out, HS3.out.2⟩
    case round =>
      clear HR HFW
      obtain ⟨p, hp, rfl, hR, hFq, hwz⟩ := hrel
      have HR := Lib.hid hR; have HFQ := Lib.hid hFq; have HWZ := Lib.hid hwz
      have HGP := Lib.hid (full_good HG0.out (by omega) p hp).1
      clear hR hFq hwz
      by_cases hlt : p < K
      · obtain ⟨w4, e4, hF4, hB4, hs4⟩ := one_new wr #[.int .i64 (p : Nat)] 3
        have HR4 := Lib.hid (HR.out.keep hF4)
        have HB4 := Lib.hid hB4; have HF4 := Lib.hid (HFQ.out.trans hF4); have HW4 : Hid (base ≤ w4.heap.size) := Lib.hid (by have := HWZ.out; omega)
        have E4 := Lib.hid e4
        have HNX := Lib.hid (full_next N s0 p)
        generalize fullS N s0 p = sp at *
        clear hF4 hB4 hs4 e4
        go_upto_region 8 with fail
        rw [E4.out]
        clear E4
        go_wp2_with fail
        refine (cfRows_any HR4.out.irows HB4.out).mono ?_
        rintro e w5 ⟨rfl, hF5⟩
        have HR5 := Lib.hid (HR4.out.keep hF5); have HB5 := Lib.hid (HB4.out.keep hF5); have HF5 := Lib.hid (HF4.out.trans hF5); have HW5 : Hid (base ≤ w5.heap.size) := Lib.hid (Nat.le_trans HW4.out hF5.size)
        clear hF5 HR4 HB4 HF4 HW4
        cases hc : hasS sp ((p : Nat) : Int) with
        | true =>
          rw [hc, if_pos rfl] at HNX
          clear hc
          go_wp2_with fail
          exact ⟨⟨p + 1, by omega, by go_num, by rw [HNX.out]; exact HR5.out, HF5.out, HW5.out⟩, by simp [intOf]; omega⟩
        | false =>
          rw [hc, if_neg (by simp)] at HNX
          clear hc
          have x0 := HB5.out.cell 0
          simp only [List.getElem?_toArray, List.getElem?_cons_zero] at x0
          obtain ⟨q, hq⟩ : ∃ q, p % N = q := ⟨_, rfl⟩
          have hpm : (p : Int) % (N : Int) = (q : Int) := by omega
          have hpt : (p : Int).tmod (N : Int) = (q : Int) := by rw [Int.tmod_eq_emod_of_nonneg (by omega)]; exact hpm
          have hmod : q < N := by rw [← hq]; exact Nat.mod_lt _ (by omega)
          rw [hq] at HNX
          clear hq
          have HX0 := Lib.hid x0
          have HGL : Hid (sp.length = N) := Lib.hid HGP.out.len
          obtain ⟨r, hr⟩ : ∃ r, sp[q]? = some r := ⟨_, List.getElem?_eq_getElem (by rw [HGP.out.len]; exact hmod)⟩
          have HRR := Lib.hid hr
          have HGR := Lib.hid (HGP.out.rows r (List.mem_of_getElem? hr))
          clear hr x0
          go_upto_region 9 with fail
          refine wp_region_T (fun w' => Fr [] w5.drew w') [5] 6 #[false, false, false, false, false, false] (by kernel_rfl) rfl rfl ?_
          try simp only [List.append_eq, List.cons_append, List.nil_append]
          have hF := (Fr.refl [] w5).drew
          have HR5 := Lib.hid (HR5.out.keep hF)
          have HF5 := Lib.hid (HF5.out.trans hF)
          have HX0 := Lib.hid (hF.cellSome HX0.out (by simp))
          have HW5d : Hid (base ≤ w5.drew.heap.size) := Lib.hid HW5.out
          clear hF
          have HSS : Hid (Fr [] w5.drew w5.drew) := Lib.hid (Fr.refl _ _)
          generalize w5.drew = wd at *
          refine wpAnyT_load (i := 0) (v := ?_) rfl (by kernel_rfl) (by kernel_rfl) (by kernel_rfl) (by kernel_rfl) (by kernel_rfl) (fun _ _ _ h => h) HSS.out (by rfl) ?_ ?_
          rotate_left
          · intro w hSw; have x0 := hSw.cellSome HX0.out (by simp); go_simp; try with_reducible rfl
          simp only [Act.put, List.getElem_toArray, List.getElem_cons_zero, List.getElem_cons_succ, List.setIfInBounds_toArray, List.set_cons_zero, List.set_cons_succ]
          refine wpAnyT_load (i := 1) (v := ?_) rfl (by kernel_rfl) (by kernel_rfl) (by kernel_rfl) (by kernel_rfl) (by kernel_rfl) (fun _ _ _ h => h) HSS.out (by rfl) ?_ ?_
          rotate_left
          · intro w hSw; have x0 := hSw.cellSome HX0.out (by simp); go_simp; try with_reducible rfl
          simp only [Act.put, List.getElem_toArray, List.getElem_cons_zero, List.getElem_cons_succ, List.setIfInBounds_toArray, List.set_cons_zero, List.set_cons_succ]
          refine wpAnyT_load (i := 2) (v := ?_) rfl (by kernel_rfl) (by kernel_rfl) (by kernel_rfl) (by kernel_rfl) (by kernel_rfl) (fun _ _ _ h => h) HSS.out (by rfl) ?_ ?_
          rotate_left
          · intro w hSw; have x0 := hSw.cellSome HX0.out (by simp); go_simp; try with_reducible rfl
          simp only [Act.put, List.getElem_toArray, List.getElem_cons_zero, List.getElem_cons_succ, List.setIfInBounds_toArray, List.set_cons_zero, List.set_cons_succ]
          refine wpAnyT_load (i := 3) (v := .int .i64 (q : Nat)) rfl (by kernel_rfl) (by kernel_rfl) (by kernel_rfl) (by kernel_rfl) (by kernel_rfl) (fun _ _ _ h => h) HSS.out (by rfl) ?_ ?_
          · intro w hSw; have x0 := hSw.cellSome HX0.out (by simp); go_simp; exact fun h0 => by clear hpt hpm; omega
          simp only [Act.put, List.getElem_toArray, List.getElem_cons_zero, List.getElem_cons_succ, List.setIfInBounds_toArray, List.set_cons_zero, List.set_cons_succ]
          refine wpAnyT_load (i := 4) (v := ?_) rfl (by kernel_rfl) (by kernel_rfl) (by kernel_rfl) (by kernel_rfl) (by kernel_rfl) (fun _ _ _ h => h) HSS.out (by rfl) ?_ ?_
          rotate_left
          · intro w hSw; have x0 := hSw.cellSome HX0.out (by simp); go_simp; try with_reducible rfl
          simp only [Act.put, List.getElem_toArray, List.getElem_cons_zero, List.getElem_cons_succ, List.setIfInBounds_toArray, List.set_cons_zero, List.set_cons_succ]
          refine wpAnyT_one (i := 5) (by kernel_rfl) rfl (fun K hK => ?_)
          rw [if_pos (by rfl)]
          go_simp
          refine (shGive_any ((p : Nat) : Int) HR5.out HRR.out HGR.out.le (by have := HGR.out.len; omega) (by have := HGL.out; omega) HW5d.out).mono ?_
          rintro e w6 ⟨rfl, hR6, hB6⟩
          have HR6 := Lib.hid hR6
          have HF6 : Hid (Fr [] w w6) := Lib.hid (hB6.fr HF5.out (by have := HS3.out; omega))
          have HW6 : Hid (base ≤ w6.heap.size) := Lib.hid (by obtain ⟨T, h1, h2⟩ := hB6; exact Nat.le_trans HW5d.out h2.size)
          clear hR6 hB6
          go_simp
          refine hK.out _ _ (fun h => (h (by simp)).elim) ?_
          clear hK K
          simp only [Act.put, List.getElem_toArray, List.getElem_cons_zero, List.getElem_cons_succ, List.setIfInBounds_toArray, List.set_cons_zero, List.set_cons_succ]
          refine wpAnyT_done (by kernel_rfl) ?_ _
          have HRN : Hid (RowsO w6 base (.slice a3 N c3) (fullS N s0 (p + 1))) := Lib.hid (by rw [HNX.out]; exact HR6.out)
          go_wp2_with fail
          exact ⟨⟨p + 1, by omega, by go_num, HRN.out, HF6.out, HW6.out⟩, by simp [intOf]; omega⟩
      · obtain rfl : p = K := by omega
        have HG1 := Lib.hid (full_good HG0.out (by omega) p (Nat.le_refl _))
        have HN0 : Hid (noneS p (fullS N s0 p) 0 = fullS N s0 p) := Lib.hid rfl
        generalize fullS N s0 p = s1 at *
        clear hlt
        go_upto_region 12 with fail
        go_loopw [41] (fun iv wr => ∃ i : Nat, i ≤ N ∧ iv = .int .i64 i ∧ RowsO wr base (.slice a3 N c3) (noneS p s1 i) ∧ Fr [] w wr ∧ base ≤ wr.heap.size) (fun iv _ => N - (intOf iv).toNat)
        case atStart => exact ⟨0, Nat.zero_le _, rfl, by rw [HN0.out]; exact HR.out, HFQ.out, HWZ.out⟩
        case round =>
          clear HR HFQ HWZ
          obtain ⟨i, hi, rfl, hR, hFq, hwz⟩ := hrel
          have HR := Lib.hid hR; have HFQ := Lib.hid hFq; have HWZ := Lib.hid hwz
          have HGN := Lib.hid (none_good HG1.out.1 (by omega) HG1.out.2 i hi).1
          clear hR hFq hwz
          by_cases hlt : i < N
          · have HNX := Lib.hid (none_next p s1 i)
            generalize noneS p s1 i = sp at *
            have hil : i < sp.length := by rw [HGN.out.len]; exact hlt
            obtain ⟨b, o, al, cl, ea, hb, hcell, hRi⟩ := IRows.at_ HR.out.irows i hil
            subst ea
            have d := hcell
            have hrr : sp[i]? = some sp[i] := List.getElem?_eq_getElem hil
            have HRR := Lib.hid hrr
            have HGR := Lib.hid (HGN.out.rows _ (List.mem_of_getElem? hrr))
            have HGD : Hid (sp.getD i [] = sp[i]) := Lib.hid (by rw [List.getD_eq_getElem?_getD, hrr]; rfl)
            rw [HGD.out] at HNX
            have hzr := HGR.out.len
            clear hcell hRi hrr HGD
            generalize sp[i] = r at *
            by_cases hz : r.length = 0
            · have hre : r = [] := List.eq_nil_of_length_eq_zero hz
              rw [if_pos (by rw [hre]; rfl)] at HNX
              obtain ⟨q, hq⟩ : ∃ q, i % p = q := ⟨_, rfl⟩
              have hpm : (i : Int) % (p : Int) = (q : Int) := by omega
              rw [hq] at HNX
              clear hq
              have HLS : Hid (sp.length ≤ 1073741824) := Lib.hid (by rw [HGN.out.len]; omega)
              have HG5 := Lib.hid (shGive_any ((q : Nat) : Int) HR.out HRR.out HGR.out.le (by omega) HLS.out HWZ.out)
              have hr0 : ((r.length : Nat) : Int) = 0 := by omega
              clear hre
              go_wp2_with fail
              refine HG5.out.mono ?_
              rintro e w6 ⟨rfl, hR6, hB6⟩
              have HR6 := Lib.hid hR6
              have HF6 : Hid (Fr [] w w6) := Lib.hid (hB6.fr HFQ.out HS3.out.1)
              have HW6 : Hid (base ≤ w6.heap.size) := Lib.hid (by obtain ⟨T, h1, h2⟩ := hB6; exact Nat.le_trans HWZ.out h2.size)
              clear hR6 hB6 HG5 d
              go_wp2_with fail
              exact ⟨⟨i + 1, by omega, by go_num, by rw [HNX.out]; exact HR6.out, HF6.out, HW6.out⟩, by simp [intOf]; omega⟩
            · rw [if_neg (by intro h; exact hz (by rw [List.isEmpty_iff] at h; rw [h]; rfl))] at HNX
              have hr0 : ¬ ((r.length : Nat) : Int) = 0 := by omega
              have hr1 : (((r.length : Nat) : Int) == 0) = false := beq_eq_false_iff_ne.2 hr0
              go_wp2_with fail
              exact ⟨⟨i + 1, by omega, by go_num, by rw [HNX.out]; exact HR.out, HFQ.out, HWZ.out⟩, by simp [intOf]; omega⟩
          · obtain rfl : i = N := by omega
            have HEE : Hid (noneS p s1 i = ofS 2 s (p : Int) n) := Lib.hid (by rw [HE.out, HRD.out])
            go_wp2_with fail
            go_ret
            exact ⟨_, rfl, by rw [← HEE.out]; exact HR.out.mono HS3.out.1, HFQ.out⟩
end Go.Proofs.Ytngfenjekgdfbaa

/- The walk of shape.Of (printed by gen_sh17.py). -/
namespace Go.Proofs.Ytngfenjekgdfbaa
open Go.RowKit

theorem ofS_other {kind k n : Int} {s : UInt64} (h1 : kind ≠ 1) (h2 : kind ≠ 2) : ofS kind s k n = ofS 0 s k n := by
  unfold ofS
  simp [h1, h2]
set_option maxRecDepth 100000 in
set_option maxHeartbeats 4000000 in
theorem shOf_any {w : World} (kind : Int) (s : UInt64) (k n : Int) :
    Calls Try.prog 9 #[.int .i64 kind, .int .u64 (s.toNat : Nat), .int .i64 k, .int .i64 n] w fun e w' => ∃ v, e = .returned v ∧ RowsO w' w.heap.size v (ofS kind s k n) ∧ Fr [] w w' := by
  obtain ⟨w1, e1, hF1, hB1, hs1⟩ := one_new w #[.func (.func 13) #[] #[], .func (.func 14) #[] #[], .func (.func 15) #[] #[]] 41
  have E1 := Lib.hid e1; have HF := Lib.hid hF1; have HB := Lib.hid hB1
  have HS : Hid (w.heap.size ≤ w1.heap.size) := Lib.hid hF1.size
  have HB2 := HB
  clear hF1 hB1 hs1 e1
  by_cases h1 : kind = 1
  · subst h1
    go_enter Try.func9, Try.ntmps9
    go_upto_region 2 with fail
    rw [E1.out]
    clear E1
    have x0 := HB.out.cell 1
    simp only [List.getElem?_toArray, List.getElem?_cons_zero, List.getElem?_cons_succ] at x0
    have eg := fun args W => enters_of Try.func14 (by kernel_rfl) rfl args W
    clear HB2
    go_wp2_with fail
    refine (shSpread_any (w := w1) s k n).mono ?_
    rintro e w2 ⟨v2, rfl, hR, hF⟩
    obtain ⟨sh, hsh⟩ : ∃ sh, ofS 1 s k n = sh := ⟨_, rfl⟩
    rw [hsh] at hR
    have HSH := Lib.hid hsh
    obtain ⟨a2, c2, rfl⟩ := hR.shape
    have HR := Lib.hid (hR.mono HS.out); have HF := Lib.hid (HF.out.trans hF)
    clear hR hF x0 eg hsh
    go_wp2_with fail
    go_ret
    exact ⟨_, rfl, by rw [HSH.out]; exact HR.out, HF.out⟩
  by_cases h2 : kind = 2
  · subst h2
    go_enter Try.func9, Try.ntmps9
    go_upto_region 2 with fail
    rw [E1.out]
    clear E1
    have x0 := HB.out.cell 2
    simp only [List.getElem?_toArray, List.getElem?_cons_zero, List.getElem?_cons_succ] at x0
    have eg := fun args W => enters_of Try.func15 (by kernel_rfl) rfl args W
    clear HB2
    go_wp2_with fail
    refine (shRandom_any (w := w1) s k n).mono ?_
    rintro e w2 ⟨v2, rfl, hR, hF⟩
    obtain ⟨sh, hsh⟩ : ∃ sh, ofS 2 s k n = sh := ⟨_, rfl⟩
    rw [hsh] at hR
    have HSH := Lib.hid hsh
    obtain ⟨a2, c2, rfl⟩ := hR.shape
    have HR := Lib.hid (hR.mono HS.out); have HF := Lib.hid (HF.out.trans hF)
    clear hR hF x0 eg hsh
    go_wp2_with fail
    go_ret
    exact ⟨_, rfl, by rw [HSH.out]; exact HR.out, HF.out⟩
  have HE : Hid (ofS kind s k n = ofS 0 s k n) := Lib.hid (ofS_other h1 h2)
  by_cases h0 : kind = 0
  · subst h0
    clear h1 h2
    go_enter Try.func9, Try.ntmps9
    go_upto_region 2 with fail
    rw [E1.out]
    clear E1
    have x0 := HB.out.cell 0
    simp only [List.getElem?_toArray, List.getElem?_cons_zero, List.getElem?_cons_succ] at x0
    have eg := fun args W => enters_of Try.func13 (by kernel_rfl) rfl args W
    clear HB2
    go_wp2_with fail
    refine (shRun_any (w := w1) s k n).mono ?_
    rintro e w2 ⟨v2, rfl, hR, hF⟩
    obtain ⟨sh, hsh⟩ : ∃ sh, ofS 0 s k n = sh := ⟨_, rfl⟩
    rw [hsh] at hR
    have HSH := Lib.hid hsh
    obtain ⟨a2, c2, rfl⟩ := hR.shape
    have HR := Lib.hid (hR.mono HS.out); have HF := Lib.hid (HF.out.trans hF)
    clear hR hF x0 eg hsh
    go_wp2_with fail
    go_ret
    exact ⟨_, rfl, by rw [HSH.out]; exact HR.out, HF.out⟩
  by_cases h3 : kind < 0
  · clear h1 h2 h0
    go_enter Try.func9, Try.ntmps9
    go_upto_region 2 with fail
    rw [E1.out]
    clear E1
    have x0 := HB.out.cell 0
    simp only [List.getElem?_toArray, List.getElem?_cons_zero, List.getElem?_cons_succ] at x0
    have eg := fun args W => enters_of Try.func13 (by kernel_rfl) rfl args W
    clear HB2
    go_wp2_with fail
    refine (shRun_any (w := w1) s k n).mono ?_
    rintro e w2 ⟨v2, rfl, hR, hF⟩
    obtain ⟨sh, hsh⟩ : ∃ sh, ofS 0 s k n = sh := ⟨_, rfl⟩
    rw [hsh] at hR
    have HSH := Lib.hid hsh
    obtain ⟨a2, c2, rfl⟩ := hR.shape
    have HR := Lib.hid (hR.mono HS.out); have HF := Lib.hid (HF.out.trans hF)
    clear hR hF x0 eg hsh
    go_wp2_with fail
    go_ret
    exact ⟨_, rfl, by rw [HE.out, HSH.out]; exact HR.out, HF.out⟩
  · have h4 : 2 < kind := by omega
    clear h1 h2 h0
    go_enter Try.func9, Try.ntmps9
    go_upto_region 2 with fail
    rw [E1.out]
    clear E1
    have x0 := HB.out.cell 0
    simp only [List.getElem?_toArray, List.getElem?_cons_zero, List.getElem?_cons_succ] at x0
    have eg := fun args W => enters_of Try.func13 (by kernel_rfl) rfl args W
    clear HB2
    go_wp2_with fail
    refine (shRun_any (w := w1) s k n).mono ?_
    rintro e w2 ⟨v2, rfl, hR, hF⟩
    obtain ⟨sh, hsh⟩ : ∃ sh, ofS 0 s k n = sh := ⟨_, rfl⟩
    rw [hsh] at hR
    have HSH := Lib.hid hsh
    obtain ⟨a2, c2, rfl⟩ := hR.shape
    have HR := Lib.hid (hR.mono HS.out); have HF := Lib.hid (HF.out.trans hF)
    clear hR hF x0 eg hsh
    go_wp2_with fail
    go_ret
    exact ⟨_, rfl, by rw [HE.out, HSH.out]; exact HR.out, HF.out⟩
end Go.Proofs.Ytngfenjekgdfbaa
