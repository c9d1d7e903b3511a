import Derived.Test.YtngfenjekgdfbaaMs16
import Derived.Test.YtngfenjekgdfbaaMs6
/- The walks of shape.Random, Of (printed by gen_sh16.py). -/
namespace Go.Proofs.Ytngfenjekgdfbaa
open Go.RowKit

def lotStep (s : UInt64) (_ _ : Nat) : Bool × UInt64 := (decide (9223372036854775808 ≤ (nextS s).toNat), nextS s)
theorem rowF_lot (i : Nat) (s : UInt64) : ∀ k : Nat, rowF lotStep i k s = lotRow s k
  | 0 => rfl
  | k + 1 => by
    unfold rowF lotRow
    rw [rowF_lot i s k]
    unfold lotStep
    simp
theorem fillF_lot (s : UInt64) (k : Nat) : ∀ n : Nat, fillF lotStep k n s = lotsS s k n
  | 0 => rfl
  | n + 1 => by
    unfold fillF lotsS
    rw [fillF_lot s k n]
    dsimp only
    rw [rowF_lot]
theorem GoodR.len {k : Nat} {e : List Int} (h : GoodR k e) : e.length ≤ k := by
  have h1 : e.Nodup := h.rise.imp (fun h => by omega)
  have h2 := List.Nodup.length_le_of_subset h1 (l₂ := uptoI k) (fun x hx => mem_upto.2 (h.bnd x hx))
  rwa [upto_len] at h2
theorem GoodR.le {k : Nat} {e : List Int} (h : GoodR k e) : e.Pairwise (· ≤ ·) := h.rise.imp (fun h => Int.le_of_lt h)
theorem full_next (n : Nat) (s : List (List Int)) (k : Nat) : fullS n s (k + 1) = if hasS (fullS n s k) ((k : Nat) : Int) then fullS n s k else giveS (fullS n s k) (k % n) ((k : Nat) : Int) := rfl
theorem none_next (k : Nat) (s : List (List Int)) (i : Nat) : noneS k s (i + 1) = if ((noneS k s i).getD i []).isEmpty then giveS (noneS k s i) i ((i % k : Nat) : Int) else noneS k s i := rfl
set_option maxRecDepth 100000 in
set_option maxHeartbeats 4000000 in
theorem shRandom_any {w : World} (s : UInt64) (k n : Int) :
    Calls Try.prog 15 #[.agg #[.int .u64 (s.toNat : Nat)], .int .i64 k, .int .i64 n] w fun e w' => ∃ v, e = .returned v ∧ RowsO w' w.heap.size v (ofS 2 s k n) ∧ Fr [] w w' := by
  obtain ⟨w1, e1, hF1, hB1, hs1⟩ := one_new w #[.int .u64 (s.toNat : Nat)] 25
  have E1 := Lib.hid e1; have HF := Lib.hid hF1; have HB1 := Lib.hid hB1; have HS1 := Lib.hid hs1
  clear hF1 hB1 hs1 e1
  go_enter Try.func15, Try.ntmps15
  go_upto_region 1 with fail
  rw [E1.out]
  clear E1
  go_wp2_with fail
  refine (shBounds_any k n).mono ?_
  rintro e w2 ⟨rfl, hF2⟩
  have HF := Lib.hid (HF.out.trans hF2)
  have HB1 := Lib.hid (HB1.out.keep hF2)
  have HS2 : Hid (w.heap.size + 1 ≤ w2.heap.size) := Lib.hid (by have := HS1.out; have := hF2.size; omega)
  obtain ⟨mn, hmn⟩ : ∃ mn, min n k = mn := ⟨_, rfl⟩
  obtain ⟨ok, hok⟩ : ∃ ok, okS k n = ok := ⟨_, rfl⟩
  rw [hok, hmn]
  have HMN := Lib.hid hmn; have HOK := Lib.hid hok
  clear hF2 hmn hok
  cases ok with
  | false =>
    have HE : Hid (ofS 2 s k n = []) := Lib.hid (ofS_no HOK.out)
    go_wp2_with fail
    go_ret
    exact ⟨_, rfl, by rw [HE.out]; exact RowsO.nil _ _, HF.out⟩
  | true =>
    obtain ⟨K, N, hk, hn, hK1, hK2, hN1, hN2, hn1⟩ := okS_yes HOK.out
    have HE : Hid (ofS 2 s k n = randomS s K N) := Lib.hid (by rw [ofS_yes hk hn hK1 hK2 hn1]; rfl)
    have hmn : mn = (N : Int) := by rw [← hn]; exact HMN.out.symm
    clear hn hn1
    subst hk hmn
    have HC : Hid (HasC 29 #[.pointer (some ⟨w.heap.size, 0, none⟩)] #[] lotStep (fun s W => Box W w.heap.size 25 #[.int .u64 (s.toNat : Nat)]) [w.heap.size] w2.heap.size N K) := Lib.hid (by
      refine ⟨enters_of Try.func29 (by kernel_rfl) rfl, ?_, ?_, by have := HS2.out; simp; omega⟩
      · rintro W u i p hi hp h2
        have e : (#[Value.pointer (some ⟨w.heap.size, 0, none⟩)] ++ (#[Value.int .i64 (i : Nat), Value.int .i64 (p : Nat)] ++ #[]) : Array Value) = #[.pointer (some ⟨w.heap.size, 0, none⟩), .int .i64 (i : Nat), .int .i64 (p : Nat)] := by simp
        rw [e]
        refine (shLot_any h2 i p).mono ?_
        rintro e W' ⟨rfl, hb, hF⟩
        simp only [lotStep]
        exact ⟨trivial, hb, hF⟩
      · rintro W W' T u h2 hF hT
        have := HS2.out
        exact h2.fr hF (fun hm => by have := hT _ hm; omega))
    have hN48 : N ≤ 48 := by omega
    go_wp2_with fail
    refine (shFill_any HC.out (s0 := s) HB1.out hN48 hK2).mono ?_
    rintro e w3 ⟨v3, rfl, hR, -, hF3⟩
    rw [fillF_lot] at hR
    have HFW : Hid (Fr [] w w3) := Lib.hid (HF.out.step hF3 (fun x hx => .inr (by simp at hx; omega)))
    have HG0 := Lib.hid (lots_good s K N)
    obtain ⟨a3, c3, rfl⟩ := hR.shape
    rw [HG0.out.len] at hR ⊢
    have HR := Lib.hid hR
    have HRD : Hid (randomS s K N = noneS K (fullS N (lotsS s K N).1 K) N) := Lib.hid (randomS.eq_1 s K N)
    generalize (lotsS s K N).1 = s0 at *
    have HS3 : Hid (w.heap.size ≤ w2.heap.size ∧ w2.heap.size ≤ w3.heap.size) := Lib.hid (by have := HS2.out; have := hF3.size; omega)
    clear hR hF3
    obtain ⟨base, hbase⟩ : ∃ base, w2.heap.size = base := ⟨_, rfl⟩
    rw [hbase] at HR HS3
    clear hbase
    go_upto_region 6 with fail
    go_loopw [25] (fun iv wr => ∃ p : Nat, p ≤ K ∧ iv = .int .i64 p ∧ RowsO wr base (.slice a3 N c3) (fullS N s0 p) ∧ Fr [] w wr ∧ base ≤ wr.heap.size) (fun iv _ => K - (intOf iv).toNat)
    case atStart => exact ⟨0, Nat.zero_le _, rfl, HR.out, HFW.out, HS3.out.2⟩
    case round =>
      clear HR HFW
      obtain ⟨p, hp, rfl, hR, hFq, hwz⟩ := hrel
      have HR := Lib.hid hR; have HFQ := Lib.hid hFq; have HWZ := Lib.hid hwz
      have HGP := Lib.hid (full_good HG0.out (by omega) p hp).1
      clear hR hFq hwz
      by_cases hlt : p < K
      · obtain ⟨w4, e4, hF4, hB4, hs4⟩ := one_new wr #[.int .i64 (p : Nat)] 3
        have HR4 := Lib.hid (HR.out.keep hF4)
        have HB4 := Lib.hid hB4; have HF4 := Lib.hid (HFQ.out.trans hF4); have HW4 : Hid (base ≤ w4.heap.size) := Lib.hid (by have := HWZ.out; omega)
        have E4 := Lib.hid e4
        have HNX := Lib.hid (full_next N s0 p)
        generalize fullS N s0 p = sp at *
        clear hF4 hB4 hs4 e4
        go_upto_region 8 with fail
        rw [E4.out]
        clear E4
        go_wp2_with fail
        refine (cfRows_any HR4.out.irows HB4.out).mono ?_
        rintro e w5 ⟨rfl, hF5⟩
        have HR5 := Lib.hid (HR4.out.keep hF5); have HB5 := Lib.hid (HB4.out.keep hF5); have HF5 := Lib.hid (HF4.out.trans hF5); have HW5 : Hid (base ≤ w5.heap.size) := Lib.hid (Nat.le_trans HW4.out hF5.size)
        clear hF5 HR4 HB4 HF4 HW4
        cases hc : hasS sp ((p : Nat) : Int) with
        | true =>
          rw [hc, if_pos rfl] at HNX
          clear hc
          go_wp2_with fail
          exact ⟨⟨p + 1, by omega, by go_num, by rw [HNX.out]; exact HR5.out, HF5.out, HW5.out⟩, by simp [intOf]; omega⟩
        | false =>
          rw [hc, if_neg (by simp)] at HNX
          clear hc
          have x0 := HB5.out.cell 0
          simp only [List.getElem?_toArray, List.getElem?_cons_zero] at x0
          obtain ⟨q, hq⟩ : ∃ q, p % N = q := ⟨_, rfl⟩
          have hpm : (p : Int) % (N : Int) = (q : Int) := by omega
          have hpt : (p : Int).tmod (N : Int) = (q : Int) := by rw [Int.tmod_eq_emod_of_nonneg (by omega)]; exact hpm
          have hmod : q < N := by rw [← hq]; exact Nat.mod_lt _ (by omega)
          rw [hq] at HNX
          clear hq
          have HX0 := Lib.hid x0
          have HGL : Hid (sp.length = N) := Lib.hid HGP.out.len
          obtain ⟨r, hr⟩ : ∃ r, sp[q]? = some r := ⟨_, List.getElem?_eq_getElem (by rw [HGP.out.len]; exact hmod)⟩
          have HRR := Lib.hid hr
          have HGR := Lib.hid (HGP.out.rows r (List.mem_of_getElem? hr))
          clear hr x0
          go_upto_region 9 with fail
          refine wp_region_T (fun w' => Fr [] w5.drew w') [5] 6 #[false, false, false, false, false, false] (by kernel_rfl) rfl rfl ?_
          try simp only [List.append_eq, List.cons_append, List.nil_append]
          have hF := (Fr.refl [] w5).drew
          have HR5 := Lib.hid (HR5.out.keep hF)
          have HF5 := Lib.hid (HF5.out.trans hF)
          have HX0 := Lib.hid (hF.cellSome HX0.out (by simp))
          have HW5d : Hid (base ≤ w5.drew.heap.size) := Lib.hid HW5.out
          clear hF
          have HSS : Hid (Fr [] w5.drew w5.drew) := Lib.hid (Fr.refl _ _)
          generalize w5.drew = wd at *
          refine wpAnyT_load (i := 0) (v := ?_) rfl (by kernel_rfl) (by kernel_rfl) (by kernel_rfl) (by kernel_rfl) (by kernel_rfl) (fun _ _ _ h => h) HSS.out (by rfl) ?_ ?_
          rotate_left
          · intro w hSw; have x0 := hSw.cellSome HX0.out (by simp); go_simp; try with_reducible rfl
          simp only [Act.put, List.getElem_toArray, List.getElem_cons_zero, List.getElem_cons_succ, List.setIfInBounds_toArray, List.set_cons_zero, List.set_cons_succ]
          refine wpAnyT_load (i := 1) (v := ?_) rfl (by kernel_rfl) (by kernel_rfl) (by kernel_rfl) (by kernel_rfl) (by kernel_rfl) (fun _ _ _ h => h) HSS.out (by rfl) ?_ ?_
          rotate_left
          · intro w hSw; have x0 := hSw.cellSome HX0.out (by simp); go_simp; try with_reducible rfl
          simp only [Act.put, List.getElem_toArray, List.getElem_cons_zero, List.getElem_cons_succ, List.setIfInBounds_toArray, List.set_cons_zero, List.set_cons_succ]
          refine wpAnyT_load (i := 2) (v := ?_) rfl (by kernel_rfl) (by kernel_rfl) (by kernel_rfl) (by kernel_rfl) (by kernel_rfl) (fun _ _ _ h => h) HSS.out (by rfl) ?_ ?_
          rotate_left
          · intro w hSw; have x0 := hSw.cellSome HX0.out (by simp); go_simp; try with_reducible rfl
          simp only [Act.put, List.getElem_toArray, List.getElem_cons_zero, List.getElem_cons_succ, List.setIfInBounds_toArray, List.set_cons_zero, List.set_cons_succ]
          refine wpAnyT_load (i := 3) (v := .int .i64 (q : Nat)) rfl (by kernel_rfl) (by kernel_rfl) (by kernel_rfl) (by kernel_rfl) (by kernel_rfl) (fun _ _ _ h => h) HSS.out (by rfl) ?_ ?_
          · intro w hSw; have x0 := hSw.cellSome HX0.out (by simp); go_simp; exact fun h0 => by clear hpt hpm; omega
          simp only [Act.put, List.getElem_toArray, List.getElem_cons_zero, List.getElem_cons_succ, List.setIfInBounds_toArray, List.set_cons_zero, List.set_cons_succ]
          refine wpAnyT_load (i := 4) (v := ?_) rfl (by kernel_rfl) (by kernel_rfl) (by kernel_rfl) (by kernel_rfl) (by kernel_rfl) (fun _ _ _ h => h) HSS.out (by rfl) ?_ ?_
          rotate_left
          · intro w hSw; have x0 := hSw.cellSome HX0.out (by simp); go_simp; try with_reducible rfl
          simp only [Act.put, List.getElem_toArray, List.getElem_cons_zero, List.getElem_cons_succ, List.setIfInBounds_toArray, List.set_cons_zero, List.set_cons_succ]
          refine wpAnyT_one (i := 5) (by kernel_rfl) rfl (fun K hK => ?_)
          rw [if_pos (by rfl)]
          go_simp
          refine (shGive_any ((p : Nat) : Int) HR5.out HRR.out HGR.out.le (by have := HGR.out.len; omega) (by have := HGL.out; omega) HW5d.out).mono ?_
          rintro e w6 ⟨rfl, hR6, hB6⟩
          have HR6 := Lib.hid hR6
          have HF6 : Hid (Fr [] w w6) := Lib.hid (hB6.fr HF5.out (by have := HS3.out; omega))
          have HW6 : Hid (base ≤ w6.heap.size) := Lib.hid (by obtain ⟨T, h1, h2⟩ := hB6; exact Nat.le_trans HW5d.out h2.size)
          clear hR6 hB6
          go_simp
          refine hK.out _ _ (fun h => (h (by simp)).elim) ?_
          clear hK K
          simp only [Act.put, List.getElem_toArray, List.getElem_cons_zero, List.getElem_cons_succ, List.setIfInBounds_toArray, List.set_cons_zero, List.set_cons_succ]
          refine wpAnyT_done (by kernel_rfl) ?_ _
          have HRN : Hid (RowsO w6 base (.slice a3 N c3) (fullS N s0 (p + 1))) := Lib.hid (by rw [HNX.out]; exact HR6.out)
          go_wp2_with fail
          exact ⟨⟨p + 1, by omega, by go_num, HRN.out, HF6.out, HW6.out⟩, by simp [intOf]; omega⟩
      · obtain rfl : p = K := by omega
        have HG1 := Lib.hid (full_good HG0.out (by omega) p (Nat.le_refl _))
        have HN0 : Hid (noneS p (fullS N s0 p) 0 = fullS N s0 p) := Lib.hid rfl
        generalize fullS N s0 p = s1 at *
        clear hlt
        go_upto_region 12 with fail
        go_loopw [41] (fun iv wr => ∃ i : Nat, i ≤ N ∧ iv = .int .i64 i ∧ RowsO wr base (.slice a3 N c3) (noneS p s1 i) ∧ Fr [] w wr ∧ base ≤ wr.heap.size) (fun iv _ => N - (intOf iv).toNat)
        case atStart => exact ⟨0, Nat.zero_le _, rfl, by rw [HN0.out]; exact HR.out, HFQ.out, HWZ.out⟩
        case round =>
          clear HR HFQ HWZ
          obtain ⟨i, hi, rfl, hR, hFq, hwz⟩ := hrel
          have HR := Lib.hid hR; have HFQ := Lib.hid hFq; have HWZ := Lib.hid hwz
          have HGN := Lib.hid (none_good HG1.out.1 (by omega) HG1.out.2 i hi).1
          clear hR hFq hwz
          by_cases hlt : i < N
          · have HNX := Lib.hid (none_next p s1 i)
            generalize noneS p s1 i = sp at *
            have hil : i < sp.length := by rw [HGN.out.len]; exact hlt
            obtain ⟨b, o, al, cl, ea, hb, hcell, hRi⟩ := IRows.at_ HR.out.irows i hil
            subst ea
            have d := hcell
            have hrr : sp[i]? = some sp[i] := List.getElem?_eq_getElem hil
            have HRR := Lib.hid hrr
            have HGR := Lib.hid (HGN.out.rows _ (List.mem_of_getElem? hrr))
            have HGD : Hid (sp.getD i [] = sp[i]) := Lib.hid (by rw [List.getD_eq_getElem?_getD, hrr]; rfl)
            rw [HGD.out] at HNX
            have hzr := HGR.out.len
            clear hcell hRi hrr HGD
            generalize sp[i] = r at *
            by_cases hz : r.length = 0
            · have hre : r = [] := List.eq_nil_of_length_eq_zero hz
              rw [if_pos (by rw [hre]; rfl)] at HNX
              obtain ⟨q, hq⟩ : ∃ q, i % p = q := ⟨_, rfl⟩
              have hpm : (i : Int) % (p : Int) = (q : Int) := by omega
              rw [hq] at HNX
              clear hq
              have HLS : Hid (sp.length ≤ 1073741824) := Lib.hid (by rw [HGN.out.len]; omega)
              have HG5 := Lib.hid (shGive_any ((q : Nat) : Int) HR.out HRR.out HGR.out.le (by omega) HLS.out HWZ.out)
              have hr0 : ((r.length : Nat) : Int) = 0 := by omega
              clear hre
              go_wp2_with fail
              refine HG5.out.mono ?_
              rintro e w6 ⟨rfl, hR6, hB6⟩
              have HR6 := Lib.hid hR6
              have HF6 : Hid (Fr [] w w6) := Lib.hid (hB6.fr HFQ.out HS3.out.1)
              have HW6 : Hid (base ≤ w6.heap.size) := Lib.hid (by obtain ⟨T, h1, h2⟩ := hB6; exact Nat.le_trans HWZ.out h2.size)
              clear hR6 hB6 HG5 d
              go_wp2_with fail
              exact ⟨⟨i + 1, by omega, by go_num, by rw [HNX.out]; exact HR6.out, HF6.out, HW6.out⟩, by simp [intOf]; omega⟩
            · rw [if_neg (by intro h; exact hz (by rw [List.isEmpty_iff] at h; rw [h]; rfl))] at HNX
              have hr0 : ¬ ((r.length : Nat) : Int) = 0 := by omega
              have hr1 : (((r.length : Nat) : Int) == 0) = false := beq_eq_false_iff_ne.2 hr0
              go_wp2_with fail
              exact ⟨⟨i + 1, by omega, by go_num, by rw [HNX.out]; exact HR.out, HFQ.out, HWZ.out⟩, by simp [intOf]; omega⟩
          · obtain rfl : i = N := by omega
            have HEE : Hid (noneS p s1 i = ofS 2 s (p : Int) n) := Lib.hid (by rw [HE.out, HRD.out])
            go_wp2_with fail
            go_ret
            exact ⟨_, rfl, by rw [← HEE.out]; exact HR.out.mono HS3.out.1, HFQ.out⟩
end Go.Proofs.Ytngfenjekgdfbaa

/- The walk of shape.Of (printed by gen_sh17.py). -/
namespace Go.Proofs.Ytngfenjekgdfbaa
open Go.RowKit

theorem ofS_other {kind k n : Int} {s : UInt64} (h1 : kind ≠ 1) (h2 : kind ≠ 2) : ofS kind s k n = ofS 0 s k n := by
  unfold ofS
  simp [h1, h2]
set_option maxRecDepth 100000 in
set_option maxHeartbeats 4000000 in
theorem shOf_any {w : World} (kind : Int) (s : UInt64) (k n : Int) :
    Calls Try.prog 9 #[.int .i64 kind, .int .u64 (s.toNat : Nat), .int .i64 k, .int .i64 n] w fun e w' => ∃ v, e = .returned v ∧ RowsO w' w.heap.size v (ofS kind s k n) ∧ Fr [] w w' := by
  obtain ⟨w1, e1, hF1, hB1, hs1⟩ := one_new w #[.func (.func 13) #[] #[], .func (.func 14) #[] #[], .func (.func 15) #[] #[]] 41
  have E1 := Lib.hid e1; have HF := Lib.hid hF1; have HB := Lib.hid hB1
  have HS : Hid (w.heap.size ≤ w1.heap.size) := Lib.hid hF1.size
  have HB2 := HB
  clear hF1 hB1 hs1 e1
  by_cases h1 : kind = 1
  · subst h1
    go_enter Try.func9, Try.ntmps9
    go_upto_region 2 with fail
    rw [E1.out]
    clear E1
    have x0 := HB.out.cell 1
    simp only [List.getElem?_toArray, List.getElem?_cons_zero, List.getElem?_cons_succ] at x0
    have eg := fun args W => enters_of Try.func14 (by kernel_rfl) rfl args W
    clear HB2
    go_wp2_with fail
    refine (shSpread_any (w := w1) s k n).mono ?_
    rintro e w2 ⟨v2, rfl, hR, hF⟩
    obtain ⟨sh, hsh⟩ : ∃ sh, ofS 1 s k n = sh := ⟨_, rfl⟩
    rw [hsh] at hR
    have HSH := Lib.hid hsh
    obtain ⟨a2, c2, rfl⟩ := hR.shape
    have HR := Lib.hid (hR.mono HS.out); have HF := Lib.hid (HF.out.trans hF)
    clear hR hF x0 eg hsh
    go_wp2_with fail
    go_ret
    exact ⟨_, rfl, by rw [HSH.out]; exact HR.out, HF.out⟩
  by_cases h2 : kind = 2
  · subst h2
    go_enter Try.func9, Try.ntmps9
    go_upto_region 2 with fail
    rw [E1.out]
    clear E1
    have x0 := HB.out.cell 2
    simp only [List.getElem?_toArray, List.getElem?_cons_zero, List.getElem?_cons_succ] at x0
    have eg := fun args W => enters_of Try.func15 (by kernel_rfl) rfl args W
    clear HB2
    go_wp2_with fail
    refine (shRandom_any (w := w1) s k n).mono ?_
    rintro e w2 ⟨v2, rfl, hR, hF⟩
    obtain ⟨sh, hsh⟩ : ∃ sh, ofS 2 s k n = sh := ⟨_, rfl⟩
    rw [hsh] at hR
    have HSH := Lib.hid hsh
    obtain ⟨a2, c2, rfl⟩ := hR.shape
    have HR := Lib.hid (hR.mono HS.out); have HF := Lib.hid (HF.out.trans hF)
    clear hR hF x0 eg hsh
    go_wp2_with fail
    go_ret
    exact ⟨_, rfl, by rw [HSH.out]; exact HR.out, HF.out⟩
  have HE : Hid (ofS kind s k n = ofS 0 s k n) := Lib.hid (ofS_other h1 h2)
  by_cases h0 : kind = 0
  · subst h0
    clear h1 h2
    go_enter Try.func9, Try.ntmps9
    go_upto_region 2 with fail
    rw [E1.out]
    clear E1
    have x0 := HB.out.cell 0
    simp only [List.getElem?_toArray, List.getElem?_cons_zero, List.getElem?_cons_succ] at x0
    have eg := fun args W => enters_of Try.func13 (by kernel_rfl) rfl args W
    clear HB2
    go_wp2_with fail
    refine (shRun_any (w := w1) s k n).mono ?_
    rintro e w2 ⟨v2, rfl, hR, hF⟩
    obtain ⟨sh, hsh⟩ : ∃ sh, ofS 0 s k n = sh := ⟨_, rfl⟩
    rw [hsh] at hR
    have HSH := Lib.hid hsh
    obtain ⟨a2, c2, rfl⟩ := hR.shape
    have HR := Lib.hid (hR.mono HS.out); have HF := Lib.hid (HF.out.trans hF)
    clear hR hF x0 eg hsh
    go_wp2_with fail
    go_ret
    exact ⟨_, rfl, by rw [HSH.out]; exact HR.out, HF.out⟩
  by_cases h3 : kind < 0
  · clear h1 h2 h0
    go_enter Try.func9, Try.ntmps9
    go_upto_region 2 with fail
    rw [E1.out]
    clear E1
    have x0 := HB.out.cell 0
    simp only [List.getElem?_toArray, List.getElem?_cons_zero, List.getElem?_cons_succ] at x0
    have eg := fun args W => enters_of Try.func13 (by kernel_rfl) rfl args W
    clear HB2
    go_wp2_with fail
    refine (shRun_any (w := w1) s k n).mono ?_
    rintro e w2 ⟨v2, rfl, hR, hF⟩
    obtain ⟨sh, hsh⟩ : ∃ sh, ofS 0 s k n = sh := ⟨_, rfl⟩
    rw [hsh] at hR
    have HSH := Lib.hid hsh
    obtain ⟨a2, c2, rfl⟩ := hR.shape
    have HR := Lib.hid (hR.mono HS.out); have HF := Lib.hid (HF.out.trans hF)
    clear hR hF x0 eg hsh
    go_wp2_with fail
    go_ret
    exact ⟨_, rfl, by rw [HE.out, HSH.out]; exact HR.out, HF.out⟩
  · have h4 : 2 < kind := by omega
    clear h1 h2 h0
    go_enter Try.func9, Try.ntmps9
    go_upto_region 2 with fail
    rw [E1.out]
    clear E1
    have x0 := HB.out.cell 0
    simp only [List.getElem?_toArray, List.getElem?_cons_zero, List.getElem?_cons_succ] at x0
    have eg := fun args W => enters_of Try.func13 (by kernel_rfl) rfl args W
    clear HB2
    go_wp2_with fail
    refine (shRun_any (w := w1) s k n).mono ?_
    rintro e w2 ⟨v2, rfl, hR, hF⟩
    obtain ⟨sh, hsh⟩ : ∃ sh, ofS 0 s k n = sh := ⟨_, rfl⟩
    rw [hsh] at hR
    have HSH := Lib.hid hsh
    obtain ⟨a2, c2, rfl⟩ := hR.shape
    have HR := Lib.hid (hR.mono HS.out); have HF := Lib.hid (HF.out.trans hF)
    clear hR hF x0 eg hsh
    go_wp2_with fail
    go_ret
    exact ⟨_, rfl, by rw [HE.out, HSH.out]; exact HR.out, HF.out⟩
end Go.Proofs.Ytngfenjekgdfbaa

/- The walk of confluxref18.Of, kind by kind (printed by gen_sh18.py). -/
namespace Go.Proofs.Ytngfenjekgdfbaa
open Go.RowKit

theorem rowF_keep {σ : Type} (f : Nat → Nat → Bool) (i : Nat) (s : σ) : ∀ k : Nat, rowF (fun (u : σ) i p => (f i p, u)) i k s = (rowBy k (f i), s)
  | 0 => rfl
  | k + 1 => by
    unfold rowF
    rw [rowF_keep f i s k, rowBy_succ]
    cases f i k <;> simp
theorem fillF_keep {σ : Type} (f : Nat → Nat → Bool) (k : Nat) (s : σ) : ∀ n : Nat, fillF (fun (u : σ) i p => (f i p, u)) k n s = ((List.range n).map fun i => rowBy k (f i), s)
  | 0 => rfl
  | n + 1 => by
    unfold fillF
    rw [fillF_keep f k s n]
    dsimp only
    rw [rowF_keep, List.range_succ, List.map_append]
    rfl
def runStep (K N : Nat) (u : UInt64) (i p : Nat) : Bool × UInt64 := (decide (i * K / N ≤ p) && decide (p < (i + 1) * K / N), u)
def sprStep (N : Nat) (u : UInt64) (i p : Nat) : Bool × UInt64 := (p % N == i, u)
theorem fill_run (s : UInt64) (K N : Nat) : (fillF (runStep K N) K N s).1 = runS K N := by
  have h := fillF_keep (fun i p => decide (i * K / N ≤ p) && decide (p < (i + 1) * K / N)) K s N
  unfold runS
  exact congrArg Prod.fst h
theorem fill_spr (s : UInt64) (K N : Nat) : (fillF (sprStep N) K N s).1 = spreadS K N := by
  have h := fillF_keep (fun i p => p % N == i) K s N
  unfold spreadS
  exact congrArg Prod.fst h
/-- A row's slice that is stored anew. -/
theorem RowsAt.put {wd w6 w7 : World} {base g n c q : Nat} {s : List (List Int)} {vs : List Value} {xv v' : Value} {ys : List Int} (h : RowsAt wd base (.slice (some ⟨g, 0, none⟩) n c) s vs) (hn : n = s.length) (hx : vs[q]? = some xv) (hF : Fr [] wd w6) (hv : OwnV w6 wd.heap.size 3 (Value.int .i64) v' ys) (hb : base ≤ wd.heap.size)
    (e : w6.setCell ⟨g, q, none⟩ v' = w7) : RowsO w7 base (.slice (some ⟨g, 0, none⟩) n c) (s.set q ys) ∧ FrB base wd w7 := by
  subst hn e
  have hg := h.block g rfl
  have hst := (Own.keep h.own hF).stored q v'
  have hF7 : Fr [g] w6 (w6.setCell ⟨g, q, none⟩ v') := (Fr.refl [g] w6).grown hst.2 (fun k hk => by cases hk; exact .inl (by simp))
  have hfr : Fr [g] wd (w6.setCell ⟨g, q, none⟩ v') := (hF.any).trans hF7
  refine ⟨⟨_, RowsAt.set h hx hst.1 (Own.fr (Own.mono hv hb) hF7 (fun b hb' hm => ?_)) (hfr.mono (by intro b hb'; simp at hb'; simp [hb', blockOf])) (fun b hb' => .inr (hv.block b hb').1)⟩, [g], by simp; exact hg.1, hfr⟩
  have h1 := (hv.block b hb').1
  simp at hm
  omega
set_option maxRecDepth 100000 in
set_option maxHeartbeats 8000000 in
theorem r18Of_other {w : World} {kind : Int} (hk1 : kind ≠ 1) (hk2 : kind ≠ 2) (s : UInt64) (K N : Nat) (n : Int) (hK1 : 1 ≤ K) (hK2 : K ≤ 48) (hN1 : 1 ≤ N) (hN2 : N ≤ K) (hn1 : 1 ≤ n) (hmn : min n (K : Int) = (N : Int)) :
    Calls Try.prog 10 #[.int .i64 kind, .int .u64 (s.toNat : Nat), .int .i64 (K : Nat), .int .i64 n] w fun e w' => ∃ v, e = .returned v ∧ RowsO w' w.heap.size v (runS K N) ∧ Fr [] w w' := by
  obtain ⟨w1, e1, hF1, hB1, hs1⟩ := one_new w #[] 33
  have HR0 : Hid (RowsO w1 w.heap.size (.slice (some ⟨w.heap.size, 0, none⟩) 0 0) []) := Lib.hid (by subst e1; exact RowsO.made w w.heap.size (Nat.le_refl _))
  have E1 := Lib.hid e1; have HF := Lib.hid hF1
  have h48 : ¬ (48 : Int) < (K : Int) := by omega
  have hk0 : ¬ (K : Int) < 1 := by omega
  have hn0 : ¬ n < 1 := by omega
  have hN48 : N ≤ 48 := by omega
  clear hF1 hB1 hs1 e1
  go_enter Try.func10, Try.ntmps10
  go_upto_region 2 with fail
  rw [E1.out]
  clear E1
  have HMN := Lib.hid hmn
  clear hmn
  go_upto_if 30 with fail
  go_cut [3] (fun nv wx => nv = .int .i64 (N : Nat) ∧ w1 = wx)
  case first =>
    by_cases hgt : (K : Int) < n
    · have HNK : Hid ((K : Int) = (N : Int)) := Lib.hid (by have := HMN.out; omega)
      go_wp2_with fail
      go_meet
      exact ⟨by rw [HNK.out], rfl⟩
    · have HNK : Hid (n = (N : Int)) := Lib.hid (by have := HMN.out; omega)
      go_wp2_with fail
      go_meet
      exact ⟨by rw [HNK.out], rfl⟩
  case rest =>
  obtain ⟨rfl, rfl⟩ := hcut
  clear HMN hn0
  go_upto_region 7 with fail
  go_loopw [1, 9, 10] (fun zv ov iv wr => ∃ (i : Nat) (rows : List (List Int)) (st : UInt64), i ≤ N ∧ iv = .int .i64 i ∧ zv = .int .u64 (st.toNat : Nat) ∧ fillF (runStep K N) K i s = (rows, st) ∧ RowsO wr w.heap.size ov rows ∧ Fr [] w wr) (fun _ _ iv _ => N - (intOf iv).toNat)
  case atStart => exact ⟨0, [], s, Nat.zero_le _, rfl, rfl, rfl, HR0.out, HF.out⟩
  case round =>
    clear HR0 HF
    obtain ⟨i, rows, st, hi, rfl, rfl, hr, hO, hF⟩ := hrel
    obtain ⟨ao, co, rfl⟩ := hO.shape
    have HLR : Hid (rows.length = i) := Lib.hid (by have := fillF_len (runStep K N) K s i; rw [hr] at this; exact this)
    have HR := Lib.hid hr; have HO := Lib.hid hO; have HF := Lib.hid hF
    clear hr hO hF
    by_cases hlt : i < N
    · have HFS : Hid (fillF (runStep K N) K (i + 1) s = (rows ++ [(rowF (runStep K N) i K st).1], (rowF (runStep K N) i K st).2)) := Lib.hid (by show (_, _) = _; rw [HR.out])
      obtain ⟨wo1, e2, hF2, hB2, hs2⟩ := one_new wr #[] 3
      have HP1 : Hid (OwnV wo1 wr.heap.size 3 (Value.int .i64) (.slice (some ⟨wr.heap.size, 0, none⟩) 0 0) []) := Lib.hid (by subst e2; exact OwnV.made wr wr.heap.size _ _ (Nat.le_refl _))
      have E2 := Lib.hid e2
      generalize wr = wo at *
      have HWO : Hid (wo1.heap.size = wo.heap.size + 1) := Lib.hid hs2
      have HFO := Lib.hid hF2
      clear e2 hF2 hB2 hs2
      go_upto_region 11 with fail
      rw [E2.out]
      clear E2
      go_loopw [1, 11, 12] (fun zv pv iv wr => ∃ (p : Nat) (ys : List Int) (sp : UInt64), p ≤ K ∧ iv = .int .i64 p ∧ zv = .int .u64 (sp.toNat : Nat) ∧ rowF (runStep K N) i p st = (ys, sp) ∧ OwnV wr wo.heap.size 3 (Value.int .i64) pv ys ∧ Fr [wo.heap.size] wo1 wr) (fun _ _ iv _ => K - (intOf iv).toNat)
      case atStart => exact ⟨0, [], st, Nat.zero_le _, rfl, rfl, rfl, HP1.out, Fr.refl _ _⟩
      case round =>
        clear HP1
        obtain ⟨p, ys, sp, hp, rfl, rfl, hrp, hP, hFq⟩ := hrel
        obtain ⟨ap, cp, rfl⟩ := hP.shape
        have HLO : Hid (ys.length ≤ 1099511627776) := Lib.hid (by have := rowF_len (runStep K N) i st p; rw [hrp] at this; simp at this; omega)
        have HRP := Lib.hid hrp; have HP := Lib.hid hP; have HFQ := Lib.hid hFq
        clear hrp hP hFq
        by_cases hpk : p < K
        · have HRS : Hid (rowF (runStep K N) i (p + 1) st = (if ((runStep K N) sp i p).1 then ys ++ [(p : Int)] else ys, ((runStep K N) sp i p).2)) := Lib.hid (by show (_, _) = _; rw [HRP.out])
          have hm0 : i * K ≤ 48 * 48 := Nat.mul_le_mul (by omega) hK2
          have hm1 : (i + 1) * K ≤ 48 * 48 := Nat.mul_le_mul (by omega) hK2
          obtain ⟨m, hm⟩ : ∃ m, i * K = m := ⟨_, rfl⟩
          obtain ⟨m2, hm2⟩ : ∃ m, (i + 1) * K = m := ⟨_, rfl⟩
          rw [hm] at hm0
          rw [hm2] at hm1
          obtain ⟨q, hq⟩ : ∃ q, m / N = q := ⟨_, rfl⟩
          obtain ⟨q2, hq2⟩ : ∃ q, m2 / N = q := ⟨_, rfl⟩
          have hq0 : q ≤ m := by rw [← hq]; exact Nat.div_le_self _ _
          have hq1 : q2 ≤ m2 := by rw [← hq2]; exact Nat.div_le_self _ _
          have hw1 : wrap64 ((i : Int) * (K : Int)) = (m : Int) := by
            have e : (i : Int) * (K : Int) = (m : Int) := by rw [← hm, Int.natCast_mul]
            rw [e]
            exact IntWalk.wrap64_in _ ⟨by omega, by omega⟩
          have hw2 : wrap64 (((i : Int) + 1) * (K : Int)) = (m2 : Int) := by
            have e : ((i : Int) + 1) * (K : Int) = (m2 : Int) := by rw [← hm2, Int.natCast_mul, Int.natCast_add]; simp
            rw [e]
            exact IntWalk.wrap64_in _ ⟨by omega, by omega⟩
          have hw3 : wrap64 ((m : Int) / (N : Int)) = (q : Int) := by
            have e : (m : Int) / (N : Int) = (q : Int) := by rw [← hq, Int.natCast_ediv]
            rw [e]
            exact IntWalk.wrap64_in _ ⟨by clear hq hq2 hm hm2 e hw1 hw2; omega, by clear hq hq2 hm hm2 e hw1 hw2; omega⟩
          have hw4 : wrap64 ((m2 : Int) / (N : Int)) = (q2 : Int) := by
            have e : (m2 : Int) / (N : Int) = (q2 : Int) := by rw [← hq2, Int.natCast_ediv]
            rw [e]
            exact IntWalk.wrap64_in _ ⟨by clear hq hq2 hm hm2 e hw1 hw2 hw3; omega, by clear hq hq2 hm hm2 e hw1 hw2 hw3; omega⟩
          have HQ : Hid (i * K / N = q ∧ (i + 1) * K / N = q2) := Lib.hid ⟨by rw [hm]; exact hq, by rw [hm2]; exact hq2⟩
          clear hm hm2 hq hq2 hm0 hm1 hq0 hq1
          by_cases h1 : q ≤ p
          · have h1n : (q : Int) ≤ (p : Int) := Int.ofNat_le.2 h1
            by_cases h2 : p < q2
            · have h2n : (p : Int) < (q2 : Int) := Int.ofNat_lt.2 h2
              have HSP : Hid ((runStep K N sp i p).2 = sp) := Lib.hid rfl
              rw [HSP.out] at HRS
              have HB : Hid ((runStep K N sp i p).1 = true) := Lib.hid (by unfold runStep; rw [HQ.out.1, HQ.out.2]; simp [h1, h2])
              rw [HB.out] at HRS
              clear h1 h2
              go_upto_region 20 with fail
              have A0 : Hid ((wr.alloc (.cells #[Value.int .i64 (p : Int)] 3)).ownsRow wo.heap.size 3 1 (.slice ap ys.length cp) (ys).length ((ys).map (Value.int .i64))) := Lib.hid (Own.keep HP.out ((Fr.refl [] wr).alloc _))
              have A1 : Hid ((ys).length + [Value.int .i64 (p : Int)].length ≤ maxLen) := Lib.hid (by have := HLO.out; unfold maxLen; simp only [List.length_singleton]; omega)
              have A2 : Hid (((ys).length + [Value.int .i64 (p : Int)].length) * 8 ≤ 140737488355328) := Lib.hid (by have := HLO.out; simp only [List.length_singleton]; omega)
              have A3 : Hid (Sl (wr.alloc (.cells #[Value.int .i64 (p : Int)] 3)) (.slice (some ⟨wr.heap.size, 0, none⟩) 1 1) [Value.int .i64 (p : Int)]) := Lib.hid (Sl.one wr _ _)
              have A4 : Hid (wo.heap.size ≤ (wr.alloc (.cells #[Value.int .i64 (p : Int)] 3)).heap.size) := Lib.hid (by have := HFQ.out.size; have := HWO.out; simp; omega)
              go_wp2_with (at_builtin; refine wpList_append_slf rfl (.tmp 74) (.tmp 76) 33 rfl wo.heap.size 3 (.int .i64 0) 8 Try.underlying33 info_int rfl (.slice ap ys.length cp) (ys).length ((ys).map (Value.int .i64)) rfl A0.out (.slice (some ⟨wr.heap.size, 0, none⟩) 1 1) [Value.int .i64 (p : Int)] rfl A3.out (by simp [Value.oneCell']) A1.out A2.out A4.out ?_; intro v8 w8 ho hg hfr; have HO3 := Lib.hid ho; have HG := Lib.hid hg; have HBL := Lib.hid hfr; clear ho hg hfr)
              have HN : Hid (OwnV w8 wo.heap.size 3 (Value.int .i64) v8 (ys ++ [(p : Int)])) := Lib.hid (by
                have := HO3.out
                unfold OwnV
                rw [List.map_append, List.length_append]
                exact this)
              have HF3 : Hid (Fr [wo.heap.size] wo1 w8) := Lib.hid ((HFQ.out.alloc _).step HG.out (fun x hx => by have h1 := (HP.out.block x (mem_toList.1 hx)).1; have h2 := HWO.out; by_cases e : x = wo.heap.size; (· exact .inl (by simp [e])); (· exact .inr (by omega))))
              go_wp2_with fail
              exact ⟨⟨p + 1, ys ++ [(p : Int)], sp, by clear hw1 hw2 hw3 hw4; omega, by go_num, rfl, HRS.out, HN.out, HF3.out⟩, by simp [intOf]; clear hw1 hw2 hw3 hw4; omega⟩
            · have h2n : ¬ (p : Int) < (q2 : Int) := fun h => h2 (Int.ofNat_lt.1 h)
              have HSP : Hid ((runStep K N sp i p).2 = sp) := Lib.hid rfl
              rw [HSP.out] at HRS
              have HB : Hid ((runStep K N sp i p).1 = false) := Lib.hid (by unfold runStep; rw [HQ.out.1, HQ.out.2]; simp [h1, h2])
              rw [HB.out] at HRS
              clear h1 h2
              go_wp2_with fail
              exact ⟨⟨p + 1, ys, sp, by clear hw1 hw2 hw3 hw4; omega, by go_num, rfl, HRS.out, HP.out, HFQ.out⟩, by simp [intOf]; clear hw1 hw2 hw3 hw4; omega⟩
          · have h1n : ¬ (q : Int) ≤ (p : Int) := fun h => h1 (Int.ofNat_le.1 h)
            have HSP : Hid ((runStep K N sp i p).2 = sp) := Lib.hid rfl
            rw [HSP.out] at HRS
            have HB : Hid ((runStep K N sp i p).1 = false) := Lib.hid (by unfold runStep; rw [HQ.out.1, HQ.out.2]; simp [h1])
            rw [HB.out] at HRS
            clear h1
            go_wp2_with fail
            exact ⟨⟨p + 1, ys, sp, by clear hw1 hw2 hw3 hw4; omega, by go_num, rfl, HRS.out, HP.out, HFQ.out⟩, by simp [intOf]; clear hw1 hw2 hw3 hw4; omega⟩
        · obtain rfl : p = K := by omega
          obtain ⟨vs, hvs⟩ := HO.out
          have hvs2 := (hvs.keep HFO.out)
          have hvs3 : RowsAt wr w.heap.size (.slice ao rows.length co) rows vs := by
            have hlow : ∀ b ∈ [wo.heap.size], b < wo.heap.size + 1 := by simp
            have hbl := fun b hb => (hvs.block b hb).2
            refine ⟨hvs2.len, Own.fr hvs2.own HFQ.out (fun b hb hm => by have := (hvs.block b hb).2; simp at hm; omega), fun j x zs hx hy => Own.fr (hvs2.row j x zs hx hy) HFQ.out (fun b hb hm => by have := (hvs.rowBlock j x hx b hb).2; simp at hm; omega), hvs2.apart, hvs2.off⟩
          obtain ⟨w5, e5, hF5, hB5, hs5⟩ := one_new wr #[.slice ap ys.length cp] 33
          have E5 := Lib.hid e5
          have HV5 := Lib.hid (hvs3.keep hF5)
          have A0 := Lib.hid HV5.out.own
          have A3 : Hid (Sl w5 (.slice (some ⟨wr.heap.size, 0, none⟩) 1 1) [.slice ap ys.length cp]) := Lib.hid (by subst e5; exact Sl.one wr _ _)
          have A1 : Hid (rows.length + [Value.slice ap ys.length cp].length ≤ maxLen) := Lib.hid (by have := HLR.out; unfold maxLen; simp only [List.length_singleton]; omega)
          have A2 : Hid ((rows.length + [Value.slice ap ys.length cp].length) * 24 ≤ 140737488355328) := Lib.hid (by have := HLR.out; simp only [List.length_singleton]; omega)
          have A4 : Hid (w.heap.size ≤ w5.heap.size) := Lib.hid (by have h1 := HF.out.size; have h2 := HFQ.out.size; have h3 := HWO.out; omega)
          have HP5 : Hid (OwnV w5 wo.heap.size 3 (Value.int .i64) (.slice ap ys.length cp) ys) := Lib.hid (Own.keep HP.out hF5)
          have HF5 : Hid (Fr [] w w5) := Lib.hid ((HF.out.trans HFO.out).step (HFQ.out.quiet hF5) (fun x hx => .inr (by have h1 := HF.out.size; simp at hx; omega)))
          have HRB : Hid (∀ (k : Nat) (y : Value) (b : Nat), vs[k]? = some y → blockOf y = some b → blockOf (.slice ap ys.length cp) ≠ some b) := Lib.hid (fun k y b hy hb hp => by
            have h1 := (hvs.rowBlock k y hy b hb).2
            have h2 := (HP.out.block b hp).1
            omega)
          have HVB : Hid (∀ b, blockOf (.slice ao rows.length co) = some b → blockOf (.slice ap ys.length cp) ≠ some b) := Lib.hid (fun b hb hp => by
            have h1 := (hvs.block b hb).2
            have h2 := (HP.out.block b hp).1
            omega)
          have HBB : Hid (∀ b, blockOf (.slice ao rows.length co) = some b → w.heap.size ≤ b) := Lib.hid (fun b hb => (hvs.block b hb).1)
          have HSZ : Hid (w.heap.size ≤ wo.heap.size) := Lib.hid HF.out.size
          clear e5 hF5 hB5 hs5 hvs hvs2 hvs3
          go_wp2_with (at_builtin; (rw [E5.out]); refine wpList_append_slf rfl (.tmp 78) (.tmp 80) 27 rfl w.heap.size 33 (.slice none 0 0) 24 Try.underlying27 info_ints rfl (.slice ao rows.length co) rows.length vs rfl A0.out (.slice (some ⟨wr.heap.size, 0, none⟩) 1 1) [.slice ap ys.length cp] rfl A3.out (by simp [Value.oneCell']) A1.out A2.out A4.out ?_; intro v6 w6 ho hg hfr; have HO6 := Lib.hid ho; have HG := Lib.hid hg; have HBL := Lib.hid hfr; clear ho hg hfr)
          have HR6 : Hid (RowsO w6 w.heap.size v6 (rows ++ [ys])) := Lib.hid ⟨_, RowsAt.snoc HV5.out (Own.mono HP5.out HSZ.out) HRB.out HVB.out HO6.out HG.out HBL.out⟩
          have HF6 : Hid (Fr [] w w6) := Lib.hid (HF5.out.step HG.out (fun b hb => .inr (HBB.out b (mem_toList.1 hb))))
          rw [HRP.out] at HFS
          exact ⟨⟨i + 1, rows ++ [ys], sp, by omega, by go_num, rfl, HFS.out, HR6.out, HF6.out⟩, by simp [intOf]; omega⟩
    · obtain rfl : i = N := by omega
      have HE : Hid (rows = runS K i) := Lib.hid (by have h := fill_run s K i; rw [HR.out] at h; exact h)
      go_wp2_with fail
      go_ret
      exact ⟨_, rfl, by rw [← HE.out]; exact HO.out, HF.out⟩
set_option maxRecDepth 100000 in
set_option maxHeartbeats 8000000 in
theorem r18Of_one {w : World}  (s : UInt64) (K N : Nat) (n : Int) (hK1 : 1 ≤ K) (hK2 : K ≤ 48) (hN1 : 1 ≤ N) (hN2 : N ≤ K) (hn1 : 1 ≤ n) (hmn : min n (K : Int) = (N : Int)) :
    Calls Try.prog 10 #[.int .i64 1, .int .u64 (s.toNat : Nat), .int .i64 (K : Nat), .int .i64 n] w fun e w' => ∃ v, e = .returned v ∧ RowsO w' w.heap.size v (spreadS K N) ∧ Fr [] w w' := by
  obtain ⟨w1, e1, hF1, hB1, hs1⟩ := one_new w #[] 33
  have HR0 : Hid (RowsO w1 w.heap.size (.slice (some ⟨w.heap.size, 0, none⟩) 0 0) []) := Lib.hid (by subst e1; exact RowsO.made w w.heap.size (Nat.le_refl _))
  have E1 := Lib.hid e1; have HF := Lib.hid hF1
  have h48 : ¬ (48 : Int) < (K : Int) := by omega
  have hk0 : ¬ (K : Int) < 1 := by omega
  have hn0 : ¬ n < 1 := by omega
  have hN48 : N ≤ 48 := by omega
  clear hF1 hB1 hs1 e1
  go_enter Try.func10, Try.ntmps10
  go_upto_region 2 with fail
  rw [E1.out]
  clear E1
  have HMN := Lib.hid hmn
  clear hmn
  go_upto_if 30 with fail
  go_cut [3] (fun nv wx => nv = .int .i64 (N : Nat) ∧ w1 = wx)
  case first =>
    by_cases hgt : (K : Int) < n
    · have HNK : Hid ((K : Int) = (N : Int)) := Lib.hid (by have := HMN.out; omega)
      go_wp2_with fail
      go_meet
      exact ⟨by rw [HNK.out], rfl⟩
    · have HNK : Hid (n = (N : Int)) := Lib.hid (by have := HMN.out; omega)
      go_wp2_with fail
      go_meet
      exact ⟨by rw [HNK.out], rfl⟩
  case rest =>
  obtain ⟨rfl, rfl⟩ := hcut
  clear HMN hn0
  go_upto_region 7 with fail
  go_loopw [1, 9, 10] (fun zv ov iv wr => ∃ (i : Nat) (rows : List (List Int)) (st : UInt64), i ≤ N ∧ iv = .int .i64 i ∧ zv = .int .u64 (st.toNat : Nat) ∧ fillF (sprStep N) K i s = (rows, st) ∧ RowsO wr w.heap.size ov rows ∧ Fr [] w wr) (fun _ _ iv _ => N - (intOf iv).toNat)
  case atStart => exact ⟨0, [], s, Nat.zero_le _, rfl, rfl, rfl, HR0.out, HF.out⟩
  case round =>
    clear HR0 HF
    obtain ⟨i, rows, st, hi, rfl, rfl, hr, hO, hF⟩ := hrel
    obtain ⟨ao, co, rfl⟩ := hO.shape
    have HLR : Hid (rows.length = i) := Lib.hid (by have := fillF_len (sprStep N) K s i; rw [hr] at this; exact this)
    have HR := Lib.hid hr; have HO := Lib.hid hO; have HF := Lib.hid hF
    clear hr hO hF
    by_cases hlt : i < N
    · have HFS : Hid (fillF (sprStep N) K (i + 1) s = (rows ++ [(rowF (sprStep N) i K st).1], (rowF (sprStep N) i K st).2)) := Lib.hid (by show (_, _) = _; rw [HR.out])
      obtain ⟨wo1, e2, hF2, hB2, hs2⟩ := one_new wr #[] 3
      have HP1 : Hid (OwnV wo1 wr.heap.size 3 (Value.int .i64) (.slice (some ⟨wr.heap.size, 0, none⟩) 0 0) []) := Lib.hid (by subst e2; exact OwnV.made wr wr.heap.size _ _ (Nat.le_refl _))
      have E2 := Lib.hid e2
      generalize wr = wo at *
      have HWO : Hid (wo1.heap.size = wo.heap.size + 1) := Lib.hid hs2
      have HFO := Lib.hid hF2
      clear e2 hF2 hB2 hs2
      go_upto_region 11 with fail
      rw [E2.out]
      clear E2
      go_loopw [1, 11, 12] (fun zv pv iv wr => ∃ (p : Nat) (ys : List Int) (sp : UInt64), p ≤ K ∧ iv = .int .i64 p ∧ zv = .int .u64 (sp.toNat : Nat) ∧ rowF (sprStep N) i p st = (ys, sp) ∧ OwnV wr wo.heap.size 3 (Value.int .i64) pv ys ∧ Fr [wo.heap.size] wo1 wr) (fun _ _ iv _ => K - (intOf iv).toNat)
      case atStart => exact ⟨0, [], st, Nat.zero_le _, rfl, rfl, rfl, HP1.out, Fr.refl _ _⟩
      case round =>
        clear HP1
        obtain ⟨p, ys, sp, hp, rfl, rfl, hrp, hP, hFq⟩ := hrel
        obtain ⟨ap, cp, rfl⟩ := hP.shape
        have HLO : Hid (ys.length ≤ 1099511627776) := Lib.hid (by have := rowF_len (sprStep N) i st p; rw [hrp] at this; simp at this; omega)
        have HRP := Lib.hid hrp; have HP := Lib.hid hP; have HFQ := Lib.hid hFq
        clear hrp hP hFq
        by_cases hpk : p < K
        · have HRS : Hid (rowF (sprStep N) i (p + 1) st = (if ((sprStep N) sp i p).1 then ys ++ [(p : Int)] else ys, ((sprStep N) sp i p).2)) := Lib.hid (by show (_, _) = _; rw [HRP.out])
          have hm0 : i * K ≤ 48 * 48 := Nat.mul_le_mul (by omega) hK2
          have hm1 : (i + 1) * K ≤ 48 * 48 := Nat.mul_le_mul (by omega) hK2
          obtain ⟨m, hm⟩ : ∃ m, i * K = m := ⟨_, rfl⟩
          obtain ⟨m2, hm2⟩ : ∃ m, (i + 1) * K = m := ⟨_, rfl⟩
          rw [hm] at hm0
          rw [hm2] at hm1
          obtain ⟨q, hq⟩ : ∃ q, m / N = q := ⟨_, rfl⟩
          obtain ⟨q2, hq2⟩ : ∃ q, m2 / N = q := ⟨_, rfl⟩
          have hq0 : q ≤ m := by rw [← hq]; exact Nat.div_le_self _ _
          have hq1 : q2 ≤ m2 := by rw [← hq2]; exact Nat.div_le_self _ _
          have hw1 : wrap64 ((i : Int) * (K : Int)) = (m : Int) := by
            have e : (i : Int) * (K : Int) = (m : Int) := by rw [← hm, Int.natCast_mul]
            rw [e]
            exact IntWalk.wrap64_in _ ⟨by omega, by omega⟩
          have hw2 : wrap64 (((i : Int) + 1) * (K : Int)) = (m2 : Int) := by
            have e : ((i : Int) + 1) * (K : Int) = (m2 : Int) := by rw [← hm2, Int.natCast_mul, Int.natCast_add]; simp
            rw [e]
            exact IntWalk.wrap64_in _ ⟨by omega, by omega⟩
          have hw3 : wrap64 ((m : Int) / (N : Int)) = (q : Int) := by
            have e : (m : Int) / (N : Int) = (q : Int) := by rw [← hq, Int.natCast_ediv]
            rw [e]
            exact IntWalk.wrap64_in _ ⟨by clear hq hq2 hm hm2 e hw1 hw2; omega, by clear hq hq2 hm hm2 e hw1 hw2; omega⟩
          have hw4 : wrap64 ((m2 : Int) / (N : Int)) = (q2 : Int) := by
            have e : (m2 : Int) / (N : Int) = (q2 : Int) := by rw [← hq2, Int.natCast_ediv]
            rw [e]
            exact IntWalk.wrap64_in _ ⟨by clear hq hq2 hm hm2 e hw1 hw2 hw3; omega, by clear hq hq2 hm hm2 e hw1 hw2 hw3; omega⟩
          have HQ : Hid (i * K / N = q ∧ (i + 1) * K / N = q2) := Lib.hid ⟨by rw [hm]; exact hq, by rw [hm2]; exact hq2⟩
          clear hm hm2 hq hq2 hm0 hm1 hq0 hq1
          by_cases h1 : q ≤ p
          · have h1n : (q : Int) ≤ (p : Int) := Int.ofNat_le.2 h1
            by_cases h2 : p < q2
            · have h2n : (p : Int) < (q2 : Int) := Int.ofNat_lt.2 h2
              clear h1 h2
              by_cases h5 : (p : Int) % (N : Int) = (i : Int)
              · have HB : Hid ((sprStep N sp i p).1 = true) := Lib.hid (by unfold sprStep; clear hw1 hw2 hw3 hw4 h1n h2n; simp; omega)
                have HSP : Hid ((sprStep N sp i p).2 = sp) := Lib.hid rfl
                rw [HSP.out] at HRS
                rw [HB.out] at HRS
                go_upto_region 20 with fail
                have A0 : Hid ((wr.alloc (.cells #[Value.int .i64 (p : Int)] 3)).ownsRow wo.heap.size 3 1 (.slice ap ys.length cp) (ys).length ((ys).map (Value.int .i64))) := Lib.hid (Own.keep HP.out ((Fr.refl [] wr).alloc _))
                have A1 : Hid ((ys).length + [Value.int .i64 (p : Int)].length ≤ maxLen) := Lib.hid (by have := HLO.out; unfold maxLen; simp only [List.length_singleton]; omega)
                have A2 : Hid (((ys).length + [Value.int .i64 (p : Int)].length) * 8 ≤ 140737488355328) := Lib.hid (by have := HLO.out; simp only [List.length_singleton]; omega)
                have A3 : Hid (Sl (wr.alloc (.cells #[Value.int .i64 (p : Int)] 3)) (.slice (some ⟨wr.heap.size, 0, none⟩) 1 1) [Value.int .i64 (p : Int)]) := Lib.hid (Sl.one wr _ _)
                have A4 : Hid (wo.heap.size ≤ (wr.alloc (.cells #[Value.int .i64 (p : Int)] 3)).heap.size) := Lib.hid (by have := HFQ.out.size; have := HWO.out; simp; omega)
                go_wp2_with (at_builtin; refine wpList_append_slf rfl (.tmp 74) (.tmp 76) 33 rfl wo.heap.size 3 (.int .i64 0) 8 Try.underlying33 info_int rfl (.slice ap ys.length cp) (ys).length ((ys).map (Value.int .i64)) rfl A0.out (.slice (some ⟨wr.heap.size, 0, none⟩) 1 1) [Value.int .i64 (p : Int)] rfl A3.out (by simp [Value.oneCell']) A1.out A2.out A4.out ?_; intro v8 w8 ho hg hfr; have HO3 := Lib.hid ho; have HG := Lib.hid hg; have HBL := Lib.hid hfr; clear ho hg hfr)
                have HN : Hid (OwnV w8 wo.heap.size 3 (Value.int .i64) v8 (ys ++ [(p : Int)])) := Lib.hid (by
                  have := HO3.out
                  unfold OwnV
                  rw [List.map_append, List.length_append]
                  exact this)
                have HF3 : Hid (Fr [wo.heap.size] wo1 w8) := Lib.hid ((HFQ.out.alloc _).step HG.out (fun x hx => by have h1 := (HP.out.block x (mem_toList.1 hx)).1; have h2 := HWO.out; by_cases e : x = wo.heap.size; (· exact .inl (by simp [e])); (· exact .inr (by omega))))
                go_wp2_with fail
                exact ⟨⟨p + 1, ys ++ [(p : Int)], sp, by clear hw1 hw2 hw3 hw4; omega, by go_num, rfl, HRS.out, HN.out, HF3.out⟩, by simp [intOf]; clear hw1 hw2 hw3 hw4; omega⟩
              · have HB : Hid ((sprStep N sp i p).1 = false) := Lib.hid (by unfold sprStep; clear hw1 hw2 hw3 hw4 h1n h2n; simp; omega)
                have HSP : Hid ((sprStep N sp i p).2 = sp) := Lib.hid rfl
                rw [HSP.out] at HRS
                rw [HB.out] at HRS
                go_wp2_with fail
                exact ⟨⟨p + 1, ys, sp, by clear hw1 hw2 hw3 hw4; omega, by go_num, rfl, HRS.out, HP.out, HFQ.out⟩, by simp [intOf]; clear hw1 hw2 hw3 hw4; omega⟩
            · have h2n : ¬ (p : Int) < (q2 : Int) := fun h => h2 (Int.ofNat_lt.1 h)
              clear h1 h2
              by_cases h5 : (p : Int) % (N : Int) = (i : Int)
              · have HB : Hid ((sprStep N sp i p).1 = true) := Lib.hid (by unfold sprStep; clear hw1 hw2 hw3 hw4 h1n h2n; simp; omega)
                have HSP : Hid ((sprStep N sp i p).2 = sp) := Lib.hid rfl
                rw [HSP.out] at HRS
                rw [HB.out] at HRS
                go_upto_region 20 with fail
                have A0 : Hid ((wr.alloc (.cells #[Value.int .i64 (p : Int)] 3)).ownsRow wo.heap.size 3 1 (.slice ap ys.length cp) (ys).length ((ys).map (Value.int .i64))) := Lib.hid (Own.keep HP.out ((Fr.refl [] wr).alloc _))
                have A1 : Hid ((ys).length + [Value.int .i64 (p : Int)].length ≤ maxLen) := Lib.hid (by have := HLO.out; unfold maxLen; simp only [List.length_singleton]; omega)
                have A2 : Hid (((ys).length + [Value.int .i64 (p : Int)].length) * 8 ≤ 140737488355328) := Lib.hid (by have := HLO.out; simp only [List.length_singleton]; omega)
                have A3 : Hid (Sl (wr.alloc (.cells #[Value.int .i64 (p : Int)] 3)) (.slice (some ⟨wr.heap.size, 0, none⟩) 1 1) [Value.int .i64 (p : Int)]) := Lib.hid (Sl.one wr _ _)
                have A4 : Hid (wo.heap.size ≤ (wr.alloc (.cells #[Value.int .i64 (p : Int)] 3)).heap.size) := Lib.hid (by have := HFQ.out.size; have := HWO.out; simp; omega)
                go_wp2_with (at_builtin; refine wpList_append_slf rfl (.tmp 74) (.tmp 76) 33 rfl wo.heap.size 3 (.int .i64 0) 8 Try.underlying33 info_int rfl (.slice ap ys.length cp) (ys).length ((ys).map (Value.int .i64)) rfl A0.out (.slice (some ⟨wr.heap.size, 0, none⟩) 1 1) [Value.int .i64 (p : Int)] rfl A3.out (by simp [Value.oneCell']) A1.out A2.out A4.out ?_; intro v8 w8 ho hg hfr; have HO3 := Lib.hid ho; have HG := Lib.hid hg; have HBL := Lib.hid hfr; clear ho hg hfr)
                have HN : Hid (OwnV w8 wo.heap.size 3 (Value.int .i64) v8 (ys ++ [(p : Int)])) := Lib.hid (by
                  have := HO3.out
                  unfold OwnV
                  rw [List.map_append, List.length_append]
                  exact this)
                have HF3 : Hid (Fr [wo.heap.size] wo1 w8) := Lib.hid ((HFQ.out.alloc _).step HG.out (fun x hx => by have h1 := (HP.out.block x (mem_toList.1 hx)).1; have h2 := HWO.out; by_cases e : x = wo.heap.size; (· exact .inl (by simp [e])); (· exact .inr (by omega))))
                go_wp2_with fail
                exact ⟨⟨p + 1, ys ++ [(p : Int)], sp, by clear hw1 hw2 hw3 hw4; omega, by go_num, rfl, HRS.out, HN.out, HF3.out⟩, by simp [intOf]; clear hw1 hw2 hw3 hw4; omega⟩
              · have HB : Hid ((sprStep N sp i p).1 = false) := Lib.hid (by unfold sprStep; clear hw1 hw2 hw3 hw4 h1n h2n; simp; omega)
                have HSP : Hid ((sprStep N sp i p).2 = sp) := Lib.hid rfl
                rw [HSP.out] at HRS
                rw [HB.out] at HRS
                go_wp2_with fail
                exact ⟨⟨p + 1, ys, sp, by clear hw1 hw2 hw3 hw4; omega, by go_num, rfl, HRS.out, HP.out, HFQ.out⟩, by simp [intOf]; clear hw1 hw2 hw3 hw4; omega⟩
          · have h1n : ¬ (q : Int) ≤ (p : Int) := fun h => h1 (Int.ofNat_le.1 h)
            clear h1
            by_cases h5 : (p : Int) % (N : Int) = (i : Int)
            · have HB : Hid ((sprStep N sp i p).1 = true) := Lib.hid (by unfold sprStep; clear hw1 hw2 hw3 hw4 h1n; simp; omega)
              have HSP : Hid ((sprStep N sp i p).2 = sp) := Lib.hid rfl
              rw [HSP.out] at HRS
              rw [HB.out] at HRS
              go_upto_region 20 with fail
              have A0 : Hid ((wr.alloc (.cells #[Value.int .i64 (p : Int)] 3)).ownsRow wo.heap.size 3 1 (.slice ap ys.length cp) (ys).length ((ys).map (Value.int .i64))) := Lib.hid (Own.keep HP.out ((Fr.refl [] wr).alloc _))
              have A1 : Hid ((ys).length + [Value.int .i64 (p : Int)].length ≤ maxLen) := Lib.hid (by have := HLO.out; unfold maxLen; simp only [List.length_singleton]; omega)
              have A2 : Hid (((ys).length + [Value.int .i64 (p : Int)].length) * 8 ≤ 140737488355328) := Lib.hid (by have := HLO.out; simp only [List.length_singleton]; omega)
              have A3 : Hid (Sl (wr.alloc (.cells #[Value.int .i64 (p : Int)] 3)) (.slice (some ⟨wr.heap.size, 0, none⟩) 1 1) [Value.int .i64 (p : Int)]) := Lib.hid (Sl.one wr _ _)
              have A4 : Hid (wo.heap.size ≤ (wr.alloc (.cells #[Value.int .i64 (p : Int)] 3)).heap.size) := Lib.hid (by have := HFQ.out.size; have := HWO.out; simp; omega)
              go_wp2_with (at_builtin; refine wpList_append_slf rfl (.tmp 74) (.tmp 76) 33 rfl wo.heap.size 3 (.int .i64 0) 8 Try.underlying33 info_int rfl (.slice ap ys.length cp) (ys).length ((ys).map (Value.int .i64)) rfl A0.out (.slice (some ⟨wr.heap.size, 0, none⟩) 1 1) [Value.int .i64 (p : Int)] rfl A3.out (by simp [Value.oneCell']) A1.out A2.out A4.out ?_; intro v8 w8 ho hg hfr; have HO3 := Lib.hid ho; have HG := Lib.hid hg; have HBL := Lib.hid hfr; clear ho hg hfr)
              have HN : Hid (OwnV w8 wo.heap.size 3 (Value.int .i64) v8 (ys ++ [(p : Int)])) := Lib.hid (by
                have := HO3.out
                unfold OwnV
                rw [List.map_append, List.length_append]
                exact this)
              have HF3 : Hid (Fr [wo.heap.size] wo1 w8) := Lib.hid ((HFQ.out.alloc _).step HG.out (fun x hx => by have h1 := (HP.out.block x (mem_toList.1 hx)).1; have h2 := HWO.out; by_cases e : x = wo.heap.size; (· exact .inl (by simp [e])); (· exact .inr (by omega))))
              go_wp2_with fail
              exact ⟨⟨p + 1, ys ++ [(p : Int)], sp, by clear hw1 hw2 hw3 hw4; omega, by go_num, rfl, HRS.out, HN.out, HF3.out⟩, by simp [intOf]; clear hw1 hw2 hw3 hw4; omega⟩
            · have HB : Hid ((sprStep N sp i p).1 = false) := Lib.hid (by unfold sprStep; clear hw1 hw2 hw3 hw4 h1n; simp; omega)
              have HSP : Hid ((sprStep N sp i p).2 = sp) := Lib.hid rfl
              rw [HSP.out] at HRS
              rw [HB.out] at HRS
              go_wp2_with fail
              exact ⟨⟨p + 1, ys, sp, by clear hw1 hw2 hw3 hw4; omega, by go_num, rfl, HRS.out, HP.out, HFQ.out⟩, by simp [intOf]; clear hw1 hw2 hw3 hw4; omega⟩
        · obtain rfl : p = K := by omega
          obtain ⟨vs, hvs⟩ := HO.out
          have hvs2 := (hvs.keep HFO.out)
          have hvs3 : RowsAt wr w.heap.size (.slice ao rows.length co) rows vs := by
            have hlow : ∀ b ∈ [wo.heap.size], b < wo.heap.size + 1 := by simp
            have hbl := fun b hb => (hvs.block b hb).2
            refine ⟨hvs2.len, Own.fr hvs2.own HFQ.out (fun b hb hm => by have := (hvs.block b hb).2; simp at hm; omega), fun j x zs hx hy => Own.fr (hvs2.row j x zs hx hy) HFQ.out (fun b hb hm => by have := (hvs.rowBlock j x hx b hb).2; simp at hm; omega), hvs2.apart, hvs2.off⟩
          obtain ⟨w5, e5, hF5, hB5, hs5⟩ := one_new wr #[.slice ap ys.length cp] 33
          have E5 := Lib.hid e5
          have HV5 := Lib.hid (hvs3.keep hF5)
          have A0 := Lib.hid HV5.out.own
          have A3 : Hid (Sl w5 (.slice (some ⟨wr.heap.size, 0, none⟩) 1 1) [.slice ap ys.length cp]) := Lib.hid (by subst e5; exact Sl.one wr _ _)
          have A1 : Hid (rows.length + [Value.slice ap ys.length cp].length ≤ maxLen) := Lib.hid (by have := HLR.out; unfold maxLen; simp only [List.length_singleton]; omega)
          have A2 : Hid ((rows.length + [Value.slice ap ys.length cp].length) * 24 ≤ 140737488355328) := Lib.hid (by have := HLR.out; simp only [List.length_singleton]; omega)
          have A4 : Hid (w.heap.size ≤ w5.heap.size) := Lib.hid (by have h1 := HF.out.size; have h2 := HFQ.out.size; have h3 := HWO.out; omega)
          have HP5 : Hid (OwnV w5 wo.heap.size 3 (Value.int .i64) (.slice ap ys.length cp) ys) := Lib.hid (Own.keep HP.out hF5)
          have HF5 : Hid (Fr [] w w5) := Lib.hid ((HF.out.trans HFO.out).step (HFQ.out.quiet hF5) (fun x hx => .inr (by have h1 := HF.out.size; simp at hx; omega)))
          have HRB : Hid (∀ (k : Nat) (y : Value) (b : Nat), vs[k]? = some y → blockOf y = some b → blockOf (.slice ap ys.length cp) ≠ some b) := Lib.hid (fun k y b hy hb hp => by
            have h1 := (hvs.rowBlock k y hy b hb).2
            have h2 := (HP.out.block b hp).1
            omega)
          have HVB : Hid (∀ b, blockOf (.slice ao rows.length co) = some b → blockOf (.slice ap ys.length cp) ≠ some b) := Lib.hid (fun b hb hp => by
            have h1 := (hvs.block b hb).2
            have h2 := (HP.out.block b hp).1
            omega)
          have HBB : Hid (∀ b, blockOf (.slice ao rows.length co) = some b → w.heap.size ≤ b) := Lib.hid (fun b hb => (hvs.block b hb).1)
          have HSZ : Hid (w.heap.size ≤ wo.heap.size) := Lib.hid HF.out.size
          clear e5 hF5 hB5 hs5 hvs hvs2 hvs3
          go_wp2_with (at_builtin; (rw [E5.out]); refine wpList_append_slf rfl (.tmp 78) (.tmp 80) 27 rfl w.heap.size 33 (.slice none 0 0) 24 Try.underlying27 info_ints rfl (.slice ao rows.length co) rows.length vs rfl A0.out (.slice (some ⟨wr.heap.size, 0, none⟩) 1 1) [.slice ap ys.length cp] rfl A3.out (by simp [Value.oneCell']) A1.out A2.out A4.out ?_; intro v6 w6 ho hg hfr; have HO6 := Lib.hid ho; have HG := Lib.hid hg; have HBL := Lib.hid hfr; clear ho hg hfr)
          have HR6 : Hid (RowsO w6 w.heap.size v6 (rows ++ [ys])) := Lib.hid ⟨_, RowsAt.snoc HV5.out (Own.mono HP5.out HSZ.out) HRB.out HVB.out HO6.out HG.out HBL.out⟩
          have HF6 : Hid (Fr [] w w6) := Lib.hid (HF5.out.step HG.out (fun b hb => .inr (HBB.out b (mem_toList.1 hb))))
          rw [HRP.out] at HFS
          exact ⟨⟨i + 1, rows ++ [ys], sp, by omega, by go_num, rfl, HFS.out, HR6.out, HF6.out⟩, by simp [intOf]; omega⟩
    · obtain rfl : i = N := by omega
      have HE : Hid (rows = spreadS K i) := Lib.hid (by have h := fill_spr s K i; rw [HR.out] at h; exact h)
      go_wp2_with fail
      go_ret
      exact ⟨_, rfl, by rw [← HE.out]; exact HO.out, HF.out⟩
set_option maxRecDepth 100000 in
set_option maxHeartbeats 8000000 in
theorem r18Of_none {w : World} (kind : Int) (s : UInt64) (k n : Int) (h : okS k n = false) :
    Calls Try.prog 10 #[.int .i64 kind, .int .u64 (s.toNat : Nat), .int .i64 k, .int .i64 n] w fun e w' => ∃ v, e = .returned v ∧ RowsO w' w.heap.size v [] ∧ Fr [] w w' := by
  obtain ⟨w1, e1, hF1, hB1, hs1⟩ := one_new w #[] 33
  have HR0 : Hid (RowsO w1 w.heap.size (.slice (some ⟨w.heap.size, 0, none⟩) 0 0) []) := Lib.hid (by subst e1; exact RowsO.made w w.heap.size (Nat.le_refl _))
  have E1 := Lib.hid e1; have HF := Lib.hid hF1
  have HO := Lib.hid h
  clear hF1 hB1 hs1 e1 h
  by_cases h1 : k < 1
  · go_enter Try.func10, Try.ntmps10
    go_upto_region 2 with fail
    rw [E1.out]
    go_wp2_with fail
    go_ret
    exact ⟨_, rfl, HR0.out, HF.out⟩
  by_cases h2 : 48 < k
  · go_enter Try.func10, Try.ntmps10
    go_upto_region 2 with fail
    rw [E1.out]
    go_wp2_with fail
    go_ret
    exact ⟨_, rfl, HR0.out, HF.out⟩
  have h3 : n < 1 := by
    have h := HO.out
    unfold okS at h
    simp at h
    have := h (by omega) (by omega)
    omega
  go_enter Try.func10, Try.ntmps10
  go_upto_region 2 with fail
  rw [E1.out]
  go_wp2_with fail
  go_ret
  exact ⟨_, rfl, HR0.out, HF.out⟩
end Go.Proofs.Ytngfenjekgdfbaa
