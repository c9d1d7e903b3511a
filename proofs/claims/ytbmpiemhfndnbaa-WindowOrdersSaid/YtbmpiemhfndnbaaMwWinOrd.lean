/- The walk of confluxlaw21.WindowOrders (printed by gen_winord.py). -/
import Derived.BigQuiet
import Derived.Maps.OwnSet
import Derived.Test.YtbmpiemhfndnbaaMw32
import Derived.Test.YtbmpiemhfndnbaaMw33
import Derived.Test.YtbmpiemhfndnbaaMw29
import Derived.Test.YtbmpiemhfndnbaaMw28
namespace Go.Proofs.Ytbmpiemhfndnbaa
open Go.RowKit Go.Maps Go.Shelf

/-- Behind k steps of WindowOrders. -/
structure OSt (w W : World) (ops : List Op21_) (g mb db cb k : Nat) (s : Win) (C : Int → Option Int) (T : Int) (Dn : List Int) (D1 D2 : DataW Value) (N : Nat) (sz wt : Int) : Prop where
  v : WinV W g mb s
  i : OInv ops k s C T Dn
  d : MapF W db D1 (markF Dn) Dn.length
  c : MapF W cb D2 (timeF C) N
  n : N ≤ k
  par : s.size = sz ∧ s.wait = wt
  f : Fr [] w W
/-- Behind what was asked of the window. -/
structure OCut (w W : World) (ops : List Op21_) (g mb db cb k : Nat) (Dn : List Int) (D1 : DataW Value) (sz wt nw : Int) (out : Bool) (B0 P : Nat) (op : Op21_) (s : Win) (C : Int → Option Int) (T : Int) (got : List Held_) (D2 : DataW Value) (N : Nat) (gv : Value) : Prop where
  e : OwnEls 2 OutR W B0 54 gv got []
  v : WinV W g mb s
  i : OMid ops (k + 1) s C T Dn got out
  now : s.now = nw
  d : MapF W db D1 (markF Dn) Dn.length
  c : MapF W cb D2 (timeF C) N
  n : N ≤ k + 1
  par : s.size = sz ∧ s.wait = wt
  box : Box W P 32 (opc op)
  f : Fr [] w W

theorem OMid.bounds {ops : List Op21_} {k : Nat} {s : Win} {C : Int → Option Int} {T : Int} {Dn : List Int} {got : List Held_} {out : Bool} (h : OMid ops k s C T Dn got out) : 0 ≤ T ∧ T ≤ k ∧ Dn.length ≤ k ∧ got.length ≤ k := by
  have := h.cnt
  have := h.tk
  omega
theorem release_par (s : Win) (now : Int) : (s.release now).1.size = s.size ∧ (s.release now).1.wait = s.wait ∧ (s.release now).1.now = tickT s.now now := ⟨rfl, rfl, rfl⟩
theorem put_par (s : Win) (q : UInt16) (x now : Int) : (s.put q x now).1.size = s.size ∧ (s.put q x now).1.wait = s.wait ∧ (s.put q x now).1.now = tickT s.now now := by
  unfold Win.put
  simp only
  split
  · exact ⟨rfl, rfl, rfl⟩
  · split <;> exact ⟨rfl, rfl, rfl⟩
theorem new_par (size wait : Int) : (Win.new size wait).size = clip 1 64 size ∧ (Win.new size wait).wait = clip 0 50 wait ∧ (Win.new size wait).now = 0 := ⟨rfl, rfl, rfl⟩
theorem OInv.new (ops : List Op21_) (size wait : Int) : OInv ops 0 (Win.new size wait) (fun _ => none) 0 [] where
  inv := WInv.new size wait
  kept := fun o ho => by cases ho
  done := fun x hx => by cases hx
  once := List.Pairwise.nil
  cnt := rfl
  late := fun x hx => rfl
  tk := Int.le_refl _
theorem OMid.fresh {ops : List Op21_} {k : Nat} {s : Win} {C : Int → Option Int} {T : Int} {Dn : List Int} {got : List Held_} {out : Bool} (h : OMid ops k s C T Dn got out) {j : Nat} {y : Held_} (hy : got[j]? = some y) : y.x ∉ Dn ++ (got.take j).map (·.x) := by
  obtain ⟨hj, rfl⟩ := List.getElem?_eq_some_iff.1 hy
  have h1 := h.once
  rw [List.map_append, List.append_assoc] at h1
  obtain ⟨a1, a2, a3⟩ := List.nodup_append.1 h1
  intro hm
  rcases List.mem_append.1 hm with hm | hm
  · exact a3 _ (List.mem_map.2 ⟨got[j], List.getElem_mem hj, rfl⟩) _ (by simp [hm]) rfl
  · obtain ⟨o, ho, e⟩ := List.mem_map.1 hm
    obtain ⟨i, hi, rfl⟩ := List.getElem_of_mem ho
    have hij : i < j := by simp at hi; omega
    rw [List.getElem_take] at e
    have := (List.pairwise_iff_getElem.1 a1) i j (by simp; omega) (by simpa using hj) hij
    simp only [List.getElem_map] at this
    exact this e
theorem OMid.stays {ops : List Op21_} {k : Nat} {s : Win} {C : Int → Option Int} {T : Int} {Dn : List Int} {got : List Held_} {out : Bool} (h : OMid ops k s C T Dn got out) {y : Held_} (hy : y ∈ s.all) : y.x ∉ Dn ++ got.map (·.x) := by
  obtain ⟨a1, a2, a3⟩ := List.nodup_append.1 h.next.once
  exact fun hm => a3 _ (List.mem_map.2 ⟨y, hy, rfl⟩) _ hm rfl
theorem OMid.rise {ops : List Op21_} {k : Nat} {s : Win} {C : Int → Option Int} {T : Int} {Dn : List Int} {got : List Held_} {out : Bool} (h : OMid ops k s C T Dn got out) {j : Nat} {x y : Held_} (hx : got[j]? = some x) (hy : got[j + 1]? = some y) :
    0 < IntKind.i16.wrap (IntKind.u16.wrap (((low16 y.n).toNat : Int) - (low16 x.n).toNat)) := by
  obtain ⟨hj, rfl⟩ := List.getElem?_eq_some_iff.1 hx
  obtain ⟨hj1, rfl⟩ := List.getElem?_eq_some_iff.1 hy
  exact low_rises ((List.pairwise_iff_getElem.1 h.rises) j (j + 1) hj hj1 (Nat.lt_succ_self j)) (h.near _ (List.getElem_mem hj) _ (List.getElem_mem hj1))
theorem timeF_put (C : Int → Option Int) (n v k : Int) : timeF (fun x => if n = x then some v else C x) k = if n = k then some (.int .i64 v) else timeF C k := by
  unfold timeF
  by_cases h : n = k <;> simp [h]
set_option maxRecDepth 100000 in
set_option maxHeartbeats 16000000 in
theorem WindowOrders_any {w : World} (size wait : Int) {v : Value} {ops : List Op21_} (h : SlEls 3 OpR w v ops []) :
    Calls Try.prog 4 #[.int .i64 size, .int .i64 wait, v] w fun e w' => e = .returned (.bool true) ∧ Fr [] w w' := by
  obtain ⟨av, cv, rfl⟩ := h.shape
  have HL := Lib.hid h
  have HF : Hid (Fr [] w w) := Lib.hid (Fr.refl _ _)
  clear h
  go_enter Try.func4, Try.ntmps4
  go_wp2_with fail
  refine l21alive_any.mono ?_
  rintro e w1 ⟨rfl, hF⟩
  have HF := Lib.hid (HF.out.trans hF)
  clear hF
  by_cases h80 : 80 < ops.length
  · have hc : decide ((80 : Int) < (ops.length : Int)) = true := decide_eq_true (by omega)
    go_wp2_with fail
    go_ret
    first | exact ⟨rfl, HF.out⟩ | exact ⟨ret_bool (by simp), HF.out⟩
  have hc : decide ((80 : Int) < (ops.length : Int)) = false := decide_eq_false (by omega)
  go_wp2_with fail
  refine (wNew_any size wait).mono ?_
  rintro e w2 ⟨g, mb, rfl, hV, hF, hg, hmb⟩
  have HW1 : Hid (w.heap.size ≤ w1.heap.size) := Lib.hid HF.out.size
  have HF := Lib.hid (HF.out.trans hF)
  have HV := Lib.hid hV; have HV2 := Lib.hid hV
  clear hV hc
  have h1 : min (max size 1) 64 = clip 1 64 size := rfl
  have h2 : min (max wait 0) 50 = clip 0 50 wait := rfl
  have HSZ := Lib.hid (new_par size wait); have HI0 := Lib.hid (OInv.new ops size wait)
  have hsz := clip_in (lo := 1) (hi := 64) (x := size) (by omega)
  have hwt := clip_in (lo := 0) (hi := 50) (x := wait) (by omega)
  generalize Win.new size wait = s0 at *
  generalize clip 1 64 size = sz at *
  generalize clip 0 50 wait = wt at *
  have HSW := Lib.hid (And.intro hsz hwt)
  clear hsz hwt
  obtain ⟨w3, hw3⟩ : ∃ w3, w2.alloc (.map #[] 0) = w3 := ⟨_, rfl⟩
  have hz3 : w3.heap.size = w2.heap.size + 1 := by rw [← hw3]; simp
  have hM1 : MapF w3 w2.heap.size (.map []) (markF []) 0 := by rw [← hw3]; exact MapF.made w2
  have hF3 : Fr [] w2 w3 := by rw [← hw3]; exact (Fr.refl _ _).alloc _
  obtain ⟨w4, hw4⟩ : ∃ w4, w3.alloc (.map #[] 0) = w4 := ⟨_, rfl⟩
  have hz4 : w4.heap.size = w3.heap.size + 1 := by rw [← hw4]; simp
  have hM2 : MapF w4 w3.heap.size (.map []) (timeF fun _ => none) 0 := by rw [← hw4]; exact MapF.made w3
  have hF4 : Fr [] w3 w4 := by rw [← hw4]; exact (Fr.refl _ _).alloc _
  have E3 := Lib.hid hw3; have E4 := Lib.hid hw4
  have HV := Lib.hid (HV.out.keep (hF3.trans hF4)); have HM1 := Lib.hid (hM1.fr hF4 (by simp)); have HM2 := Lib.hid hM2
  have hlt0 := HV.out.lt
  have hsz2 := hF.size
  have hsz1 := HF.out.size
  have HVL2 : Hid (g < w2.heap.size ∧ mb < w2.heap.size) := Lib.hid HV2.out.lt
  have HAP : Hid (w.heap.size ≤ g ∧ w.heap.size ≤ mb ∧ w.heap.size ≤ w2.heap.size ∧ w.heap.size ≤ w3.heap.size ∧ g < w2.heap.size ∧ mb < w2.heap.size ∧ w2.heap.size < w3.heap.size ∧ w3.heap.size < w4.heap.size) := Lib.hid (by have := HVL2.out; have := HW1.out; omega)
  have HF := Lib.hid ((HF.out.trans hF3).trans hF4)
  have hmm := @run_makeMap Try.prog
  clear HV2 hw3 hw4 hz3 hz4 hM1 hM2 hF3 hF4 hlt0 hsz2 hsz1 hF hg hmb HVL2 HW1
  go_upto_region 8 with fail
  rw [E3.out]
  go_upto_region 9 with fail
  rw [E4.out]
  clear E3 E4 hmm h1 h2
  generalize hdb : w2.heap.size = db at *
  generalize hcb : w3.heap.size = cb at *
  clear hdb hcb
  have HST : Hid (OSt w w4 ops g mb db cb 0 s0 (fun _ => none) 0 [] (.map []) (.map []) 0 sz wt) := Lib.hid ⟨HV.out, HI0.out, HM1.out, HM2.out, Nat.le_refl _, ⟨HSZ.out.1, HSZ.out.2.1⟩, HF.out⟩
  have HN0 : Hid (s0.now = 0) := Lib.hid HSZ.out.2.2
  clear HV HI0 HM1 HM2 HSZ HF
  go_upto_region 11 with fail
  go_loopw [8, 11, 39] (fun tv nv iv wr => ∃ (k : Nat) (s : Win) (C : Int → Option Int) (T : Int) (Dn : List Int) (D1 D2 : DataW Value) (N : Nat), k ≤ ops.length ∧ iv = .int .i64 k ∧ tv = .int .i64 T ∧ nv = .int .i64 s.now ∧ w4.heap.size ≤ wr.heap.size ∧ OSt w wr ops g mb db cb k s C T Dn D1 D2 N sz wt) (fun _ _ iv _ => ops.length - (Lib.intOf iv).toNat)
  case atStart => exact ⟨0, s0, _, 0, [], _, _, 0, Nat.zero_le _, rfl, rfl, by rw [HN0.out], Nat.le_refl _, HST.out⟩
  case round =>
    clear HST HN0
    obtain ⟨k, s, C, T, Dn, D1, D2, N, hk, rfl, rfl, rfl, hwz, hR⟩ := hrel
    have HR := Lib.hid hR; have HWZ := Lib.hid hwz
    clear hR hwz
    by_cases hlt : k < ops.length
    · obtain ⟨b, o, cc, op, B1, ea, -, hop, ⟨rfl, -, hnw1, hnw2⟩, -, hrg⟩ := (HL.out.keep Rep.op HR.out.f).at_ Rep.op (i := k) hlt
      subst ea
      have HOP := Lib.hid hop; have HRG := Lib.hid hrg
      have hb80 : k < 80 := by omega
      clear hop hrg
      obtain ⟨nw, hnw⟩ : ∃ nw, max s.now (min op.now 1099511627776) = nw := ⟨_, rfl⟩
      have HNW : Hid (tickT s.now op.now = nw) := Lib.hid hnw
      have htk := tickT_in HR.out.i.inv.now (now := op.now)
      rw [HNW.out] at htk
      obtain ⟨oo, oq, on⟩ := op
      replace HRG : Hid (wr.rangeAt b (o + k * 3) [.bool oo, .int .u16 (oq.toNat : Nat), .int .i64 on]) := HRG
      simp only at hnw hnw1 hnw2 htk HNW
      generalize hsn : s.now = sn at *
      have HSN := Lib.hid hsn
      clear hsn
      go_upto_region 13 with (first | (refine wpList_load_midA rfl 32 (.tmp 42) rfl b (o + k * 3) rfl #[.bool oo, .int .u16 (oq.toNat : Nat), .int .i64 on] _ HRG.out Try.underlying32 rfl (by kernel_rfl) ?_) | (refine wpList_store_row rfl 32 (.tmp 13) (.tmp 43) rfl wr.heap.size rfl _ _ rfl 32 (Box.new wr 32 #[.bool false, .int .u16 0, .int .i64 0]) (by kernel_rfl) rfl (by simp [Value.oneCell']) ?_; intro w5 hY hG; have hFn := ((Fr.refl [] wr).alloc _).step hG (by simp); have HFn := Lib.hid hFn; have HY := Lib.hid hY; clear hG hFn hY))
      have x0 := HY.out.cell 0; have x1 := HY.out.cell 1; have x2 := HY.out.cell 2
      simp only [List.getElem?_toArray, List.getElem?_cons_zero, List.getElem?_cons_succ] at x0 x1 x2
      have HPW := Lib.hid HY.out.lt
      generalize hP : wr.heap.size = P at *
      have HP := Lib.hid hP
      clear hP
      go_upto_region 15 with fail
      clear hnw
      go_upto_if 50 with fail
      have hT : 0 ≤ T ∧ T ≤ 80 := by have := HR.out.i.cnt; have := HR.out.i.tk; omega
      have HV5 := Lib.hid (HR.out.v.keep HFn.out); have HD5 := Lib.hid (HR.out.d.fr HFn.out (by simp)); have HC5 := Lib.hid (HR.out.c.fr HFn.out (by simp))
      have HF5 := Lib.hid (HR.out.f.trans HFn.out)
      have HLE5 : Hid (w4.heap.size ≤ P ∧ P < w5.heap.size) := Lib.hid ⟨by have := HWZ.out; have := HP.out; omega, HY.out.lt⟩
      go_cut [8, 14] (fun tv gv wx => ∃ (s2 : Win) (C2 : Int → Option Int) (T2 : Int) (got : List Held_) (D3 : DataW Value) (N3 : Nat), tv = .int .i64 T2 ∧ OCut w wx ops g mb db cb k Dn D1 sz wt nw oo w5.heap.size P ⟨oo, oq, on⟩ s2 C2 T2 got D3 N3 gv)
      case first =>
        cases oo with
        | true =>
          go_wp2_with fail
          refine (wRelease_any HV5.out HR.out.i.inv (by omega) on).mono ?_
          rintro e w6 ⟨v6, rfl, hE, hV, hF⟩
          have hpar := release_par s on
          have hmid := HR.out.i.release on
          have HHS := Lib.hid (⟨hE, hV, hF, hpar, hmid⟩ : _ ∧ _ ∧ _ ∧ _ ∧ _)
          clear hE hV hF hpar hmid
          go_wp2_with fail
          go_meet
          obtain ⟨hE, hV, hF, hpar, hmid⟩ := HHS.out
          exact ⟨_, C, T, _, D2, N, rfl, hE, hV, hmid, by rw [hpar.2.2, HSN.out]; exact HNW.out, HD5.out.fr hF (by have := HAP.out; simp; omega), HC5.out.fr hF (by have := HAP.out; simp; omega), by have := HR.out.n; omega, ⟨hpar.1.trans HR.out.par.1, hpar.2.1.trans HR.out.par.2⟩, HY.out.fr hF (by have := HAP.out; have := HLE5.out; simp; omega), HF5.out.step hF (fun b hb => .inr (by have := HAP.out; simp at hb; omega))⟩
        | false =>
          go_wp2_with fail
          refine (wPut_any HV5.out HR.out.i.inv (by omega) oq k on).mono ?_
          rintro e w6 ⟨v6, rfl, hE, hV, hF⟩
          have hpar := put_par s oq k on
          have hmid1 := HR.out.i.not_put oq on
          have hmid2 := fun he => HR.out.i.put (C' := fun x => if (k : Int) = x then some nw else C x) ⟨false, oq, on⟩ HOP.out on he (fun x => by rw [HSN.out, HNW.out])
          simp only at hmid2
          obtain ⟨⟨s2, got, en⟩, hr⟩ : ∃ r, s.put oq k on = r := ⟨_, rfl⟩
          rw [hr] at hE hV hpar hmid1 hmid2
          simp only [hr] at hmid1 hmid2 hpar hE hV ⊢
          have HD6 := Lib.hid (HD5.out.fr hF (by have := HAP.out; simp; omega)); have HC6 := Lib.hid (HC5.out.fr hF (by have := HAP.out; simp; omega)); have HY6 := Lib.hid (HY.out.fr hF (by have := HAP.out; have := HLE5.out; simp; omega)); have HF6 := Lib.hid (HF5.out.step hF (fun b hb => .inr (by have := HAP.out; simp at hb; omega)))
          have HE := Lib.hid hE; have HV := Lib.hid hV; have HPAR := Lib.hid hpar
          obtain ⟨a6, c6, rfl⟩ := hE.shape
          by_cases hen : en = 0
          · have HMID := Lib.hid (hmid2 hen)
            subst hen
            have HCM : Hid (N < maxLen) := Lib.hid (by have := HR.out.n; unfold maxLen; omega)
            clear hE hV hF hpar hmid1 hmid2 hr
            go_wp2_with (at_mapUpdate; refine wpList_mapUpdate_own _ rfl _ _ _ 52 rfl 3 2 keyInt Try.underlying52 heldW cb N D2 rfl HC6.out.own HCM.out (.int .i64 k) (.int .i64 nw) (lkey k) rfl rfl (keyOf_int_mk Try.underlying3 (lkey_wf ⟨by omega, by omega⟩)) (.held (.int .i64 nw)) [] rfl ?_; intro w7 hm7 hg7; have HM7 := Lib.hid hm7; have HF7 := Lib.hid (Fr.ofGrown hg7); clear hm7 hg7)
            go_meet
            have hap : g ≠ cb ∧ mb ≠ cb ∧ db ≠ cb ∧ P ≠ cb := by have := HAP.out; have := HLE5.out; omega
            exact ⟨s2, _, T + 1, got, _, N + 1, rfl, HE.out.fr Rep.out HF7.out (by simp) (fun b hb hm => by have := (HE.out.block b hb).1; have := HAP.out; have := HLE5.out; simp at hm; omega), HV.out.fr HF7.out (by simp [hap]) (by simp [hap]), HMID.out, by rw [HPAR.out.2.2, HSN.out]; exact HNW.out, HD6.out.fr HF7.out (by simp [hap]),
              HC6.out.put HM7.out (timeF_put C k nw) (by unfold timeF; rw [HR.out.i.late k (Int.le_refl _)]; rfl) rfl, by have := HR.out.n; omega, ⟨HPAR.out.1.trans HR.out.par.1, HPAR.out.2.1.trans HR.out.par.2⟩, HY6.out.fr HF7.out (by simp [hap]), HF6.out.step HF7.out (fun b hb => .inr (by have := HAP.out; simp at hb; omega))⟩
          · obtain ⟨hg0, hm1⟩ := hmid1 hen
            subst hg0
            have HMID := Lib.hid hm1
            have t1 : (en == 0) = false := beq_eq_false_iff_ne.2 hen
            simp only [List.length_nil] at HE ⊢
            clear hE hV hF hpar hmid1 hmid2 hr hm1 hen
            go_wp2_with fail
            go_meet
            exact ⟨s2, C, T, [], D2, N, rfl, HE.out, HV.out, HMID.out, by rw [HPAR.out.2.2, HSN.out]; exact HNW.out, HD6.out, HC6.out, by have := HR.out.n; omega, ⟨HPAR.out.1.trans HR.out.par.1, HPAR.out.2.1.trans HR.out.par.2⟩, HY6.out, HF6.out⟩
      case rest =>
        obtain ⟨s2, C2, T2, got, D3, N3, rfl, hcut⟩ := hcut
        have HC := Lib.hid hcut
        obtain ⟨a6, c6, rfl⟩ := hcut.e.shape
        have hbd := hcut.i.bounds
        have HBD := Lib.hid hbd
        clear hcut x0 x1 x2
        clear HV5 HD5 HC5 HF5 HR
        go_upto_region 25 with fail
        go_loopw [78] (fun iv wz => ∃ (j : Nat) (D : DataW Value), j ≤ got.length ∧ iv = .int .i64 j ∧ MapF wz db D (markF (Dn ++ (got.take j).map (·.x))) (Dn.length + j) ∧ Fr [db] wc wz) (fun iv _ => got.length - (Lib.intOf iv).toNat)
        case atStart => exact ⟨0, D1, Nat.zero_le _, rfl, by simpa using HC.out.d, Fr.refl _ _⟩
        case round =>
          obtain ⟨j, D, hj, rfl, hM, hF⟩ := hrel
          have HM := Lib.hid hM; have HFK := Lib.hid hF
          clear hM hF
          by_cases hlt2 : j < got.length
          · have hE2 := HC.out.e.fr Rep.out HFK.out (by simp) (fun b hb hm => by have := (HC.out.e.block b hb).1; have := HAP.out; have := HLE5.out; simp at hm; omega)
            obtain ⟨b2, o2, cc2, y, B2, ea, -, hy, ⟨rfl, -⟩, -, hrg⟩ := hE2.sl.at_ Rep.out (i := j) hlt2
            subst ea
            have hfr := HC.out.i.fresh hy
            have hky := HC.out.i.kept y (List.mem_append.2 (.inl (List.mem_of_getElem? hy)))
            obtain ⟨op3, hop3, hq3⟩ := hky.2.2.1
            obtain ⟨xi, hxi⟩ : ∃ xi : Nat, y.x = (xi : Int) := ⟨y.x.toNat, by omega⟩
            have hxt : y.x.toNat = xi := by omega
            have hx80 : xi ≤ 80 := by omega
            rw [hxt] at hop3
            have hxl : xi < ops.length := (List.getElem?_eq_some_iff.1 hop3).1
            have hFz : Fr [] w wr := HC.out.f.step HFK.out (fun b hb => .inr (by have := HAP.out; simp at hb; omega))
            obtain ⟨b3, o3, cc3, op4, B3, ea3, -, hop4, ⟨rfl, -⟩, -, hrg3⟩ := (HL.out.keep Rep.op hFz).at_ Rep.op (i := xi) hxl
            simp only [Option.some.injEq, Addr.mk.injEq, and_true] at ea3
            obtain ⟨rfl, rfl⟩ := ea3
            rw [hop3] at hop4
            cases hop4
            obtain ⟨yq, hyq⟩ : ∃ yq, low16 y.n = yq := ⟨_, rfl⟩
            have d1 : wr.cell? ⟨b, o + xi * 3 + 1, none⟩ = some (.int .u16 (yq.toNat : Nat)) := by
              have := hrg3 1 _ rfl
              rw [hq3, hyq] at this
              exact this
            have HRG2 : Hid (wr.rangeAt b2 (o2 + j * 2) [.int .u16 (yq.toNat : Nat), .int .i64 (xi : Nat)]) := Lib.hid (by rw [← hxi, ← hyq]; exact hrg)
            rw [hxi] at hfr
            have HT : Hid ((got.take (j + 1)).map (·.x) = (got.take j).map (·.x) ++ [(xi : Int)]) := Lib.hid (by rw [List.take_add_one, hy, List.map_append]; simp [hxi])
            have HPV : Hid (∀ jp, j = jp + 1 → ∃ yp : UInt16, wr.cell? ⟨b2, o2 + jp * 2, none⟩ = some (.int .u16 (yp.toNat : Nat)) ∧ 0 < IntKind.i16.wrap (IntKind.u16.wrap ((yq.toNat : Int) - yp.toNat))) := Lib.hid (by
              rintro jp rfl
              obtain ⟨b4, o4, cc4, y4, B4, ea4, -, hy4, ⟨rfl, -⟩, -, hrg4⟩ := hE2.sl.at_ Rep.out (i := jp) (by omega)
              simp only [Option.some.injEq, Addr.mk.injEq, and_true] at ea4
              obtain ⟨rfl, rfl⟩ := ea4
              refine ⟨low16 y4.n, hrg4 0 _ rfl, ?_⟩
              have := HC.out.i.rise hy4 hy
              rw [hyq] at this
              exact this)
            have HFRS := Lib.hid hfr
            clear hfr hE2 hy hrg hky hop3 hq3 hxi hxt hFz hrg3 hyq hbd
            go_upto_region 27 with (first | (refine wpList_load_midA rfl 54 (.tmp 81) rfl b2 (o2 + j * 2) rfl #[.int .u16 (yq.toNat : Nat), .int .i64 (xi : Nat)] _ HRG2.out Try.underlying54 rfl (by kernel_rfl) ?_) | (refine wpList_store_row rfl 54 (.tmp 18) (.tmp 82) rfl wr.heap.size rfl _ _ rfl 54 (Box.new wr 54 #[.int .u16 0, .int .i64 0]) (by kernel_rfl) rfl (by simp [Value.oneCell']) ?_; intro w8 hY hG; have hFq := ((Fr.refl [] wr).alloc _).step hG (by simp); have HFn2 := Lib.hid hFq; have HY2 := Lib.hid hY; clear hG hFq hY))
            have z0 := HY2.out.cell 0; have z1 := HY2.out.cell 1
            simp only [List.getElem?_toArray, List.getElem?_cons_zero, List.getElem?_cons_succ] at z0 z1
            replace d1 := HFn2.out.cellSome d1 (by simp)
            generalize hX2 : wr.heap.size = X2 at *
            clear hX2
            have HM8 := Lib.hid (HM.out.fr HFn2.out (by simp))
            have HFW := Lib.hid (HFK.out.step HFn2.out (by simp))
            have hrun : ∀ n : Nat, (Instr.lookup 51 (.map (some db)) (.int .i64 (xi : Int)) false).run Try.prog (w8.drewN n) = .ok (.bool false) (w8.drewN n) := fun n => by
              have := mark_run (HM8.out.fr ((Fr.refl [] w8).drewN n) (by simp)) (xi : Int) ⟨by omega, by omega⟩
              rw [decide_eq_false HFRS.out] at this
              exact this
            have HCM : Hid (Dn.length + j < maxLen) := Lib.hid (by have := HBD.out; unfold maxLen; omega)
            by_cases hj0 : j = 0
            · subst hj0
              go_wp2_with fail
              go_quiet (fail)
              generalize hw9 : w8.drewN _ = w9 at *
              have HF9 : Hid (Fr [] w8 w9) := Lib.hid (by rw [← hw9]; exact (Fr.refl [] w8).drewN _)
              clear hw9 hrun d1
              replace z1 := HF9.out.cellSome z1 (by simp)
              go_wp2_with (at_mapUpdate; refine wpList_mapUpdate_own _ rfl _ _ _ 51 rfl 3 4 keyInt Try.underlying51 heldW db _ D rfl (HM8.out.fr HF9.out (by simp)).own HCM.out (.int .i64 xi) (.bool true) (lkey xi) rfl rfl (keyOf_int_mk Try.underlying3 (lkey_wf ⟨by omega, by omega⟩)) (.held (.bool true)) [] rfl ?_; intro w10 hm10 hg10; have HM10 := Lib.hid hm10; have HF10 := Lib.hid (Fr.ofGrown hg10); clear hm10 hg10)
              exact ⟨⟨0 + 1, _, by omega, by go_num, HM8.out.put HM10.out (fun n => by rw [HT.out, ← List.append_assoc]; exact markF_snoc _ _ _) (by unfold markF; rw [if_neg HFRS.out]) rfl, (HFW.out.step HF9.out (by simp)).step HF10.out (fun b hb => .inl hb)⟩, by simp [Lib.intOf]; omega⟩
            · obtain ⟨jp, hjp⟩ : ∃ jp, j = jp + 1 := ⟨j - 1, by omega⟩
              obtain ⟨yp, hyp, hri⟩ := HPV.out jp hjp
              have hpos : decide ((0 : Int) < (j : Int)) = true := decide_eq_true (by omega)
              have hjp0 : 0 < j := by omega
              have hpos2 : decide (0 < j) = true := decide_eq_true hjp0
              have hwr : decide (IntKind.i16.wrap (IntKind.u16.wrap ((yq.toNat : Int) - yp.toNat)) ≤ 0) = false := decide_eq_false (by omega)
              replace hyp := HFn2.out.cellSome hyp (by simp)
              have hjl : jp < got.length := by omega
              have hsub : wrap64 ((j : Int) - 1) = (jp : Int) := by have h81 := HBD.out; rw [IntWalk.wrap64_in _ ⟨by omega, by omega⟩]; omega
              clear hri hj0 hjp
              go_wp2_with fail
              go_quiet (fail)
              generalize hw9 : w8.drewN _ = w9 at *
              have HF9 : Hid (Fr [] w8 w9) := Lib.hid (by rw [← hw9]; exact (Fr.refl [] w8).drewN _)
              clear hw9 hrun d1 hyp
              have hgl : got.length ≤ 80 := by have := HBD.out; omega
              replace z1 := HF9.out.cellSome z1 (by simp)
              go_wp2_with (at_mapUpdate; refine wpList_mapUpdate_own _ rfl _ _ _ 51 rfl 3 4 keyInt Try.underlying51 heldW db _ D rfl (HM8.out.fr HF9.out (by simp)).own HCM.out (.int .i64 xi) (.bool true) (lkey xi) rfl rfl (keyOf_int_mk Try.underlying3 (lkey_wf ⟨by omega, by omega⟩)) (.held (.bool true)) [] rfl ?_; intro w10 hm10 hg10; have HM10 := Lib.hid hm10; have HF10 := Lib.hid (Fr.ofGrown hg10); clear hm10 hg10)
              exact ⟨⟨j + 1, _, by omega, by go_num, HM8.out.put HM10.out (fun n => by rw [HT.out, ← List.append_assoc]; exact markF_snoc _ _ _) (by unfold markF; rw [if_neg HFRS.out]) rfl, (HFW.out.step HF9.out (by simp)).step HF10.out (fun b hb => .inl hb)⟩, by simp [Lib.intOf]; omega⟩
          · obtain rfl : j = got.length := by omega
            clear hj hlt2
            have HFZ : Hid (Fr [] w wr) := Lib.hid (HC.out.f.step HFK.out (fun b hb => .inr (by have := HAP.out; simp at hb; omega)))
            have hap : g ≠ db ∧ mb ≠ db ∧ cb ≠ db ∧ P ≠ db := by have := HAP.out; have := HLE5.out; omega
            have HV := Lib.hid (HC.out.v.fr HFK.out (by simp [hap]) (by simp [hap])); have HCM := Lib.hid (HC.out.c.fr HFK.out (by simp [hap])); have HBX := Lib.hid (HC.out.box.fr HFK.out (by simp [hap]))
            have HMF : Hid (MapF wr db D (markF (Dn ++ got.map (·.x))) (Dn.length + got.length)) := Lib.hid (by have := HM.out; rw [List.take_length] at this; exact this)
            have hlen64 := HC.out.i.inv.len
            rw [HC.out.par.1] at hlen64
            have hcnt := HC.out.i.cnt
            have hsz := HSW.out.1
            have hgt : decide (sz < (s2.all.length : Int)) = false := decide_eq_false (by omega)
            have hlenrun := HMF.out.own.len Try.underlying51 3
            rw [HMF.out.size] at hlenrun
            have hadd : (((Dn.length + got.length : Nat) : Int) + (s2.all.length : Int)) = T2 := by omega
            clear HM hap hcnt
            generalize hDL : Dn.length + got.length = dl at *
            have HDL := Lib.hid hDL
            clear hDL
            go_wp2_with fail
            refine (wLen_any HV.out).mono ?_
            rintro e w11 ⟨rfl, rfl⟩
            go_wp2_with fail
            refine (wLen_any HV.out).mono ?_
            rintro e w11 ⟨rfl, rfl⟩
            go_wp2_with fail
            refine (l21held_any HV.out HC.out.i.inv (by omega) 100 (by omega)).mono ?_
            rintro e w12 ⟨v12, rfl, hE, hF⟩
            have htk : s2.all.take (100 : Int).toNat = s2.all := List.take_of_length_le (by show s2.all.length ≤ 100; have := HSW.out.1; omega)
            rw [htk] at hE
            obtain ⟨a12, c12, rfl⟩ := hE.shape
            have HE12 := Lib.hid hE
            have hap : g ≠ db ∧ mb ≠ db ∧ cb ≠ db ∧ P ≠ db := by have := HAP.out; have := HLE5.out; omega
            have HV := Lib.hid (HV.out.keep hF); have HCM := Lib.hid (HCM.out.fr hF (by simp)); have HMF := Lib.hid (HMF.out.fr hF (by simp)); have HBX := Lib.hid (HBX.out.keep hF); have HFZ := Lib.hid (HFZ.out.trans hF)
            have HWR : Hid (w4.heap.size ≤ w12.heap.size) := Lib.hid (by have h1 := HFK.out.size; have h2 := hF.size; have h3 := HC.out.box.lt; have h5 := HLE5.out; omega)
            clear hE hF htk hap hgt hlenrun hadd HFK
            go_upto_region 34 with fail
            go_loopw [135] (fun iv wz => ∃ j : Nat, j ≤ s2.all.length ∧ iv = .int .i64 j ∧ Fr [] w12 wz) (fun iv _ => s2.all.length - (Lib.intOf iv).toNat)
            case atStart => exact ⟨0, Nat.zero_le _, rfl, Fr.refl _ _⟩
            case round =>
              obtain ⟨j, hj, rfl, hF⟩ := hrel
              have HFL := Lib.hid hF
              clear hF
              by_cases hlt3 : j < s2.all.length
              · have hE2 := HE12.out.keep Rep.out HFL.out
                obtain ⟨b2, o2, cc2, y, B2, ea, -, hy, ⟨rfl, -⟩, -, hrg⟩ := hE2.sl.at_ Rep.out (i := j) hlt3
                subst ea
                have hmy := List.mem_of_getElem? hy
                have hst := HC.out.i.stays hmy
                have hky := HC.out.i.kept y (List.mem_append.2 (.inr hmy))
                have hwt := fun e => HC.out.i.wait e y hmy
                have htm := HC.out.i.inv.time y hmy
                rw [HC.out.now, HC.out.par.2] at hwt
                rw [HC.out.now] at htm
                obtain ⟨yq, hyq⟩ : ∃ yq, low16 y.n = yq := ⟨_, rfl⟩
                obtain ⟨xi, hxi⟩ : ∃ xi : Nat, y.x = (xi : Int) := ⟨y.x.toNat, by omega⟩
                obtain ⟨ya, hya⟩ : ∃ ya, y.at_ = ya := ⟨_, rfl⟩
                have hx80 : xi ≤ 80 := by omega
                have HRG2 : Hid (wr.rangeAt b2 (o2 + j * 2) [.int .u16 (yq.toNat : Nat), .int .i64 (xi : Nat)]) := Lib.hid (by rw [← hxi, ← hyq]; exact hrg)
                have HST : Hid ((xi : Int) ∉ Dn ++ got.map (·.x)) := Lib.hid (by rw [← hxi]; exact hst)
                have HCY : Hid (C2 (xi : Int) = some ya) := Lib.hid (by rw [← hxi, ← hya]; exact hky.2.2.2)
                rw [hya] at hwt htm
                have HWT : Hid (oo = true → decide (ya + wt ≤ nw) = false) := Lib.hid (fun e => by have := hwt e; exact decide_eq_false (by omega))
                have HTM := Lib.hid htm
                clear hE2 hy hmy hst hky hwt htm hyq hxi hya hrg hbd
                go_upto_region 36 with (first | (refine wpList_load_midA rfl 54 (.tmp 137) rfl b2 (o2 + j * 2) rfl #[.int .u16 (yq.toNat : Nat), .int .i64 (xi : Nat)] _ HRG2.out Try.underlying54 rfl (by kernel_rfl) ?_) | (refine wpList_store_row rfl 54 (.tmp 20) (.tmp 138) rfl wr.heap.size rfl _ _ rfl 54 (Box.new wr 54 #[.int .u16 0, .int .i64 0]) (by kernel_rfl) rfl (by simp [Value.oneCell']) ?_; intro w8 hY hG; have hFq := ((Fr.refl [] wr).alloc _).step hG (by simp); have HFn3 := Lib.hid hFq; have HY3 := Lib.hid hY; clear hG hFq hY))
                have z0 := HY3.out.cell 0; have z1 := HY3.out.cell 1
                simp only [List.getElem?_toArray, List.getElem?_cons_zero, List.getElem?_cons_succ] at z0 z1
                generalize hX2 : wr.heap.size = X2 at *
                clear hX2
                have HF8 := Lib.hid (HFL.out.trans HFn3.out)
                have x0 := (HBX.out.keep HF8.out).cell 0
                simp only [List.getElem?_toArray, List.getElem?_cons_zero] at x0
                have hrun1 : (Instr.lookup 51 (.map (some db)) (.int .i64 (xi : Int)) false).run Try.prog w8 = .ok (.bool false) w8 := by
                  have := mark_run (HMF.out.fr HF8.out (by simp)) (xi : Int) ⟨by omega, by omega⟩
                  rw [decide_eq_false HST.out] at this
                  exact this
                have hrun2 : (Instr.lookup 52 (.map (some cb)) (.int .i64 (xi : Int)) false).run Try.prog w8 = .ok (.int .i64 ya) w8 := by
                  have := time_run (HCM.out.fr HF8.out (by simp)) (xi : Int) ⟨by omega, by omega⟩
                  rw [HCY.out] at this
                  exact this
                have hw2 : wrap64 (ya + wt) = ya + wt := by have h1 := HTM.out; have h2 := HSW.out.2; have h3 := HC.out.i.inv.now; rw [HC.out.now] at h3; exact IntWalk.wrap64_in _ ⟨by omega, by omega⟩
                cases oo with
                | true =>
                  have hle := HWT.out rfl
                  go_wp2_with fail
                  exact ⟨⟨j + 1, by omega, by go_num, HF8.out⟩, by simp [Lib.intOf]; omega⟩
                | false =>
                  clear hw2 hrun2
                  go_wp2_with fail
                  exact ⟨⟨j + 1, by omega, by go_num, HF8.out⟩, by simp [Lib.intOf]; omega⟩
              · obtain rfl : j = s2.all.length := by omega
                clear hj hlt3
                go_wp2_with fail
                have HFO : Hid (Fr [] w12 wr) := Lib.hid HFL.out
                exact ⟨⟨k + 1, s2, C2, T2, Dn ++ got.map (·.x), D, D3, N3, by omega, by go_num, rfl, by rw [HC.out.now], by have h1 := HWR.out; have h2 := HFO.out.size; omega,
                  ⟨HV.out.keep HFO.out, HC.out.i.next, by rw [List.length_append, List.length_map, HDL.out]; exact HMF.out.fr HFO.out (by simp), HCM.out.fr HFO.out (by simp), HC.out.n, HC.out.par, HFZ.out.trans HFO.out⟩⟩, by simp [Lib.intOf]; omega⟩
    · obtain rfl : k = ops.length := by omega
      clear hk hlt
      have HF := Lib.hid HR.out.f
      go_wp2_with fail
      go_ret
      exact ⟨rfl, HF.out⟩
end Go.Proofs.Ytbmpiemhfndnbaa
