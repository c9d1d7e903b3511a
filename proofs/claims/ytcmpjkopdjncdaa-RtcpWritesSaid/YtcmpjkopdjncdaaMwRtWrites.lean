/- The walk of RtcpWrites (printed by gen_rtwrites.py). -/
import Derived.Test.YtcmpjkopdjncdaaMw48
import Derived.Test.YtcmpjkopdjncdaaMw45
import Derived.Test.YtcmpjkopdjncdaaMw46
namespace Go.Proofs.Ytcmpjkopdjncdaa
open Go.RowKit

theorem all_hyps1 {x : Itm} (h : Sz7 x) : ∀ c ∈ x.chks, c.texts.length ≤ 5864062014805 := fun c hc => by have := h.texts c hc; omega
set_option maxRecDepth 100000 in
set_option maxHeartbeats 16000000 in
theorem RtcpWrites_any {w : World} {v0 : Value} {xs : List Itm} {B1 : List Nat} (h : SlEls 10 ItR w v0 xs B1) (hq : ∀ x ∈ xs, QItm x) (hm : xs.length ≤ 1099511627776) {x : Itm} {c : Array Value} {Bx : List Nat} (hx : ItR w c.toList x Bx) (hqx : QItm x) :
    Calls Try.prog 4 #[v0, .agg c] w fun e w' => e = .returned (.bool true) ∧ Fr [] w w' := by
  obtain ⟨a0, cap0, rfl⟩ := h.shape
  obtain ⟨vr, vc, vs, Bc, ec, hr, hc, hs, -⟩ := hx
  obtain rfl := Array.toList_inj.1 ec
  obtain ⟨ar, cr, rfl⟩ := hr.shape
  obtain ⟨ac, cc, rfl⟩ := hc.shape
  obtain ⟨as_, cs, rfl⟩ := hs.shape
  obtain ⟨w1, e1, hF1, hB1, hs1⟩ := one_new w (itc x (.slice ar x.reps.length cr) (.slice ac x.chks.length cc) (.slice as_ x.srcs.length cs)) 42
  have HL := Lib.hid (h.keep Rep.itm hF1); have HQ := Lib.hid hq; have HM := Lib.hid hm; have HQX := Lib.hid hqx
  have HBX := Lib.hid hB1; have HR := Lib.hid (hr.keep Rep.rpt hF1); have HC := Lib.hid (hc.keep Rep.chk hF1); have HS := Lib.hid (hs.keep Rep.src hF1); have HF := Lib.hid hF1; have E1 := Lib.hid e1
  clear h hq hm hqx ec hr hc hs hF1 hB1 e1 hs1
  go_enter Try.func4, Try.ntmps4
  obtain ⟨gx, hgx⟩ : ∃ g, w.heap.size = g := ⟨_, rfl⟩
  have HGX := Lib.hid hgx
  clear hgx
  go_upto_region 1 with fail
  rw [E1.out]
  have hgx := HGX.out
  try simp only [hgx]
  rw [hgx] at HBX
  clear E1 hgx HGX
  go_wp2_with fail
  refine l07alive_any.mono ?_
  rintro e w2 ⟨rfl, hF⟩
  have HBX := Lib.hid (HBX.out.keep hF); have HR := Lib.hid (HR.out.keep Rep.rpt hF); have HC := Lib.hid (HC.out.keep Rep.chk hF); have HS := Lib.hid (HS.out.keep Rep.src hF); have HL := Lib.hid (HL.out.keep Rep.itm hF); have HF := Lib.hid (HF.out.trans hF)
  clear hF
  go_wp2_with fail
  refine (l07few_any HL.out HQ.out HM.out).mono ?_
  rintro e w3 ⟨rfl, hF⟩
  have HBX := Lib.hid (HBX.out.keep hF); have HR := Lib.hid (HR.out.keep Rep.rpt hF); have HC := Lib.hid (HC.out.keep Rep.chk hF); have HS := Lib.hid (HS.out.keep Rep.src hF); have HL := Lib.hid (HL.out.keep Rep.itm hF); have HF := Lib.hid (HF.out.trans hF)
  clear hF
  cases hfw : fews xs with
  | false =>
    clear hfw
    go_wp2_with fail
    go_ret
    exact ⟨rfl, HF.out⟩
  | true =>
  have HZ := Lib.hid (fews_sz hfw HQ.out)
  clear hfw
  obtain ⟨w4, e4, hF4, hB4, hs4⟩ := one_new w3 #[.int .i64 x.kind, .int .u32 (x.ssrc.toNat : Nat), .int .u64 (x.ntp.toNat : Nat), .int .u32 (x.ts.toNat : Nat), .int .u32 (x.pks.toNat : Nat), .int .u32 (x.ocs.toNat : Nat), .slice ar x.reps.length cr, .slice ac x.chks.length cc, .slice as_ x.srcs.length cs, .string (strB x.reason)] 42
  have HX1 : Hid (∃ BX, SlEls 10 ItR w4 (.slice (some ⟨w3.heap.size, 0, none⟩) 1 1) [x] BX) := Lib.hid ⟨_, SlEls.box (ys := [x]) (cells := (itc x (.slice ar x.reps.length cr) (.slice ac x.chks.length cc) (.slice as_ x.srcs.length cs)).toList) hB4 ⟨_, [], _, [], (List.append_nil _).symm, rfl, ⟨_, _, _, _, rfl, HR.out.keep Rep.rpt hF4, HC.out.keep Rep.chk hF4, HS.out.keep Rep.src hF4, rfl⟩, rfl, rfl⟩ (by unfold maxLen; simp)⟩
  have E4 := Lib.hid e4
  have x0 := HBX.out.cell 0; have x1 := HBX.out.cell 1; have x2 := HBX.out.cell 2; have x3 := HBX.out.cell 3; have x4 := HBX.out.cell 4; have x5 := HBX.out.cell 5; have x6 := HBX.out.cell 6; have x7 := HBX.out.cell 7; have x8 := HBX.out.cell 8; have x9 := HBX.out.cell 9
  simp only [itc, List.getElem?_toArray, List.getElem?_cons_succ, List.getElem?_cons_zero] at x0 x1 x2 x3 x4 x5 x6 x7 x8 x9
  have hF := hF4
  have HBX := Lib.hid (HBX.out.keep hF); have HR := Lib.hid (HR.out.keep Rep.rpt hF); have HC := Lib.hid (HC.out.keep Rep.chk hF); have HS := Lib.hid (HS.out.keep Rep.src hF); have HL := Lib.hid (HL.out.keep Rep.itm hF); have HF := Lib.hid (HF.out.trans hF)
  clear hF hF4 hB4 hs4 e4
  go_wp2_with fail
  rw [E4.out]
  clear E4 x0 x1 x2 x3 x4 x5 x6 x7 x8 x9
  obtain ⟨BX, hX1⟩ := HX1.out
  refine (l07few_any hX1 (by intro y hy; simp at hy; subst hy; exact HQX.out) (by simp)).mono ?_
  rintro e w5 ⟨rfl, hF⟩
  have HBX := Lib.hid (HBX.out.keep hF); have HR := Lib.hid (HR.out.keep Rep.rpt hF); have HC := Lib.hid (HC.out.keep Rep.chk hF); have HS := Lib.hid (HS.out.keep Rep.src hF); have HL := Lib.hid (HL.out.keep Rep.itm hF); have HF := Lib.hid (HF.out.trans hF)
  clear hF hX1 HX1
  cases hfw : fews [x] with
  | false =>
    clear hfw
    go_wp2_with fail
    go_ret
    exact ⟨rfl, HF.out⟩
  | true =>
  have HZX : Hid (Sz7 x) := Lib.hid ((fews_sz hfw (by intro y hy; simp at hy; subst hy; exact HQX.out)).1 x (by simp))
  clear hfw
  go_wp2_with fail
  refine (tWrite_any HL.out HZ.out.1 (by have := HZ.out.2; omega)).mono ?_
  rintro e w6 hw1
  have hw1 : ∃ (u : Value) (r : Int) (l : List UInt8), e = .returned (.tuple #[u, .int .i64 r]) ∧ Fr [] w5 w6 ∧ Bytes w6 u l ∧ l.length ≤ 1500 ∧ ((r = 0 ∧ write7 xs = .ok l) ∨ (r ≠ 0 ∧ write7 xs = .error r ∧ l = [])) := by
    rcases hw1 with ⟨l2, v2, hw, he, hO2, hF⟩ | ⟨c, hw, hc, he, hF⟩
    · obtain ⟨y, -, -, -, -, g2⟩ := write7_parts hw
      exact ⟨_, 0, l2, he, hF, hO2.bytes, g2, .inl ⟨rfl, hw⟩⟩
    · exact ⟨_, c, [], he, hF, Sl.nil _, by simp, .inr ⟨hc, hw, rfl⟩⟩
  obtain ⟨u, r, l, rfl, hF, hb, hl, hwr⟩ := hw1
  obtain ⟨au, bu, cu, rfl⟩ := Sl.isSlice hb
  have HBX := Lib.hid (HBX.out.keep hF); have HR := Lib.hid (HR.out.keep Rep.rpt hF); have HC := Lib.hid (HC.out.keep Rep.chk hF); have HS := Lib.hid (HS.out.keep Rep.src hF); have HL := Lib.hid (HL.out.keep Rep.itm hF); have HF := Lib.hid (HF.out.trans hF)
  have HB := Lib.hid hb; have HLL := Lib.hid hl; have HWR := Lib.hid hwr
  clear hF hb hl hwr
  go_wp2_with fail
  refine (l07all_any HL.out (all_hyps HZ.out.1) (by have := HZ.out.2; omega)).mono ?_
  rintro e w7 ⟨v7, B7, rfl, hO7, hF⟩
  obtain ⟨a7, c7, rfl⟩ := hO7.shape
  have HBX := Lib.hid (HBX.out.keep hF); have HR := Lib.hid (HR.out.keep Rep.rpt hF); have HC := Lib.hid (HC.out.keep Rep.chk hF); have HS := Lib.hid (HS.out.keep Rep.src hF); have HL := Lib.hid (HL.out.keep Rep.itm hF); have HF := Lib.hid (HF.out.trans hF)
  have HB := Lib.hid (Sl.keep HB.out hF); have HA := Lib.hid hO7.sl
  clear hF hO7
  go_wp2_with fail
  refine (r07Write_any HA.out HZ.out.1 (by have := HZ.out.2; omega)).mono ?_
  rintro e w8 hw2
  have hw2 : ∃ u2 : Value, e = .returned (.tuple #[u2, .int .i64 r]) ∧ Fr [] w7 w8 ∧ Bytes w8 u2 l := by
    have h9 := HWR.out
    unfold RW7 at hw2
    rcases hw2 with ⟨l2, v2, hw, he, hO2, hF⟩ | ⟨c, hw, hc, he, hF⟩
    · rcases h9 with ⟨rfl, h9⟩ | ⟨-, h9, -⟩
      · rw [h9] at hw; cases hw; exact ⟨_, he, hF, hO2⟩
      · rw [h9] at hw; cases hw
    · rcases h9 with ⟨-, h9⟩ | ⟨-, h9, rfl⟩
      · rw [h9] at hw; cases hw
      · rw [h9] at hw; cases hw; exact ⟨_, he, hF, Sl.nil _⟩
  obtain ⟨u2, rfl, hF, hb2⟩ := hw2
  obtain ⟨au2, bu2, cu2, rfl⟩ := Sl.isSlice hb2
  have HBX := Lib.hid (HBX.out.keep hF); have HR := Lib.hid (HR.out.keep Rep.rpt hF); have HC := Lib.hid (HC.out.keep Rep.chk hF); have HS := Lib.hid (HS.out.keep Rep.src hF); have HL := Lib.hid (HL.out.keep Rep.itm hF); have HF := Lib.hid (HF.out.trans hF)
  have HB := Lib.hid (Sl.keep HB.out hF); have HB2 := Lib.hid hb2
  clear hF hb2 HWR HA
  go_wp2_with fail
  refine (RSame_any HB.out HB2.out (by have := HLL.out; omega) (by have := HLL.out; omega)).mono ?_
  rintro e w9 ⟨rfl, hF⟩
  have HBX := Lib.hid (HBX.out.keep hF); have HR := Lib.hid (HR.out.keep Rep.rpt hF); have HC := Lib.hid (HC.out.keep Rep.chk hF); have HS := Lib.hid (HS.out.keep Rep.src hF); have HL := Lib.hid (HL.out.keep Rep.itm hF); have HF := Lib.hid (HF.out.trans hF)
  clear hF HB HB2
  simp only [beq_self_eq_true]
  obtain ⟨n, hn⟩ : ∃ n, xs.length = n := ⟨_, rfl⟩
  rw [hn] at HL HZ ⊢
  have HN := Lib.hid hn
  clear hn
  have hn8 : n ≤ 8 := HZ.out.2
  go_upto_region 10 with fail
  go_loopw [44] (fun i wr => ∃ j : Nat, j ≤ n ∧ i = .int .i64 j ∧ Fr [] w9 wr) (fun i _ => n - (intOf i).toNat)
  case atStart => exact ⟨0, Nat.zero_le _, rfl, Fr.refl _ _⟩
  case round =>
    obtain ⟨j, hj, rfl, hF⟩ := hrel
    have HFW := Lib.hid hF
    have HBX := Lib.hid (HBX.out.keep hF); have HR := Lib.hid (HR.out.keep Rep.rpt hF); have HC := Lib.hid (HC.out.keep Rep.chk hF); have HS := Lib.hid (HS.out.keep Rep.src hF); have HL := Lib.hid (HL.out.keep Rep.itm hF); have HF := Lib.hid (HF.out.trans hF)
    clear hF
    by_cases hlt : j < n
    · obtain ⟨b, o, k, y, B2, ea, -, hy, ⟨ur, uc, us, By, rfl, kr, kc, ks, -⟩, -, hrg⟩ := HL.out.at_ Rep.itm (i := j) hlt
      obtain ⟨br, dr, rfl⟩ := kr.shape
      obtain ⟨bc_, dc, rfl⟩ := kc.shape
      obtain ⟨bs, ds, rfl⟩ := ks.shape
      cases ea
      have HRG := Lib.hid hrg; have HZY := Lib.hid (HZ.out.1 y (List.mem_of_getElem? hy))
      obtain ⟨wy, ey, hFy, hBy, hsy⟩ := one_new wr (itc y (.slice br y.reps.length dr) (.slice bc_ y.chks.length dc) (.slice bs y.srcs.length ds)) 42
      have EY := Lib.hid ey; have HBY := Lib.hid hBy
      have YR := Lib.hid (kr.keep Rep.rpt hFy); have YC := Lib.hid (kc.keep Rep.chk hFy); have YS := Lib.hid (ks.keep Rep.src hFy)
      have hF := hFy
      have HBX := Lib.hid (HBX.out.keep hF); have HR := Lib.hid (HR.out.keep Rep.rpt hF); have HC := Lib.hid (HC.out.keep Rep.chk hF); have HS := Lib.hid (HS.out.keep Rep.src hF); have HL := Lib.hid (HL.out.keep Rep.itm hF); have HF := Lib.hid (HF.out.trans hF)
      have HFW := Lib.hid (HFW.out.trans hF)
      clear hF hFy hBy hsy ey hrg hy kr kc ks
      obtain ⟨gy, hgy⟩ : ∃ g, wr.heap.size = g := ⟨_, rfl⟩
      have HGY := Lib.hid hgy
      clear hgy
      go_upto_region 12 with (refine wpList_load_midA rfl 42 (.tmp 46) rfl _ (_ + j * 10) rfl (itc y (.slice br y.reps.length dr) (.slice bc_ y.chks.length dc) (.slice bs y.srcs.length ds)) _ HRG.out Try.underlying42 rfl (by kernel_rfl) ?_)
      rw [EY.out]
      have hgy := HGY.out
      try simp only [hgy]
      rw [hgy] at HBY
      clear hgy HGY EY HRG
      refine wp_region_T (fun w' => Fr [] wy.drew w') [] 15 #[false, false, false, false, false, false, false, false, false, false, false, false, false, false, false] (by kernel_rfl) rfl rfl ?_
      try simp only [List.append_eq, List.cons_append, List.nil_append]
      have hF := (Fr.refl [] wy).drew
      have HBX := Lib.hid (HBX.out.keep hF); have HBY := Lib.hid (HBY.out.keep hF); have HFW := Lib.hid (HFW.out.trans hF)
      have HR := Lib.hid (HR.out.keep Rep.rpt hF)
      have HC := Lib.hid (HC.out.keep Rep.chk hF)
      have HS := Lib.hid (HS.out.keep Rep.src hF)
      have YR := Lib.hid (YR.out.keep Rep.rpt hF)
      have YC := Lib.hid (YC.out.keep Rep.chk hF)
      have YS := Lib.hid (YS.out.keep Rep.src hF)
      clear hF
      have HBXD := HBX; have HBYD := HBY
      have HSS : Hid (Fr [] wy.drew wy.drew) := Lib.hid (Fr.refl _ _)
      generalize wy.drew = wd at *
      refine wpAnyT_load (i := 0) (v := ?_) rfl (by kernel_rfl) (by kernel_rfl) (by kernel_rfl) (by kernel_rfl) (by kernel_rfl) (fun _ _ _ h => h) HSS.out (by rfl) ?_ ?_
      rotate_left
      · intro w' hSw; refine run_load_row 42 (.tmp 3) ?_ gx ?_ 42 _ _ (HBXD.out.keep hSw) Try.underlying42 rfl (by kernel_rfl) <;> rfl
      simp only [Act.put, List.getElem_toArray, List.getElem_cons_zero, List.getElem_cons_succ, List.setIfInBounds_toArray, List.set_cons_zero, List.set_cons_succ]
      refine wpAnyT_load (i := 1) (v := ?_) rfl (by kernel_rfl) (by kernel_rfl) (by kernel_rfl) (by kernel_rfl) (by kernel_rfl) (fun _ _ _ h => h) HSS.out (by rfl) ?_ ?_
      rotate_left
      · intro w' hSw; refine run_load_row 42 (.tmp 10) ?_ gy ?_ 42 _ _ (HBYD.out.keep hSw) Try.underlying42 rfl (by kernel_rfl) <;> rfl
      simp only [Act.put, List.getElem_toArray, List.getElem_cons_zero, List.getElem_cons_succ, List.setIfInBounds_toArray, List.set_cons_zero, List.set_cons_succ]
      refine wpAnyT_load (i := 3) (v := ?_) rfl (by kernel_rfl) (by kernel_rfl) (by kernel_rfl) (by kernel_rfl) (by kernel_rfl) (fun _ _ _ h => h) HSS.out (by rfl) ?_ ?_
      rotate_left
      · intro w' hSw; refine run_load_row 42 (.tmp 3) ?_ gx ?_ 42 _ _ (HBXD.out.keep hSw) Try.underlying42 rfl (by kernel_rfl) <;> rfl
      simp only [Act.put, List.getElem_toArray, List.getElem_cons_zero, List.getElem_cons_succ, List.setIfInBounds_toArray, List.set_cons_zero, List.set_cons_succ]
      refine wpAnyT_load (i := 5) (v := ?_) rfl (by kernel_rfl) (by kernel_rfl) (by kernel_rfl) (by kernel_rfl) (by kernel_rfl) (fun _ _ _ h => h) HSS.out (by rfl) ?_ ?_
      rotate_left
      · intro w' hSw; refine run_load_row 42 (.tmp 10) ?_ gy ?_ 42 _ _ (HBYD.out.keep hSw) Try.underlying42 rfl (by kernel_rfl) <;> rfl
      simp only [Act.put, List.getElem_toArray, List.getElem_cons_zero, List.getElem_cons_succ, List.setIfInBounds_toArray, List.set_cons_zero, List.set_cons_succ]
      refine wpAnyT_one (i := 2) (by kernel_rfl) rfl (fun K hK => ?_)
      rw [if_pos (by rfl)]
      go_simp
      refine (tSame_any HR.out HC.out HS.out YR.out YC.out YS.out HZX.out HZY.out).mono ?_
      rintro e wa ⟨rfl, hF⟩
      have HSS := Lib.hid (HSS.out.trans hF)
      have HBX := Lib.hid (HBX.out.keep hF); have HBY := Lib.hid (HBY.out.keep hF); have HFW := Lib.hid (HFW.out.trans hF)
      have HR := Lib.hid (HR.out.keep Rep.rpt hF)
      have HC := Lib.hid (HC.out.keep Rep.chk hF)
      have HS := Lib.hid (HS.out.keep Rep.src hF)
      have YR := Lib.hid (YR.out.keep Rep.rpt hF)
      have YC := Lib.hid (YC.out.keep Rep.chk hF)
      have YS := Lib.hid (YS.out.keep Rep.src hF)
      clear hF
      go_simp
      refine hK.out _ _ (fun _ => HSS.out) ?_
      clear hK K
      simp only [Act.put, List.getElem_toArray, List.getElem_cons_zero, List.getElem_cons_succ, List.setIfInBounds_toArray, List.set_cons_zero, List.set_cons_succ]
      refine wpAnyT_one (i := 4) (by kernel_rfl) rfl (fun K hK => ?_)
      rw [if_pos (by rfl)]
      go_simp
      refine (l07as_any HR.out HC.out HS.out (all_hyps1 HZX.out) HZX.out.n).mono ?_
      rintro e wb ⟨v4, B4, rfl, -, hO, -, -, hF⟩
      obtain ⟨ax, cx, rfl⟩ := hO.shape
      have HSS := Lib.hid (HSS.out.trans hF)
      have HBX := Lib.hid (HBX.out.keep hF); have HBY := Lib.hid (HBY.out.keep hF); have HFW := Lib.hid (HFW.out.trans hF)
      have HR := Lib.hid (HR.out.keep Rep.rpt hF)
      have HC := Lib.hid (HC.out.keep Rep.chk hF)
      have HS := Lib.hid (HS.out.keep Rep.src hF)
      have YR := Lib.hid (YR.out.keep Rep.rpt hF)
      have YC := Lib.hid (YC.out.keep Rep.chk hF)
      have YS := Lib.hid (YS.out.keep Rep.src hF)
      have XC := Lib.hid hO.sl
      clear hF hO
      go_simp
      refine hK.out _ _ (fun _ => HSS.out) ?_
      clear hK K
      simp only [Act.put, List.getElem_toArray, List.getElem_cons_zero, List.getElem_cons_succ, List.setIfInBounds_toArray, List.set_cons_zero, List.set_cons_succ]
      refine wpAnyT_one (i := 6) (by kernel_rfl) rfl (fun K hK => ?_)
      rw [if_pos (by rfl)]
      go_simp
      refine (l07as_any YR.out YC.out YS.out (all_hyps1 HZY.out) HZY.out.n).mono ?_
      rintro e wc ⟨v6, B6, rfl, -, hO, -, -, hF⟩
      obtain ⟨ay, cy, rfl⟩ := hO.shape
      have HSS := Lib.hid (HSS.out.trans hF)
      have HBX := Lib.hid (HBX.out.keep hF); have HBY := Lib.hid (HBY.out.keep hF); have HFW := Lib.hid (HFW.out.trans hF)
      have HR := Lib.hid (HR.out.keep Rep.rpt hF)
      have HC := Lib.hid (HC.out.keep Rep.chk hF)
      have HS := Lib.hid (HS.out.keep Rep.src hF)
      have YR := Lib.hid (YR.out.keep Rep.rpt hF)
      have YC := Lib.hid (YC.out.keep Rep.chk hF)
      have YS := Lib.hid (YS.out.keep Rep.src hF)
      have XC := Lib.hid (XC.out.keep Rep.chk hF)
      have ZC := Lib.hid hO.sl
      clear hF hO
      go_simp
      refine hK.out _ _ (fun _ => HSS.out) ?_
      clear hK K
      simp only [Act.put, List.getElem_toArray, List.getElem_cons_zero, List.getElem_cons_succ, List.setIfInBounds_toArray, List.set_cons_zero, List.set_cons_succ]
      refine wpAnyT_one (i := 7) (by kernel_rfl) rfl (fun K hK => ?_)
      rw [if_pos (by rfl)]
      go_simp
      refine (r07Same_any HR.out XC.out HS.out YR.out ZC.out YS.out HZX.out HZY.out).mono ?_
      rintro e we ⟨rfl, hF⟩
      have HSS := Lib.hid (HSS.out.trans hF)
      have HBX := Lib.hid (HBX.out.keep hF); have HBY := Lib.hid (HBY.out.keep hF); have HFW := Lib.hid (HFW.out.trans hF)
      have HR := Lib.hid (HR.out.keep Rep.rpt hF)
      have HC := Lib.hid (HC.out.keep Rep.chk hF)
      have HS := Lib.hid (HS.out.keep Rep.src hF)
      have YR := Lib.hid (YR.out.keep Rep.rpt hF)
      have YC := Lib.hid (YC.out.keep Rep.chk hF)
      have YS := Lib.hid (YS.out.keep Rep.src hF)
      have XC := Lib.hid (XC.out.keep Rep.chk hF)
      have ZC := Lib.hid (ZC.out.keep Rep.chk hF)
      clear hF
      go_simp
      refine hK.out _ _ (fun _ => HSS.out) ?_
      clear hK K
      simp only [Act.put, List.getElem_toArray, List.getElem_cons_zero, List.getElem_cons_succ, List.setIfInBounds_toArray, List.set_cons_zero, List.set_cons_succ]
      refine wpAnyT_load (i := 8) (v := ?_) rfl (by kernel_rfl) (by kernel_rfl) (by kernel_rfl) (by kernel_rfl) (by kernel_rfl) (fun _ _ _ h => h) HSS.out (by rfl) ?_ ?_
      rotate_left
      · intro w hSw; skip; go_simp; try with_reducible rfl
      simp only [Act.put, List.getElem_toArray, List.getElem_cons_zero, List.getElem_cons_succ, List.setIfInBounds_toArray, List.set_cons_zero, List.set_cons_succ]
      refine wpAnyT_load (i := 9) (v := ?_) rfl (by kernel_rfl) (by kernel_rfl) (by kernel_rfl) (by kernel_rfl) (by kernel_rfl) (fun _ _ _ h => h) HSS.out (by rfl) ?_ ?_
      rotate_left
      · intro w hSw; skip; go_simp; try with_reducible rfl
      simp only [Act.put, List.getElem_toArray, List.getElem_cons_zero, List.getElem_cons_succ, List.setIfInBounds_toArray, List.set_cons_zero, List.set_cons_succ]
      refine wpAnyT_load (i := 10) (v := ?_) rfl (by kernel_rfl) (by kernel_rfl) (by kernel_rfl) (by kernel_rfl) (by kernel_rfl) (fun _ _ _ h => h) HSS.out (by rfl) ?_ ?_
      rotate_left
      · intro w' hSw; refine run_load_row 42 (.tmp 10) ?_ gy ?_ 42 _ _ (HBYD.out.keep hSw) Try.underlying42 rfl (by kernel_rfl) <;> rfl
      simp only [Act.put, List.getElem_toArray, List.getElem_cons_zero, List.getElem_cons_succ, List.setIfInBounds_toArray, List.set_cons_zero, List.set_cons_succ]
      refine wpAnyT_load (i := 11) (v := ?_) rfl (by kernel_rfl) (by kernel_rfl) (by kernel_rfl) (by kernel_rfl) (by kernel_rfl) (fun _ _ _ h => h) HSS.out (by rfl) ?_ ?_
      rotate_left
      · intro w' hSw; refine run_load_row 42 (.tmp 10) ?_ gy ?_ 42 _ _ (HBYD.out.keep hSw) Try.underlying42 rfl (by kernel_rfl) <;> rfl
      simp only [Act.put, List.getElem_toArray, List.getElem_cons_zero, List.getElem_cons_succ, List.setIfInBounds_toArray, List.set_cons_zero, List.set_cons_succ]
      refine wpAnyT_one (i := 12) (by kernel_rfl) rfl (fun K hK => ?_)
      rw [if_pos (by rfl)]
      go_simp
      refine (tSame_any YR.out YC.out YS.out YR.out YC.out YS.out HZY.out HZY.out).mono ?_
      rw [show (y == y) = true from beq_self_eq_true y]
      rintro e wf ⟨rfl, hF⟩
      have HSS := Lib.hid (HSS.out.trans hF)
      have HBX := Lib.hid (HBX.out.keep hF); have HBY := Lib.hid (HBY.out.keep hF); have HFW := Lib.hid (HFW.out.trans hF)
      have HR := Lib.hid (HR.out.keep Rep.rpt hF)
      have HC := Lib.hid (HC.out.keep Rep.chk hF)
      have HS := Lib.hid (HS.out.keep Rep.src hF)
      have YR := Lib.hid (YR.out.keep Rep.rpt hF)
      have YC := Lib.hid (YC.out.keep Rep.chk hF)
      have YS := Lib.hid (YS.out.keep Rep.src hF)
      have XC := Lib.hid (XC.out.keep Rep.chk hF)
      have ZC := Lib.hid (ZC.out.keep Rep.chk hF)
      clear hF
      go_simp
      refine hK.out _ _ (fun _ => HSS.out) ?_
      clear hK K
      simp only [Act.put, List.getElem_toArray, List.getElem_cons_zero, List.getElem_cons_succ, List.setIfInBounds_toArray, List.set_cons_zero, List.set_cons_succ]
      refine wpAnyT_load (i := 13) (v := ?_) rfl (by kernel_rfl) (by kernel_rfl) (by kernel_rfl) (by kernel_rfl) (by kernel_rfl) (fun _ _ _ h => h) HSS.out (by rfl) ?_ ?_
      rotate_left
      · intro w hSw; skip; go_simp; try with_reducible rfl
      simp only [Act.put, List.getElem_toArray, List.getElem_cons_zero, List.getElem_cons_succ, List.setIfInBounds_toArray, List.set_cons_zero, List.set_cons_succ]
      refine wpAnyT_load (i := 14) (v := ?_) rfl (by kernel_rfl) (by kernel_rfl) (by kernel_rfl) (by kernel_rfl) (by kernel_rfl) (fun _ _ _ h => h) HSS.out (by rfl) ?_ ?_
      rotate_left
      · intro w hSw; skip; go_simp; try with_reducible rfl
      simp only [Act.put, List.getElem_toArray, List.getElem_cons_zero, List.getElem_cons_succ, List.setIfInBounds_toArray, List.set_cons_zero, List.set_cons_succ]
      refine wpAnyT_done (by kernel_rfl) ?_ _
      go_wp2_with fail
      refine ⟨⟨j + 1, by omega, by go_num, HFW.out⟩, by simp [intOf]; omega⟩
    · go_wp2_with fail
      go_ret
      exact ⟨rfl, HF.out⟩
end Go.Proofs.Ytcmpjkopdjncdaa
