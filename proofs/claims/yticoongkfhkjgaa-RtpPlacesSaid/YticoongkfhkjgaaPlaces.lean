/- The walk of confluxlaw05.RtpPlaces (printed by gen_places.py). -/
import Derived.Test.YticoongkfhkjgaaAlive5
import Derived.Test.YticoongkfhkjgaaBackPlain
import Derived.Test.YticoongkfhkjgaaJoin
namespace Go.Proofs.Yticoongkfhkjgaa
open Go.RowKit

/-- The packet with another number, time and source. -/
def Pkt.but (p : Pkt) (sq : UInt16) (tt ss : UInt32) : Pkt := { p with seq := sq, ts := tt, ssrc := ss }
theorem but_wrong (p : Pkt) (sq : UInt16) (tt ss : UInt32) : (p.but sq tt ss).wrong = p.wrong := rfl
theorem but_size (p : Pkt) (sq : UInt16) (tt ss : UInt32) : (p.but sq tt ss).size = p.size := rfl
theorem but_small {p : Pkt} (sq : UInt16) (tt ss : UInt32) (h : p.Small) : (p.but sq tt ss).Small := h
theorem bytes_take2 (p : Pkt) (sq : UInt16) (tt ss : UInt32) : p.bytes.take 2 = (p.but sq tt ss).bytes.take 2 := by
  have h : ∀ r : Pkt, r.bytes.take 2 = [ib r.first, ib r.second] := fun r => by
    have : r.bytes = [ib r.first, ib r.second] ++ (beN r.seq.toNat 2 ++ (beN r.ts.toNat 4 ++ beN r.ssrc.toNat 4 ++ words4 r.csrc ++ r.extBytes ++ r.payload ++ r.pad)) := by
      simp [Pkt.bytes, Pkt.head, List.append_assoc]
    rw [this]
    simp only [List.cons_append, List.nil_append, List.take_succ_cons, List.take_zero]
  rw [h, h]
  rfl
theorem bytes_drop12 (p : Pkt) (sq : UInt16) (tt ss : UInt32) : p.bytes.drop 12 = (p.but sq tt ss).bytes.drop 12 := by
  have h : ∀ r : Pkt, r.bytes.drop 12 = words4 r.csrc ++ r.extBytes ++ r.payload ++ r.pad := fun r => by
    have : r.bytes = r.head ++ (words4 r.csrc ++ r.extBytes ++ r.payload ++ r.pad) := by simp [Pkt.bytes, List.append_assoc]
    rw [this, List.drop_left' (head_len r)]
  rw [h, h]
  rfl
theorem bytes_mid (p : Pkt) : (p.bytes.drop 2).take 10 = [beN p.seq.toNat 2, beN p.ts.toNat 4, beN p.ssrc.toNat 4].flatten := by
  have : p.bytes = [ib p.first, ib p.second] ++ ((beN p.seq.toNat 2 ++ beN p.ts.toNat 4 ++ beN p.ssrc.toNat 4) ++ (words4 p.csrc ++ p.extBytes ++ p.payload ++ p.pad)) := by
    simp [Pkt.bytes, Pkt.head, List.append_assoc]
  rw [this]
  simp only [List.cons_append, List.nil_append, List.drop_succ_cons, List.drop_zero]
  rw [List.take_left' (by simp [beN_len])]
  simp
theorem bytes_0 {p : Pkt} (h : p.csrc.length ≤ 15) : ∃ r, p.bytes = UInt8.ofNat p.first :: ib p.second :: r := by
  have hf := (first_facts h).1
  refine ⟨beN p.seq.toNat 2 ++ (beN p.ts.toNat 4 ++ beN p.ssrc.toNat 4 ++ words4 p.csrc ++ p.extBytes ++ p.payload ++ p.pad), ?_⟩
  have h1 : ib (p.first : Int) = UInt8.ofNat p.first := by
    unfold ib
    congr 1
    omega
  simp [Pkt.bytes, Pkt.head, List.append_assoc, h1]

theorem u8_and15 : ∀ n < 256, bits .and .u8 ((n : Nat) : Int) 15 = ((n % 16 : Nat) : Int) := by decide +kernel

set_option maxRecDepth 100000 in
set_option maxHeartbeats 4000000 in
theorem RtpPlaces_any {w : World} {base : Nat} {v : Value} {p : Pkt} (hV : PktV w base v p) (sq : UInt16) (tt ss : UInt32) :
    Calls Try.prog 10 #[v, .int .u16 (sq.toNat : Nat), .int .u32 (tt.toNat : Nat), .int .u32 (ss.toNat : Nat)] w fun e w' => e = .returned (.bool true) ∧ Fr [] w w' := by
  have HV0 := Lib.hid hV
  obtain ⟨a1, c1, a2, c2, a3, c3, a4, c4, rfl, hcs, hex, hpl, hpd⟩ := hV.open_
  obtain ⟨w1, e1, hF1, hB1, -⟩ := one_new w (pc p.marker p.pt p.seq.toNat p.ts.toNat p.ssrc.toNat (.slice a1 p.csrc.length c1) p.hasExt p.profile.toNat (.slice a2 p.ext.length c2) (.slice a3 p.payload.length c3) (.slice a4 p.pad.length c4)) 67
  have HF := Lib.hid hF1; have HB := Lib.hid hB1; have E1 := Lib.hid e1; have HV := Lib.hid (HV0.out.keep hF1)
  clear hV hcs hex hpl hpd hF1 hB1 e1 HV0
  generalize hG : w.heap.size = g at *
  go_enter Try.func10, Try.ntmps10
  go_upto_region 1 with (fail)
  try rw [hG]
  rw [E1.out]
  clear E1 hG
  go_wp2_with fail
  refine alive5_any.mono ?_
  rintro e w2 ⟨rfl, hF⟩
  have HF := Lib.hid (HF.out.trans hF); have HB := Lib.hid (HB.out.keep hF); have HV := Lib.hid (HV.out.keep hF)
  clear hF
  go_wp2_with (refine wpList_load_row rfl 67 (.tmp 4) rfl g rfl 67 _ _ _ HB.out Try.underlying67 rfl (by kernel_rfl) ?_)
  refine (Few_any HV.out).mono ?_
  rintro e w3 ⟨rfl, hF⟩
  have HF := Lib.hid (HF.out.trans hF); have HB := Lib.hid (HB.out.keep hF); have HV := Lib.hid (HV.out.keep hF)
  clear hF
  by_cases hfew : p.few = true
  rotate_left
  · have hfew2 : p.few = false := by simpa using hfew
    rw [hfew2]
    go_wp2_with fail
    go_ret
    exact ⟨rfl, HF.out⟩
  have HSM := Lib.hid (Pkt.few_small hfew)
  rw [hfew]
  clear hfew
  go_wp2_with (refine wpList_load_row rfl 67 (.tmp 4) rfl g rfl 67 _ _ _ HB.out Try.underlying67 rfl (by kernel_rfl) ?_)
  by_cases hwr : p.wrong = 0
  · refine (Write_ok HV.out HSM.out hwr).mono ?_
    rintro e w4 ⟨vw, rfl, hO, hF⟩
    have HWR := Lib.hid hwr
    have HF := Lib.hid (HF.out.trans hF); have HB := Lib.hid (HB.out.keep hF); have HV := Lib.hid (HV.out.keep hF)
    obtain ⟨aw, cw, hvw⟩ := hO.bytes.shape
    have hvw2 : vw = .slice aw p.size cw := by rw [hvw, List.length_map, bytes_len]
    subst hvw2
    have HA := Lib.hid hO.bytes
    clear hF hwr hO hvw
    go_wp2_with (refine wpList_load_row rfl 67 (.tmp 4) rfl g rfl 67 _ _ _ HB.out Try.underlying67 rfl (by kernel_rfl) ?_)
    refine (ClonePk_any HV.out HSM.out).mono ?_
    rintro e w5 ⟨qc, qe, ql, qd, rfl, hqc, hqe, hql, hqd, hF⟩
    have HF := Lib.hid (HF.out.trans hF); have HB := Lib.hid (HB.out.keep hF); have HA := Lib.hid (Sl.keep HA.out hF)
    clear hF
    obtain ⟨b1, n1, f1, rfl⟩ := hqc.isSlice
    obtain ⟨b2, n2, f2, rfl⟩ := hqe.isSlice
    obtain ⟨b3, n3, f3, rfl⟩ := hql.isSlice
    obtain ⟨b4, n4, f4, rfl⟩ := hqd.isSlice
    have HQC := Lib.hid hqc.words; have HQE := Lib.hid hqe.bytes; have HQL := Lib.hid hql.bytes; have HQD := Lib.hid hqd.bytes
    clear hqc hqe hql hqd
    go_wp2_with (first | (refine wpList_store_row rfl 67 (.tmp 11) (.tmp 32) rfl w5.heap.size rfl _ _ rfl 67 (Box.new w5 67 #[.bool false, .int .i64 0, .int .u16 0, .int .u32 0, .int .u32 0, .slice none 0 0, .bool false, .int .u16 0, .slice none 0 0, .slice none 0 0, .slice none 0 0]) (by kernel_rfl) rfl (oneCell_pc _ _ _ _ _ _ _ _ _ _ _ ⟨_, _, _, rfl⟩ ⟨_, _, _, rfl⟩ ⟨_, _, _, rfl⟩ ⟨_, _, _, rfl⟩) ?_; intro w6 hY hG; have hFn := ((Fr.refl [] w5).alloc _).step hG (by simp); obtain ⟨wA, eA, hFA, hBA, -⟩ := set_new hY 2 (.int .u16 (sq.toNat : Nat)); obtain ⟨wB, eB, hFB, hBB, -⟩ := set_new hBA 3 (.int .u32 (tt.toNat : Nat)); obtain ⟨wC, eC, hFC, hBC, -⟩ := set_new hBB 4 (.int .u32 (ss.toNat : Nat)); have HFn := Lib.hid hFn; have HFA := Lib.hid hFA; have HFB := Lib.hid hFB; have HFC := Lib.hid hFC; have HY := Lib.hid hY; have r2 := hY.free 2; have r3 := hBA.free 3; have r4 := hBB.free 4; have s2 := hY.cell 2; have s3 := hBA.cell 3; have s4 := hBB.cell 4; simp only [pc, List.getElem?_toArray, List.getElem?_cons_succ, List.getElem?_cons_zero, List.setIfInBounds_toArray, List.set_cons_succ, List.set_cons_zero] at s2 s3 s4 hBC; have HQ0 := Lib.hid hBC; clear hFn hFA hFB hFC hY hBA hBB hBC hG) | (refine wpList_load_row rfl 67 (.tmp 11) rfl w5.heap.size rfl 67 _ _ _ HQ0.out Try.underlying67 rfl (by kernel_rfl) ?_))
    clear r2 r3 r4 s2 s3 s4 eA eB eC
    have hF := ((HFn.out.step HFA.out (fun x hx => by simp at hx; subst hx; exact .inr (Nat.le_refl _))).step HFB.out (fun x hx => by simp at hx; subst hx; exact .inr (Nat.le_refl _))).step HFC.out (fun x hx => by simp at hx; subst hx; exact .inr (Nat.le_refl _))
    have HF := Lib.hid (HF.out.trans hF); have HB := Lib.hid (HB.out.keep hF); have HA := Lib.hid (Sl.keep HA.out hF)
    have HQC := Lib.hid (Sl.keep HQC.out hF); have HQE := Lib.hid (Sl.keep HQE.out hF); have HQL := Lib.hid (Sl.keep HQL.out hF); have HQD := Lib.hid (Sl.keep HQD.out hF)
    have HQV : Hid (PktV wC 0 (.agg (pc p.marker p.pt sq.toNat tt.toNat ss.toNat (.slice b1 n1 f1) p.hasExt p.profile.toNat (.slice b2 n2 f2) (.slice b3 n3 f3) (.slice b4 n4 f4))) (p.but sq tt ss)) := Lib.hid ⟨_, _, _, _, rfl, HQC.out, HQE.out, HQL.out, HQD.out, fun _ _ => Nat.zero_le _⟩
    clear hF HFn HFA HFB HFC HQC HQE HQL HQD HY HQ0
    refine (Write_ok HQV.out (but_small sq tt ss HSM.out) ((but_wrong p sq tt ss).trans HWR.out)).mono ?_
    rintro e w7 ⟨vx, rfl, hO, hF⟩
    have HF := Lib.hid (HF.out.trans hF); have HB := Lib.hid (HB.out.keep hF); have HA := Lib.hid (Sl.keep HA.out hF)
    obtain ⟨ax, cx, hvx⟩ := hO.bytes.shape
    have hvx2 : vx = .slice ax p.size cx := by rw [hvx, List.length_map, bytes_len, but_size]
    subst hvx2
    have HBB := Lib.hid hO.bytes
    clear hF hO hvx
    have HPB := Lib.hid (parse_bytes ((but_wrong p sq tt ss).trans HWR.out))
    have u1 : IntKind.u64.wrap ((sq.toNat : Nat) : Int) = ((sq.toNat : Nat) : Int) := IntWalk.u64_in _ (by have := sq.toNat_lt; omega)
    have u2 : IntKind.u64.wrap ((tt.toNat : Nat) : Int) = ((tt.toNat : Nat) : Int) := IntWalk.u64_in _ (by have := tt.toNat_lt; omega)
    have u3 : IntKind.u64.wrap ((ss.toNat : Nat) : Int) = ((ss.toNat : Nat) : Int) := IntWalk.u64_in _ (by have := ss.toNat_lt; omega)
    go_wp2_with fail
    refine (Seq_any HBB.out).mono ?_
    rintro e w8 (⟨r, hp, rfl, hF⟩ | ⟨k, hp, rfl, hF⟩)
    rotate_left
    · rw [HPB.out] at hp; cases hp
    rw [HPB.out] at hp
    cases hp
    rw [show (p.but sq tt ss).seq = sq from rfl]
    have HF := Lib.hid (HF.out.trans hF); have HB := Lib.hid (HB.out.keep hF); have HA := Lib.hid (Sl.keep HA.out hF); have HBB := Lib.hid (Sl.keep HBB.out hF)
    clear hF
    go_wp2_with fail
    refine (SSRC_any HBB.out).mono ?_
    rintro e w9 (⟨r, hp, rfl, hF⟩ | ⟨k, hp, rfl, hF⟩)
    rotate_left
    · rw [HPB.out] at hp; cases hp
    rw [HPB.out] at hp
    cases hp
    rw [show (p.but sq tt ss).ssrc = ss from rfl]
    have HF := Lib.hid (HF.out.trans hF); have HB := Lib.hid (HB.out.keep hF); have HA := Lib.hid (Sl.keep HA.out hF); have HBB := Lib.hid (Sl.keep HBB.out hF)
    clear hF
    go_wp2_with fail
    refine (PT_any HBB.out).mono ?_
    rintro e w10 (⟨r, hp, rfl, hF⟩ | ⟨k, hp, rfl, hF⟩)
    rotate_left
    · rw [HPB.out] at hp; cases hp
    rw [HPB.out] at hp
    cases hp
    rw [show (p.but sq tt ss).pt = p.pt from rfl]
    have HF := Lib.hid (HF.out.trans hF); have HB := Lib.hid (HB.out.keep hF); have HA := Lib.hid (Sl.keep HA.out hF); have HBB := Lib.hid (Sl.keep HBB.out hF)
    clear hF
    go_wp2_with fail
    refine (Big_any sq.toNat 2 (by have := sq.toNat_lt; omega) (by omega)).mono ?_
    rintro e w11 ⟨vg0, rfl, hg, hF⟩
    obtain ⟨ag0, ng0, cg0, rfl⟩ := Sl.isSlice hg
    have HF := Lib.hid (HF.out.trans hF); have HB := Lib.hid (HB.out.keep hF); have HA := Lib.hid (Sl.keep HA.out hF); have HBB := Lib.hid (Sl.keep HBB.out hF)
    have HG1 := Lib.hid hg
    clear hF hg
    go_wp2_with fail
    refine (Big_any tt.toNat 4 (by have := tt.toNat_lt; omega) (by omega)).mono ?_
    rintro e w12 ⟨vg1, rfl, hg, hF⟩
    obtain ⟨ag1, ng1, cg1, rfl⟩ := Sl.isSlice hg
    have HF := Lib.hid (HF.out.trans hF); have HB := Lib.hid (HB.out.keep hF); have HA := Lib.hid (Sl.keep HA.out hF); have HBB := Lib.hid (Sl.keep HBB.out hF); have HG1 := Lib.hid (Sl.keep HG1.out hF)
    have HG2 := Lib.hid hg
    clear hF hg
    go_wp2_with fail
    refine (Big_any ss.toNat 4 (by have := ss.toNat_lt; omega) (by omega)).mono ?_
    rintro e w13 ⟨vg2, rfl, hg, hF⟩
    obtain ⟨ag2, ng2, cg2, rfl⟩ := Sl.isSlice hg
    have HF := Lib.hid (HF.out.trans hF); have HB := Lib.hid (HB.out.keep hF); have HA := Lib.hid (Sl.keep HA.out hF); have HBB := Lib.hid (Sl.keep HBB.out hF); have HG1 := Lib.hid (Sl.keep HG1.out hF); have HG2 := Lib.hid (Sl.keep HG2.out hF)
    have HG3 := Lib.hid hg
    clear hF hg
    obtain ⟨w14, e5, hF, hB5, -⟩ := one_new w13 #[.slice ag0 ng0 cg0, .slice ag1 ng1 cg1, .slice ag2 ng2 cg2] 22
    have E5 := Lib.hid e5
    have hs5 := Sl_block hB5 (n := 3) rfl (by unfold maxLen; omega)
    have HF := Lib.hid (HF.out.trans hF); have HB := Lib.hid (HB.out.keep hF); have HA := Lib.hid (Sl.keep HA.out hF); have HBB := Lib.hid (Sl.keep HBB.out hF); have HG1 := Lib.hid (Sl.keep HG1.out hF); have HG2 := Lib.hid (Sl.keep HG2.out hF); have HG3 := Lib.hid (Sl.keep HG3.out hF)
    clear e5 hF hB5
    go_wp2_with fail
    rw [E5.out]
    refine (Join_any (ls := [beN sq.toNat 2, beN tt.toNat 4, beN ss.toNat 4]) hs5 rfl (fun i x l hx hl => by
      match i, hx, hl with
      | 0, hx, hl => cases hx; cases hl; exact HG1.out
      | 1, hx, hl => cases hx; cases hl; exact HG2.out
      | 2, hx, hl => cases hx; cases hl; exact HG3.out
      | i + 3, hx, _ => simp at hx) (by simp [beN_len]) (by simp)).mono ?_
    rintro e w15 ⟨vj, rfl, hj, hF⟩
    have HF := Lib.hid (HF.out.trans hF); have HB := Lib.hid (HB.out.keep hF); have HA := Lib.hid (Sl.keep HA.out hF); have HBB := Lib.hid (Sl.keep HBB.out hF)
    have HJ := Lib.hid hj
    clear hF hj E5 hs5 HG1 HG2 HG3
    have hmid := bytes_mid (p.but sq tt ss)
    have ht2 := bytes_take2 p sq tt ss
    have hd12 := bytes_drop12 p sq tt ss
    obtain ⟨lA0, lA1, lA2, -⟩ := Sl.len HA.out
    obtain ⟨lB0, lB1, lB2, -⟩ := Sl.len HBB.out
    have hsz := p.size_hs
    have F := Pkt.fit HWR.out
    have h12 : 12 ≤ p.size := by unfold Pkt.hs at hsz; omega
    obtain ⟨ba, oa, ea, -, hca⟩ := HA.out.at_ (k := 0) (by omega)
    obtain ⟨bx, ox, ex, -, -⟩ := HBB.out.at_ (k := 0) (by omega)
    subst ea ex
    have hk2 : (2 : Nat) ≤ cw := by omega
    have hk12 : (12 : Nat) ≤ cw := by omega
    have hx2 : (2 : Nat) ≤ cx := by omega
    have hx12 : (12 : Nat) ≤ cx := by omega
    have i1 : (2 : Int) ≤ (cw : Int) := by omega
    have i2 : (12 : Int) ≤ (cw : Int) := by omega
    have i3 : (2 : Int) ≤ (cx : Int) := by omega
    have i4 : (12 : Int) ≤ (cx : Int) := by omega
    have i5 : (12 : Int) ≤ (p.size : Int) := by omega
    have i6 : (p.size : Int) ≤ (cw : Int) := by omega
    have i7 : (p.size : Int) ≤ (cx : Int) := by omega
    have i8 : (0 : Int) < (p.size : Int) := by omega
    have i9 : (1 : Int) < (p.size : Int) := by omega
    have i10 : 0 < p.size := by omega
    obtain ⟨r, hr⟩ := bytes_0 F.csrc
    have hff := first_facts F.csrc
    have k0 := hca 0 (B8 (UInt8.ofNat p.first)) (by rw [hr]; rfl)
    have k1 := hca 1 (B8 (ib p.second)) (by rw [hr]; rfl)
    have hf8 : (UInt8.ofNat p.first).toNat = p.first := by rw [UInt8.toNat_ofNat']; omega
    unfold B8 at k0 k1
    rw [hf8, Nat.add_zero] at k0
    have hmk : decide ((128 : Int) ≤ (((ib p.second).toNat : Nat) : Int)) = p.marker := by
      have h0 := F.pt0
      have h1 := F.pt1
      have e : ((ib p.second).toNat : Int) = p.second := by
        have hs : 0 ≤ p.second ∧ p.second < 256 := by unfold Pkt.second; split <;> omega
        unfold ib
        rw [UInt8.toNat_ofNat']
        omega
      rw [e]
      unfold Pkt.second
      cases p.marker <;> simp <;> omega
    have hand : bits .and .u8 ((p.first : Nat) : Int) 15 = ((p.csrc.length : Nat) : Int) := by rw [u8_and15 p.first hff.1, hff.2.2.1]
    have hcl := F.csrc
    have HXS := Lib.hid (show p.size ≤ 1500 from F.size)
    generalize hxx : (ib p.second).toNat = x at *
    clear hxx hca hsz F hff hf8 hr lA0 lB0
    have K0 := Lib.hid k0; have K1 := Lib.hid k1
    have HMID := Lib.hid hmid; have HT2 := Lib.hid ht2; have HD12 := Lib.hid hd12
    clear k0 k1 hmid ht2 hd12
    go_upto_region 17 with (fail)
    refine wp_region_T (fun w' => Box w' g 67 (pc p.marker p.pt p.seq.toNat p.ts.toNat p.ssrc.toNat (.slice a1 p.csrc.length c1) p.hasExt p.profile.toNat (.slice a2 p.ext.length c2) (.slice a3 p.payload.length c3) (.slice a4 p.pad.length c4)) ∧ w'.cell? ⟨ba, oa, none⟩ = some (.int .u8 (p.first : Nat)) ∧ w'.cell? ⟨ba, oa + 1, none⟩ = some (.int .u8 (x : Nat))) [] 55 #[false, false, false, false, false, false, false, false, false, false, false, false, false, false, false, false, false, false, false, false, false, false, false, false, false, false, false, false, false, false, false, false, false, false, false, false, false, false, false, false, false, false, false, false, false, false, false, false, false, false, false, false, false, false, false] (by kernel_rfl) rfl rfl ?_
    have HSS := Lib.hid (And.intro (HB.out.keep (Fr.refl [] w15).drew) (And.intro (((Fr.refl [] w15).drew).cellSome K0.out (by simp)) (((Fr.refl [] w15).drew).cellSome K1.out (by simp))))
    have HA := Lib.hid (Sl.keep HA.out (Fr.refl [] w15).drew); have HBB := Lib.hid (Sl.keep HBB.out (Fr.refl [] w15).drew); have HJ := Lib.hid (Sl.keep HJ.out (Fr.refl [] w15).drew); have HF := Lib.hid (HF.out.drew)
    refine wpAnyT_load (i := 0) (v := ?_) rfl (by kernel_rfl) (by kernel_rfl) (by kernel_rfl) (by kernel_rfl) (by kernel_rfl) (fun _ _ _ h => h) HSS.out (by rfl) ?_ ?_
    rotate_left
    · intro w hSw; obtain ⟨hSw1, hSw2, hSw3⟩ := hSw; obtain ⟨x0, x1, x2, x3, x4, x5, x6, x7, x8, x9, x10⟩ := hSw1.pcells; go_simp; try with_reducible rfl
    simp only [Act.put, List.getElem_toArray, List.getElem_cons_zero, List.getElem_cons_succ, List.setIfInBounds_toArray, List.set_cons_zero, List.set_cons_succ]
    refine wpAnyT_load (i := 1) (v := ?_) rfl (by kernel_rfl) (by kernel_rfl) (by kernel_rfl) (by kernel_rfl) (by kernel_rfl) (fun _ _ _ h => h) HSS.out (by rfl) ?_ ?_
    rotate_left
    · intro w hSw; obtain ⟨hSw1, hSw2, hSw3⟩ := hSw; obtain ⟨x0, x1, x2, x3, x4, x5, x6, x7, x8, x9, x10⟩ := hSw1.pcells; go_simp; try with_reducible rfl
    simp only [Act.put, List.getElem_toArray, List.getElem_cons_zero, List.getElem_cons_succ, List.setIfInBounds_toArray, List.set_cons_zero, List.set_cons_succ]
    refine wpAnyT_load (i := 2) (v := ?_) rfl (by kernel_rfl) (by kernel_rfl) (by kernel_rfl) (by kernel_rfl) (by kernel_rfl) (fun _ _ _ h => h) HSS.out (by rfl) ?_ ?_
    rotate_left
    · intro w hSw; obtain ⟨hSw1, hSw2, hSw3⟩ := hSw; obtain ⟨x0, x1, x2, x3, x4, x5, x6, x7, x8, x9, x10⟩ := hSw1.pcells; go_simp; try with_reducible rfl
    simp only [Act.put, List.getElem_toArray, List.getElem_cons_zero, List.getElem_cons_succ, List.setIfInBounds_toArray, List.set_cons_zero, List.set_cons_succ]
    refine wpAnyT_load (i := 3) (v := ?_) rfl (by kernel_rfl) (by kernel_rfl) (by kernel_rfl) (by kernel_rfl) (by kernel_rfl) (fun _ _ _ h => h) HSS.out (by rfl) ?_ ?_
    rotate_left
    · intro w hSw; obtain ⟨hSw1, hSw2, hSw3⟩ := hSw; obtain ⟨x0, x1, x2, x3, x4, x5, x6, x7, x8, x9, x10⟩ := hSw1.pcells; go_simp; try with_reducible rfl
    simp only [Act.put, List.getElem_toArray, List.getElem_cons_zero, List.getElem_cons_succ, List.setIfInBounds_toArray, List.set_cons_zero, List.set_cons_succ]
    refine wpAnyT_load (i := 4) (v := ?_) rfl (by kernel_rfl) (by kernel_rfl) (by kernel_rfl) (by kernel_rfl) (by kernel_rfl) (fun _ _ _ h => h) HSS.out (by rfl) ?_ ?_
    rotate_left
    · intro w hSw; obtain ⟨hSw1, hSw2, hSw3⟩ := hSw; obtain ⟨x0, x1, x2, x3, x4, x5, x6, x7, x8, x9, x10⟩ := hSw1.pcells; go_simp; try with_reducible rfl
    simp only [Act.put, List.getElem_toArray, List.getElem_cons_zero, List.getElem_cons_succ, List.setIfInBounds_toArray, List.set_cons_zero, List.set_cons_succ]
    refine wpAnyT_load (i := 5) (v := ?_) rfl (by kernel_rfl) (by kernel_rfl) (by kernel_rfl) (by kernel_rfl) (by kernel_rfl) (fun _ _ _ h => h) HSS.out (by rfl) ?_ ?_
    rotate_left
    · intro w hSw; obtain ⟨hSw1, hSw2, hSw3⟩ := hSw; obtain ⟨x0, x1, x2, x3, x4, x5, x6, x7, x8, x9, x10⟩ := hSw1.pcells; go_simp; try with_reducible rfl
    simp only [Act.put, List.getElem_toArray, List.getElem_cons_zero, List.getElem_cons_succ, List.setIfInBounds_toArray, List.set_cons_zero, List.set_cons_succ]
    refine wpAnyT_load (i := 6) (v := ?_) rfl (by kernel_rfl) (by kernel_rfl) (by kernel_rfl) (by kernel_rfl) (by kernel_rfl) (fun _ _ _ h => h) HSS.out (by rfl) ?_ ?_
    rotate_left
    · intro w hSw; obtain ⟨hSw1, hSw2, hSw3⟩ := hSw; obtain ⟨x0, x1, x2, x3, x4, x5, x6, x7, x8, x9, x10⟩ := hSw1.pcells; go_simp; try with_reducible rfl
    simp only [Act.put, List.getElem_toArray, List.getElem_cons_zero, List.getElem_cons_succ, List.setIfInBounds_toArray, List.set_cons_zero, List.set_cons_succ]
    refine wpAnyT_load (i := 7) (v := ?_) rfl (by kernel_rfl) (by kernel_rfl) (by kernel_rfl) (by kernel_rfl) (by kernel_rfl) (fun _ _ _ h => h) HSS.out (by rfl) ?_ ?_
    rotate_left
    · intro w hSw; obtain ⟨hSw1, hSw2, hSw3⟩ := hSw; obtain ⟨x0, x1, x2, x3, x4, x5, x6, x7, x8, x9, x10⟩ := hSw1.pcells; go_simp; try with_reducible rfl
    simp only [Act.put, List.getElem_toArray, List.getElem_cons_zero, List.getElem_cons_succ, List.setIfInBounds_toArray, List.set_cons_zero, List.set_cons_succ]
    refine wpAnyT_load (i := 8) (v := ?_) rfl (by kernel_rfl) (by kernel_rfl) (by kernel_rfl) (by kernel_rfl) (by kernel_rfl) (fun _ _ _ h => h) HSS.out (by rfl) ?_ ?_
    rotate_left
    · intro w hSw; obtain ⟨hSw1, hSw2, hSw3⟩ := hSw; obtain ⟨x0, x1, x2, x3, x4, x5, x6, x7, x8, x9, x10⟩ := hSw1.pcells; go_simp; try with_reducible rfl
    simp only [Act.put, List.getElem_toArray, List.getElem_cons_zero, List.getElem_cons_succ, List.setIfInBounds_toArray, List.set_cons_zero, List.set_cons_succ]
    refine wpAnyT_load (i := 9) (v := ?_) rfl (by kernel_rfl) (by kernel_rfl) (by kernel_rfl) (by kernel_rfl) (by kernel_rfl) (fun _ _ _ h => h) HSS.out (by rfl) ?_ ?_
    rotate_left
    · intro w hSw; obtain ⟨hSw1, hSw2, hSw3⟩ := hSw; obtain ⟨x0, x1, x2, x3, x4, x5, x6, x7, x8, x9, x10⟩ := hSw1.pcells; go_simp; try with_reducible rfl
    simp only [Act.put, List.getElem_toArray, List.getElem_cons_zero, List.getElem_cons_succ, List.setIfInBounds_toArray, List.set_cons_zero, List.set_cons_succ]
    refine wpAnyT_load (i := 10) (v := ?_) rfl (by kernel_rfl) (by kernel_rfl) (by kernel_rfl) (by kernel_rfl) (by kernel_rfl) (fun _ _ _ h => h) HSS.out (by rfl) ?_ ?_
    rotate_left
    · intro w hSw; obtain ⟨hSw1, hSw2, hSw3⟩ := hSw; obtain ⟨x0, x1, x2, x3, x4, x5, x6, x7, x8, x9, x10⟩ := hSw1.pcells; go_simp; try with_reducible rfl
    simp only [Act.put, List.getElem_toArray, List.getElem_cons_zero, List.getElem_cons_succ, List.setIfInBounds_toArray, List.set_cons_zero, List.set_cons_succ]
    refine wpAnyT_load (i := 11) (v := ?_) rfl (by kernel_rfl) (by kernel_rfl) (by kernel_rfl) (by kernel_rfl) (by kernel_rfl) (fun _ _ _ h => h) HSS.out (by rfl) ?_ ?_
    rotate_left
    · intro w hSw; obtain ⟨hSw1, hSw2, hSw3⟩ := hSw; obtain ⟨x0, x1, x2, x3, x4, x5, x6, x7, x8, x9, x10⟩ := hSw1.pcells; go_simp; try with_reducible rfl
    simp only [Act.put, List.getElem_toArray, List.getElem_cons_zero, List.getElem_cons_succ, List.setIfInBounds_toArray, List.set_cons_zero, List.set_cons_succ]
    refine wpAnyT_load (i := 12) (v := ?_) rfl (by kernel_rfl) (by kernel_rfl) (by kernel_rfl) (by kernel_rfl) (by kernel_rfl) (fun _ _ _ h => h) HSS.out (by rfl) ?_ ?_
    rotate_left
    · intro w hSw; obtain ⟨hSw1, hSw2, hSw3⟩ := hSw; obtain ⟨x0, x1, x2, x3, x4, x5, x6, x7, x8, x9, x10⟩ := hSw1.pcells; go_simp; try with_reducible rfl
    simp only [Act.put, List.getElem_toArray, List.getElem_cons_zero, List.getElem_cons_succ, List.setIfInBounds_toArray, List.set_cons_zero, List.set_cons_succ]
    refine wpAnyT_load (i := 13) (v := ?_) rfl (by kernel_rfl) (by kernel_rfl) (by kernel_rfl) (by kernel_rfl) (by kernel_rfl) (fun _ _ _ h => h) HSS.out (by rfl) ?_ ?_
    rotate_left
    · intro w hSw; obtain ⟨hSw1, hSw2, hSw3⟩ := hSw; obtain ⟨x0, x1, x2, x3, x4, x5, x6, x7, x8, x9, x10⟩ := hSw1.pcells; go_simp; try with_reducible rfl
    simp only [Act.put, List.getElem_toArray, List.getElem_cons_zero, List.getElem_cons_succ, List.setIfInBounds_toArray, List.set_cons_zero, List.set_cons_succ]
    refine wpAnyT_load (i := 14) (v := ?_) rfl (by kernel_rfl) (by kernel_rfl) (by kernel_rfl) (by kernel_rfl) (by kernel_rfl) (fun _ _ _ h => h) HSS.out (by rfl) ?_ ?_
    rotate_left
    · intro w hSw; obtain ⟨hSw1, hSw2, hSw3⟩ := hSw; obtain ⟨x0, x1, x2, x3, x4, x5, x6, x7, x8, x9, x10⟩ := hSw1.pcells; go_simp; try with_reducible rfl
    simp only [Act.put, List.getElem_toArray, List.getElem_cons_zero, List.getElem_cons_succ, List.setIfInBounds_toArray, List.set_cons_zero, List.set_cons_succ]
    refine wpAnyT_load (i := 15) (v := ?_) rfl (by kernel_rfl) (by kernel_rfl) (by kernel_rfl) (by kernel_rfl) (by kernel_rfl) (fun _ _ _ h => h) HSS.out (by rfl) ?_ ?_
    rotate_left
    · intro w hSw; obtain ⟨hSw1, hSw2, hSw3⟩ := hSw; obtain ⟨x0, x1, x2, x3, x4, x5, x6, x7, x8, x9, x10⟩ := hSw1.pcells; go_simp; try with_reducible rfl
    simp only [Act.put, List.getElem_toArray, List.getElem_cons_zero, List.getElem_cons_succ, List.setIfInBounds_toArray, List.set_cons_zero, List.set_cons_succ]
    refine wpAnyT_load (i := 16) (v := ?_) rfl (by kernel_rfl) (by kernel_rfl) (by kernel_rfl) (by kernel_rfl) (by kernel_rfl) (fun _ _ _ h => h) HSS.out (by rfl) ?_ ?_
    rotate_left
    · intro w hSw; obtain ⟨hSw1, hSw2, hSw3⟩ := hSw; obtain ⟨x0, x1, x2, x3, x4, x5, x6, x7, x8, x9, x10⟩ := hSw1.pcells; go_simp; try with_reducible rfl
    simp only [Act.put, List.getElem_toArray, List.getElem_cons_zero, List.getElem_cons_succ, List.setIfInBounds_toArray, List.set_cons_zero, List.set_cons_succ]
    refine wpAnyT_load (i := 17) (v := ?_) rfl (by kernel_rfl) (by kernel_rfl) (by kernel_rfl) (by kernel_rfl) (by kernel_rfl) (fun _ _ _ h => h) HSS.out (by rfl) ?_ ?_
    rotate_left
    · intro w hSw; obtain ⟨hSw1, hSw2, hSw3⟩ := hSw; obtain ⟨x0, x1, x2, x3, x4, x5, x6, x7, x8, x9, x10⟩ := hSw1.pcells; go_simp; try with_reducible rfl
    simp only [Act.put, List.getElem_toArray, List.getElem_cons_zero, List.getElem_cons_succ, List.setIfInBounds_toArray, List.set_cons_zero, List.set_cons_succ]
    refine wpAnyT_load (i := 18) (v := ?_) rfl (by kernel_rfl) (by kernel_rfl) (by kernel_rfl) (by kernel_rfl) (by kernel_rfl) (fun _ _ _ h => h) HSS.out (by rfl) ?_ ?_
    rotate_left
    · intro w hSw; obtain ⟨hSw1, hSw2, hSw3⟩ := hSw; obtain ⟨x0, x1, x2, x3, x4, x5, x6, x7, x8, x9, x10⟩ := hSw1.pcells; go_simp; try with_reducible rfl
    simp only [Act.put, List.getElem_toArray, List.getElem_cons_zero, List.getElem_cons_succ, List.setIfInBounds_toArray, List.set_cons_zero, List.set_cons_succ]
    refine wpAnyT_one (i := 19) (by kernel_rfl) rfl (fun K hK => ?_)
    rw [if_pos (by rfl)]
    go_simp
    have hz1 := Sl.pre HA.out 2 cw (by omega) (by omega) (Nat.le_refl _)
    have hz2 := Sl.pre HBB.out 2 cx (by omega) (by omega) (Nat.le_refl _)
    rw [← List.map_take] at hz1
    rw [← List.map_take] at hz2
    have hl1 : (p.bytes.take 2).length ≤ 1099511627776 := by have := HXS.out; simp only [List.length_take, List.length_drop]; omega
    have hl2 : ((p.but sq tt ss).bytes.take 2).length ≤ 1099511627776 := by have := HXS.out; simp only [List.length_take, List.length_drop]; omega
    refine (RSame_any hz1 hz2 hl1 hl2).mono ?_
    rintro e w16 ⟨rfl, hF⟩
    have heq : ((p.bytes.take 2) == ((p.but sq tt ss).bytes.take 2)) = true := by rw [HT2.out]; simp
    rw [heq]
    go_simp
    have HF := Lib.hid (HF.out.trans hF); have HA := Lib.hid (Sl.keep HA.out hF); have HBB := Lib.hid (Sl.keep HBB.out hF); have HJ := Lib.hid (Sl.keep HJ.out hF)
    have HSS := Lib.hid (And.intro (HSS.out.1.keep hF) (And.intro (hF.cellSome HSS.out.2.1 (by simp)) (hF.cellSome HSS.out.2.2 (by simp))))
    refine hK.out _ _ (fun _ => HSS.out) ?_
    clear hK K hF hz1 hz2 hl1 hl2 heq
    simp only [Act.put, List.getElem_toArray, List.getElem_cons_zero, List.getElem_cons_succ, List.setIfInBounds_toArray, List.set_cons_zero, List.set_cons_succ]
    refine wpAnyT_load (i := 20) (v := ?_) rfl (by kernel_rfl) (by kernel_rfl) (by kernel_rfl) (by kernel_rfl) (by kernel_rfl) (fun _ _ _ h => h) HSS.out (by rfl) ?_ ?_
    rotate_left
    · intro w hSw; obtain ⟨hSw1, hSw2, hSw3⟩ := hSw; obtain ⟨x0, x1, x2, x3, x4, x5, x6, x7, x8, x9, x10⟩ := hSw1.pcells; go_simp; try with_reducible rfl
    simp only [Act.put, List.getElem_toArray, List.getElem_cons_zero, List.getElem_cons_succ, List.setIfInBounds_toArray, List.set_cons_zero, List.set_cons_succ]
    refine wpAnyT_load (i := 21) (v := ?_) rfl (by kernel_rfl) (by kernel_rfl) (by kernel_rfl) (by kernel_rfl) (by kernel_rfl) (fun _ _ _ h => h) HSS.out (by rfl) ?_ ?_
    rotate_left
    · intro w hSw; obtain ⟨hSw1, hSw2, hSw3⟩ := hSw; obtain ⟨x0, x1, x2, x3, x4, x5, x6, x7, x8, x9, x10⟩ := hSw1.pcells; go_simp; try with_reducible rfl
    simp only [Act.put, List.getElem_toArray, List.getElem_cons_zero, List.getElem_cons_succ, List.setIfInBounds_toArray, List.set_cons_zero, List.set_cons_succ]
    refine wpAnyT_load (i := 22) (v := ?_) rfl (by kernel_rfl) (by kernel_rfl) (by kernel_rfl) (by kernel_rfl) (by kernel_rfl) (fun _ _ _ h => h) HSS.out (by rfl) ?_ ?_
    rotate_left
    · intro w hSw; obtain ⟨hSw1, hSw2, hSw3⟩ := hSw; obtain ⟨x0, x1, x2, x3, x4, x5, x6, x7, x8, x9, x10⟩ := hSw1.pcells; go_simp; try with_reducible rfl
    simp only [Act.put, List.getElem_toArray, List.getElem_cons_zero, List.getElem_cons_succ, List.setIfInBounds_toArray, List.set_cons_zero, List.set_cons_succ]
    refine wpAnyT_load (i := 23) (v := ?_) rfl (by kernel_rfl) (by kernel_rfl) (by kernel_rfl) (by kernel_rfl) (by kernel_rfl) (fun _ _ _ h => h) HSS.out (by rfl) ?_ ?_
    rotate_left
    · intro w hSw; obtain ⟨hSw1, hSw2, hSw3⟩ := hSw; obtain ⟨x0, x1, x2, x3, x4, x5, x6, x7, x8, x9, x10⟩ := hSw1.pcells; go_simp; try with_reducible rfl
    simp only [Act.put, List.getElem_toArray, List.getElem_cons_zero, List.getElem_cons_succ, List.setIfInBounds_toArray, List.set_cons_zero, List.set_cons_succ]
    refine wpAnyT_load (i := 24) (v := ?_) rfl (by kernel_rfl) (by kernel_rfl) (by kernel_rfl) (by kernel_rfl) (by kernel_rfl) (fun _ _ _ h => h) HSS.out (by rfl) ?_ ?_
    rotate_left
    · intro w hSw; obtain ⟨hSw1, hSw2, hSw3⟩ := hSw; obtain ⟨x0, x1, x2, x3, x4, x5, x6, x7, x8, x9, x10⟩ := hSw1.pcells; go_simp; try with_reducible rfl
    simp only [Act.put, List.getElem_toArray, List.getElem_cons_zero, List.getElem_cons_succ, List.setIfInBounds_toArray, List.set_cons_zero, List.set_cons_succ]
    refine wpAnyT_load (i := 25) (v := ?_) rfl (by kernel_rfl) (by kernel_rfl) (by kernel_rfl) (by kernel_rfl) (by kernel_rfl) (fun _ _ _ h => h) HSS.out (by rfl) ?_ ?_
    rotate_left
    · intro w hSw; obtain ⟨hSw1, hSw2, hSw3⟩ := hSw; obtain ⟨x0, x1, x2, x3, x4, x5, x6, x7, x8, x9, x10⟩ := hSw1.pcells; go_simp; try with_reducible rfl
    simp only [Act.put, List.getElem_toArray, List.getElem_cons_zero, List.getElem_cons_succ, List.setIfInBounds_toArray, List.set_cons_zero, List.set_cons_succ]
    refine wpAnyT_one (i := 26) (by kernel_rfl) rfl (fun K hK => ?_)
    rw [if_pos (by rfl)]
    go_simp
    have hz1 := Sl.sub' HA.out 12 (p.size - 12) (by omega)
    have hz2 := Sl.sub' HBB.out 12 (p.size - 12) (by omega)
    rw [← List.map_drop, ← List.map_take] at hz1
    rw [← List.map_drop, ← List.map_take] at hz2
    have hl1 : ((p.bytes.drop 12).take (p.size - 12)).length ≤ 1099511627776 := by have := HXS.out; simp only [List.length_take, List.length_drop]; omega
    have hl2 : (((p.but sq tt ss).bytes.drop 12).take (p.size - 12)).length ≤ 1099511627776 := by have := HXS.out; simp only [List.length_take, List.length_drop]; omega
    refine (RSame_any hz1 hz2 hl1 hl2).mono ?_
    rintro e w17 ⟨rfl, hF⟩
    have heq : (((p.bytes.drop 12).take (p.size - 12)) == (((p.but sq tt ss).bytes.drop 12).take (p.size - 12))) = true := by rw [HD12.out]; simp
    rw [heq]
    go_simp
    have HF := Lib.hid (HF.out.trans hF); have HA := Lib.hid (Sl.keep HA.out hF); have HBB := Lib.hid (Sl.keep HBB.out hF); have HJ := Lib.hid (Sl.keep HJ.out hF)
    have HSS := Lib.hid (And.intro (HSS.out.1.keep hF) (And.intro (hF.cellSome HSS.out.2.1 (by simp)) (hF.cellSome HSS.out.2.2 (by simp))))
    refine hK.out _ _ (fun _ => HSS.out) ?_
    clear hK K hF hz1 hz2 hl1 hl2 heq
    simp only [Act.put, List.getElem_toArray, List.getElem_cons_zero, List.getElem_cons_succ, List.setIfInBounds_toArray, List.set_cons_zero, List.set_cons_succ]
    refine wpAnyT_load (i := 27) (v := ?_) rfl (by kernel_rfl) (by kernel_rfl) (by kernel_rfl) (by kernel_rfl) (by kernel_rfl) (fun _ _ _ h => h) HSS.out (by rfl) ?_ ?_
    rotate_left
    · intro w hSw; obtain ⟨hSw1, hSw2, hSw3⟩ := hSw; obtain ⟨x0, x1, x2, x3, x4, x5, x6, x7, x8, x9, x10⟩ := hSw1.pcells; go_simp; try with_reducible rfl
    simp only [Act.put, List.getElem_toArray, List.getElem_cons_zero, List.getElem_cons_succ, List.setIfInBounds_toArray, List.set_cons_zero, List.set_cons_succ]
    refine wpAnyT_load (i := 28) (v := ?_) rfl (by kernel_rfl) (by kernel_rfl) (by kernel_rfl) (by kernel_rfl) (by kernel_rfl) (fun _ _ _ h => h) HSS.out (by rfl) ?_ ?_
    rotate_left
    · intro w hSw; obtain ⟨hSw1, hSw2, hSw3⟩ := hSw; obtain ⟨x0, x1, x2, x3, x4, x5, x6, x7, x8, x9, x10⟩ := hSw1.pcells; go_simp; try with_reducible rfl
    simp only [Act.put, List.getElem_toArray, List.getElem_cons_zero, List.getElem_cons_succ, List.setIfInBounds_toArray, List.set_cons_zero, List.set_cons_succ]
    refine wpAnyT_load (i := 29) (v := ?_) rfl (by kernel_rfl) (by kernel_rfl) (by kernel_rfl) (by kernel_rfl) (by kernel_rfl) (fun _ _ _ h => h) HSS.out (by rfl) ?_ ?_
    rotate_left
    · intro w hSw; obtain ⟨hSw1, hSw2, hSw3⟩ := hSw; obtain ⟨x0, x1, x2, x3, x4, x5, x6, x7, x8, x9, x10⟩ := hSw1.pcells; go_simp; try with_reducible rfl
    simp only [Act.put, List.getElem_toArray, List.getElem_cons_zero, List.getElem_cons_succ, List.setIfInBounds_toArray, List.set_cons_zero, List.set_cons_succ]
    refine wpAnyT_load (i := 30) (v := ?_) rfl (by kernel_rfl) (by kernel_rfl) (by kernel_rfl) (by kernel_rfl) (by kernel_rfl) (fun _ _ _ h => h) HSS.out (by rfl) ?_ ?_
    rotate_left
    · intro w hSw; obtain ⟨hSw1, hSw2, hSw3⟩ := hSw; obtain ⟨x0, x1, x2, x3, x4, x5, x6, x7, x8, x9, x10⟩ := hSw1.pcells; go_simp; try with_reducible rfl
    simp only [Act.put, List.getElem_toArray, List.getElem_cons_zero, List.getElem_cons_succ, List.setIfInBounds_toArray, List.set_cons_zero, List.set_cons_succ]
    refine wpAnyT_load (i := 31) (v := ?_) rfl (by kernel_rfl) (by kernel_rfl) (by kernel_rfl) (by kernel_rfl) (by kernel_rfl) (fun _ _ _ h => h) HSS.out (by rfl) ?_ ?_
    rotate_left
    · intro w hSw; obtain ⟨hSw1, hSw2, hSw3⟩ := hSw; obtain ⟨x0, x1, x2, x3, x4, x5, x6, x7, x8, x9, x10⟩ := hSw1.pcells; go_simp; try with_reducible rfl
    simp only [Act.put, List.getElem_toArray, List.getElem_cons_zero, List.getElem_cons_succ, List.setIfInBounds_toArray, List.set_cons_zero, List.set_cons_succ]
    refine wpAnyT_one (i := 32) (by kernel_rfl) rfl (fun K hK => ?_)
    rw [if_pos (by rfl)]
    go_simp
    have hz1 := Sl.sub' HBB.out 2 10 (by omega)
    have hz2 := HJ.out
    rw [← List.map_drop, ← List.map_take] at hz1
    
    have hl1 : (((p.but sq tt ss).bytes.drop 2).take 10).length ≤ 1099511627776 := by have := HXS.out; simp only [List.length_take, List.length_drop]; omega
    have hl2 : ([beN sq.toNat 2, beN tt.toNat 4, beN ss.toNat 4].flatten).length ≤ 1099511627776 := by have := HXS.out; simp [beN_len]
    refine (RSame_any hz1 hz2 hl1 hl2).mono ?_
    rintro e w18 ⟨rfl, hF⟩
    have heq : ((((p.but sq tt ss).bytes.drop 2).take 10) == ([beN sq.toNat 2, beN tt.toNat 4, beN ss.toNat 4].flatten)) = true := by rw [HMID.out, show (p.but sq tt ss).seq = sq from rfl, show (p.but sq tt ss).ts = tt from rfl, show (p.but sq tt ss).ssrc = ss from rfl]; simp
    rw [heq]
    go_simp
    have HF := Lib.hid (HF.out.trans hF); have HA := Lib.hid (Sl.keep HA.out hF); have HBB := Lib.hid (Sl.keep HBB.out hF); have HJ := Lib.hid (Sl.keep HJ.out hF)
    have HSS := Lib.hid (And.intro (HSS.out.1.keep hF) (And.intro (hF.cellSome HSS.out.2.1 (by simp)) (hF.cellSome HSS.out.2.2 (by simp))))
    refine hK.out _ _ (fun _ => HSS.out) ?_
    clear hK K hF hz1 hz2 hl1 hl2 heq
    simp only [Act.put, List.getElem_toArray, List.getElem_cons_zero, List.getElem_cons_succ, List.setIfInBounds_toArray, List.set_cons_zero, List.set_cons_succ]
    refine wpAnyT_load (i := 33) (v := ?_) rfl (by kernel_rfl) (by kernel_rfl) (by kernel_rfl) (by kernel_rfl) (by kernel_rfl) (fun _ _ _ h => h) HSS.out (by rfl) ?_ ?_
    rotate_left
    · intro w hSw; obtain ⟨hSw1, hSw2, hSw3⟩ := hSw; obtain ⟨x0, x1, x2, x3, x4, x5, x6, x7, x8, x9, x10⟩ := hSw1.pcells; go_simp; try with_reducible rfl
    simp only [Act.put, List.getElem_toArray, List.getElem_cons_zero, List.getElem_cons_succ, List.setIfInBounds_toArray, List.set_cons_zero, List.set_cons_succ]
    refine wpAnyT_load (i := 34) (v := ?_) rfl (by kernel_rfl) (by kernel_rfl) (by kernel_rfl) (by kernel_rfl) (by kernel_rfl) (fun _ _ _ h => h) HSS.out (by rfl) ?_ ?_
    rotate_left
    · intro w hSw; obtain ⟨hSw1, hSw2, hSw3⟩ := hSw; obtain ⟨x0, x1, x2, x3, x4, x5, x6, x7, x8, x9, x10⟩ := hSw1.pcells; go_simp; try with_reducible rfl
    simp only [Act.put, List.getElem_toArray, List.getElem_cons_zero, List.getElem_cons_succ, List.setIfInBounds_toArray, List.set_cons_zero, List.set_cons_succ]
    refine wpAnyT_load (i := 35) (v := ?_) rfl (by kernel_rfl) (by kernel_rfl) (by kernel_rfl) (by kernel_rfl) (by kernel_rfl) (fun _ _ _ h => h) HSS.out (by rfl) ?_ ?_
    rotate_left
    · intro w hSw; obtain ⟨hSw1, hSw2, hSw3⟩ := hSw; obtain ⟨x0, x1, x2, x3, x4, x5, x6, x7, x8, x9, x10⟩ := hSw1.pcells; go_simp; try with_reducible rfl
    simp only [Act.put, List.getElem_toArray, List.getElem_cons_zero, List.getElem_cons_succ, List.setIfInBounds_toArray, List.set_cons_zero, List.set_cons_succ]
    refine wpAnyT_load (i := 36) (v := ?_) rfl (by kernel_rfl) (by kernel_rfl) (by kernel_rfl) (by kernel_rfl) (by kernel_rfl) (fun _ _ _ h => h) HSS.out (by rfl) ?_ ?_
    rotate_left
    · intro w hSw; obtain ⟨hSw1, hSw2, hSw3⟩ := hSw; obtain ⟨x0, x1, x2, x3, x4, x5, x6, x7, x8, x9, x10⟩ := hSw1.pcells; go_simp; try with_reducible rfl
    simp only [Act.put, List.getElem_toArray, List.getElem_cons_zero, List.getElem_cons_succ, List.setIfInBounds_toArray, List.set_cons_zero, List.set_cons_succ]
    refine wpAnyT_load (i := 37) (v := ?_) rfl (by kernel_rfl) (by kernel_rfl) (by kernel_rfl) (by kernel_rfl) (by kernel_rfl) (fun _ _ _ h => h) HSS.out (by rfl) ?_ ?_
    rotate_left
    · intro w hSw; obtain ⟨hSw1, hSw2, hSw3⟩ := hSw; obtain ⟨x0, x1, x2, x3, x4, x5, x6, x7, x8, x9, x10⟩ := hSw1.pcells; go_simp; try with_reducible rfl
    simp only [Act.put, List.getElem_toArray, List.getElem_cons_zero, List.getElem_cons_succ, List.setIfInBounds_toArray, List.set_cons_zero, List.set_cons_succ]
    refine wpAnyT_load (i := 38) (v := ?_) rfl (by kernel_rfl) (by kernel_rfl) (by kernel_rfl) (by kernel_rfl) (by kernel_rfl) (fun _ _ _ h => h) HSS.out (by rfl) ?_ ?_
    rotate_left
    · intro w hSw; obtain ⟨hSw1, hSw2, hSw3⟩ := hSw; obtain ⟨x0, x1, x2, x3, x4, x5, x6, x7, x8, x9, x10⟩ := hSw1.pcells; go_simp; try with_reducible rfl
    simp only [Act.put, List.getElem_toArray, List.getElem_cons_zero, List.getElem_cons_succ, List.setIfInBounds_toArray, List.set_cons_zero, List.set_cons_succ]
    refine wpAnyT_load (i := 39) (v := ?_) rfl (by kernel_rfl) (by kernel_rfl) (by kernel_rfl) (by kernel_rfl) (by kernel_rfl) (fun _ _ _ h => h) HSS.out (by rfl) ?_ ?_
    rotate_left
    · intro w hSw; obtain ⟨hSw1, hSw2, hSw3⟩ := hSw; obtain ⟨x0, x1, x2, x3, x4, x5, x6, x7, x8, x9, x10⟩ := hSw1.pcells; go_simp; try with_reducible rfl
    simp only [Act.put, List.getElem_toArray, List.getElem_cons_zero, List.getElem_cons_succ, List.setIfInBounds_toArray, List.set_cons_zero, List.set_cons_succ]
    refine wpAnyT_load (i := 40) (v := ?_) rfl (by kernel_rfl) (by kernel_rfl) (by kernel_rfl) (by kernel_rfl) (by kernel_rfl) (fun _ _ _ h => h) HSS.out (by rfl) ?_ ?_
    rotate_left
    · intro w hSw; obtain ⟨hSw1, hSw2, hSw3⟩ := hSw; obtain ⟨x0, x1, x2, x3, x4, x5, x6, x7, x8, x9, x10⟩ := hSw1.pcells; go_simp; try with_reducible rfl
    simp only [Act.put, List.getElem_toArray, List.getElem_cons_zero, List.getElem_cons_succ, List.setIfInBounds_toArray, List.set_cons_zero, List.set_cons_succ]
    refine wpAnyT_load (i := 41) (v := ?_) rfl (by kernel_rfl) (by kernel_rfl) (by kernel_rfl) (by kernel_rfl) (by kernel_rfl) (fun _ _ _ h => h) HSS.out (by rfl) ?_ ?_
    rotate_left
    · intro w hSw; obtain ⟨hSw1, hSw2, hSw3⟩ := hSw; obtain ⟨x0, x1, x2, x3, x4, x5, x6, x7, x8, x9, x10⟩ := hSw1.pcells; go_simp; try with_reducible rfl
    simp only [Act.put, List.getElem_toArray, List.getElem_cons_zero, List.getElem_cons_succ, List.setIfInBounds_toArray, List.set_cons_zero, List.set_cons_succ]
    refine wpAnyT_load (i := 42) (v := ?_) rfl (by kernel_rfl) (by kernel_rfl) (by kernel_rfl) (by kernel_rfl) (by kernel_rfl) (fun _ _ _ h => h) HSS.out (by rfl) ?_ ?_
    rotate_left
    · intro w hSw; obtain ⟨hSw1, hSw2, hSw3⟩ := hSw; obtain ⟨x0, x1, x2, x3, x4, x5, x6, x7, x8, x9, x10⟩ := hSw1.pcells; go_simp; try with_reducible rfl
    simp only [Act.put, List.getElem_toArray, List.getElem_cons_zero, List.getElem_cons_succ, List.setIfInBounds_toArray, List.set_cons_zero, List.set_cons_succ]
    refine wpAnyT_load (i := 43) (v := ?_) rfl (by kernel_rfl) (by kernel_rfl) (by kernel_rfl) (by kernel_rfl) (by kernel_rfl) (fun _ _ _ h => h) HSS.out (by rfl) ?_ ?_
    rotate_left
    · intro w hSw; obtain ⟨hSw1, hSw2, hSw3⟩ := hSw; obtain ⟨x0, x1, x2, x3, x4, x5, x6, x7, x8, x9, x10⟩ := hSw1.pcells; go_simp; try with_reducible rfl
    simp only [Act.put, List.getElem_toArray, List.getElem_cons_zero, List.getElem_cons_succ, List.setIfInBounds_toArray, List.set_cons_zero, List.set_cons_succ]
    refine wpAnyT_load (i := 44) (v := ?_) rfl (by kernel_rfl) (by kernel_rfl) (by kernel_rfl) (by kernel_rfl) (by kernel_rfl) (fun _ _ _ h => h) HSS.out (by rfl) ?_ ?_
    rotate_left
    · intro w hSw; obtain ⟨hSw1, hSw2, hSw3⟩ := hSw; obtain ⟨x0, x1, x2, x3, x4, x5, x6, x7, x8, x9, x10⟩ := hSw1.pcells; go_simp; try with_reducible rfl
    simp only [Act.put, List.getElem_toArray, List.getElem_cons_zero, List.getElem_cons_succ, List.setIfInBounds_toArray, List.set_cons_zero, List.set_cons_succ]
    refine wpAnyT_load (i := 45) (v := ?_) rfl (by kernel_rfl) (by kernel_rfl) (by kernel_rfl) (by kernel_rfl) (by kernel_rfl) (fun _ _ _ h => h) HSS.out (by rfl) ?_ ?_
    rotate_left
    · intro w hSw; obtain ⟨hSw1, hSw2, hSw3⟩ := hSw; obtain ⟨x0, x1, x2, x3, x4, x5, x6, x7, x8, x9, x10⟩ := hSw1.pcells; go_simp; try with_reducible rfl
    simp only [Act.put, List.getElem_toArray, List.getElem_cons_zero, List.getElem_cons_succ, List.setIfInBounds_toArray, List.set_cons_zero, List.set_cons_succ]
    refine wpAnyT_load (i := 46) (v := ?_) rfl (by kernel_rfl) (by kernel_rfl) (by kernel_rfl) (by kernel_rfl) (by kernel_rfl) (fun _ _ _ h => h) HSS.out (by rfl) ?_ ?_
    rotate_left
    · intro w hSw; obtain ⟨hSw1, hSw2, hSw3⟩ := hSw; obtain ⟨x0, x1, x2, x3, x4, x5, x6, x7, x8, x9, x10⟩ := hSw1.pcells; go_simp; try with_reducible rfl
    simp only [Act.put, List.getElem_toArray, List.getElem_cons_zero, List.getElem_cons_succ, List.setIfInBounds_toArray, List.set_cons_zero, List.set_cons_succ]
    refine wpAnyT_load (i := 47) (v := ?_) rfl (by kernel_rfl) (by kernel_rfl) (by kernel_rfl) (by kernel_rfl) (by kernel_rfl) (fun _ _ _ h => h) HSS.out (by rfl) ?_ ?_
    rotate_left
    · intro w hSw; obtain ⟨hSw1, hSw2, hSw3⟩ := hSw; obtain ⟨x0, x1, x2, x3, x4, x5, x6, x7, x8, x9, x10⟩ := hSw1.pcells; go_simp; try with_reducible rfl
    simp only [Act.put, List.getElem_toArray, List.getElem_cons_zero, List.getElem_cons_succ, List.setIfInBounds_toArray, List.set_cons_zero, List.set_cons_succ]
    refine wpAnyT_load (i := 48) (v := ?_) rfl (by kernel_rfl) (by kernel_rfl) (by kernel_rfl) (by kernel_rfl) (by kernel_rfl) (fun _ _ _ h => h) HSS.out (by rfl) ?_ ?_
    rotate_left
    · intro w hSw; obtain ⟨hSw1, hSw2, hSw3⟩ := hSw; obtain ⟨x0, x1, x2, x3, x4, x5, x6, x7, x8, x9, x10⟩ := hSw1.pcells; go_simp; try with_reducible rfl
    simp only [Act.put, List.getElem_toArray, List.getElem_cons_zero, List.getElem_cons_succ, List.setIfInBounds_toArray, List.set_cons_zero, List.set_cons_succ]
    refine wpAnyT_load (i := 49) (v := ?_) rfl (by kernel_rfl) (by kernel_rfl) (by kernel_rfl) (by kernel_rfl) (by kernel_rfl) (fun _ _ _ h => h) HSS.out (by rfl) ?_ ?_
    rotate_left
    · intro w hSw; obtain ⟨hSw1, hSw2, hSw3⟩ := hSw; obtain ⟨x0, x1, x2, x3, x4, x5, x6, x7, x8, x9, x10⟩ := hSw1.pcells; go_simp; try with_reducible rfl
    simp only [Act.put, List.getElem_toArray, List.getElem_cons_zero, List.getElem_cons_succ, List.setIfInBounds_toArray, List.set_cons_zero, List.set_cons_succ]
    refine wpAnyT_load (i := 50) (v := ?_) rfl (by kernel_rfl) (by kernel_rfl) (by kernel_rfl) (by kernel_rfl) (by kernel_rfl) (fun _ _ _ h => h) HSS.out (by rfl) ?_ ?_
    rotate_left
    · intro w hSw; obtain ⟨hSw1, hSw2, hSw3⟩ := hSw; obtain ⟨x0, x1, x2, x3, x4, x5, x6, x7, x8, x9, x10⟩ := hSw1.pcells; go_simp; try with_reducible rfl
    simp only [Act.put, List.getElem_toArray, List.getElem_cons_zero, List.getElem_cons_succ, List.setIfInBounds_toArray, List.set_cons_zero, List.set_cons_succ]
    refine wpAnyT_load (i := 51) (v := ?_) rfl (by kernel_rfl) (by kernel_rfl) (by kernel_rfl) (by kernel_rfl) (by kernel_rfl) (fun _ _ _ h => h) HSS.out (by rfl) ?_ ?_
    rotate_left
    · intro w hSw; obtain ⟨hSw1, hSw2, hSw3⟩ := hSw; obtain ⟨x0, x1, x2, x3, x4, x5, x6, x7, x8, x9, x10⟩ := hSw1.pcells; go_simp; try with_reducible rfl
    simp only [Act.put, List.getElem_toArray, List.getElem_cons_zero, List.getElem_cons_succ, List.setIfInBounds_toArray, List.set_cons_zero, List.set_cons_succ]
    refine wpAnyT_load (i := 52) (v := ?_) rfl (by kernel_rfl) (by kernel_rfl) (by kernel_rfl) (by kernel_rfl) (by kernel_rfl) (fun _ _ _ h => h) HSS.out (by rfl) ?_ ?_
    rotate_left
    · intro w hSw; obtain ⟨hSw1, hSw2, hSw3⟩ := hSw; obtain ⟨x0, x1, x2, x3, x4, x5, x6, x7, x8, x9, x10⟩ := hSw1.pcells; go_simp; try with_reducible rfl
    simp only [Act.put, List.getElem_toArray, List.getElem_cons_zero, List.getElem_cons_succ, List.setIfInBounds_toArray, List.set_cons_zero, List.set_cons_succ]
    refine wpAnyT_load (i := 53) (v := ?_) rfl (by kernel_rfl) (by kernel_rfl) (by kernel_rfl) (by kernel_rfl) (by kernel_rfl) (fun _ _ _ h => h) HSS.out (by rfl) ?_ ?_
    rotate_left
    · intro w hSw; obtain ⟨hSw1, hSw2, hSw3⟩ := hSw; obtain ⟨x0, x1, x2, x3, x4, x5, x6, x7, x8, x9, x10⟩ := hSw1.pcells; go_simp; try with_reducible rfl
    simp only [Act.put, List.getElem_toArray, List.getElem_cons_zero, List.getElem_cons_succ, List.setIfInBounds_toArray, List.set_cons_zero, List.set_cons_succ]
    refine wpAnyT_load (i := 54) (v := ?_) rfl (by kernel_rfl) (by kernel_rfl) (by kernel_rfl) (by kernel_rfl) (by kernel_rfl) (fun _ _ _ h => h) HSS.out (by rfl) ?_ ?_
    rotate_left
    · intro w hSw; obtain ⟨hSw1, hSw2, hSw3⟩ := hSw; obtain ⟨x0, x1, x2, x3, x4, x5, x6, x7, x8, x9, x10⟩ := hSw1.pcells; go_simp; try with_reducible rfl
    simp only [Act.put, List.getElem_toArray, List.getElem_cons_zero, List.getElem_cons_succ, List.setIfInBounds_toArray, List.set_cons_zero, List.set_cons_succ]
    refine wpAnyT_done (by kernel_rfl) ?_ _
    go_wp2_with fail
    all_goals
      go_ret
      refine ⟨ret_bool ?_, HF.out⟩
      first | rfl | (rw [IntWalk.i64_in _ (by omega)]; simp)
  · refine (Write_err HV.out HSM.out hwr).mono ?_
    rintro e w4 ⟨rfl, hF⟩
    have t0 : (p.wrong != 0) = true := by simpa using hwr
    have HWR := Lib.hid hwr
    have HF := Lib.hid (HF.out.trans hF); have HB := Lib.hid (HB.out.keep hF); have HV := Lib.hid (HV.out.keep hF)
    clear hF hwr
    go_wp2_with (refine wpList_load_row rfl 67 (.tmp 4) rfl g rfl 67 _ _ _ HB.out Try.underlying67 rfl (by kernel_rfl) ?_)
    refine (ClonePk_any HV.out HSM.out).mono ?_
    rintro e w5 ⟨qc, qe, ql, qd, rfl, hqc, hqe, hql, hqd, hF⟩
    have HF := Lib.hid (HF.out.trans hF); have HB := Lib.hid (HB.out.keep hF)
    clear hF
    obtain ⟨b1, n1, f1, rfl⟩ := hqc.isSlice
    obtain ⟨b2, n2, f2, rfl⟩ := hqe.isSlice
    obtain ⟨b3, n3, f3, rfl⟩ := hql.isSlice
    obtain ⟨b4, n4, f4, rfl⟩ := hqd.isSlice
    have HQC := Lib.hid hqc.words; have HQE := Lib.hid hqe.bytes; have HQL := Lib.hid hql.bytes; have HQD := Lib.hid hqd.bytes
    clear hqc hqe hql hqd
    go_wp2_with (first | (refine wpList_store_row rfl 67 (.tmp 11) (.tmp 32) rfl w5.heap.size rfl _ _ rfl 67 (Box.new w5 67 #[.bool false, .int .i64 0, .int .u16 0, .int .u32 0, .int .u32 0, .slice none 0 0, .bool false, .int .u16 0, .slice none 0 0, .slice none 0 0, .slice none 0 0]) (by kernel_rfl) rfl (oneCell_pc _ _ _ _ _ _ _ _ _ _ _ ⟨_, _, _, rfl⟩ ⟨_, _, _, rfl⟩ ⟨_, _, _, rfl⟩ ⟨_, _, _, rfl⟩) ?_; intro w6 hY hG; have hFn := ((Fr.refl [] w5).alloc _).step hG (by simp); obtain ⟨wA, eA, hFA, hBA, -⟩ := set_new hY 2 (.int .u16 (sq.toNat : Nat)); obtain ⟨wB, eB, hFB, hBB, -⟩ := set_new hBA 3 (.int .u32 (tt.toNat : Nat)); obtain ⟨wC, eC, hFC, hBC, -⟩ := set_new hBB 4 (.int .u32 (ss.toNat : Nat)); have HFn := Lib.hid hFn; have HFA := Lib.hid hFA; have HFB := Lib.hid hFB; have HFC := Lib.hid hFC; have HY := Lib.hid hY; have r2 := hY.free 2; have r3 := hBA.free 3; have r4 := hBB.free 4; have s2 := hY.cell 2; have s3 := hBA.cell 3; have s4 := hBB.cell 4; simp only [pc, List.getElem?_toArray, List.getElem?_cons_succ, List.getElem?_cons_zero, List.setIfInBounds_toArray, List.set_cons_succ, List.set_cons_zero] at s2 s3 s4 hBC; have HQ0 := Lib.hid hBC; clear hFn hFA hFB hFC hY hBA hBB hBC hG) | (refine wpList_load_row rfl 67 (.tmp 11) rfl w5.heap.size rfl 67 _ _ _ HQ0.out Try.underlying67 rfl (by kernel_rfl) ?_))
    clear r2 r3 r4 s2 s3 s4 eA eB eC
    have hF := ((HFn.out.step HFA.out (fun x hx => by simp at hx; subst hx; exact .inr (Nat.le_refl _))).step HFB.out (fun x hx => by simp at hx; subst hx; exact .inr (Nat.le_refl _))).step HFC.out (fun x hx => by simp at hx; subst hx; exact .inr (Nat.le_refl _))
    have HF := Lib.hid (HF.out.trans hF); have HB := Lib.hid (HB.out.keep hF)
    have HQC := Lib.hid (Sl.keep HQC.out hF); have HQE := Lib.hid (Sl.keep HQE.out hF); have HQL := Lib.hid (Sl.keep HQL.out hF); have HQD := Lib.hid (Sl.keep HQD.out hF)
    have HQV : Hid (PktV wC 0 (.agg (pc p.marker p.pt sq.toNat tt.toNat ss.toNat (.slice b1 n1 f1) p.hasExt p.profile.toNat (.slice b2 n2 f2) (.slice b3 n3 f3) (.slice b4 n4 f4))) (p.but sq tt ss)) := Lib.hid ⟨_, _, _, _, rfl, HQC.out, HQE.out, HQL.out, HQD.out, fun _ _ => Nat.zero_le _⟩
    clear hF HFn HFA HFB HFC HQC HQE HQL HQD HY HQ0
    refine (Write_err HQV.out (but_small sq tt ss HSM.out) (by rw [but_wrong]; exact HWR.out)).mono ?_
    rintro e w7 ⟨rfl, hF⟩
    rw [but_wrong]
    have HF := Lib.hid (HF.out.trans hF)
    clear hF
    go_wp2_with fail
    go_ret
    exact ⟨rfl, HF.out⟩
end Go.Proofs.Yticoongkfhkjgaa
