/- The walk of confluxref13.Make (printed by gen_r13.py). -/
import Derived.Test.YtchbgiindfoepaaMq36
import Derived.Test.YtchbgiindfoepaaMq29
import Derived.Test.YtchbgiindfoepaaMq21
import Derived.Test.YtchbgiindfoepaaMq33
import Derived.Test.YtchbgiindfoepaaMq30
namespace Go.Proofs.Ytchbgiindfoepaa
open Go.RowKit

set_option maxRecDepth 100000 in
set_option maxHeartbeats 16000000 in
theorem r13Make_any {w : World} {v : Value} {ls : List (List UInt8)} (hl : BRows w v ls) :
    Calls Try.prog 30 #[v] w fun e w' => Fr [] w w' ∧ Made (mkP ls) w.heap.size e w' := by
  obtain ⟨av, cv, rfl⟩ := hl.shape
  have hlen := hl.len.2
  unfold maxLen at hlen
  obtain ⟨w1, e1, hF1, hB1, hs1⟩ := one_new w rpz 58
  have HL0 := Lib.hid hl; have HL := Lib.hid (hl.keep hF1); have HF := Lib.hid hF1; have HR := Lib.hid hB1; have E1 := Lib.hid e1
  have HS1 := Lib.hid hs1
  clear hl hF1 hB1 e1 hs1
  by_cases hn : ls = []
  · have hl0 : ((ls.length : Int) == 0) = true := by rw [hn]; rfl
    have HM : Hid (mkP ls = .error 4) := Lib.hid (by unfold mkP; rw [if_pos hn])
    clear hn
    go_enter Try.func30, Try.ntmps30
    go_upto_region 1 with fail
    rw [E1.out]
    clear E1
    go_wp2_with (refine wpList_store_row rfl 58 (.tmp 2) (.tmp 23) rfl w.heap.size rfl _ _ rfl 58 HR.out (by kernel_rfl) rfl (by simp [Value.oneCell']) ?_; intro w9 hY hG; have HY := Lib.hid hY; have HGn := Lib.hid hG; clear hY hG)
    refine bodyPost_ret (results_row_1 rfl _ _ w.heap.size 58 _ _ rfl HY.out Try.underlying58 rfl (by kernel_rfl)) rfl ⟨(HF.out).step HGn.out (by simp), .inr ⟨4, HM.out, by first | decide | assumption, rfl⟩⟩
  have hl0 : ((ls.length : Int) == 0) = false := beq_eq_false_iff_ne.2 (by have := List.length_pos_iff.2 hn; omega)
  by_cases hb48 : 48 < ls.length
  · have HM : Hid (mkP ls = .error 3) := Lib.hid (by unfold mkP; rw [if_neg hn, if_pos hb48])
    clear hn
    go_enter Try.func30, Try.ntmps30
    go_upto_region 1 with fail
    rw [E1.out]
    clear E1
    go_wp2_with (refine wpList_store_row rfl 58 (.tmp 2) (.tmp 27) rfl w.heap.size rfl _ _ rfl 58 HR.out (by kernel_rfl) rfl (by simp [Value.oneCell']) ?_; intro w9 hY hG; have HY := Lib.hid hY; have HGn := Lib.hid hG; clear hY hG)
    refine bodyPost_ret (results_row_1 rfl _ _ w.heap.size 58 _ _ rfl HY.out Try.underlying58 rfl (by kernel_rfl)) rfl ⟨(HF.out).step HGn.out (by simp), .inr ⟨3, HM.out, by first | decide | assumption, rfl⟩⟩
  have HM : Hid (mkP ls = match runL ls Sheet.zero with | .error k => .error k | .ok s => if s.alike = false then .error 61 else match cvOf s.seqs with | .error k => .error k | .ok (b, m) => .ok ⟨s.sum, b, m⟩) := Lib.hid (by unfold mkP; rw [if_neg hn, if_neg hb48]; rfl)
  have hsm : ls.length ≤ 48 := by omega
  have HNE := Lib.hid hn
  clear hn
  obtain ⟨w2, e2, hF2, hB2, hs2⟩ := one_new w1 #[] 37
  obtain ⟨w3, e3, hF3, hB3, hs3⟩ := one_new w2 #[] 42
  have HX : Hid (OwnEls 2 RbR w3 w1.heap.size 37 (.slice (some ⟨w1.heap.size, 0, none⟩) 0 0) [] []) := Lib.hid (OwnEls.keep Rep.rb (by rw [← e2]; exact OwnEls.made w1 w1.heap.size _ (Nat.le_refl _)) hF3)
  have HQ : Hid (OwnV w3 w1.heap.size 42 W16 (.slice (some ⟨w2.heap.size, 0, none⟩) 0 0) []) := Lib.hid (by rw [← e3]; exact OwnV.made w2 w1.heap.size _ _ hF2.size)
  have HI : Hid (MInv w1 w3 w1.heap.size (.slice (some ⟨w1.heap.size, 0, none⟩) 0 0) (.slice (some ⟨w2.heap.size, 0, none⟩) 0 0) [] Sheet.zero true 0 []) := Lib.hid ⟨rfl, HX.out, by simp, HQ.out, fun b k hb hk => by simp [blockOf] at hb hk; omega, .inl ⟨rfl, rfl⟩, Nat.le_refl _, hF2.trans hF3⟩
  have E2 := Lib.hid e2; have E3 := Lib.hid e3
  clear e2 e3 hF2 hF3 hB2 hB3 hs2 hs3 HX HQ
  go_enter Try.func30, Try.ntmps30
  go_upto_region 1 with fail
  rw [E1.out]
  clear E1
  go_upto_region 6 with fail
  rw [E2.out]
  clear E2
  go_upto_region 7 with fail
  rw [E3.out]
  clear E3
  go_upto_region 10 with fail
  go_loopw [4, 5, 6, 7, 8] (fun xv sv tv cv' iv wr => ∃ (j : Nat) (sh : Sheet) (a : Bool) (c : UInt32) (B : List Nat), j ≤ ls.length ∧ iv = .int .i64 j ∧ tv = .bool a ∧ cv' = .int .u32 (c.toNat : Nat) ∧ MInv w1 wr w1.heap.size xv sv (ls.take j) sh a c B) (fun _ _ _ _ iv _ => ls.length - (intOf iv).toNat)
  case atStart => exact ⟨0, _, _, 0, _, Nat.zero_le _, rfl, rfl, rfl, HI.out⟩
  case round =>
    clear HI
    obtain ⟨j, sh, a, c, B, hj, rfl, rfl, rfl, hI⟩ := hrel
    have HI := Lib.hid hI
    by_cases hlt : j < ls.length
    · obtain ⟨b, o, al, cl, ea, -, hc, hx⟩ := (HL.out.keep HI.out.fr).at_ j hlt
      subst ea
      have HXX := Lib.hid hx
      have d0 := hc
      have HC := Lib.hid hc
      have HTF : Hid (ls = ls.take j ++ ls[j] :: ls.drop (j + 1)) := Lib.hid (by rw [List.getElem_cons_drop, List.take_append_drop])
      have HT : Hid (ls.take (j + 1) = ls.take j ++ [ls[j]]) := Lib.hid (List.take_succ_eq_append_getElem hlt)
      clear hx hc
      have HLJ : Hid ((ls.take j).length = j) := Lib.hid (by rw [List.length_take]; omega)
      generalize ls[j] = l at *
      generalize ls.take j = pre at *
      obtain ⟨ax, cx, ex⟩ := hI.xs.shape
      rw [List.length_map] at ex
      subst ex
      obtain ⟨as_, cs, es⟩ := hI.seqs.shape
      subst es
      have HSQ : Hid (sh.seqs.length = pre.length) := Lib.hid (by rw [(seqs_run hI.run).1, List.length_map])
      clear hI
      go_wp2_with fail
      refine (R5Parse_any HXX.out).mono ?_
      rintro e w4 (⟨vp, p, hp, rfl, hVp, hF⟩ | ⟨k2, hp, rfl, hF⟩)
      rotate_left
      · have hk2 : (k2 != 0) = true := by simpa using parseR_err hp
        have hk3 : k2 ≠ 0 := by simpa using hk2
        have HME : Hid (mkP ls = .error k2) := Lib.hid (by
          have h1 : runL ls Sheet.zero = .error k2 := by rw [HTF.out, runL_append, HI.out.run]; exact runL_err _ _ hp
          rw [HM.out, h1])
        have HI := Lib.hid (HI.out.keep hF)
        clear hp hF d0
        unfold pz
        go_upto_region 14 with (refine wpList_store_row rfl 88 (.tmp 9) (.tmp 42) rfl w4.heap.size rfl _ _ rfl 88 (Box.new w4 88 #[.bool false, .int .i64 0, .int .u16 0, .int .u32 0, .int .u32 0, .slice none 0 0, .bool false, .int .u16 0, .slice none 0 0, .slice none 0 0, .slice none 0 0]) (by kernel_rfl) rfl (oneCell_pz) ?_; intro w5 hY hG; have hFn := ((Fr.refl [] w4).alloc _).step hG (by simp); have HFn := Lib.hid hFn; have HY := Lib.hid hY; clear hG hFn hY)
        have HI := Lib.hid (HI.out.keep HFn.out)
        have HRW := Lib.hid (HR.out.keep HI.out.fr)
        clear HFn HY
        go_wp2_with (refine wpList_store_row rfl 58 (.tmp 2) (.tmp 46) rfl w.heap.size rfl _ _ rfl 58 HRW.out (by kernel_rfl) rfl (by simp [Value.oneCell']) ?_; intro w9 hY hG; have HY := Lib.hid hY; have HGn := Lib.hid hG; clear hY hG)
        refine bodyPost_ret (results_row_1 rfl _ _ w.heap.size 58 _ _ rfl HY.out Try.underlying58 rfl (by kernel_rfl)) rfl ⟨(HF.out.trans HI.out.fr).step HGn.out (by simp), .inr ⟨k2, HME.out, by first | decide | assumption, rfl⟩⟩
      obtain ⟨q1, k1, q2, k2, q3, k3, q4, k4, rfl, -, -, -, -⟩ := hVp.open_
      have HP := Lib.hid hp
      have HI := Lib.hid (HI.out.keep hF); have HXX := Lib.hid (Sl.keep HXX.out hF); have HC := Lib.hid (hF.cellSome HC.out (by simp))
      have HI0 := HI
      clear hp hF hVp d0
      go_upto_region 15 with (refine wpList_store_row rfl 88 (.tmp 9) (.tmp 42) rfl w4.heap.size rfl _ _ rfl 88 (Box.new w4 88 #[.bool false, .int .i64 0, .int .u16 0, .int .u32 0, .int .u32 0, .slice none 0 0, .bool false, .int .u16 0, .slice none 0 0, .slice none 0 0, .slice none 0 0]) (by kernel_rfl) rfl (oneCell_pc _ _ _ _ _ _ _ _ _ _ _ ⟨_, _, _, rfl⟩ ⟨_, _, _, rfl⟩ ⟨_, _, _, rfl⟩ ⟨_, _, _, rfl⟩) ?_; intro w5 hY hG; have hFn := ((Fr.refl [] w4).alloc _).step hG (by simp); have HFn := Lib.hid hFn; have HY := Lib.hid hY; clear hG hFn hY)
      have HI := Lib.hid (HI.out.keep HFn.out); have HXX := Lib.hid (Sl.keep HXX.out HFn.out); have HC := Lib.hid (HFn.out.cellSome HC.out (by simp))
      have HPB := HY
      clear HFn HY
      have HXG0 : Hid (∀ b, blockOf (.slice ax pre.length cx) = some b → b < w4.heap.size) := Lib.hid (fun b hb => (HI0.out.xs.block b hb).2)
      have HSG0 : Hid (∀ b, blockOf (.slice as_ sh.seqs.length cs) = some b → b < w4.heap.size) := Lib.hid (fun b hb => (HI0.out.seqs.block b hb).2)
      clear HI0
      generalize hgp : w4.heap.size = gp at *
      clear hgp
      have HXG : Hid (∀ b, blockOf (.slice ax pre.length cx) = some b → b < gp) := HXG0
      have HSG : Hid (∀ b, blockOf (.slice as_ sh.seqs.length cs) = some b → b < gp) := HSG0
      have HGW : Hid (gp < w5.heap.size) := Lib.hid HPB.out.lt
      have d0 := HC.out
      go_wp2_with fail
      refine (r12OfN_any HXX.out).mono ?_
      rintro e w6 (⟨v6, p', hp, rfl, hO, hF⟩ | ⟨v6, k2, hp, -, -, -⟩)
      rotate_left
      · rw [HP.out] at hp; cases hp
      obtain ⟨vh, vb, rfl, hyh, hyb, hnw⟩ := hO
      obtain ⟨yh, ch, rfl⟩ := Sl.shape hyh
      obtain ⟨yb, cb, rfl⟩ := Sl.shape hyb
      simp only [List.length_map] at hyh hyb hnw ⊢
      have HI := Lib.hid (HI.out.keep hF); have HPB := Lib.hid (HPB.out.keep hF); have HYH := Lib.hid hyh; have HYB := Lib.hid hyb
      have HNW : Hid (∀ b ∈ (liveOf (.slice yh (imp l).head.length ch)).toList ++ (liveOf (.slice yb (imp l).body.length cb)).toList, gp < b) := Lib.hid (fun b hb => by
        have h1 := HGW.out
        rcases List.mem_append.1 hb with hb | hb
        · have := hnw b (.inl (mem_toList.1 hb)); omega
        · have := hnw b (.inr (mem_toList.1 hb)); omega)
      clear hp hF hyh hyb hnw d0
      go_upto_region 16 with (refine wpList_store_row rfl 37 (.tmp 11) (.tmp 54) rfl w6.heap.size rfl _ _ rfl 37 (Box.new w6 37 #[.slice none 0 0, .slice none 0 0]) (by kernel_rfl) rfl (by simp [Value.oneCell']) ?_; intro w7 hY hG; have hFn := ((Fr.refl [] w6).alloc _).step hG (by simp); have HFn := Lib.hid hFn; have HY := Lib.hid hY; clear hG hFn hY)
      have HI := Lib.hid (HI.out.keep HFn.out); have HPB := Lib.hid (HPB.out.keep HFn.out); have HYH := Lib.hid (Sl.keep HYH.out HFn.out); have HYB := Lib.hid (Sl.keep HYB.out HFn.out)
      have H11 := HY
      clear HFn HY
      generalize hg11 : w6.heap.size = g11 at *
      clear hg11
      obtain ⟨w8, e8, hF8, hB8, hs8⟩ := one_new w7 #[.slice yh (imp l).head.length ch, .slice yb (imp l).body.length cb] 37
      have E8 := Lib.hid e8; have HF8 := Lib.hid hF8; have HB8 := Lib.hid hB8
      have HG8 : Hid (gp < w8.heap.size) := Lib.hid (by have := HPB.out.lt; have := hF8.size; omega)
      have HD : Hid (∀ b, blockOf (.slice ax pre.length cx) = some b → b ∉ (liveOf (.slice yh (imp l).head.length ch)).toList ++ (liveOf (.slice yb (imp l).body.length cb)).toList) := Lib.hid (fun b hb hm => by have h1 := HXG.out b hb; have h2 := HNW.out b hm; omega)
      have HL1 : Hid ((pre.map imp).length + 1 ≤ maxLen) := Lib.hid (by have := HLJ.out; rw [List.length_map]; unfold maxLen; omega)
      have HL2 : Hid (((pre.map imp).length + 1) * 48 ≤ 140737488355328) := Lib.hid (by have := HLJ.out; rw [List.length_map]; omega)
      have HL3 : Hid (w1.heap.size ≤ w8.heap.size) := Lib.hid (Nat.le_trans HI.out.fr.size hF8.size)
      clear e8 hF8 hB8 hs8
      go_upto_region 17 with (first | (refine wpList_load_row_w rfl 37 (.tmp 11) rfl g11 rfl 37 _ _ H11.out Try.underlying37 rfl (by kernel_rfl) ?_) | (at_builtin; (rw [E8.out]); refine wpList_append_el Rep.rb (by decide) rfl (.tmp 56) (.tmp 58) 35 rfl w1.heap.size 37 (.agg #[.slice none 0 0, .slice none 0 0]) 48 Try.underlying35 info_rbits rfl (.slice ax pre.length cx) (pre.map imp) B rfl (HI.out.keep HF8.out).xs w7.heap.size 0 1 rfl [.slice yh (imp l).head.length ch, .slice yb (imp l).body.length cb] (imp l) ((liveOf (.slice yh (imp l).head.length ch)).toList ++ (liveOf (.slice yb (imp l).body.length cb)).toList) (box_range HB8.out) ⟨_, _, rfl, Sl.keep HYH.out HF8.out, Sl.keep HYB.out HF8.out, rfl⟩ HD.out HL1.out HL2.out HL3.out ?_; intro vx1 w9 hown1 hfr1 hbl1; have HX1 := Lib.hid hown1; have HF9 := Lib.hid hfr1; have HBL1 := Lib.hid hbl1; clear hown1 hfr1 hbl1))
      have HSO : Hid (OwnV w9 w1.heap.size 42 W16 (.slice as_ sh.seqs.length cs) sh.seqs) := Lib.hid ((HI.out.keep HF8.out).seqs_x HF9.out)
      have HPB := Lib.hid ((HPB.out.keep HF8.out).fr HF9.out (fun hm => by have := HXG.out gp (mem_toList.1 hm); omega))
      have HFQ : Hid (Fr [] w1 w9) := Lib.hid ((HI.out.keep HF8.out).fr.step HF9.out (fun b hb => .inr ((HI.out.xs.block b (mem_toList.1 hb)).1)))
      have HLO : Hid (sh.seqs.length ≤ 48) := Lib.hid (by have := HLJ.out; have := HSQ.out; omega)
      have x2 := HPB.out.cell 2
      simp only [pc, List.getElem?_toArray, List.getElem?_cons_succ, List.getElem?_cons_zero] at x2
      have A0 : Hid ((w9.alloc (.cells #[Value.int .u16 (p.seq.toNat : Nat)] 42)).ownsRow w1.heap.size 42 1 (.slice as_ sh.seqs.length cs) (sh.seqs).length ((sh.seqs).map W16)) := Lib.hid (Own.keep HSO.out ((Fr.refl [] w9).alloc _))
      have A1 : Hid ((sh.seqs).length + [Value.int .u16 (p.seq.toNat : Nat)].length ≤ maxLen) := Lib.hid (by have := HLO.out; unfold maxLen; simp only [List.length_singleton]; omega)
      have A2 : Hid (((sh.seqs).length + [Value.int .u16 (p.seq.toNat : Nat)].length) * 2 ≤ 140737488355328) := Lib.hid (by have := HLO.out; simp only [List.length_singleton]; omega)
      have A3 : Hid (Sl (w9.alloc (.cells #[Value.int .u16 (p.seq.toNat : Nat)] 42)) (.slice (some ⟨w9.heap.size, 0, none⟩) 1 1) [Value.int .u16 (p.seq.toNat : Nat)]) := Lib.hid (Sl.one w9 _ _)
      have A4 : Hid (w1.heap.size ≤ (w9.alloc (.cells #[Value.int .u16 (p.seq.toNat : Nat)] 42)).heap.size) := Lib.hid (by have := HFQ.out.size; simp; omega)
      go_upto_region 18 with (at_builtin; refine wpList_append_slf rfl (.tmp 60) (.tmp 63) 77 rfl w1.heap.size 42 (.int .u16 0) 2 Try.underlying77 info_u16 rfl (.slice as_ sh.seqs.length cs) (sh.seqs).length ((sh.seqs).map W16) rfl A0.out (.slice (some ⟨w9.heap.size, 0, none⟩) 1 1) [Value.int .u16 (p.seq.toNat : Nat)] rfl A3.out (by simp [Value.oneCell']) A1.out A2.out A4.out ?_; intro vs1 w11 ho hg hfr; have HO3 := Lib.hid ho; have HG := Lib.hid hg; have HBL := Lib.hid hfr; clear ho hg hfr)
      have HN : Hid (OwnV w11 w1.heap.size 42 W16 vs1 (sh.seqs ++ [p.seq])) := Lib.hid (by
        have := HO3.out
        unfold OwnV
        rw [List.map_append, List.length_append]
        exact this)
      have HF3 : Hid (Fr [] w1 w11) := Lib.hid ((HFQ.out.alloc _).step HG.out (fun x hx => .inr (HSO.out.block x (by simpa using hx)).1))

      obtain ⟨w10, e10, hF10, hB10, hs10⟩ := one_new w9 #[.int .u16 (p.seq.toNat : Nat)] 42
      rw [e10] at HG HBL
      have HNX := Lib.hid (HI.out.next HP.out HF8.out HX1.out HF9.out HBL1.out hF10 HN.out HG.out HBL.out HNW.out HSG.out HG8.out)
      have HAN := Lib.hid (alike_next HI.out.run HP.out HI.out.st)
      have HPB := Lib.hid ((HPB.out.keep hF10).fr HG.out (fun hm => by have := HSG.out gp (mem_toList.1 hm); omega))
      have HST := Lib.hid HI.out.st
      clear HI HX1 HF9 HBL1 HN HG HBL e10 hF10 hB10 hs10 HF3 E8 HF8 HB8 HSO HFQ A0 A1 A2 A3 A4
      clear x2
      have x4 := HPB.out.cell 4
      simp only [pc, List.getElem?_toArray, List.getElem?_cons_succ, List.getElem?_cons_zero] at x4
      have hcase : (pre = [] ∧ a = true ∧ j = 0) ∨ (pre ≠ [] ∧ a = true ∧ 0 < j) ∨ (pre ≠ [] ∧ a = false ∧ 0 < j) := by
        have h1 := HLJ.out
        rcases HST.out with ⟨h, h2⟩ | ⟨h, -, -⟩
        · exact .inl ⟨h, h2, by rw [h] at h1; simpa using h1.symm⟩
        · have := List.length_pos_iff.2 h
          cases a with
          | true => exact .inr (.inl ⟨h, rfl, by omega⟩)
          | false => exact .inr (.inr ⟨h, rfl, by omega⟩)
      rcases hcase with ⟨hc, rfl, rfl⟩ | ⟨hc, rfl, hj0⟩ | ⟨hc, rfl, hj0⟩
      · have HCC := Lib.hid hc
        clear hc
        go_wp2_with fail
        go_roundw
        case rel => exact ⟨1, _, (sh.add l p).alike, (sh.add l p).ssrc, _, by omega, rfl, by rw [HAN.out.2.2, if_pos HCC.out]; simp, by rw [HAN.out.2.1, if_pos HCC.out], by rw [HT.out]; exact HNX.out⟩
        case measure => simp [intOf]; omega
      · have HCC := Lib.hid hc
        have hj1 : ((j : Int) == 0) = false := beq_eq_false_iff_ne.2 (by omega)
        clear hc
        go_wp2_with fail
        go_roundw
        case rel => exact ⟨j + 1, _, (sh.add l p).alike, (sh.add l p).ssrc, _, by omega, by go_num, by rw [HAN.out.2.2, if_neg HCC.out, u32_beq]; simp, by rw [HAN.out.2.1, if_neg HCC.out], by rw [HT.out]; exact HNX.out⟩
        case measure => simp [intOf]; omega
      · have HCC := Lib.hid hc
        have hj1 : ((j : Int) == 0) = false := beq_eq_false_iff_ne.2 (by omega)
        clear hc
        go_wp2_with fail
        go_roundw
        case rel => exact ⟨j + 1, _, (sh.add l p).alike, (sh.add l p).ssrc, _, by omega, by go_num, by rw [HAN.out.2.2, if_neg HCC.out]; simp, by rw [HAN.out.2.1, if_neg HCC.out], by rw [HT.out]; exact HNX.out⟩
        case measure => simp [intOf]; omega
    · obtain rfl : j = ls.length := by omega
      rw [List.take_length] at hI HI
      obtain ⟨ax, cx, ex⟩ := hI.xs.shape
      rw [List.length_map] at ex
      subst ex
      obtain ⟨as_, cs, es⟩ := hI.seqs.shape
      subst es
      have hst : a = sh.alike := by rcases hI.st with ⟨h, -⟩ | ⟨-, h, -⟩; exact absurd h HNE.out; exact h
      have HSQ := Lib.hid (seqs_run hI.run); have HST := Lib.hid hst; have HOK := Lib.hid (runL_sum hI.run).2.2
      have HMS : Hid (mkP ls = if sh.alike = false then .error 61 else match cvOf sh.seqs with | .error k => .error k | .ok (b, m) => .ok ⟨sh.sum, b, m⟩) := Lib.hid (by rw [HM.out, hI.run])
      have HRW := Lib.hid (HR.out.keep hI.fr)
      clear hI HM hst
      cases a with
      | false =>
        have HME : Hid (mkP ls = .error 61) := Lib.hid (by rw [HMS.out, if_pos HST.out.symm])
        go_wp2_with (refine wpList_store_row rfl 58 (.tmp 2) (.tmp 78) rfl w.heap.size rfl _ _ rfl 58 HRW.out (by kernel_rfl) rfl (by simp [Value.oneCell']) ?_; intro w9 hY hG; have HY := Lib.hid hY; have HGn := Lib.hid hG; clear hY hG)
        refine bodyPost_ret (results_row_1 rfl _ _ w.heap.size 58 _ _ rfl HY.out Try.underlying58 rfl (by kernel_rfl)) rfl ⟨(HF.out.trans HI.out.fr).step HGn.out (by simp), .inr ⟨61, HME.out, by first | decide | assumption, rfl⟩⟩
      | true =>
        have HMC : Hid (mkP ls = match cvOf sh.seqs with | .error k => .error k | .ok (b, m) => .ok ⟨sh.sum, b, m⟩) := Lib.hid (by rw [HMS.out, if_neg (by rw [← HST.out]; simp)])
        clear HST HMS
        have hne : sh.seqs ≠ [] := by rw [HSQ.out.1]; simpa using HNE.out
        have hle : sh.seqs.length ≤ 1000 := by rw [HSQ.out.1, List.length_map]; omega
        obtain ⟨x0, hx0⟩ : ∃ x, sh.seqs.head? = some x := by cases h : sh.seqs with | nil => exact absurd h hne | cons x l => exact ⟨x, rfl⟩
        go_wp2_with fail
        refine (r11Of_any HI.out.seqs.sl hle hx0).mono ?_
        rintro e w4 ⟨hof, hF⟩
        have HI := Lib.hid (HI.out.keep hF); have HRW := Lib.hid (HRW.out.keep hF)
        clear hF hne hle hx0
        cases hc : cvOf sh.seqs with
        | error k =>
          rw [hc] at hof
          have hof2 : e = .returned (.tuple #[.int .u16 0, .int .u64 0, .int .u64 0, .int .i64 k]) := hof
          subst hof2
          have hk0 := cvOf_err hc
          have hkb : (k != 0) = true := bne_iff_ne.2 hk0
          have HK0 := Lib.hid hk0
          have HME : Hid (mkP ls = .error k) := Lib.hid (by rw [HMC.out, hc])
          clear hof hc hk0 HMC
          go_wp2_with (refine wpList_store_row rfl 58 (.tmp 2) (.tmp 88) rfl w.heap.size rfl _ _ rfl 58 HRW.out (by kernel_rfl) rfl (by simp [Value.oneCell']) ?_; intro w9 hY hG; have HY := Lib.hid hY; have HGn := Lib.hid hG; clear hY hG)
          refine bodyPost_ret (results_row_1 rfl _ _ w.heap.size 58 _ _ rfl HY.out Try.underlying58 rfl (by kernel_rfl)) rfl ⟨(HF.out.trans HI.out.fr).step HGn.out (by simp), .inr ⟨k, HME.out, HK0.out, rfl⟩⟩
        | ok bm =>
          obtain ⟨bs, m⟩ := bm
          rw [hc] at hof
          have hof2 : e = .returned (.tuple #[.int .u16 (bs.toNat : Nat), .int .u64 (m.hi.toNat : Nat), .int .u64 (m.lo.toNat : Nat), .int .i64 0]) := hof
          subst hof2
          have HME : Hid (mkP ls = .ok ⟨Bt.all (ls.map imp), bs, m⟩) := Lib.hid (by rw [HMC.out, hc, HSQ.out.2])
          clear hof hc HMC
          have hsz : ∀ x ∈ ls.map imp, x.body.length ≤ 1099511627776 := fun x hx => by
            obtain ⟨l, hl, rfl⟩ := List.mem_map.1 hx
            obtain ⟨p, hp⟩ := HOK.out l hl
            have := (parse_len hp).2
            show (l.drop 12).length ≤ _
            rw [List.length_drop]
            omega
          have HAL : Hid ((Bt.all (ls.map imp)).body.length ≤ 1099511627776) := Lib.hid (all_small hsz)
          go_wp2_with fail
          refine (r12AllN_any HI.out.xs.sl hsz).mono ?_
          rintro e w5 ⟨v5, rfl, hO, hF⟩
          obtain ⟨vh, vb, rfl, hyh, hyb, hnw⟩ := hO
          obtain ⟨yh, ch, rfl⟩ := Sl.shape hyh
          obtain ⟨yb, cb, rfl⟩ := Sl.shape hyb
          simp only [List.length_map] at hyh hyb hnw ⊢
          have HF1 := Lib.hid (HI.out.fr.trans hF); have HRW := Lib.hid (HRW.out.keep hF); have HYH := Lib.hid hyh; have HYB := Lib.hid hyb
          have HNW : Hid (∀ k, liveOf (.slice yh (Bt.all (ls.map imp)).head.length ch) = some k ∨ liveOf (.slice yb (Bt.all (ls.map imp)).body.length cb) = some k → w.heap.size < k) := Lib.hid (fun k hk => by have := hnw k hk; have := HI.out.fr.size; have := HF.out.size; omega)
          clear hF hyh hyb hnw hsz HI
          generalize hall : Bt.all (ls.map imp) = y at *
          clear hall
          go_upto_region 27 with (refine wpList_store_row rfl 37 (.tmp 17) (.tmp 91) rfl w5.heap.size rfl _ _ rfl 37 (Box.new w5 37 #[.slice none 0 0, .slice none 0 0]) (by kernel_rfl) rfl (by simp [Value.oneCell']) ?_; intro w6 hY hG; have hFn := ((Fr.refl [] w5).alloc _).step hG (by simp); have HFn := Lib.hid hFn; have HY := Lib.hid hY; clear hG hFn hY)
          have HF1 := Lib.hid (HF1.out.trans HFn.out); have HRW := Lib.hid (HRW.out.keep HFn.out); have HYH := Lib.hid (Sl.keep HYH.out HFn.out); have HYB := Lib.hid (Sl.keep HYB.out HFn.out); have H17 := HY
          clear HFn HY
          generalize hg17 : w5.heap.size = g17 at *
          have HG18 : Hid (g17 < w6.heap.size ∧ ∀ b, liveOf (.slice yh y.head.length ch) = some b ∨ liveOf (.slice yb y.body.length cb) = some b → b < w6.heap.size) := Lib.hid ⟨H17.out.lt, fun b hb => hb.elim (Sl.lt HYH.out b) (Sl.lt HYB.out b)⟩
          have HW18 : Hid (w.heap.size < w6.heap.size ∧ w1.heap.size ≤ w6.heap.size) := Lib.hid ⟨HRW.out.lt, HF1.out.size⟩
          clear hg17
          have x1 := H17.out.cell 1
          simp only [List.getElem?_toArray, List.getElem?_cons_succ, List.getElem?_cons_zero] at x1
          go_upto_region 28 with (refine wpList_store_row rfl 58 (.tmp 18) (.tmp 97) rfl w6.heap.size rfl _ _ rfl 58 (Box.new w6 58 rpz) (by kernel_rfl) rfl (by simp [Value.oneCell']) ?_; intro w7 hY hG; have hFn := ((Fr.refl [] w6).alloc _).step hG (by simp); have HFn := Lib.hid hFn; have HY := Lib.hid hY; clear hG hFn hY)
          have HF1 := Lib.hid (HF1.out.trans HFn.out); have HRW := Lib.hid (HRW.out.keep HFn.out); have HYH := Lib.hid (Sl.keep HYH.out HFn.out); have HYB := Lib.hid (Sl.keep HYB.out HFn.out); have H17 := Lib.hid (H17.out.keep HFn.out)
          have H18 : Hid (Box w7 w6.heap.size 58 (hpart ⟨y, bs, m⟩ (.slice yb y.body.length cb) 0)) := Lib.hid HY.out
          clear HFn HY x1
          generalize hg18 : w6.heap.size = g18 at *
          clear hg18
          obtain ⟨b8, o8, e8b, hb8l, -⟩ := Sl.at_ HYH.out (k := 0) (by rw [Bt.head_len]; omega)
          subst e8b
          go_upto_region 29 with fail
          go_loopw [19] (fun iv wr => ∃ (k : Nat), k ≤ 8 ∧ iv = .int .i64 k ∧ Box wr g18 58 (hpart ⟨y, bs, m⟩ (.slice yb y.body.length cb) k) ∧ Fr [g18] w7 wr) (fun iv _ => 8 - (intOf iv).toNat)
          case atStart => exact ⟨0, by omega, rfl, H18.out, Fr.refl _ _⟩
          case round =>
            clear H18
            obtain ⟨k, hk, rfl, h18, hFk⟩ := hrel
            have H18 := Lib.hid h18; have HFK := Lib.hid hFk
            clear h18 hFk
            by_cases hk8 : k < 8
            · have d0 := HFK.out.cellSome (H17.out.cell 0) (by simp; have := HG18.out.1; omega)
              have d1 := HFK.out.cellSome (Bytes.cell HYH.out k (by rw [Bt.head_len]; omega)) (by simp; have := HG18.out.2 b8 (.inl (by simp [liveOf]; have := Sl.len HYH.out; rw [List.length_map, Bt.head_len] at this; omega)); omega)
              obtain ⟨n0, d2⟩ := hpart_at ⟨y, bs, m⟩ (.slice yb y.body.length cb) k hk8
              rw [← H18.out.cell k] at d2
              have f2 := H18.out.free k
              have hyl : y.head.length = 8 := Bt.head_len y
              have HN := Lib.hid (hpart_next ⟨y, bs, m⟩ (.slice yb y.body.length cb) k hk8)
              obtain ⟨z, hz⟩ : ∃ z, y.head.getD k 0 = z := ⟨_, rfl⟩
              rw [hz] at d1 HN
              clear hz
              obtain ⟨w20, e20, hF20, hB20, -⟩ := set_new H18.out k (.int .u8 (z.toNat : Nat))
              rw [HN.out] at hB20
              have HF20 := Lib.hid hF20; have HB20 := Lib.hid hB20; have E20 := Lib.hid e20
              clear hF20 hB20 e20
              go_upto_region 30 with fail
              rw [E20.out]
              clear E20 d0 d1 d2 f2
              go_wp2_with fail
              exact ⟨⟨k + 1, by omega, by go_num, HB20.out, HFK.out.step HF20.out (fun b hb => .inl hb)⟩, by simp [intOf]; omega⟩
            · obtain rfl : k = 8 := by omega
              rw [hpart_done] at H18
              have HRW := Lib.hid (HRW.out.fr HFK.out (by simp; have := HW18.out; omega))
              have HYB := Lib.hid (Sl.frL HYB.out HFK.out (fun b hb hm => by have := HG18.out.2 b (.inr hb); simp at hm; omega))
              have HF1 := Lib.hid (HF1.out.step HFK.out (fun b hb => .inr (by have := HW18.out; simp at hb; omega)))
              go_wp2_with (first | (refine wpList_load_row_w rfl 58 (.tmp 18) rfl g18 rfl 58 _ _ H18.out Try.underlying58 rfl (by kernel_rfl) ?_) | (refine wpList_store_row rfl 58 (.tmp 2) (.tmp 110) rfl w.heap.size rfl _ _ rfl 58 HRW.out (by kernel_rfl) rfl (by simp [Value.oneCell']) ?_; intro w9 hY hG; have HY := Lib.hid hY; have HGn := Lib.hid hG; clear hY hG))
              have HPO : Hid (RpO w9 w.heap.size (.agg (rpc ⟨y, bs, m⟩ (.slice yb y.body.length cb))) ⟨y, bs, m⟩) := Lib.hid ⟨_, rfl, Sl.frL HYB.out HGn.out (fun b hb hm => by have := HNW.out b (.inr hb); simp at hm; omega), fun b hb => by have := HNW.out b (.inr hb); omega⟩
              refine bodyPost_ret (results_row_1 rfl _ _ w.heap.size 58 _ _ rfl HY.out Try.underlying58 rfl (by kernel_rfl)) rfl ⟨(HF.out.trans HF1.out).step HGn.out (by simp), .inl ⟨_, _, HME.out, rfl, HPO.out⟩⟩
end Go.Proofs.Ytchbgiindfoepaa
