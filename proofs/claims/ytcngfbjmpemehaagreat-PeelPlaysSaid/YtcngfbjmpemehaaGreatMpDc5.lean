/- The walk of the document's tell of layer 16 (printed by gen_dc5.py). -/
import Derived.Test.YtcngfbjmpemehaaGreatMp39
set_option maxRecDepth 100000
set_option maxHeartbeats 16000000
open List renaming getElem_toArray → zz1, getElem_cons_zero → zz2, getElem_cons_succ → zz3, setIfInBounds_toArray → zz4, set_cons_zero → zz5, set_cons_succ → zz6, getElem?_toArray → zz7, getElem?_cons_succ → zz8, getElem?_cons_zero → zz9
open Go.Lib renaming hid → Hd
namespace Go.Proofs.YtcngfbjmpemehaaGreat
open Go.RowKit

def PXq (P : Nat → Prop) (q z : Nat) : Prop:=(P z ∧ z < q) ∨ q + 2 ≤ z
def TellS (w : World) (P : Nat → Prop) (q N : Nat) (turn : Int) (d : PkD) (outs : List (UInt16 × List UInt8)) (vo vm vr : Value) (wr : World) : Prop :=
 ∃ (Bo : List Nat) (hs : List (Rep_ × Int)),PkP d hs turn N ∧ Box wr q 32 (dcc d vm vr) ∧ DocV wr (fun z => PXq P q z ∧ blockOf vo ≠ some z) vm vr d ∧ OwnEls 3 DGR wr (q + 2) 102 vo (outs.map toldT) Bo ∧ (∀ z ∈ Bo,PXq P q z) ∧ Fr [] w wr ∧ Box wr (q + 1) 32 #[.int .u32 0,.int .i64 0,.int .i64 0,.int .i64 0,.slice none 0 0,.slice none 0 0]
theorem TellS.keep {w wr w' : World} {P : Nat → Prop} {q N : Nat} {turn : Int} {d : PkD} {outs : List (UInt16 × List UInt8)} {vo vm vr : Value} (h : TellS w P q N turn d outs vo vm vr wr) (hf : Fr [] wr w') : TellS w P q N turn d outs vo vm vr w':=by
 obtain ⟨Bo,hs,h1,h2,h3,h4,h5,h6,h7⟩:=h
 exact ⟨Bo,hs,h1,h2.keep hf,h3.keep hf,h4.keep Rep.dgr hf,h5,h6.trans hf,h7.keep hf⟩
theorem TellS.next {w wr w7 w8 : World} {P : Nat → Prop} {q N N' : Nat} {turn : Int} {d d' : PkD} {outs : List (UInt16 × List UInt8)} {vo vm vr vm' vr' : Value} {hs' : List (Rep_ × Int)} (h : TellS w P q N turn d outs vo vm vr wr) (hq : w.heap.size = q) (hf7 : Fr [] wr w7) (hf8 : Fr [q] w7 w8) (hp : PkP d' hs' turn N') (hX : Box w8 q 32 (dcc d' vm' vr')) (hD : DocV w8 (fun z => PXq P q z ∧ blockOf vo ≠ some z) vm' vr' d') : TellS w P q N' turn d' outs vo vm' vr' w8:=by
 obtain ⟨Bo,hs,h1,h2,h3,h4,h5,h6,h7⟩:=h
 refine ⟨Bo,hs',hp,hX,hD,(h4.keep Rep.dgr hf7).fr Rep.dgr hf8 (fun z hz hm => ?_) (fun z hz hm => ?_),h5,(h6.quiet hf7).step hf8 (fun z hz => .inr (by rw [List.mem_singleton] at hz;omega)),(h7.keep hf7).fr hf8 (by simp)⟩
 ·rw [List.mem_singleton] at hm
  rcases h5 z hz with ⟨-,k⟩ | k <;> omega
 ·rw [List.mem_singleton] at hm
  have:=(h4.block z hz).1
  omega
theorem TellS.vo {w wr : World} {P : Nat → Prop} {q N : Nat} {turn : Int} {d : PkD} {outs : List (UInt16 × List UInt8)} {vo vm vr : Value} (h : TellS w P q N turn d outs vo vm vr wr) : ∀ z,blockOf vo = some z → q + 2 ≤ z ∧ z < wr.heap.size:=by
 obtain ⟨Bo,hs,h1,h2,h3,h4,h5,h6,h7⟩:=h
 exact h4.block
theorem r16tell_any {w : World} {P : Nat → Prop} {vm vr : Value} {d : PkD} {hs : List (Rep_ × Int)} {turn : Int} {N : Nat} (h : DocV w P vm vr d) (hp : PkP d hs turn N) (hN : N < 1000000) :
  Calls Tryz.prog 36 #[.agg (dcc d vm vr)] w fun e w' => ∃ vd vo,e = .returned (.tuple #[vd,vo]) ∧ (∃ vm' vr' Bo hs',vd = .agg (dcc d.tell.1 vm' vr') ∧ DocV w' (fun z => P z ∨ w.heap.size ≤ z) vm' vr' d.tell.1 ∧ PkP d.tell.1 hs' turn N ∧ SlEls 3 DGR w' vo (d.tell.2.map toldT) Bo ∧ (∀ z ∈ Bo,P z ∨ w.heap.size ≤ z) ∧ (∀ z,liveOf vo = some z → w.heap.size ≤ z)) ∧ Fr [] w w':=by
 obtain ⟨am,cm,ar,cr,rfl,rfl⟩:=h.shape
 obtain ⟨w1,e1,hF1,hX1,hR1,hs1⟩:=two_new w (dcc d (.slice am d.med.length cm) (.slice ar d.rep.length cr)) 32 #[.int .u32 0,.int .i64 0,.int .i64 0,.int .i64 0,.slice none 0 0,.slice none 0 0] 32
 obtain ⟨w2,e2,hF2,hB2,hs2⟩:=one_new w1 #[] 102
 have E1:=Hd e1;have E2:=Hd e2
 have hO2 : OwnEls 3 DGR w2 (w.heap.size + 2) 102 (.slice (some ⟨w.heap.size + 2,0,none⟩) 0 0) [] []:=by
  have:=OwnEls.made (k:=3) (R:=DGR) w1 (w.heap.size + 2) 102 (by omega)
  rw [e2,hs1] at this
  exact this
 have hDV : DocV w2 (fun z => PXq P w.heap.size z ∧ blockOf (.slice (some ⟨w.heap.size + 2,0,none⟩) 0 0) ≠ some z) (.slice am d.med.length cm) (.slice ar d.rep.length cr) d:=((h.imp (P':=fun z => PXq P w.heap.size z ∧ blockOf (.slice (some ⟨w.heap.size + 2,0,none⟩) 0 0) ≠ some z) (fun z hz hpz => ⟨.inl ⟨hpz,hz⟩,fun e => by simp [blockOf] at e;omega⟩)).keep hF1).keep hF2
 have HS : Hid (TellS w P w.heap.size N turn d [] (.slice (some ⟨w.heap.size + 2,0,none⟩) 0 0) (.slice am d.med.length cm) (.slice ar d.rep.length cr) w2):=Hd ⟨[],hs,hp,hX1.keep hF2,hDV,hO2,by simp,hF1.trans hF2,hR1.keep hF2⟩
 have HTE : Hid (tellR d [] = d.tell):=Hd rfl
 clear h hp hF1 hX1 hR1 e1 e2 hF2 hB2 hO2 hDV
 go_enter Tryz.func36,Tryz.ntmps36
 go_upto_region 1 with fail
 rw [E1.out]
 clear E1
 go_upto_region 2 with fail
 rw [E2.out]
 clear E2
 generalize hq : w.heap.size = q at *
 have HQE:=Hd hq
 clear hq hs1 hs2
 go_loopw [4] (fun ov wr => ∃ (d' : PkD) (outs : List (UInt16 × List UInt8)) (vm vr : Value),tellR d' outs = d.tell ∧ outs.length + d'.rep.length ≤ 1000 ∧ TellS w P q N turn d' outs ov vm vr wr) (fun _ wr => lenOf (wr.cell? ⟨q,5,none⟩))
 case atStart =>
  obtain ⟨Bo,hs',h1,-⟩:=HS.out
  exact ⟨d,[],_,_,HTE.out,by rw [h1.rep];simp;have:=h1.len;have:=h1.r;omega,HS.out⟩
 case round =>
  clear HS
  obtain ⟨d0,outs0,vm0,vr0,hte,hol,hS⟩:=hrel
  have HTE:=Hd hte;have HOL:=Hd hol;have HS0:=Hd hS
  clear hte hol hS
  obtain ⟨Bo0,hs0,hp0,hX0,hDV0,hO0,-⟩:=HS0.out
  obtain ⟨am0,cm0,ar0,cr0,rfl,rfl⟩:=hDV0.shape
  obtain ⟨ao0,co0,rfl⟩:=hO0.shape
  have x5:=hX0.cell 5
  simp only [dcc,zz7,zz8,zz9] at x5
  have HMS : Hid (lenOf (wr.cell? ⟨q,5,none⟩) = d0.rep.length):=Hd (by rw [x5];rfl)
  clear hp0 hX0 hDV0 hO0
  go_upto_region 5 with fail
  go_loopw [4,5,6,7] (fun ov tv av lv wx => ∃ (d' : PkD) (vis rest : List Rep_) (rout : List (UInt16 × List UInt8)) (vm vr : Value),tv = .int .i64 rout.length ∧ av = .int .i64 vis.length ∧ lv = .int .i64 rest.length ∧ DInv d0 d' vis rest rout ∧ rout.length + vis.length + rest.length ≤ d0.rep.length ∧ TellS w P q N turn d' (outs0 ++ rout) ov vm vr wx) (fun _ _ _ lv _ => (Go.RowKit.intOf lv).toNat)
  case atStart => exact ⟨d0,[],d0.rep,[],_,_,rfl,rfl,rfl,DInv.start d0,by simp,by rw [List.append_nil];exact HS0.out⟩
  case round =>
   clear HS0
   obtain ⟨d',vis,rest,rout,vm,vr,rfl,rfl,rfl,hdi,hln,hS⟩:=hrel
   have HDI:=Hd hdi;have HLN:=Hd hln;have HS:=Hd hS
   obtain ⟨Bo,hs',hp,hX,hDV,hO,hBo,hFw,hX2⟩:=hS
   obtain ⟨am,cm,ar,cr,rfl,rfl⟩:=hDV.shape
   obtain ⟨ao,co,rfl⟩:=hO.shape
   rw [List.length_map,List.length_append] at hO hDV HS
   rw [List.length_map,List.length_append]
   have HX:=Hd hX;have HDV:=Hd hDV;have HP:=Hd hp;have HO:=Hd hO;have HBO:=Hd hBo;have HFW:=Hd hFw;have HX2:=Hd hX2
   have hrl : d'.rep.length = vis.length + rest.length:=by rw [hdi.1,List.length_append]
   have hol:=HOL.out
   have x5:=hX.cell 5
   simp only [dcc,zz7,zz8,zz9] at x5
   rw [hrl] at x5
   clear hdi hp hX hDV hO hBo hFw hX2
   cases rest with
   | nil =>
    have HRD:=Hd HDI.out.done
    rw [List.length_nil] at x5 ⊢
    have HRL:=Hd hrl
    clear hrl
    by_cases hr0 : rout = []
    ·subst hr0
     have HST : Hid (d.tell = (d',outs0)):=Hd (by rw [← HTE.out,tellR_stop (d:=d0) (by rw [HRD.out]),HRD.out])
     rw [List.append_nil] at HO HS
     rw [List.length_nil,Nat.add_zero] at HO HS HDV
     simp only [List.length_nil,List.append_nil,Nat.add_zero]
     go_wp2_with (first | (refine wpList_load_row_w rfl 32 (.tmp 1) rfl q rfl 32 _ _ HX.out Tryz.underlying32 rfl (by kernel_rfl) ?_) | (refine wpList_store_row rfl 32 (.tmp 2) (.tmp 118) rfl (q + 1) rfl _ (dcc d' (.slice am d'.med.length cm) (.slice ar d'.rep.length cr)) rfl 32 HX2.out (by kernel_rfl) rfl (oD _ _ _ _ _ _ _) ?_;intro w9 hY hG;have HY:=Hd hY;have HG:=Hd hG;clear hY hG))
     have hQE:=HQE.out
     have hDV9:=HDV.out.fr HG.out (fun z hz hm => by
      rw [List.mem_singleton] at hm
      rcases hz.1 with ⟨-,h1⟩ | h1 <;> omega)
     have hO9:=HO.out.fr Rep.dgr HG.out (fun z hz hm => by
      rw [List.mem_singleton] at hm
      rcases HBO.out z hz with ⟨-,h1⟩ | h1 <;> omega) (fun z hz hm => by
      rw [List.mem_singleton] at hm
      have:=(HO.out.block z hz).1
      omega)
     refine bodyPost_ret (results_row_1 rfl _ _ (q + 1) 32 _ _ rfl HY.out Tryz.underlying32 rfl (by kernel_rfl)) rfl ⟨_,_,rfl,⟨_,_,Bo,hs',by rw [HST.out],?_,?_,?_,fun z hz => ?_,fun z hz => ?_⟩,HFW.out.step HG.out (fun z hz => by rw [List.mem_singleton] at hz;exact .inr (by omega))⟩
     ·rw [HST.out]
      exact hDV9.imp (fun z _ hz => by
       rcases hz.1 with ⟨h1,-⟩ | h1
       ·exact .inl h1
       ·exact .inr (by omega))
     ·rw [HST.out];exact HP.out
     ·rw [HST.out];exact hO9.sl
     ·rcases HBO.out z hz with ⟨h1,-⟩ | h1
      ·exact .inl h1
      ·exact .inr (by omega)
     ·have:=(hO9.block z (live_block hz)).1
      omega
    ·have HST : Hid (tellR d' (outs0 ++ rout) = d.tell):=Hd (by rw [← HTE.out,tellR_more (d:=d0) (by rw [HRD.out];exact hr0),HRD.out])
     have hnz : (((rout.length : Nat) : Int) == 0) = false:=beq_eq_false_iff_ne.2 (by have:=List.length_pos_iff.2 hr0;omega)
     have HPOS : Hid (0 < rout.length):=Hd (List.length_pos_iff.2 hr0)
     clear hr0
     go_wp2_with fail
     go_roundw
     case rel => exact ⟨d',outs0 ++ rout,_,_,HST.out,by have h1:=HLN.out;have h2:=HRL.out;rw [List.length_append];simp only [List.length_nil] at h1 h2;omega,HS.out⟩
     case measure =>
      rw [HMS.out]
      have h1:=HX.out.cell 5
      simp only [dcc,zz7,zz8,zz9] at h1
      rw [h1]
      have h2:=HLN.out
      have h3:=HRL.out
      have h4:=HPOS.out
      simp only [List.length_nil] at h2 h3
      show d'.rep.length < d0.rep.length
      omega
   | cons r rest =>
    rw [List.length_cons] at x5 HLN hrl ⊢
    have HRL0:=Hd hrl
    clear hrl
    have hgp : (0 : Int) < ((rest.length + 1 : Nat) : Int):=by omega
    have hd1 : decide (((rest.length + 1 : Nat) : Int) > 0) = true:=decide_eq_true hgp
    have hd2 : decide (((vis.length : Nat) : Int) < ((vis.length + (rest.length + 1) : Nat) : Int)) = true:=decide_eq_true (by omega)
    obtain ⟨Bm,Br,hm,hr,hBm,hBr,hlm,hlr⟩:=HDV.out
    obtain ⟨b,o,c,y,B1,ea,-,hy,hR,hB1,hrg⟩:=hr.at_ Rep.rp (i:=vis.length) (by have:=HRL0.out;omega)
    subst ea
    have eyr : y = r:=by
     rw [HDI.out.1,List.getElem?_append_right (Nat.le_refl _),Nat.sub_self] at hy
     simpa using hy.symm
    subst eyr
    obtain ⟨vb3,rfl,hby,rfl⟩:=hR
    obtain ⟨a3,n3,c3,rfl⟩:=Sl.isSlice hby
    have HRG:=Hd hrg;have HBY:=Hd hby
    have HMM:=Hd hm;have HRR:=Hd hr;have HBM:=Hd hBm;have HBR:=Hd hBr;have HLMM:=Hd hlm;have HLRR:=Hd hlr
    have HLV3 : Hid (∀ z,liveOf (.slice a3 n3 c3) = some z → PXq P q z):=Hd (fun z hz => (hBr z (hB1 z (mem_toList.2 hz))).1)
    obtain ⟨yh,hyh,hyr⟩ : ∃ yh ∈ hs',yh.1 = y:=by
     have h1 : y ∈ d'.rep:=by rw [HDI.out.1];simp
     rw [HP.out.rep] at h1
     obtain ⟨yh,h2,h3⟩:=List.mem_map.1 h1
     exact ⟨yh,h2,h3⟩
    have HBS : Hid (y.bt.body.length ≤ 1099511627776):=Hd (by have:=HP.out.rsz yh hyh;rw [hyr] at this;omega)
    have HTO : Hid (∀ zs zb,oneL d'.has d'.ss y = (zs,zb,0) → isPk d'.ss zs zb ∧ zb.length ≤ 1000000 ∧ d'.old (d'.peek zs) = false ∧ d'.has zs = none):=Hd (fun zs zb e => HP.out.told hyh (by rw [hyr];exact e))
    have HI:=Hd (HP.out.bd (by omega));have HW:=Hd HP.out.w
    have HML : Hid (d'.med.length ≤ 1000):=Hd (by have h1:=HP.out.medlen;have h2:=HP.out.w;omega)
    have HOP : Hid (oneL (findL (d'.pks y)) d'.ss y = oneL d'.has d'.ss y):=Hd (one_pks HP.out.good d'.ss y)
    clear hm hr hy hB1 hrg hby hBm hBr hlm hlr hyh hyr
    go_upto_region 8 with (first | (refine wpList_load_midA rfl 38 (.tmp 37) rfl b (o + vis.length * 12) rfl (rpc y (.slice a3 n3 c3)) _ HRG.out Tryz.underlying38 rfl (by kernel_rfl) ?_) | (refine wpList_store_row rfl 38 (.tmp 8) (.tmp 38) rfl wr.heap.size rfl #[.int .u8 0,.int .u8 0,.int .u8 0,.int .u8 0,.int .u8 0,.int .u8 0,.int .u8 0,.int .u8 0,.int .u16 0,.int .u64 0,.int .u64 0,.slice none 0 0] (rpc y (.slice a3 n3 c3)) rfl 38 (Box.new wr 38 #[.int .u8 0,.int .u8 0,.int .u8 0,.int .u8 0,.int .u8 0,.int .u8 0,.int .u8 0,.int .u8 0,.int .u16 0,.int .u64 0,.int .u64 0,.slice none 0 0]) (by kernel_rfl) rfl (by intro u hu;simp only [rpc,List.mem_cons,List.not_mem_nil,or_false] at hu;rcases hu with rfl | rfl | rfl | rfl | rfl | rfl | rfl | rfl | rfl | rfl | rfl | rfl <;> rfl) ?_;intro w3 hY hG;have hFn:=((Fr.refl [] wr).alloc _).step hG (by simp);have HFn:=Hd hFn;have H8:=Hd hY;clear hG hFn hY))
    have hF:=HFn.out
    have HW3 : Hid (wr.heap.size ≤ w3.heap.size):=Hd hF.size
    have HVOG : Hid (∀ z,blockOf (.slice ao (outs0.length + rout.length) co) = some z → q + 2 ≤ z ∧ z < wr.heap.size):=Hd HO.out.block
    have HQ2G : Hid (q + 2 ≤ wr.heap.size):=Hd (by have:=HX2.out.lt;omega)
    generalize hg8 : wr.heap.size = g8 at *
    have HG8E:=Hd hg8
    have HQG : Hid (q < g8):=Hd (by have h1:=HX.out.lt;omega)
    have HS:=Hd (HS.out.keep hF);have HX:=Hd (HX.out.keep hF);have HDV:=Hd (HDV.out.keep hF);have HBY:=Hd (Sl.keep HBY.out hF)
    clear hF HFn hg8
    refine wp_region_T (fun w' => Fr [] w3.drew w') [] 14 #[false,false,false,false,false,false,false,false,false,false,false,false,false,false] (by as_aux_lemma => kernel_rfl) rfl rfl ?_
    try simp only [List.append_eq,List.cons_append,List.nil_append]
    have hF:=(Fr.refl [] w3).drew
    have HS:=Hd (HS.out.keep hF);have HX:=Hd (HX.out.keep hF);have H8:=Hd (H8.out.keep hF);have HDV:=Hd (HDV.out.keep hF);have HBY:=Hd (Sl.keep HBY.out hF)
    clear hF
    have HWQ0 : Hid (g8 ≤ w3.drew.heap.size):=Hd HW3.out
    have HSS : Hid (Fr [] w3.drew w3.drew):=Hd (Fr.refl _ _)
    generalize w3.drew = wd at *
    have HWQ : Hid (g8 ≤ wd.heap.size):=Hd HWQ0.out
    have X0 : Hid (wd.cell? ⟨q,0,none⟩ = some (.int .u32 (d'.ss.toNat : Nat))):=Hd (by rw [HX.out.cell];rfl)
    have HX0:=HX;have H80:=H8
    refine wL 0 ?_ rfl (by as_aux_lemma => kernel_rfl) (fun _ _ _ h => h) HSS.out (by rfl) ?_ ?_
    rotate_left
    ·intro w' hSw;refine run_load_row 38 (.tmp 8) ?_ g8 ?_ 38 _ _ (H80.out.keep hSw) Tryz.underlying38 rfl (by as_aux_lemma => kernel_rfl) <;> rfl
    simp only [Act.put,zz1,zz2,zz3,zz4,zz5,zz6]
    refine wL 1 ?_ rfl (by as_aux_lemma => kernel_rfl) (fun _ _ _ h => h) HSS.out (by rfl) ?_ ?_
    rotate_left
    ·intro w hSw;have n0:=hSw.cellSome X0.out (by simp);go_simp;try with_reducible rfl
    simp only [Act.put,zz1,zz2,zz3,zz4,zz5,zz6]
    refine wL 2 ?_ rfl (by as_aux_lemma => kernel_rfl) (fun _ _ _ h => h) HSS.out (by rfl) ?_ ?_
    rotate_left
    ·intro w hSw;have n0:=hSw.cellSome X0.out (by simp);go_simp;try with_reducible rfl
    simp only [Act.put,zz1,zz2,zz3,zz4,zz5,zz6]
    refine wL 3 ?_ rfl (by as_aux_lemma => kernel_rfl) (fun _ _ _ h => h) HSS.out (by rfl) ?_ ?_
    rotate_left
    ·intro w' hSw;refine run_load_row 32 (.tmp 1) ?_ q ?_ 32 _ _ (HX0.out.keep hSw) Tryz.underlying32 rfl (by as_aux_lemma => kernel_rfl) <;> rfl
    simp only [Act.put,zz1,zz2,zz3,zz4,zz5,zz6]
    refine wL 4 ?_ rfl (by as_aux_lemma => kernel_rfl) (fun _ _ _ h => h) HSS.out (by rfl) ?_ ?_
    rotate_left
    ·intro w' hSw;refine run_load_row 38 (.tmp 8) ?_ g8 ?_ 38 _ _ (H80.out.keep hSw) Tryz.underlying38 rfl (by as_aux_lemma => kernel_rfl) <;> rfl
    simp only [Act.put,zz1,zz2,zz3,zz4,zz5,zz6]
    refine wpAnyT_one (i:=5) (by as_aux_lemma => kernel_rfl) rfl (fun K hK => ?_)
    rw [if_pos (by rfl)]
    go_simp
    refine (r16packets_any HDV.out HI.out HML.out y a3 n3 c3 HBY.out).mono ?_
    rintro e wq ⟨vp,rfl,hvp,hF⟩
    obtain ⟨ap,cp,rfl⟩:=hvp.shape
    have HVP:=Hd hvp
    have HSS:=Hd (HSS.out.trans hF)
    have HS:=Hd (HS.out.keep hF);have HX:=Hd (HX.out.keep hF);have H8:=Hd (H8.out.keep hF);have HDV:=Hd (HDV.out.keep hF);have HBY:=Hd (Sl.keep HBY.out hF)
    clear hF hvp
    go_simp
    refine hK.out _ _ (fun _ => HSS.out) ?_
    clear hK K
    simp only [Act.put,zz1,zz2,zz3,zz4,zz5,zz6]
    refine wpAnyT_one (i:=6) (by as_aux_lemma => kernel_rfl) rfl (fun K hK => ?_)
    rw [if_pos (by rfl)]
    go_simp
    refine (r14One_own (r:=y) ⟨_,rfl,HBY.out⟩ HBS.out d'.ss HVP.out).mono ?_
    rw [HOP.out]
    rintro e wq2 ⟨v9,rfl,hv9,hl9,hF⟩
    obtain ⟨a9,n9,c9,rfl⟩:=Sl.isSlice hv9
    have HV9:=Hd hv9;have HL9 : Hid (∀ y,liveOf (.slice a9 n9 c9) = some y → g8 ≤ y):=Hd (fun y hy => by have h1:=hl9 y hy;have h2:=HWQ.out;have h3:=HSS.out.size;omega)
    have HSS:=Hd (HSS.out.trans hF)
    have HS:=Hd (HS.out.keep hF);have HX:=Hd (HX.out.keep hF);have H8:=Hd (H8.out.keep hF);have HDV:=Hd (HDV.out.keep hF);have HBY:=Hd (Sl.keep HBY.out hF)
    clear hF hv9 hl9
    go_simp
    refine hK.out _ _ (fun _ => HSS.out) ?_
    clear hK K
    simp only [Act.put,zz1,zz2,zz3,zz4,zz5,zz6]
    refine wL 7 ?_ rfl (by as_aux_lemma => kernel_rfl) (fun _ _ _ h => h) HSS.out (by rfl) ?_ ?_
    rotate_left
    ·intro w hSw;go_simp;try with_reducible rfl
    simp only [Act.put,zz1,zz2,zz3,zz4,zz5,zz6]
    refine wL 8 ?_ rfl (by as_aux_lemma => kernel_rfl) (fun _ _ _ h => h) HSS.out (by rfl) ?_ ?_
    rotate_left
    ·intro w hSw;go_simp;try with_reducible rfl
    simp only [Act.put,zz1,zz2,zz3,zz4,zz5,zz6]
    refine wL 9 ?_ rfl (by as_aux_lemma => kernel_rfl) (fun _ _ _ h => h) HSS.out (by rfl) ?_ ?_
    rotate_left
    ·intro w hSw;go_simp;try with_reducible rfl
    simp only [Act.put,zz1,zz2,zz3,zz4,zz5,zz6]
    refine wL 10 ?_ rfl (by as_aux_lemma => kernel_rfl) (fun _ _ _ h => h) HSS.out (by rfl) ?_ ?_
    rotate_left
    ·intro w hSw;go_simp;try with_reducible rfl
    simp only [Act.put,zz1,zz2,zz3,zz4,zz5,zz6]
    refine wL 11 ?_ rfl (by as_aux_lemma => kernel_rfl) (fun _ _ _ h => h) HSS.out (by rfl) ?_ ?_
    rotate_left
    ·intro w hSw;go_simp;try with_reducible rfl
    simp only [Act.put,zz1,zz2,zz3,zz4,zz5,zz6]
    refine wL 12 ?_ rfl (by as_aux_lemma => kernel_rfl) (fun _ _ _ h => h) HSS.out (by rfl) ?_ ?_
    rotate_left
    ·intro w hSw;go_simp;try with_reducible rfl
    simp only [Act.put,zz1,zz2,zz3,zz4,zz5,zz6]
    refine wL 13 ?_ rfl (by as_aux_lemma => kernel_rfl) (fun _ _ _ h => h) HSS.out (by rfl) ?_ ?_
    rotate_left
    ·intro w hSw;go_simp;try with_reducible rfl
    simp only [Act.put,zz1,zz2,zz3,zz4,zz5,zz6]
    refine wpAnyT_done (by as_aux_lemma => kernel_rfl) ?_ _
    have HSSZ : Hid (wd.heap.size ≤ wq2.heap.size):=Hd HSS.out.size
    clear HSS X0 HX0 H80
    have HD41 : Hid ((oneL d'.has d'.ss y).2.2 = 41 → DInv d0 d' (vis ++ [y]) rest rout):=Hd (fun e => HDI.out.less e)
    have HDER : Hid ((oneL d'.has d'.ss y).2.2 ≠ 41 → (oneL d'.has d'.ss y).2.2 ≠ 0 → DInv d0 { d' with rep:=vis ++ rest } vis rest rout):=Hd (fun e1 e2 => HDI.out.err e1 e2)
    have HDOK : Hid (∀ zs zb,oneL d'.has d'.ss y = (zs,zb,0) → DInv d0 (({ d' with rep:=vis ++ rest } : PkD).put zs zb) (vis.filter fun x => !(d'.add zs zb).lost x) (rest.filter fun x => !(d'.add zs zb).lost x) (rout ++ [(zs,zb)])):=Hd (fun zs zb e => HDI.out.ok e)
    have HWS : Hid (g8 ≤ wq2.heap.size):=Hd (by have h1:=HWQ.out;have h2:=HSSZ.out;omega)
    generalize oneL d'.has d'.ss y = z at *
    obtain ⟨zs,zb,ze⟩:=z
    dsimp only at HV9 ⊢
    dsimp only at HD41 HDER
    by_cases h41 : ze = 41
    ·have HDN:=Hd (HD41.out h41)
     subst h41
     have h1:=HLN.out
     have hw : wrap64 ((rest.length : Nat) : Int) = ((rest.length : Nat) : Int):=IntWalk.wrap64_in _ (by omega)
     go_wp2_with fail
     go_roundw
     case rel =>
      refine ⟨d',vis ++ [y],rest,rout,_,_,rfl,?_,?_,HDN.out,by simp only [List.length_append,List.length_singleton];omega,HS.out⟩
      ·simp
      ·first | rw [hw] | (simp;omega) | go_num
     case measure =>
      show (((rest.length : Nat) : Int)).toNat < (((rest.length + 1 : Nat) : Int)).toNat
      omega
    have h41b : (ze == 41) = false:=beq_eq_false_iff_ne.2 h41
    obtain ⟨Bm,Br,hm,hr,hBm,hBr,hlm,hlr⟩:=HDV.out
    obtain ⟨Bv,hv1,hv2⟩:=hr.pre Rep.rp vis.length (by have:=HRL0.out;omega)
    obtain ⟨Bt,ht1,ht2⟩:=hr.part Rep.rp (vis.length + 1) rest.length (by have:=HRL0.out;omega)
    have hcap:=(hr.len).2.1
    have hev : d'.rep.take vis.length = vis:=by rw [HDI.out.1];simp
    have het : (d'.rep.drop (vis.length + 1)).take rest.length = rest:=by rw [HDI.out.1];simp
    rw [hev] at hv1
    rw [het] at ht1
    simp only [Option.map_some,Addr.add_mid] at ht1
    obtain ⟨qa,hqa⟩ : ∃ qa,(if cr = vis.length + 1 then some (⟨b,o,none⟩ : Addr) else some ⟨b,o + (vis.length + 1) * 12,none⟩) = qa:=⟨_,rfl⟩
    rw [hqa] at ht1
    have HSV:=Hd hv1;have HST2:=Hd ht1
    have HMM:=Hd hm;have HBM:=Hd hBm;have HBR:=Hd hBr;have HLMM:=Hd hlm
    have HBV : Hid (∀ z ∈ Bv,PXq P q z ∧ blockOf (.slice ao (outs0.length + rout.length) co) ≠ some z):=Hd (fun z hz => hBr z (hv2 z hz))
    have HBT : Hid (∀ z ∈ Bt,PXq P q z ∧ blockOf (.slice ao (outs0.length + rout.length) co) ≠ some z):=Hd (fun z hz => hBr z (ht2 z hz))
    obtain ⟨w5,e5,hF5,hB5,hs5⟩:=one_new wq2 #[] 38
    have E5:=Hd e5
    have HA0 : Hid (OwnEls 12 RpR w5 wq2.heap.size 38 (.slice (some ⟨wq2.heap.size,0,none⟩) 0 0) [] []):=Hd (by rw [← e5];exact OwnEls.made wq2 wq2.heap.size 38 (Nat.le_refl _))
    have HSV5:=Hd (hv1.keep Rep.rp hF5);have HST5:=Hd (ht1.keep Rep.rp hF5)
    have HF5:=Hd hF5
    have HDJ1 : Hid (∀ z,blockOf (.slice (some ⟨wq2.heap.size,0,none⟩) 0 0) = some z → z ∉ Bv):=Hd (fun z hz hm => by
     have h1:=(hv1.lt Rep.rp).1 z hm
     simp [blockOf] at hz
     omega)
    have HTLT : Hid (∀ z ∈ Bt,z < wq2.heap.size):=Hd (fun z hz => (ht1.lt Rep.rp).1 z hz)
    have HLA1 : Hid (([] : List Rep_).length + vis.length ≤ maxLen):=Hd (by have h1:=HLN.out;unfold maxLen;simp;omega)
    have HLA2 : Hid ((([] : List Rep_).length + vis.length) * 56 ≤ 140737488355328):=Hd (by have h1:=HLN.out;simp;omega)
    have HLB1 : Hid (([] ++ vis).length + rest.length ≤ maxLen):=Hd (by have h1:=HLN.out;unfold maxLen;simp;omega)
    have HLB2 : Hid ((([] ++ vis).length + rest.length) * 56 ≤ 140737488355328):=Hd (by have h1:=HLN.out;simp;omega)
    have HZ5 : Hid (wq2.heap.size ≤ w5.heap.size):=Hd hF5.size
    obtain ⟨nl,hnl⟩ : ∃ nl,d'.rep.length = nl:=⟨_,rfl⟩
    have HNL:=Hd hnl
    have x5 : wq2.cell? ⟨q,5,none⟩ = some (.slice (some ⟨b,o,none⟩) nl cr):=by
     have h1:=HX.out.cell 5
     simp only [dcc,zz7,zz8,zz9] at h1
     rw [h1,hnl]
    have hnl2 : nl = vis.length + (rest.length + 1):=by rw [← hnl];exact HRL0.out
    subst hnl2
    rw [hnl] at hcap
    clear e5 hF5 hB5 hs5 hm hr hBm hBr hlm hlr hv1 hv2 ht1 ht2 hev het hnl
    go_upto_region 13 with fail
    clear hqa
    rw [show vis.length + (rest.length + 1) - (vis.length + 1) = rest.length by omega]
    have HXQ:=Hd (HX.out.keep HF5.out)
    go_upto_region 14 with fail
    rw [E5.out]
    clear E5 x5
    generalize hB5 : wq2.heap.size = B5 at *
    have HB5E:=Hd hB5
    clear hB5
    go_upto_region 15 with (at_builtin;go_loud (refine wpList_append_elsN Rep.rp (by decide) rfl (.tmp 64) (.tmp 65) 30 rfl B5 38 (.agg #[.int .u8 0,.int .u8 0,.int .u8 0,.int .u8 0,.int .u8 0,.int .u8 0,.int .u8 0,.int .u8 0,.int .u16 0,.int .u64 0,.int .u64 0,.slice none 0 0]) 56 Tryz.underlying30 info_rep rfl (.slice (some ⟨B5,0,none⟩) 0 0) [] [] rfl HA0.out (some ⟨b,o,none⟩) vis.length cr rfl vis Bv HSV5.out HDJ1.out HLA1.out HLA2.out HZ5.out ?_;intro v6 w6 hown6 hfr6 hv6;obtain ⟨a6,c6,ev6⟩:=hown6.shape;rw [List.nil_append] at ev6;subst ev6;have HO6:=Hd hown6;have HF6:=Hd hfr6;have HV6:=Hd hv6;clear hown6 hfr6 hv6))
    have HF56 : Hid (Fr [] wq2 w6):=Hd (HF5.out.step HF6.out (fun z hz => .inr (by simp [blockOf] at hz;have:=HB5E.out;omega)))
    have HST6:=Hd (HST5.out.fr Rep.rp HF6.out (fun z hz hm => by simp [blockOf] at hm;have:=HTLT.out z hz;omega) (fun z hz hm => by
     simp [blockOf] at hm
     have h1:=(HST2.out.lt Rep.rp).2 z hz
     have h2:=HB5E.out
     omega))
    have HBK6 : Hid (∀ z,blockOf (.slice a6 vis.length c6) = some z → B5 ≤ z):=Hd (fun z hz => by
     rcases HV6.out z hz with h1 | h1
     ·simp [blockOf] at h1;omega
     ·have:=HZ5.out;omega)
    have HDJ2 : Hid (∀ z,blockOf (.slice a6 vis.length c6) = some z → z ∉ Bt):=Hd (fun z hz hm => by have h1:=HTLT.out z hm;have h2:=HBK6.out z hz;omega)
    have HZ6 : Hid (B5 ≤ w6.heap.size):=Hd (Nat.le_trans HZ5.out HF6.out.size)
    have HXR:=Hd (HX.out.keep HF56.out)
    have hqlt : q < B5:=by have h1:=HX.out.lt;have h2:=HB5E.out;omega
    have HQLT:=Hd hqlt
    have HLV2 : Hid (([] ++ vis ++ rest).length = vis.length + rest.length):=Hd (by simp)
    clear hqlt
    go_upto_region 16 with (at_builtin;go_loud (refine wpList_append_elsN Rep.rp (by decide) rfl (.tmp 67) (.tmp 68) 30 rfl B5 38 (.agg #[.int .u8 0,.int .u8 0,.int .u8 0,.int .u8 0,.int .u8 0,.int .u8 0,.int .u8 0,.int .u8 0,.int .u16 0,.int .u64 0,.int .u64 0,.slice none 0 0]) 56 Tryz.underlying30 info_rep rfl (.slice a6 vis.length c6) ([] ++ vis) ([] ++ Bv) rfl HO6.out qa rest.length (cr - (vis.length + 1)) rfl rest Bt HST6.out HDJ2.out HLB1.out HLB2.out HZ6.out ?_;intro v7 w7 hown7 hfr7 hv7;obtain ⟨a7,c7,ev7⟩:=hown7.shape;rw [HLV2.out] at ev7;subst ev7;have HX7:=Hd (HXR.out.fr hfr7 (fun hm => by have h1:=HBK6.out _ (mem_toList.1 hm);have h2:=HQLT.out;omega));have x5b:=HX7.out.cell 5;have f5b:=HX7.out.free 5;simp only [dcc,zz7,zz8,zz9] at x5b;obtain ⟨w8,e8,hF8,hB8,hs8⟩:=set_new HX7.out 5 (.slice a7 (vis.length + rest.length) c7);have HO7:=Hd hown7;have HF7:=Hd hfr7;have HV7:=Hd hv7;have E8:=Hd e8;have HF8:=Hd hF8;have HB8:=Hd hB8;clear hown7 hfr7 hv7 e8 hF8 hB8 hs8))
    rw [E8.out]
    clear E8 x5b f5b
    have HDE : Hid (DocV w8 (fun z => PXq P q z ∧ blockOf (.slice ao (outs0.length + rout.length) co) ≠ some z) (.slice am d'.med.length cm) (.slice a7 (vis.length + rest.length) c7) { d' with rep:=vis ++ rest }):=Hd (by
     have hf57 : Fr [] wq2 w7:=HF56.out.step HF7.out (fun z hz => .inr (by have h1:=HBK6.out z (mem_toList.1 hz);have h2:=HB5E.out;omega))
     have hb7 : ∀ z,blockOf (.slice a7 (vis.length + rest.length) c7) = some z → B5 ≤ z:=fun z hz => by
      rcases HV7.out z hz with h1 | h1
      ·exact HBK6.out z h1
      ·have:=HZ6.out;omega
     have hvo:=HS.out.vo
     have hq2 : q + 2 ≤ B5:=by
      obtain ⟨_,_,_,_,_,_,_,_,h7⟩:=HS.out
      have:=h7.lt
      have:=HB5E.out
      omega
     have hne : ∀ z,PXq P q z → z ∉ [q]:=fun z hz hm => by
      rw [List.mem_singleton] at hm
      rcases hz with ⟨-,k⟩ | k <;> omega
     have hve : ∀ z,B5 ≤ z → PXq P q z ∧ blockOf (.slice ao (outs0.length + rout.length) co) ≠ some z:=fun z hz => ⟨.inr (by omega),fun e => by have h1:=(hvo z e).2;have h2:=HB5E.out;omega⟩
     refine ⟨Bm,_,(HMM.out.keep Rep.oneP hf57).fr Rep.oneP HF8.out (fun z hz => hne z (HBM.out z hz).1) (fun z hz => hne z (HLMM.out z hz).1),(HO7.out.fr Rep.rp HF8.out (fun z hz hm => ?_) (fun z hz hm => ?_)).sl,HBM.out,fun z hz => ?_,HLMM.out,fun z hz => hve z (hb7 z (live_block hz))⟩
     ·rcases List.mem_append.1 hz with hz | hz
      ·rcases List.mem_append.1 hz with hz | hz
       ·cases hz
       ·exact hne z (HBV.out z hz).1 hm
      ·exact hne z (HBT.out z hz).1 hm
     ·rw [List.mem_singleton] at hm
      have h1:=hb7 z hz
      have h2:=HQLT.out
      omega
     ·rcases List.mem_append.1 hz with hz | hz
      ·rcases List.mem_append.1 hz with hz | hz
       ·cases hz
       ·exact HBV.out z hz
      ·exact HBT.out z hz)
    have HF57 : Hid (Fr [] wq2 w7):=Hd (HF56.out.step HF7.out (fun z hz => .inr (by have h1:=HBK6.out z (mem_toList.1 hz);have h2:=HB5E.out;omega)))
    obtain ⟨hsE,hpE⟩:=HP.out.less HDI.out.1
    have HPE:=Hd hpE
    have HSE : Hid (TellS w P q (N - 1) turn { d' with rep:=vis ++ rest } (outs0 ++ rout) (.slice ao (outs0.length + rout.length) co) (.slice am d'.med.length cm) (.slice a7 (vis.length + rest.length) c7) w8):=Hd (HS.out.next HQE.out HF57.out HF8.out hpE HB8.out HDE.out)
    have HSEN : Hid (TellS w P q N turn { d' with rep:=vis ++ rest } (outs0 ++ rout) (.slice ao (outs0.length + rout.length) co) (.slice am d'.med.length cm) (.slice a7 (vis.length + rest.length) c7) w8):=Hd (HS.out.next HQE.out HF57.out HF8.out (hpE.mono (Nat.sub_le _ _)) HB8.out HDE.out)
    have HN1 : Hid (1 ≤ N):=Hd (by
     obtain ⟨K,k1,k2⟩:=HP.out.hi
     have h1:=congrArg List.length HP.out.rep
     rw [HDI.out.1] at h1
     simp at h1
     omega)
    have HV98 : Hid (Bytes w8 (.slice a9 n9 c9) zb):=Hd (Sl.frL (Sl.keep HV9.out HF57.out) HF8.out (fun z hz hm => by rw [List.mem_singleton] at hm;have h1:=HL9.out z hz;have h2:=HX.out.lt;have h3:=HG8E.out;have h4:=HQG.out;omega))
    clear hpE HO6 HF6 HV6 HST6 HBK6 HDJ2 HZ6 HXR HO7 HF7 HV7 HX7 HA0 HSV5 HST5 HSV HST2 HMM HBM HBR HLMM HBV HBT HDJ1 HTLT HLA1 HLA2 HLB1 HLB2 HF5 HF56 HXQ HDV HRR HLRR HLV3
    have hln2:=HLN.out
    have hw : wrap64 ((rest.length : Nat) : Int) = ((rest.length : Nat) : Int):=IntWalk.wrap64_in _ (by omega)
    by_cases h0 : ze = 0
    rotate_left
    ·have HDN:=Hd (HDER.out h41 h0)
     have h0b : (ze == 0) = false:=beq_eq_false_iff_ne.2 h0
     have h0c : (ze != 0) = true:=by simpa using h0
     clear h0
     go_wp2_with fail
     go_roundw
     case rel =>
      refine ⟨_,vis,rest,rout,_,_,rfl,rfl,?_,HDN.out,by omega,HSEN.out⟩
      ·first | rw [hw] | (simp;omega) | go_num
     case measure =>
      show (((rest.length : Nat) : Int)).toNat < (((rest.length + 1 : Nat) : Int)).toNat
      omega
    subst h0
    have HXE : Hid (Box w8 q 32 (dcc { d' with rep:=vis ++ rest } (.slice am d'.med.length cm) (.slice a7 (vis.length + rest.length) c7))):=HB8
    have HT:=Hd (HTO.out zs zb rfl)
    have HDN:=Hd (HDOK.out zs zb rfl)
    have HG88 : Hid (g8 ≤ w8.heap.size):=Hd (by have h1:=HF8.out.size;have h2:=HF57.out.size;have h5:=HWS.out;have h6:=HB5E.out;omega)
    have HBE : Hid (∀ h,(({ d' with rep:=vis ++ rest } : PkD).note (({ d' with rep:=vis ++ rest } : PkD).peek zs)).hi = some h → 40000 ≤ h ∧ h ≤ 4611686018427300000):=Hd (by
     obtain ⟨K,k1,k2⟩:=HP.out.hi
     exact (k1.note zs).bd (by omega))
    have HPX : Hid (PkP (({ d' with rep:=vis ++ rest } : PkD).put zs zb) (hsE.filter fun y => !(({ d' with rep:=vis ++ rest } : PkD).add zs zb).lost y.1) turn N):=Hd (by
     have h1:=HPE.out.put (s:=zs) (b:=zb) HT.out.1 HT.out.2.1 HT.out.2.2.1 HT.out.2.2.2
     have h2:=HN1.out
     have h3 : N - 1 + 1 = N:=by omega
     rw [h3] at h1
     exact h1)
    have HXL : Hid (∀ x,(({ d' with rep:=vis ++ rest } : PkD).put zs zb).lost x = (d'.add zs zb).lost x):=Hd (fun x => rfl)
    have HXN : Hid ((({ d' with rep:=vis ++ rest } : PkD).put zs zb).rep = (vis.filter fun x => !(d'.add zs zb).lost x) ++ (rest.filter fun x => !(d'.add zs zb).lost x)):=Hd HDN.out.1
    have x5:=HXE.out.cell 5
    simp only [dcc,zz7,zz8,zz9] at x5
    clear HTO HDOK HD41 HDER HB8
    go_upto_region 19 with fail
    clear x5
    go_wp2_with (refine wpList_load_row_w rfl 32 (.tmp 1) rfl q rfl 32 _ _ HXE.out Tryz.underlying32 rfl (by kernel_rfl) ?_)
    refine (r16put_any (Pv:=fun z => g8 ≤ z) HDE.out HI.out (by have h1:=HP.out.medlen;have h2:=HP.out.w;show d'.med.length ≤ 900;omega) (by have h1:=congrArg List.length HPE.out.rep;have h2:=HPE.out.len;have h3:=HPE.out.r;rw [List.length_map] at h1;omega) HW.out zs HBE.out (note_self HP.out.w1 HT.out.2.2.1) HV98.out HL9.out).mono ?_
    rintro e w9 ⟨vd,rfl,⟨vm9,vr9,rfl,hD9⟩,hF⟩
    obtain ⟨am9,cm9,ar9,cr9,rfl,rfl⟩:=hD9.shape
    have HD9:=Hd hD9
    have HF9:=Hd hF
    have HXE:=Hd (HXE.out.keep hF);have HDE:=Hd (HDE.out.keep hF);have HSE:=Hd (HSE.out.keep hF);have HV99:=Hd (Sl.keep HV98.out hF)
    clear hD9 hF
    generalize hxx : (({ d' with rep:=vis ++ rest } : PkD).put zs zb) = xd at *
    have HXX:=Hd hxx
    clear hxx
    go_upto_region 20 with (refine wpList_store_row rfl 32 (.tmp 17) (.tmp 79) rfl w9.heap.size rfl #[.int .u32 0,.int .i64 0,.int .i64 0,.int .i64 0,.slice none 0 0,.slice none 0 0] (dcc xd (.slice am9 xd.med.length cm9) (.slice ar9 xd.rep.length cr9)) rfl 32 (Box.new w9 32 #[.int .u32 0,.int .i64 0,.int .i64 0,.int .i64 0,.slice none 0 0,.slice none 0 0]) (by kernel_rfl) rfl (oD _ _ _ _ _ _ _) ?_;intro w10 hY hG;have hFn:=((Fr.refl [] w9).alloc _).step hG (by simp);have HFn:=Hd hFn;have H17:=Hd hY;clear hG hFn hY)
    have hF:=HFn.out
    have HXE:=Hd (HXE.out.keep hF);have HDE:=Hd (HDE.out.keep hF);have HSE:=Hd (HSE.out.keep hF);have HV99:=Hd (Sl.keep HV99.out hF);have HD9:=Hd (HD9.out.keep hF)
    have HZ89 : Hid (w8.heap.size ≤ w9.heap.size):=Hd HF9.out.size
    generalize w9.heap.size = g17 at *
    clear hF HFn
    obtain ⟨BmE,BrE,-,hrE,-,hBrE,-,-⟩:=HDE.out
    have HRE:=Hd hrE
    clear hrE hBrE
    have HMX : Hid (xd.med.length ≤ 1000):=Hd (by have h1:=HPX.out.medlen;have h2:=HPX.out.w;omega)
    have HIX:=Hd (HPX.out.bd (by omega));have HWX:=Hd HPX.out.w
    have HXL : Hid (∀ x,xd.lost x = (d'.add zs zb).lost x):=HXL
    go_upto_region 21 with fail
    go_loopw [16,18] (fun kv iv wx => ∃ i : Nat,i ≤ vis.length ∧ iv = .int .i64 i ∧ kv = .int .i64 (((vis.take i).filter fun x => !(d'.add zs zb).lost x).length : Nat) ∧ Fr [] w10 wx) (fun _ iv _ => vis.length - (Go.RowKit.intOf iv).toNat)
    case atStart => exact ⟨0,Nat.zero_le _,rfl,rfl,Fr.refl _ _⟩
    case round =>
     obtain ⟨i,hi,rfl,rfl,hF⟩:=hrel
     have HXE:=Hd (HXE.out.keep hF);have HSE:=Hd (HSE.out.keep hF);have HV99:=Hd (Sl.keep HV99.out hF);have HD9:=Hd (HD9.out.keep hF);have H17:=Hd (H17.out.keep hF);have HRE:=Hd (HRE.out.keep Rep.rp hF);have HFL:=Hd hF
     clear hF
     have HKL : Hid (((vis.take i).filter fun x => !(d'.add zs zb).lost x).length ≤ i):=Hd (by
      have h1:=List.length_filter_le (fun x => !(d'.add zs zb).lost x) (vis.take i)
      rw [List.length_take] at h1
      omega)
     obtain ⟨kk,hkk⟩ : ∃ kk,((vis.take i).filter fun x => !(d'.add zs zb).lost x).length = kk:=⟨_,rfl⟩
     have HKK:=Hd hkk
     rw [hkk] at HKL
     rw [hkk]
     clear hkk
     have hkl:=HKL.out
     by_cases hlt : i < vis.length
     ·have HLTI:=Hd hlt
      have hil : ((i : Nat) : Int) < ((vis.length : Nat) : Int) + ((rest.length : Nat) : Int):=by omega
      go_upto_region 23 with fail
      refine wp_region_T (fun w' => Fr [] wr.drew w') [] 8 #[false,false,false,false,false,false,false,false] (by as_aux_lemma => kernel_rfl) rfl rfl ?_
      try simp only [List.append_eq,List.cons_append,List.nil_append]
      have hF:=(Fr.refl [] wr).drew
      have HXE:=Hd (HXE.out.keep hF);have HSE:=Hd (HSE.out.keep hF);have HV99:=Hd (Sl.keep HV99.out hF);have HD9:=Hd (HD9.out.keep hF);have H17:=Hd (H17.out.keep hF);have HRE:=Hd (HRE.out.keep Rep.rp hF);have HFL:=Hd (HFL.out.trans hF)
      clear hF
      have HSS : Hid (Fr [] wr.drew wr.drew):=Hd (Fr.refl _ _)
      generalize wr.drew = wd at *
      obtain ⟨bv,ov,cv,yv,B1v,eav,-,hyv,hRv,-,hrgv⟩:=HRE.out.at_ Rep.rp (i:=i) (by have:=HLTI.out;omega)
      subst eav
      obtain ⟨vbv,rfl,hbyv,-⟩:=hRv
      obtain ⟨av3,nv3,cv3,rfl⟩:=Sl.isSlice hbyv
      have HRGV:=Hd hrgv;have HBYV:=Hd hbyv
      have HYV : Hid (vis[i]? = some yv):=Hd (by
       have h1 : (vis ++ rest)[i]? = some yv:=hyv
       rw [List.getElem?_append_left HLTI.out] at h1
       exact h1)
      have X5 : Hid (wd.cell? ⟨q,5,none⟩ = some (.slice (some ⟨bv,ov,none⟩) (vis.length + rest.length) c7)):=Hd (by rw [HXE.out.cell];rfl)
      clear hyv hrgv hbyv
      refine wL 0 ?_ rfl (by as_aux_lemma => kernel_rfl) (fun _ _ _ h => h) HSS.out (by rfl) ?_ ?_
      rotate_left
      ·intro w' hSw;refine run_load_row 32 (.tmp 17) ?_ g17 ?_ 32 _ _ (H17.out.keep hSw) Tryz.underlying32 rfl (by as_aux_lemma => kernel_rfl) <;> rfl
      simp only [Act.put,zz1,zz2,zz3,zz4,zz5,zz6]
      refine wL 1 ?_ rfl (by as_aux_lemma => kernel_rfl) (fun _ _ _ h => h) HSS.out (by rfl) ?_ ?_
      rotate_left
      ·intro w hSw;have n0:=hSw.cellSome X5.out (by simp);go_simp;try with_reducible rfl
      simp only [Act.put,zz1,zz2,zz3,zz4,zz5,zz6]
      refine wL 2 ?_ rfl (by as_aux_lemma => kernel_rfl) (fun _ _ _ h => h) HSS.out (by rfl) ?_ ?_
      rotate_left
      ·intro w hSw;have n0:=hSw.cellSome X5.out (by simp);go_simp;try with_reducible rfl
      simp only [Act.put,zz1,zz2,zz3,zz4,zz5,zz6]
      refine wL 3 ?_ rfl (by as_aux_lemma => kernel_rfl) (fun _ _ _ h => h) HSS.out (by rfl) ?_ ?_
      rotate_left
      ·intro w hSw;have n0:=hSw.cellSome X5.out (by simp);go_simp;try with_reducible rfl
      simp only [Act.put,zz1,zz2,zz3,zz4,zz5,zz6]
      refine wL 4 ?_ rfl (by as_aux_lemma => kernel_rfl) (fun _ _ _ h => h) HSS.out (by rfl) ?_ ?_
      rotate_left
      ·intro w hSw;have n0:=hSw.cellSome X5.out (by simp);go_simp;try with_reducible rfl
      simp only [Act.put,zz1,zz2,zz3,zz4,zz5,zz6]
      refine wL 5 ?_ rfl (by as_aux_lemma => kernel_rfl) (fun _ _ _ h => h) HSS.out (by rfl) ?_ ?_
      rotate_left
      ·intro w' hSw;refine run_load_mid_ask 38 (.tmp 89) ?_ bv (ov + i * 12) ?_ (rpc yv (.slice av3 nv3 cv3)) _ (fr_rngB hSw HRGV.out (by simp)) Tryz.underlying38 rfl (by as_aux_lemma => kernel_rfl) <;> rfl
      simp only [Act.put,zz1,zz2,zz3,zz4,zz5,zz6]
      refine wpAnyT_one (i:=6) (by as_aux_lemma => kernel_rfl) rfl (fun K hK => ?_)
      rw [if_pos (by rfl)]
      go_simp
      refine (r16lost_any HD9.out HIX.out HMX.out HWX.out yv av3 nv3 cv3 HBYV.out).mono ?_
      rintro e wq3 ⟨rfl,hF⟩
      have HSS:=Hd (HSS.out.trans hF)
      have HXE:=Hd (HXE.out.keep hF);have HSE:=Hd (HSE.out.keep hF);have HV99:=Hd (Sl.keep HV99.out hF);have HD9:=Hd (HD9.out.keep hF);have H17:=Hd (H17.out.keep hF);have HRE:=Hd (HRE.out.keep Rep.rp hF);have HFL:=Hd (HFL.out.trans hF)
      clear hF
      go_simp
      refine hK.out _ _ (fun _ => HSS.out) ?_
      clear hK K
      simp only [Act.put,zz1,zz2,zz3,zz4,zz5,zz6]
      refine wL 7 ?_ rfl (by as_aux_lemma => kernel_rfl) (fun _ _ _ h => h) HSS.out (by rfl) ?_ ?_
      rotate_left
      ·intro w hSw;go_simp;try with_reducible rfl
      simp only [Act.put,zz1,zz2,zz3,zz4,zz5,zz6]
      refine wpAnyT_done (by as_aux_lemma => kernel_rfl) ?_ _
      clear HSS X5
      have HT : Hid ((vis.take (i + 1)).filter (fun x => !(d'.add zs zb).lost x) = (vis.take i).filter (fun x => !(d'.add zs zb).lost x) ++ (if !(d'.add zs zb).lost yv then [yv] else [])):=Hd (filter_take HYV.out)
      cases ho : xd.lost yv
      rotate_left
      ·have HOD : Hid ((d'.add zs zb).lost yv = true):=Hd (by rw [← HXL.out];exact ho)
       clear ho
       go_wp2_with fail
       go_roundw
       case rel => refine ⟨i + 1,by omega,by go_num,?_,HFL.out⟩;rw [HT.out,HOD.out];simp [HKK.out]
       case measure => simp [Go.RowKit.intOf];omega
      ·have HOD : Hid ((d'.add zs zb).lost yv = false):=Hd (by rw [← HXL.out];exact ho)
       clear ho
       go_wp2_with fail
       go_roundw
       case rel => refine ⟨i + 1,by omega,by go_num,?_,HFL.out⟩;rw [HT.out,HOD.out];simp [HKK.out]
       case measure => simp [Go.RowKit.intOf];omega
     ·obtain rfl : i = vis.length:=by omega
      have HKK : Hid ((vis.filter fun x => !(d'.add zs zb).lost x).length = kk):=Hd (by have:=HKK.out;rw [List.take_length] at this;exact this)
      have hilw : kk ≤ vis.length:=hkl
      go_upto_region 26 with (first | (refine wpList_load_row_w rfl 32 (.tmp 17) rfl g17 rfl 32 _ _ H17.out Tryz.underlying32 rfl (by kernel_rfl) ?_) | (refine wpList_store_row rfl 32 (.tmp 1) (.tmp 95) rfl q rfl _ (dcc xd (.slice am9 xd.med.length cm9) (.slice ar9 xd.rep.length cr9)) rfl 32 HXE.out (by kernel_rfl) rfl (oD _ _ _ _ _ _ _) ?_;intro w11 hY hG;have HY11:=Hd hY;have HG11:=Hd hG;clear hY hG))
      have HS11 : Hid (TellS w P q N turn xd (outs0 ++ rout) (.slice ao (outs0.length + rout.length) co) (.slice am9 xd.med.length cm9) (.slice ar9 xd.rep.length cr9) w11):=Hd (HSE.out.next HQE.out (Fr.refl _ _) HG11.out HPX.out HY11.out ((HD9.out.imp (P':=fun z => PXq P q z ∧ blockOf (.slice ao (outs0.length + rout.length) co) ≠ some z) (fun z _ hz => by
       have h1:=HQ2G.out
       have h2:=HG88.out
       have h3 : g8 ≤ z → PXq P q z ∧ blockOf (.slice ao (outs0.length + rout.length) co) ≠ some z:=fun k => ⟨.inr (by omega),fun e => by have:=(HVOG.out z e).2;omega⟩
       rcases hz with hz | hz | hz
       ·exact hz
       ·exact h3 hz
       ·exact h3 (by omega))).fr HG11.out (fun z hz hm => by rw [List.mem_singleton] at hm;rcases hz.1 with ⟨-,k⟩ | k <;> omega)))
      have HV11:=Hd (Sl.frL HV99.out HG11.out (fun z hz hm => by rw [List.mem_singleton] at hm;have h1:=HL9.out z hz;have h2:=HQG.out;omega))
      obtain ⟨Bo2,hs2,g1,g2,g3,g4,g5,g6,g7⟩:=HS11.out
      obtain ⟨m,hm⟩ : ∃ m,xd.rep.length = m:=⟨_,rfl⟩
      obtain ⟨kr,hkr⟩ : ∃ kr,(rest.filter fun x => !(d'.add zs zb).lost x).length = kr:=⟨_,rfl⟩
      have HKR:=Hd hkr
      have hmk : m = kk + kr:=by rw [← hm,HXN.out,List.length_append,HKK.out,hkr]
      have hkrl : kr ≤ rest.length:=by rw [← hkr];exact List.length_filter_le _ _
      have x5 : w11.cell? ⟨q,5,none⟩ = some (.slice ar9 m cr9):=by
       have h1:=HY11.out.cell 5
       simp only [dcc,zz7,zz8,zz9] at h1
       rw [h1,hm]
      subst hmk
      obtain ⟨wb,eb,hFb,hBb,-⟩:=one_new w11 #[.int .u16 (zs.toNat : Nat),.slice a9 n9 c9,.bool true] 102
      have EB:=Hd eb
      have HOb:=Hd (g4.keep Rep.dgr hFb);have HSb:=Hd (dgr_lit hBb (Sl.keep HV11.out hFb));have HFb:=Hd hFb
      have HG1:=Hd g1;have HG2:=Hd g2;have HG3:=Hd g3;have HG5:=Hd g5;have HG6:=Hd g6;have HG7:=Hd g7
      have HDJ : Hid (∀ z,blockOf (.slice ao (outs0.length + rout.length) co) = some z → z ∉ (liveOf (.slice a9 n9 c9)).toList):=Hd (fun z hz hm => by
       have h1:=HL9.out z (mem_toList.1 hm)
       have h2:=(HVOG.out z hz).2
       omega)
      have HL1 : Hid (((outs0 ++ rout).map toldT).length + 1 ≤ maxLen):=Hd (by rw [List.length_map,List.length_append];unfold maxLen;omega)
      have HL2 : Hid ((((outs0 ++ rout).map toldT).length + 1) * 40 ≤ 140737488355328):=Hd (by rw [List.length_map,List.length_append];omega)
      have HQB : Hid (q + 2 ≤ wb.heap.size):=Hd (by have h1:=HG7.out.lt;have h2:=hFb.size;omega)
      clear eb hFb hBb g1 g2 g3 g4 g5 g6 g7 hm hkr H17 HXE HSE HD9 HDE HRE
      go_upto_region 28 with fail
      clear x5
      go_upto_region 29 with (at_builtin;(rw [EB.out]);go_loud (refine wpList_append_elsN Rep.dgr (by decide) rfl (.tmp 108) (.tmp 112) 45 rfl (q + 2) 102 (.agg #[.int .u16 0,.slice none 0 0,.bool false]) 40 Tryz.underlying45 info_dgot rfl (.slice ao (outs0.length + rout.length) co) ((outs0 ++ rout).map toldT) Bo2 rfl HOb.out (some ⟨w11.heap.size,0,none⟩) 1 1 rfl [(zs,zb,true)] (liveOf (.slice a9 n9 c9)).toList HSb.out HDJ.out HL1.out HL2.out HQB.out ?_;intro v13 w13 hown hfr hv;have HO13:=Hd hown;have HF13:=Hd hfr;have HV13:=Hd hv;clear hown hfr hv))
      have HS13 : Hid (TellS w P q N turn xd (outs0 ++ (rout ++ [(zs,zb)])) v13 (.slice am9 xd.med.length cm9) (.slice ar9 xd.rep.length cr9) w13):=Hd (by
       have hvq : ∀ z ∈ (blockOf (.slice ao (outs0.length + rout.length) co)).toList,q + 2 ≤ z:=fun z hz => (HVOG.out z (mem_toList.1 hz)).1
       have hqe:=HQE.out
       refine ⟨_,hs2,HG1.out,(HG2.out.keep HFb.out).fr HF13.out (fun hm => by have:=hvq _ hm;omega),?_,by rw [← List.append_assoc,List.map_append];exact HO13.out,fun z hz => ?_,(HG6.out.quiet HFb.out).step HF13.out (fun z hz => .inr (by have:=hvq z hz;omega)),(HG7.out.keep HFb.out).fr HF13.out (fun hm => by have:=hvq _ hm;omega)⟩
       ·refine ((((HG3.out.imp (P':=fun z => (PXq P q z ∧ blockOf (.slice ao (outs0.length + rout.length) co) ≠ some z) ∧ z < w11.heap.size) (fun z hz hp => ⟨hp,hz⟩)).keep HFb.out).fr HF13.out (fun z hz hm => hz.1.2 (mem_toList.1 hm))).imp (fun z _ hz => ⟨hz.1.1,fun e => ?_⟩))
        rcases HV13.out z e with h1 | h1
        ·exact hz.1.2 h1
        ·have:=HFb.out.size
         have:=hz.2
         omega
       ·rcases List.mem_append.1 hz with hz | hz
        ·exact HG5.out z hz
        ·have h1:=HL9.out z (mem_toList.1 hz)
         have h2:=HQ2G.out
         exact .inr (by omega))
      have hgz : 0 ≤ (rest.length : Int):=by omega
      go_wp2_with fail
      go_roundw
      case rel =>
       refine ⟨xd,_,_,_,_,_,?_,?_,?_,HDN.out,?_,HS13.out⟩
       ·rw [List.length_append,List.length_singleton];go_num
       ·rw [HKK.out]
       ·rw [HKR.out];go_num
       ·rw [HKK.out,HKR.out,List.length_append,List.length_singleton];omega
      case measure =>
       show (((rest.length : Nat) : Int) + 1 - (((vis.length : Nat) : Int) + ((rest.length : Nat) : Int) - (((kk : Nat) : Int) + ((kr : Nat) : Int))) + (((vis.length : Nat) : Int) - ((kk : Nat) : Int)) - 1).toNat < (((rest.length + 1 : Nat) : Int)).toNat
       omega
end Go.Proofs.YtcngfbjmpemehaaGreat
