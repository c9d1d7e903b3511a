/- The document's Media of layer 16 (printed by gen_dc7.py). -/
import Derived.BigQuiet
import Derived.Test.YtcngfbjmpemehaaGreatMp40
set_option maxRecDepth 100000
set_option maxHeartbeats 16000000
open List renaming getElem_toArray → zz1, getElem_cons_zero → zz2, getElem_cons_succ → zz3, setIfInBounds_toArray → zz4, set_cons_zero → zz5, set_cons_succ → zz6, getElem?_toArray → zz7, getElem?_cons_succ → zz8, getElem?_cons_zero → zz9
open Go.Lib renaming hid → Hd
namespace Go.Proofs.YtcngfbjmpemehaaGreat
open Go.RowKit

theorem dgr_own {w : World} {base g : Nat} {s : UInt16} {v : Value} {b : List UInt8} {t : Bool} (hB : Box w g 102 #[.int .u16 (s.toNat : Nat),v,.bool t]) (hv : Bytes w v b) (hg : liveOf v ≠ some g) (hb : base ≤ g) : OwnEls 3 DGR w base 102 (.slice (some ⟨g,0,none⟩) 1 1) [(s,b,t)] (liveOf v).toList:=by
 refine ⟨[.int .u16 (s.toNat : Nat),v,.bool t],⟨by simp,.inr ⟨g,1,_,rfl,hb,hB,by simp,by unfold maxLen;omega,by simp,by simp⟩⟩,⟨_,[],_,[],by simp,by simp,⟨v,rfl,hv,rfl⟩,rfl,rfl⟩,fun x hx hm => ?_⟩
 simp [blockOf] at hx
 subst hx
 exact hg (mem_toList.1 hm)
def DocPost (P' : Nat → Prop) (lo N : Nat) (d : PkD) (out : List (UInt16 × List UInt8 × Bool)) (vd vo : Value) (w' : World) : Prop :=
 ∃ vm' vr' Bo hs' turn',vd = .agg (dcc d vm' vr') ∧ DocV w' P' vm' vr' d ∧ PkP d hs' turn' N ∧ SlEls 3 DGR w' vo out Bo ∧ (∀ z ∈ Bo,P' z) ∧ (∀ z,liveOf vo = some z → lo ≤ z)
theorem r16Media_any {w : World} {P Pv : Nat → Prop} {vm vr : Value} {d : PkD} {hs : List (Rep_ × Int)} {turn : Int} {N : Nat} (h : DocV w P vm vr d) (hp : PkP d hs turn N) (hN : N + 1 < 1000000) {v : Value} {b : List UInt8} (hv : Bytes w v b) (hpv : ∀ y,liveOf v = some y → Pv y) (hbl : b.length ≤ 1000000) :
  Calls Tryz.prog 12 #[.agg (dcc d vm vr),v] w fun e w' => ∃ vd vo,e = .returned (.tuple #[vd,vo,.int .i64 (d.media b).2.2]) ∧ DocPost (fun z => P z ∨ Pv z ∨ w.heap.size ≤ z) w.heap.size (N + 1) (d.media b).1 (d.media b).2.1 vd vo w' ∧ Fr [] w w':=by
 obtain ⟨am,cm,ar,cr,rfl,rfl⟩:=h.shape
 obtain ⟨av,nv,cv,rfl⟩:=Sl.isSlice hv
 obtain ⟨w1,e1,hF1,hX1,hR1,hs1⟩:=two_new w (dcc d (.slice am d.med.length cm) (.slice ar d.rep.length cr)) 32 #[.int .u32 0,.int .i64 0,.int .i64 0,.int .i64 0,.slice none 0 0,.slice none 0 0] 32
 have HH : Hid (DocV w1 (fun z => P z ∧ z < w.heap.size) (.slice am d.med.length cm) (.slice ar d.rep.length cr) d):=Hd ((h.imp (P':=fun z => P z ∧ z < w.heap.size) (fun z hz hp => ⟨hp,hz⟩)).keep hF1)
 have HX:=Hd hX1;have HX4:=Hd hR1;have HVB:=Hd (Sl.keep hv hF1);have HF:=Hd hF1;have E1:=Hd e1;have HP:=Hd hp
 have HI:=Hd (hp.bd (by omega));have HW:=Hd hp.w
 have HPV : Hid (∀ y,liveOf (.slice av nv cv) = some y → Pv y ∧ y < w.heap.size):=Hd (fun y hy => ⟨hpv y hy,Sl.lt hv y hy⟩)
 have HML : Hid (d.med.length ≤ 900):=Hd (by have h1:=hp.medlen;have h2:=hp.w;omega)
 have HRLN : Hid (d.rep.length ≤ 900):=Hd (by have h1:=congrArg List.length hp.rep;have h2:=hp.len;have h3:=hp.r;rw [List.length_map] at h1;omega)
 have HZ1:=Hd hs1
 clear h hp hv hpv hF1 hX1 hR1 hs1 e1
 go_enter Tryz.func12,Tryz.ntmps12
 go_upto_region 1 with fail
 rw [E1.out]
 clear E1
 generalize hq : w.heap.size = q at *
 have HQE:=Hd hq
 clear hq
 go_wp2_with fail
 refine (R5Parse_any HVB.out).mono ?_
 rintro e w2 (⟨vp,p,hpk,rfl,hVp,hF⟩ | ⟨k2,hpk,rfl,hF⟩)
 rotate_left
 ·have hk2 : (k2 == 0) = false:=by simpa using parseR_err hpk
  have hk3 : (k2 != 0) = true:=by simpa using parseR_err hpk
  have HM : Hid (d.media b = (d,[],k2)):=Hd (by unfold PkD.media;rw [hpk])
  have HH:=Hd (HH.out.keep hF);have HX:=Hd (HX.out.keep hF);have HX4:=Hd (HX4.out.keep hF);have HVB:=Hd (Sl.keep HVB.out hF);have HF:=Hd (HF.out.trans hF)
  clear hF hpk
  unfold pz
  go_upto_region 2 with (refine wpList_store_row rfl 93 (.tmp 7) (.tmp 16) rfl w2.heap.size rfl _ _ rfl 93 (Box.new w2 93 #[.bool false,.int .i64 0,.int .u16 0,.int .u32 0,.int .u32 0,.slice none 0 0,.bool false,.int .u16 0,.slice none 0 0,.slice none 0 0,.slice none 0 0]) (by kernel_rfl) rfl (oneCell_pz) ?_;intro w3 hY hG;have hFn:=((Fr.refl [] w2).alloc _).step hG (by simp);have HFn:=Hd hFn;have HY:=Hd hY;clear hG hFn hY)
  have hF:=HFn.out
  have HH:=Hd (HH.out.keep hF);have HX:=Hd (HX.out.keep hF);have HX4:=Hd (HX4.out.keep hF);have HVB:=Hd (Sl.keep HVB.out hF);have HF:=Hd (HF.out.trans hF)
  clear hF HFn HY
  go_wp2_with (first | (refine wpList_load_row_w rfl 32 (.tmp 2) rfl q rfl 32 _ _ HX.out Tryz.underlying32 rfl (by kernel_rfl) ?_) | (refine wpList_store_row rfl 32 (.tmp 4) (.tmp 20) rfl (q + 1) rfl _ (dcc d (.slice am d.med.length cm) (.slice ar d.rep.length cr)) rfl 32 HX4.out (by kernel_rfl) rfl (oD _ _ _ _ _ _ _) ?_;intro w9 hY hG;have HY9:=Hd hY;have HG9:=Hd hG;clear hY hG))
  refine bodyPost_ret (results_row_2 rfl _ _ (q + 1) 32 _ _ rfl HY9.out Tryz.underlying32 rfl (by kernel_rfl)) rfl ⟨_,_,by rw [HM.out];rfl,⟨_,_,[],hs,turn,by rw [HM.out],?_,by rw [HM.out];exact HP.out.mono (by omega),by rw [HM.out];exact SlEls.nil _,by simp,(fun z hz => by cases hz)⟩,HF.out.step HG9.out (fun z hz => by rw [List.mem_singleton] at hz;exact .inr (by have:=HQE.out;omega))⟩
  rw [HM.out]
  exact ((HH.out.fr HG9.out (fun z hz hm => by rw [List.mem_singleton] at hm;have:=hz.2;omega)).imp (fun z _ hz => .inl hz.1))
 obtain ⟨q1,k1,q2,k2,q3,k3,q4,k4,rfl,-,-,-,-⟩:=hVp.open_
 have HPK:=Hd hpk
 have HH:=Hd (HH.out.keep hF);have HX:=Hd (HX.out.keep hF);have HX4:=Hd (HX4.out.keep hF);have HVB:=Hd (Sl.keep HVB.out hF);have HF:=Hd (HF.out.trans hF)
 have HMD : Hid (d.media b = if p.ssrc ≠ d.ss then (d,[],61) else if d.old (d.peek p.seq) then (d,[],50) else if (d.has p.seq).isSome then (d,[],5) else ((d.put p.seq b).tell.1,(p.seq,b,false) :: (d.put p.seq b).tell.2.map (fun x => (x.1,x.2,true)),0)):=Hd (by unfold PkD.media;rw [hpk])
 have HZ2 : Hid (q + 2 ≤ w2.heap.size):=Hd (by have h1:=hF.size;have h2:=HZ1.out;omega)
 clear hpk hF hVp
 go_upto_region 2 with (refine wpList_store_row rfl 93 (.tmp 7) (.tmp 16) rfl w2.heap.size rfl _ _ rfl 93 (Box.new w2 93 #[.bool false,.int .i64 0,.int .u16 0,.int .u32 0,.int .u32 0,.slice none 0 0,.bool false,.int .u16 0,.slice none 0 0,.slice none 0 0,.slice none 0 0]) (by kernel_rfl) rfl (oneCell_pc _ _ _ _ _ _ _ _ _ _ _ ⟨_,_,_,rfl⟩ ⟨_,_,_,rfl⟩ ⟨_,_,_,rfl⟩ ⟨_,_,_,rfl⟩) ?_;intro w3 hY hG;have hFn:=((Fr.refl [] w2).alloc _).step hG (by simp);have HFn:=Hd hFn;have HY:=Hd hY;clear hG hFn hY)
 have hF:=HFn.out
 have HH:=Hd (HH.out.keep hF);have HX:=Hd (HX.out.keep hF);have HX4:=Hd (HX4.out.keep hF);have HVB:=Hd (Sl.keep HVB.out hF);have HF:=Hd (HF.out.trans hF)
 generalize hgp : w2.heap.size = gp at *
 have HGP:=HZ2
 clear hF HFn hgp
 have HPB:=HY
 clear HY
 obtain ⟨p0,p1,p2,p3,p4,p5,p6,p7,p8,p9,p10⟩:=HPB.out.pcells
 have y0:=HX.out.cell 0
 simp only [dcc,zz7,zz9] at y0
 clear p0 p1 p2 p3 p5 p6 p7 p8 p9 p10
 by_cases hss : p.ssrc = d.ss
 rotate_left
 ·have hne : ((((p.ssrc.toNat : Nat) : Int) != ((d.ss.toNat : Nat) : Int)) : Bool) = true:=by rw [u32_bne];simpa using hss
  have HM:=Hd (HMD.out.trans (if_pos hss))
  clear hss
  go_wp2_with (first | (refine wpList_load_row_w rfl 32 (.tmp 2) rfl q rfl 32 _ _ HX.out Tryz.underlying32 rfl (by kernel_rfl) ?_) | (refine wpList_store_row rfl 32 (.tmp 4) (.tmp 27) rfl (q + 1) rfl _ (dcc d (.slice am d.med.length cm) (.slice ar d.rep.length cr)) rfl 32 HX4.out (by kernel_rfl) rfl (oD _ _ _ _ _ _ _) ?_;intro w9 hY hG;have HY9:=Hd hY;have HG9:=Hd hG;clear hY hG))
  refine bodyPost_ret (results_row_2 rfl _ _ (q + 1) 32 _ _ rfl HY9.out Tryz.underlying32 rfl (by kernel_rfl)) rfl ⟨_,_,by rw [HM.out];rfl,⟨_,_,[],hs,turn,by rw [HM.out],?_,by rw [HM.out];exact HP.out.mono (by omega),by rw [HM.out];exact SlEls.nil _,by simp,(fun z hz => by cases hz)⟩,HF.out.step HG9.out (fun z hz => by rw [List.mem_singleton] at hz;exact .inr (by have:=HQE.out;omega))⟩
  rw [HM.out]
  exact ((HH.out.fr HG9.out (fun z hz hm => by rw [List.mem_singleton] at hm;have:=hz.2;omega)).imp (fun z _ hz => .inl hz.1))
 have hne : ((((p.ssrc.toNat : Nat) : Int) != ((d.ss.toNat : Nat) : Int)) : Bool) = false:=by rw [u32_bne];simpa using hss
 have HMD:=Hd (HMD.out.trans (if_neg (by simpa using hss)))
 have HSSR:=Hd hss
 clear hss
 go_upto_region 6 with fail
 clear y0 p4
 refine wp_region_T (fun w' => Fr [] w3.drew w') [] 6 #[false,false,false,false,false,false] (by as_aux_lemma => kernel_rfl) rfl rfl ?_
 try simp only [List.append_eq,List.cons_append,List.nil_append]
 have hF:=(Fr.refl [] w3).drew
 have HH:=Hd (HH.out.keep hF);have HX:=Hd (HX.out.keep hF);have HX4:=Hd (HX4.out.keep hF);have HVB:=Hd (Sl.keep HVB.out hF);have HF:=Hd (HF.out.trans hF)
 have HPB:=Hd (HPB.out.keep hF)
 clear hF
 have HSS : Hid (Fr [] w3.drew w3.drew):=Hd (Fr.refl _ _)
 generalize w3.drew = wd at *
 have HX0:=HX
 have P2 : Hid (wd.cell? ⟨gp,2,none⟩ = some (.int .u16 (p.seq.toNat : Nat))):=Hd (by rw [HPB.out.cell];rfl)
 refine wL 0 ?_ rfl (by as_aux_lemma => kernel_rfl) (fun _ _ _ h => h) HSS.out (by rfl) ?_ ?_
 rotate_left
 ·intro w' hSw;refine run_load_row 32 (.tmp 2) ?_ q ?_ 32 _ _ (HX0.out.keep hSw) Tryz.underlying32 rfl (by as_aux_lemma => kernel_rfl) <;> rfl
 simp only [Act.put,zz1,zz2,zz3,zz4,zz5,zz6]
 refine wL 1 ?_ rfl (by as_aux_lemma => kernel_rfl) (fun _ _ _ h => h) HSS.out (by rfl) ?_ ?_
 rotate_left
 ·intro w' hSw;refine run_load_row 32 (.tmp 2) ?_ q ?_ 32 _ _ (HX0.out.keep hSw) Tryz.underlying32 rfl (by as_aux_lemma => kernel_rfl) <;> rfl
 simp only [Act.put,zz1,zz2,zz3,zz4,zz5,zz6]
 refine wL 2 ?_ rfl (by as_aux_lemma => kernel_rfl) (fun _ _ _ h => h) HSS.out (by rfl) ?_ ?_
 rotate_left
 ·intro w hSw;have n0:=hSw.cellSome P2.out (by simp);go_simp;try with_reducible rfl
 simp only [Act.put,zz1,zz2,zz3,zz4,zz5,zz6]
 refine wL 3 ?_ rfl (by as_aux_lemma => kernel_rfl) (fun _ _ _ h => h) HSS.out (by rfl) ?_ ?_
 rotate_left
 ·intro w hSw;have n0:=hSw.cellSome P2.out (by simp);go_simp;try with_reducible rfl
 simp only [Act.put,zz1,zz2,zz3,zz4,zz5,zz6]
 refine wpAnyT_one (i:=4) (by as_aux_lemma => kernel_rfl) rfl (fun K hK => ?_)
 rw [if_pos (by rfl)]
 go_simp
 refine (r16Peek_any HI.out am ar _ cm _ cr p.seq).mono ?_
 rintro e wq4 ⟨rfl,hF⟩
 have HSS:=Hd (HSS.out.trans hF)
 have HH:=Hd (HH.out.keep hF);have HX:=Hd (HX.out.keep hF);have HX4:=Hd (HX4.out.keep hF);have HVB:=Hd (Sl.keep HVB.out hF);have HF:=Hd (HF.out.trans hF)
 have HPB:=Hd (HPB.out.keep hF)
 clear hF
 go_simp
 refine hK.out _ _ (fun _ => HSS.out) ?_
 clear hK K
 simp only [Act.put,zz1,zz2,zz3,zz4,zz5,zz6]
 refine wpAnyT_one (i:=5) (by as_aux_lemma => kernel_rfl) rfl (fun K hK => ?_)
 rw [if_pos (by rfl)]
 go_simp
 refine (r16old_any HI.out HW.out am ar _ cm _ cr (d.peek p.seq)).mono ?_
 rintro e wq5 ⟨rfl,hF⟩
 have HSS:=Hd (HSS.out.trans hF)
 have HH:=Hd (HH.out.keep hF);have HX:=Hd (HX.out.keep hF);have HX4:=Hd (HX4.out.keep hF);have HVB:=Hd (Sl.keep HVB.out hF);have HF:=Hd (HF.out.trans hF)
 have HPB:=Hd (HPB.out.keep hF)
 clear hF
 go_simp
 refine hK.out _ _ (fun _ => HSS.out) ?_
 clear hK K
 simp only [Act.put,zz1,zz2,zz3,zz4,zz5,zz6]
 refine wpAnyT_done (by as_aux_lemma => kernel_rfl) ?_ _
 clear HSS P2 HX0
 generalize hob : d.old (d.peek p.seq) = ob at *
 have HOB:=Hd hob
 clear hob
 cases ob
 rotate_left
 ·have HM:=Hd (HMD.out.trans (if_pos rfl))
  go_wp2_with (first | (refine wpList_load_row_w rfl 32 (.tmp 2) rfl q rfl 32 _ _ HX.out Tryz.underlying32 rfl (by kernel_rfl) ?_) | (refine wpList_store_row rfl 32 (.tmp 4) (.tmp 34) rfl (q + 1) rfl _ (dcc d (.slice am d.med.length cm) (.slice ar d.rep.length cr)) rfl 32 HX4.out (by kernel_rfl) rfl (oD _ _ _ _ _ _ _) ?_;intro w9 hY hG;have HY9:=Hd hY;have HG9:=Hd hG;clear hY hG))
  refine bodyPost_ret (results_row_2 rfl _ _ (q + 1) 32 _ _ rfl HY9.out Tryz.underlying32 rfl (by kernel_rfl)) rfl ⟨_,_,by rw [HM.out];rfl,⟨_,_,[],hs,turn,by rw [HM.out],?_,by rw [HM.out];exact HP.out.mono (by omega),by rw [HM.out];exact SlEls.nil _,by simp,(fun z hz => by cases hz)⟩,HF.out.step HG9.out (fun z hz => by rw [List.mem_singleton] at hz;exact .inr (by have:=HQE.out;omega))⟩
  rw [HM.out]
  exact ((HH.out.fr HG9.out (fun z hz hm => by rw [List.mem_singleton] at hm;have:=hz.2;omega)).imp (fun z _ hz => .inl hz.1))
 have HMD:=Hd (HMD.out.trans (if_neg (by simp)))
 have p2:=HPB.out.cell 2
 simp only [pc,zz7,zz8,zz9] at p2
 go_wp2_with (refine wpList_load_row_w rfl 32 (.tmp 2) rfl q rfl 32 _ _ HX.out Tryz.underlying32 rfl (by kernel_rfl) ?_)
 refine (r16Has_any HH.out HI.out (by have:=HML.out;omega) p.seq).mono ?_
 rintro e w6 ⟨v6,rfl,h6,-,hF⟩
 obtain ⟨a6,n6,c6,rfl⟩:=Sl.isSlice h6
 have HH:=Hd (HH.out.keep hF);have HX:=Hd (HX.out.keep hF);have HX4:=Hd (HX4.out.keep hF);have HVB:=Hd (Sl.keep HVB.out hF);have HF:=Hd (HF.out.trans hF)
 have HPB:=Hd (HPB.out.keep hF)
 clear h6 hF p2
 have HNO0 : Hid ((d.has p.seq).isSome = false → d.has p.seq = none):=Hd (fun e => by simpa using e)
 generalize (d.has p.seq).isSome = hb at *
 cases hb
 rotate_left
 ·have HM:=Hd (HMD.out.trans (if_pos rfl))
  go_wp2_with (first | (refine wpList_load_row_w rfl 32 (.tmp 2) rfl q rfl 32 _ _ HX.out Tryz.underlying32 rfl (by kernel_rfl) ?_) | (refine wpList_store_row rfl 32 (.tmp 4) (.tmp 43) rfl (q + 1) rfl _ (dcc d (.slice am d.med.length cm) (.slice ar d.rep.length cr)) rfl 32 HX4.out (by kernel_rfl) rfl (oD _ _ _ _ _ _ _) ?_;intro w9 hY hG;have HY9:=Hd hY;have HG9:=Hd hG;clear hY hG))
  refine bodyPost_ret (results_row_2 rfl _ _ (q + 1) 32 _ _ rfl HY9.out Tryz.underlying32 rfl (by kernel_rfl)) rfl ⟨_,_,by rw [HM.out];rfl,⟨_,_,[],hs,turn,by rw [HM.out],?_,by rw [HM.out];exact HP.out.mono (by omega),by rw [HM.out];exact SlEls.nil _,by simp,(fun z hz => by cases hz)⟩,HF.out.step HG9.out (fun z hz => by rw [List.mem_singleton] at hz;exact .inr (by have:=HQE.out;omega))⟩
  rw [HM.out]
  exact ((HH.out.fr HG9.out (fun z hz hm => by rw [List.mem_singleton] at hm;have:=hz.2;omega)).imp (fun z _ hz => .inl hz.1))
 have HMD:=Hd (HMD.out.trans (if_neg (by simp)))
 have HNO : Hid (d.has p.seq = none):=Hd (HNO0.out rfl)
 have HPK2 : Hid (isPk d.ss p.seq b):=Hd ⟨p,HPK.out,rfl,HSSR.out⟩
 have HPU:=Hd (HP.out.put HPK2.out hbl HOB.out HNO.out)
 have HBE : Hid (∀ h,(d.note (d.peek p.seq)).hi = some h → 40000 ≤ h ∧ h ≤ 4611686018427300000):=Hd (by
  obtain ⟨K,k1,k2⟩:=HP.out.hi
  exact (k1.note p.seq).bd (by omega))
 have p2:=HPB.out.cell 2
 simp only [pc,zz7,zz8,zz9] at p2
 clear HNO0
 go_wp2_with (refine wpList_load_row_w rfl 32 (.tmp 2) rfl q rfl 32 _ _ HX.out Tryz.underlying32 rfl (by kernel_rfl) ?_)
 refine (r16put_any (Pv:=fun z => Pv z ∧ z < q) HH.out HI.out HML.out HRLN.out HW.out p.seq HBE.out (note_self HP.out.w1 HOB.out) HVB.out (fun y hy => ⟨(HPV.out y hy).1,by have:=(HPV.out y hy).2;have:=HQE.out;omega⟩)).mono ?_
 have HZ7 : Hid (q + 2 ≤ w6.heap.size):=Hd (by have h1:=HPB.out.lt;have h2:=HGP.out;omega)
 rintro e w7 ⟨vd,rfl,⟨vm7,vr7,rfl,hD7⟩,hF⟩
 obtain ⟨am7,cm7,ar7,cr7,rfl,rfl⟩:=hD7.shape
 have HD7:=Hd hD7
 have HH:=Hd (HH.out.keep hF);have HX:=Hd (HX.out.keep hF);have HX4:=Hd (HX4.out.keep hF);have HVB:=Hd (Sl.keep HVB.out hF);have HF:=Hd (HF.out.trans hF)
 have HPB:=Hd (HPB.out.keep hF)
 clear hF p2 hD7
 generalize hdx : d.put p.seq b = dx at *
 have HDX:=Hd hdx
 clear hdx
 go_upto_region 12 with (refine wpList_store_row rfl 32 (.tmp 2) (.tmp 48) rfl q rfl _ (dcc dx (.slice am7 dx.med.length cm7) (.slice ar7 dx.rep.length cr7)) rfl 32 HX.out (by kernel_rfl) rfl (oD _ _ _ _ _ _ _) ?_;intro w8 hY hG;have HX:=Hd hY;have HG8:=Hd hG;clear hY hG)
 have HZ8a : Hid (q + 2 ≤ w8.heap.size):=Hd (by have h1:=HPB.out.lt;have h2:=HGP.out;have h3:=HG8.out.size;omega)
 have HX4:=Hd (HX4.out.fr HG8.out (by simp));have HPB:=Hd (HPB.out.fr HG8.out (by have:=HGP.out;simp;omega));have HVB:=Hd (Sl.frL HVB.out HG8.out (fun z hz hm => by rw [List.mem_singleton] at hm;have:=(HPV.out z hz).2;have:=HQE.out;omega))
 have HD8:=Hd ((HD7.out.imp (P':=fun z => ((P z ∨ Pv z) ∧ z < q) ∨ q + 2 ≤ z) (fun z hzl hz => by
  rcases hz with hz | hz | hz
  ·exact .inl ⟨.inl hz.1,hz.2⟩
  ·exact .inl ⟨.inr hz.1,hz.2⟩
  ·exact .inr (by have:=HZ7.out;omega))).fr HG8.out (fun z hz hm => by rw [List.mem_singleton] at hm;rcases hz with ⟨-,k⟩ | k <;> omega))
 have HF : Hid (Fr [] w w8):=Hd (HF.out.step HG8.out (fun z hz => by rw [List.mem_singleton] at hz;exact .inr (by have:=HQE.out;omega)))
 clear HD7 HG8 HH
 go_wp2_with (refine wpList_load_row_w rfl 32 (.tmp 2) rfl q rfl 32 _ _ HX.out Tryz.underlying32 rfl (by kernel_rfl) ?_)
 refine (r16tell_any HD8.out HPU.out (by omega)).mono ?_
 rintro e w9 ⟨vd9,vo9,rfl,⟨vm9,vr9,Bo9,hs9,rfl,hD9,hP9,hO9,hBo9,hlo9⟩,hF⟩
 obtain ⟨am5,cm5,ar5,cr5,rfl,rfl⟩:=hD9.shape
 obtain ⟨ao5,co5,rfl⟩:=hO9.shape
 have HTL : Hid (dx.tell.2.length ≤ 1000):=Hd (by have h1:=tell_len dx;have h2:=HPU.out.len;have h3:=HPU.out.r;rw [HPU.out.rep,List.length_map] at h1;omega)
 rw [List.length_map] at hO9 hlo9
 rw [List.length_map]
 have HD9:=Hd hD9;have HP9:=Hd hP9;have HTO:=Hd hO9;have HBO9:=Hd hBo9;have HLO9:=Hd hlo9
 have HX:=Hd (HX.out.keep hF);have HX4:=Hd (HX4.out.keep hF);have HPB:=Hd (HPB.out.keep hF);have HVB:=Hd (Sl.keep HVB.out hF);have HF:=Hd (HF.out.trans hF)
 have HZ8 : Hid (q + 2 ≤ w8.heap.size):=Hd (by have h1:=HX4.out.lt;have h2:=HGP.out;have h3:=HZ8a.out;omega)
 generalize dx.tell.2 = tl at *
 generalize dx.tell.1 = dt at *
 clear hD9 hP9 hO9 hBo9 hlo9 hF HD8
 go_upto_region 13 with (refine wpList_store_row rfl 32 (.tmp 2) (.tmp 52) rfl q rfl _ (dcc dt (.slice am5 dt.med.length cm5) (.slice ar5 dt.rep.length cr5)) rfl 32 HX.out (by kernel_rfl) rfl (oD _ _ _ _ _ _ _) ?_;intro w10 hY hG;have HX:=Hd hY;have HG10:=Hd hG;clear hY hG)
 have hPX : ∀ z,(((P z ∨ Pv z) ∧ z < q ∨ q + 2 ≤ z) ∨ w8.heap.size ≤ z) → ((P z ∨ Pv z) ∧ z < q ∨ q + 2 ≤ z):=fun z hz => by
  rcases hz with hz | hz
  ·exact hz
  ·exact .inr (by have:=HZ8.out;omega)
 have hPN : ∀ z,((P z ∨ Pv z) ∧ z < q ∨ q + 2 ≤ z) → z ∉ [q]:=fun z hz hm => by
  rw [List.mem_singleton] at hm
  rcases hz with ⟨-,k⟩ | k <;> omega
 have HPX:=Hd hPX
 have HD5 : Hid (DocV w10 (fun z => ((P z ∨ Pv z) ∧ z < q ∨ q + 2 ≤ z) ∧ z < w10.heap.size) (.slice am5 dt.med.length cm5) (.slice ar5 dt.rep.length cr5) dt):=Hd (((HD9.out.imp (P':=fun z => (P z ∨ Pv z) ∧ z < q ∨ q + 2 ≤ z) (fun z _ hz => hPX z hz)).fr HG10.out (fun z hz => hPN z hz)).imp (fun z hz hp => ⟨hp,hz⟩))
 have HLO9 : Hid (∀ z,liveOf (.slice ao5 tl.length co5) = some z → w8.heap.size ≤ z):=HLO9
 have HTO:=Hd (HTO.out.fr Rep.dgr HG10.out (fun z hz => hPN z (hPX z (HBO9.out z hz))) (fun z hz hm => by rw [List.mem_singleton] at hm;have h1:=HLO9.out z hz;have h2:=HZ8.out;omega))
 have HX4:=Hd (HX4.out.fr HG10.out (by simp));have HPB:=Hd (HPB.out.fr HG10.out (by have:=HGP.out;simp;omega));have HVB:=Hd (Sl.frL HVB.out HG10.out (fun z hz hm => by rw [List.mem_singleton] at hm;have:=(HPV.out z hz).2;have:=HQE.out;omega))
 have HF : Hid (Fr [] w w10):=Hd (HF.out.step HG10.out (fun z hz => by rw [List.mem_singleton] at hz;exact .inr (by have:=HQE.out;omega)))
 have HZ10 : Hid (q + 2 ≤ w10.heap.size):=Hd (by have h1:=HPB.out.lt;have h2:=HGP.out;omega)
 have HDJ0 : Hid (∀ z ∈ Bo9,z < w10.heap.size):=Hd (HTO.out.lt Rep.dgr).1
 obtain ⟨wb,eb,hF,hBb,-⟩:=one_new w10 #[.int .u16 (p.seq.toNat : Nat),.slice av nv cv,.bool false] 102
 have EB:=Hd eb
 have HLIT:=Hd (dgr_own (base:=q + 2) hBb (Sl.keep HVB.out hF) (fun e => by have:=(HPV.out _ e).2;have:=HQE.out;have:=HZ10.out;omega) HZ10.out)
 have HX:=Hd (HX.out.keep hF);have HX4:=Hd (HX4.out.keep hF);have HD5:=Hd (HD5.out.keep hF);have HTO:=Hd (HTO.out.keep Rep.dgr hF);have HF:=Hd (HF.out.trans hF)
 have p2:=HPB.out.cell 2
 simp only [pc,zz7,zz8,zz9] at p2
 have HQB : Hid (q + 2 ≤ wb.heap.size):=Hd (Nat.le_trans HZ10.out hF.size)
 clear hPX hPN HD9 HG10 eb hF hBb HVB
 go_upto_region 14 with fail
 rw [EB.out]
 clear EB p2 HPB
 generalize w10.heap.size = gq at *
 have HGQ:=HZ10
 have HDJ : Hid (∀ z,blockOf (.slice (some ⟨gq,0,none⟩) 1 1) = some z → z ∉ Bo9):=Hd (fun z hz hm => by
  simp [blockOf] at hz
  have:=HDJ0.out z hm
  omega)
 have HL1 : Hid ([(p.seq,b,false)].length + tl.length ≤ maxLen):=Hd (by have:=HTL.out;unfold maxLen;simp;omega)
 have HL2 : Hid (([(p.seq,b,false)].length + tl.length) * 40 ≤ 140737488355328):=Hd (by have:=HTL.out;simp;omega)
 refine wp_region_T (fun w' => Box w' q 32 (dcc dt (.slice am5 dt.med.length cm5) (.slice ar5 dt.rep.length cr5))) [] 7 #[false,false,false,false,false,false,false] (by as_aux_lemma => kernel_rfl) rfl rfl ?_
 try simp only [List.append_eq,List.cons_append,List.nil_append]
 have hF:=(Fr.refl [] wb).drew
 have HX:=Hd (HX.out.keep hF);have HX4:=Hd (HX4.out.keep hF);have HD5:=Hd (HD5.out.keep hF);have HTO:=Hd (HTO.out.keep Rep.dgr hF);have HLIT:=Hd (HLIT.out.keep Rep.dgr hF);have HF:=Hd (HF.out.trans hF)
 clear hF
 have HQ2 : Hid (q + 2 ≤ wb.drew.heap.size):=Hd HQB.out
 generalize wb.drew = wd at *
 have HSS:=HX
 refine wL 0 ?_ rfl (by as_aux_lemma => kernel_rfl) (fun _ _ _ h => h) HSS.out (by rfl) ?_ ?_
 rotate_left
 ·intro w' hSw;refine run_load_row 32 (.tmp 2) ?_ q ?_ 32 _ _ hSw Tryz.underlying32 rfl (by as_aux_lemma => kernel_rfl) <;> rfl
 simp only [Act.put,zz1,zz2,zz3,zz4,zz5,zz6]
 refine wL 1 ?_ rfl (by as_aux_lemma => kernel_rfl) (fun _ _ _ h => h) HSS.out (by rfl) ?_ ?_
 rotate_left
 ·intro w hSw;go_simp;try with_reducible rfl
 simp only [Act.put,zz1,zz2,zz3,zz4,zz5,zz6]
 refine wL 2 ?_ rfl (by as_aux_lemma => kernel_rfl) (fun _ _ _ h => h) HSS.out (by rfl) ?_ ?_
 rotate_left
 ·intro w hSw;go_simp;try with_reducible rfl
 simp only [Act.put,zz1,zz2,zz3,zz4,zz5,zz6]
 refine wpAnyT_one (i:=3) (by as_aux_lemma => kernel_rfl) rfl (fun K hK => ?_)
 refine step_append_elsN Rep.dgr (by decide) rfl (.tmp 60) (.tmp 61) 45 rfl (q + 2) 102 (.agg #[.int .u16 0,.slice none 0 0,.bool false]) 40 Tryz.underlying45 info_dgot rfl (.slice (some ⟨gq,0,none⟩) 1 1) [(p.seq,b,false)] (liveOf (.slice av nv cv)).toList rfl HLIT.out (ao5) tl.length co5 rfl (tl.map toldT) Bo9 HTO.out HDJ.out HL1.out HL2.out HQ2.out ?_
 intro v9 w9 hown9 hfr9 hv9
 obtain ⟨a9,c9,ev9⟩:=hown9.shape
 have el9 : ([(p.seq,b,false)] ++ tl.map toldT).length = tl.length + 1:=by simp
 rw [el9] at ev9
 subst ev9
 clear el9
 have HO9:=Hd hown9;have HF9:=Hd hfr9;have HV9:=Hd hv9
 have HSS:=Hd (HSS.out.fr hfr9 (fun hm => by simp [blockOf] at hm;have:=HGQ.out;omega))
 have HX4:=Hd (HX4.out.fr hfr9 (fun hm => by simp [blockOf] at hm;have:=HGQ.out;omega))
 clear hown9 hfr9 hv9
 refine hK.out _ _ (fun _ => HSS.out) ?_
 clear hK K
 simp only [Act.put,zz1,zz2,zz3,zz4,zz5,zz6]
 refine wpAnyT_one (i:=4) (by as_aux_lemma => kernel_rfl) rfl (fun K hK => ?_)
 refine wp_store_row rfl 32 (.tmp 4) (.tmp 59) rfl (q + 1) rfl _ (dcc dt (.slice am5 dt.med.length cm5) (.slice ar5 dt.rep.length cr5)) rfl 32 HX4.out (by as_aux_lemma => kernel_rfl) rfl (oD _ _ _ _ _ _ _) ?_
 intro w10 hY hG
 have HY10:=Hd hY;have HG10:=Hd hG
 have HSS:=Hd (HSS.out.fr hG (by simp))
 clear hY hG
 refine hK.out _ _ (fun _ => HSS.out) ?_
 clear hK K
 simp only [Act.put,zz1,zz2,zz3,zz4,zz5,zz6]
 refine wL 5 ?_ rfl (by as_aux_lemma => kernel_rfl) (fun _ _ _ h => h) HSS.out (by rfl) ?_ ?_
 rotate_left
 ·intro w hSw;go_simp;try with_reducible rfl
 simp only [Act.put,zz1,zz2,zz3,zz4,zz5,zz6]
 refine wL 6 ?_ rfl (by as_aux_lemma => kernel_rfl) (fun _ _ _ h => h) HSS.out (by rfl) ?_ ?_
 rotate_left
 ·intro w hSw;go_simp;try with_reducible rfl
 simp only [Act.put,zz1,zz2,zz3,zz4,zz5,zz6]
 refine wpAnyT_done (by as_aux_lemma => kernel_rfl) ?_ _
 go_wp2_with fail
 have hqe:=HQE.out
 have hq9 : ∀ z ∈ (blockOf (.slice (some ⟨gq,0,none⟩) 1 1)).toList,z = gq:=fun z hz => by simp [blockOf] at hz;exact hz
 have hgq:=HGQ.out
 have hP' : ∀ z,((P z ∨ Pv z) ∧ z < q ∨ q + 2 ≤ z) → (P z ∨ Pv z ∨ w.heap.size ≤ z):=fun z hz => by
  rcases hz with ⟨k | k,-⟩ | k
  ·exact .inl k
  ·exact .inr (.inl k)
  ·exact .inr (.inr (by omega))
 have hne : ∀ z,((P z ∨ Pv z) ∧ z < q ∨ q + 2 ≤ z) → z ∉ [q + 1]:=fun z hz hm => by
  rw [List.mem_singleton] at hm
  rcases hz with ⟨-,k⟩ | k <;> omega
 have hb9 : ∀ z,blockOf (.slice a9 (tl.length + 1) c9) = some z → q + 2 ≤ z:=fun z hz => by
  rcases HV9.out z hz with h1 | h1
  ·have:=hq9 z (mem_toList.2 h1);omega
  ·have:=HQ2.out;omega
 have hDocE : ∀ z ∈ Bo9,((P z ∨ Pv z) ∧ z < q ∨ q + 2 ≤ z):=fun z hz => HPX.out z (HBO9.out z hz)
 have hLV : ∀ z ∈ (liveOf (.slice av nv cv)).toList ++ Bo9,((P z ∨ Pv z) ∧ z < q ∨ q + 2 ≤ z):=fun z hz => by
  rcases List.mem_append.1 hz with hz | hz
  ·exact .inl ⟨.inr (HPV.out z (mem_toList.1 hz)).1,by have:=(HPV.out z (mem_toList.1 hz)).2;omega⟩
  ·exact hDocE z hz
 refine bodyPost_ret (results_row_2 rfl _ _ (q + 1) 32 _ _ rfl HY10.out Tryz.underlying32 rfl (by kernel_rfl)) rfl ⟨_,_,by rw [HMD.out];rfl,⟨_,_,_,hs9,_,by rw [HMD.out],?_,by rw [HMD.out];exact HP9.out,?_,fun z hz => hP' z (hLV z hz),fun z hz => ?_⟩,?_⟩
 ·rw [HMD.out]
  exact ((HD5.out.fr HF9.out (fun z hz hm => by have h1:=hq9 z hm;have h2:=hz.2;omega)).fr HG10.out (fun z hz => hne z hz.1)).imp (fun z _ hz => hP' z hz.1)
 ·rw [HMD.out]
  exact (HO9.out.fr Rep.dgr HG10.out (fun z hz => hne z (hLV z hz)) (fun z hz hm => by rw [List.mem_singleton] at hm;have:=hb9 z hz;omega)).sl
 ·have:=hb9 z (live_block hz)
  omega
 ·exact (HF.out.step HF9.out (fun z hz => .inr (by have:=hq9 z hz;omega))).step HG10.out (fun z hz => by rw [List.mem_singleton] at hz;exact .inr (by omega))
end Go.Proofs.YtcngfbjmpemehaaGreat
