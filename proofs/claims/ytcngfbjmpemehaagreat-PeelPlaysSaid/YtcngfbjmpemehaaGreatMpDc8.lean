/- The document's Repair of layer 16 (printed by gen_dc8.py). -/
import Derived.Test.YtcngfbjmpemehaaGreatMpDc7
import Derived.Test.YtcngfbjmpemehaaGreatMp38
set_option maxRecDepth 100000
set_option maxHeartbeats 16000000
open List renaming getElem_toArray → zz1, getElem_cons_zero → zz2, getElem_cons_succ → zz3, setIfInBounds_toArray → zz4, set_cons_zero → zz5, set_cons_succ → zz6, getElem?_toArray → zz7, getElem?_cons_succ → zz8, getElem?_cons_zero → zz9
open Go.Lib renaming hid → Hd
namespace Go.Proofs.YtcngfbjmpemehaaGreat
open Go.RowKit

theorem minAt_start {f : Rep_ → Int} {l : List Rep_} {y : Rep_} (h : l[0]? = some y) : minAtF f (l.drop 0) 0 0 (f y) = minAt f l:=by
 cases l with
 | nil => cases h
 | cons x l =>
  simp only [zz9,Option.some.injEq] at h
  subst h
  rw [List.drop_zero,minAtF_ge (Int.lt_irrefl _)]
  rfl
theorem drop_at {l : List Rep_} {i : Nat} {y : Rep_} (h : l[i]? = some y) : l.drop i = y :: l.drop (i + 1):=by
 obtain ⟨hi,e⟩:=List.getElem?_eq_some_iff.1 h
 rw [List.drop_eq_getElem_cons hi,e]
def RoomD (P : Nat → Prop) (q : Nat) (wc : World) (d : PkD) (r : Rep_) (hs : List (Rep_ × Int)) (turn : Int) (N : Nat) (vm : Value) (wx : World) : Prop :=
 ∃ (l : List Rep_) (hs' : List (Rep_ × Int)) (vr' : Value),d.room r = some l ∧ l = hs'.map Prod.fst ∧ PkP { d with rep:=l } hs' turn N ∧ hs'.length < d.r ∧ Box wx q 32 (dcc { d with rep:=l } vm vr') ∧ DocV wx (fun z => (P z ∧ z < q) ∨ q + 3 ≤ z) vm vr' { d with rep:=l } ∧ Fr [q] wc wx
theorem r16Repair_any {w : World} {P Pv : Nat → Prop} {vm vr : Value} {d : PkD} {hs : List (Rep_ × Int)} {turn : Int} {N : Nat} (h : DocV w P vm vr d) (hp : PkP d hs turn N) (hN : N + 1 < 1000000) {r : Rep_} {a : Option Addr} {n c : Nat} (hv : Bytes w (.slice a n c) r.bt.body) (hpv : ∀ y,liveOf (.slice a n c) = some y → Pv y) (hbl : r.bt.body.length ≤ 1000000) :
  Calls Tryz.prog 13 #[.agg (dcc d vm vr),.agg (rpc r (.slice a n c))] w fun e w' => ∃ vd vo,e = .returned (.tuple #[vd,vo,.int .i64 (d.repair r).2.2]) ∧ DocPost (fun z => P z ∨ Pv z ∨ w.heap.size ≤ z) w.heap.size (N + 1) (d.repair r).1 (d.repair r).2.1 vd vo w' ∧ Fr [] w w':=by
 obtain ⟨am,cm,ar,cr,rfl,rfl⟩:=h.shape
 obtain ⟨w0,e1,hF1,hX1,hR1,hs1⟩:=two_new w (dcc d (.slice am d.med.length cm) (.slice ar d.rep.length cr)) 32 (rpc r (.slice a n c)) 38
 obtain ⟨w1,e2,hF2,hX4,hs2⟩:=one_new w0 #[.int .u32 0,.int .i64 0,.int .i64 0,.int .i64 0,.slice none 0 0,.slice none 0 0] 32
 rw [hs1] at hX4 hs2
 have hF12:=hF1.trans hF2
 have HH : Hid (DocV w1 (fun z => P z ∧ z < w.heap.size) (.slice am d.med.length cm) (.slice ar d.rep.length cr) d):=Hd ((h.imp (P':=fun z => P z ∧ z < w.heap.size) (fun z hz hp => ⟨hp,hz⟩)).keep hF12)
 have HX:=Hd (hX1.keep hF2);have HR:=Hd (hR1.keep hF2);have HX4:=Hd hX4;have HV:=Hd (Sl.keep hv hF12);have HF:=Hd hF12;have E1:=Hd e1;have E2:=Hd e2;have HP:=Hd hp
 have HI:=Hd (hp.bd (by omega));have HW:=Hd hp.w
 have HPV : Hid (∀ y,liveOf (.slice a n c) = some y → Pv y ∧ y < w.heap.size):=Hd (fun y hy => ⟨hpv y hy,Sl.lt hv y hy⟩)
 have HML : Hid (d.med.length ≤ 1000):=Hd (by have h1:=hp.medlen;have h2:=hp.w;omega)
 have HBS : Hid (r.bt.body.length ≤ 1099511627776):=Hd (by omega)
 have HRP : Hid (restL (findL (d.pks r)) d.ss r = restL d.has d.ss r):=Hd (rest_pks hp.good d.ss r)
 have HZ : Hid (w.heap.size + 3 ≤ w1.heap.size):=Hd (by omega)
 have x9:=HR.out.cell 9;have x10:=HR.out.cell 10
 simp only [rpc,zz7,zz8,zz9] at x9 x10
 clear h hp hv hpv hF1 hX1 hR1 hs1 e1 e2 hF2 hX4 hs2 hF12
 go_enter Tryz.func13,Tryz.ntmps13
 go_upto_region 1 with fail
 rw [E1.out,E2.out]
 clear E1 E2
 generalize hq : w.heap.size = q at *
 have HQE:=Hd hq
 clear hq
 by_cases hz : r.m.hi = 0 ∧ r.m.lo = 0
 ·have HM : Hid (d.repair r = (d,[],30)):=Hd (by unfold PkD.repair;rw [if_pos hz])
  have t1 : (((r.m.hi.toNat : Nat) : Int) == 0) = true:=by rw [bv_beq0];simpa using hz.1
  have t2 : (((r.m.lo.toNat : Nat) : Int) == 0) = true:=by rw [bv_beq0];simpa using hz.2
  clear hz
  go_wp2_with (first | (refine wpList_load_row_w rfl 32 (.tmp 2) rfl q rfl 32 _ _ HX.out Tryz.underlying32 rfl (by kernel_rfl) ?_) | (refine wpList_store_row rfl 32 (.tmp 4) (.tmp 22) rfl (q + 2) rfl _ (dcc d (.slice am d.med.length cm) (.slice ar d.rep.length cr)) rfl 32 HX4.out (by kernel_rfl) rfl (oD _ _ _ _ _ _ _) ?_;intro w9 hY hG;have HY9:=Hd hY;have HG9:=Hd hG;clear hY hG))
  refine bodyPost_ret (results_row_2 rfl _ _ (q + 2) 32 _ _ rfl HY9.out Tryz.underlying32 rfl (by kernel_rfl)) rfl ⟨_,_,by rw [HM.out];rfl,⟨_,_,[],hs,turn,by rw [HM.out],?_,by rw [HM.out];exact HP.out.mono (by omega),by rw [HM.out];exact SlEls.nil _,by simp,(fun z hz => by cases hz)⟩,HF.out.step HG9.out (fun z hz => by rw [List.mem_singleton] at hz;exact .inr (by have:=HQE.out;omega))⟩
  rw [HM.out]
  exact ((HH.out.fr HG9.out (fun z hz hm => by rw [List.mem_singleton] at hm;have:=hz.2;omega)).imp (fun z _ hz => .inl hz.1))
 have HNZ:=Hd hz
 go_cut [21] (fun tv wx => tv = .bool false ∧ w1 = wx)
 case first =>
  by_cases h1 : r.m.hi = 0
  ·have t1 : (((r.m.hi.toNat : Nat) : Int) == 0) = true:=by rw [bv_beq0];simpa using h1
   have t2 : (((r.m.lo.toNat : Nat) : Int) == 0) = false:=by rw [bv_beq0];simpa using fun e => hz ⟨h1,e⟩
   clear h1 hz
   go_wp2_with fail
   go_meet
   exact ⟨rfl,rfl⟩
  ·have t1 : (((r.m.hi.toNat : Nat) : Int) == 0) = false:=by rw [bv_beq0];simpa using h1
   clear h1 hz
   go_wp2_with fail
   go_meet
   exact ⟨rfl,rfl⟩
 case rest =>
  obtain ⟨rfl,rfl⟩:=hcut
  clear hz x9 x10
  go_upto_region 3 with fail
  have HRE : Hid (d.repair r = if d.lost r = true then ((d,[],50) : PkD × List (UInt16 × List UInt8 × Bool) × Int) else if (restL d.has d.ss r).2.length = 0 then (d,[],40) else match d.room r with
   | none => ((d,[],50) : PkD × List (UInt16 × List UInt8 × Bool) × Int)
   | some l => (({ d with rep:=l ++ [r] } : PkD).tell.1,({ d with rep:=l ++ [r] } : PkD).tell.2.map (fun x => (x.1,x.2,true)),0)):=Hd (by unfold PkD.repair;rw [if_neg HNZ.out];first | rfl | (cases d.room r <;> rfl))
  go_wp2_with (first | (refine wpList_load_row_w rfl 32 (.tmp 2) rfl q rfl 32 _ _ HX.out Tryz.underlying32 rfl (by kernel_rfl) ?_) | (refine wpList_load_row_w rfl 38 (.tmp 3) rfl (q + 1) rfl 38 _ _ HR.out Tryz.underlying38 rfl (by kernel_rfl) ?_))
  refine (r16lost_any HH.out HI.out HML.out HW.out r a n c HV.out).mono ?_
  rintro e w3 ⟨rfl,hF⟩
  have HH:=Hd (HH.out.keep hF);have HX:=Hd (HX.out.keep hF);have HR:=Hd (HR.out.keep hF);have HX4:=Hd (HX4.out.keep hF);have HV:=Hd (Sl.keep HV.out hF);have HF:=Hd (HF.out.trans hF);have HZ:=Hd (Nat.le_trans HZ.out hF.size)
  clear hF
  generalize hlb : d.lost r = lb at *
  have HLB:=Hd hlb
  clear hlb
  cases lb
  rotate_left
  ·have HM:=Hd (HRE.out.trans (if_pos rfl))
   go_wp2_with (first | (refine wpList_load_row_w rfl 32 (.tmp 2) rfl q rfl 32 _ _ HX.out Tryz.underlying32 rfl (by kernel_rfl) ?_) | (refine wpList_store_row rfl 32 (.tmp 4) (.tmp 26) rfl (q + 2) rfl _ (dcc d (.slice am d.med.length cm) (.slice ar d.rep.length cr)) rfl 32 HX4.out (by kernel_rfl) rfl (oD _ _ _ _ _ _ _) ?_;intro w9 hY hG;have HY9:=Hd hY;have HG9:=Hd hG;clear hY hG))
   refine bodyPost_ret (results_row_2 rfl _ _ (q + 2) 32 _ _ rfl HY9.out Tryz.underlying32 rfl (by kernel_rfl)) rfl ⟨_,_,by rw [HM.out];rfl,⟨_,_,[],hs,turn,by rw [HM.out],?_,by rw [HM.out];exact HP.out.mono (by omega),by rw [HM.out];exact SlEls.nil _,by simp,(fun z hz => by cases hz)⟩,HF.out.step HG9.out (fun z hz => by rw [List.mem_singleton] at hz;exact .inr (by have:=HQE.out;omega))⟩
   rw [HM.out]
   exact ((HH.out.fr HG9.out (fun z hz hm => by rw [List.mem_singleton] at hm;have:=hz.2;omega)).imp (fun z _ hz => .inl hz.1))
  have HRE:=Hd (HRE.out.trans (if_neg (by simp)))
  obtain ⟨k,hk⟩ : ∃ k,(restL d.has d.ss r).2.length = k:=⟨_,rfl⟩
  have HK:=Hd hk
  rw [hk] at HRE
  clear hk
  go_upto_region 5 with fail
  go_cut [8] (fun tv wx => ∃ a8 c8,tv = .slice a8 k c8 ∧ Fr [] w3 wx)
  case first =>
   refine wp_region_T (fun w' => Fr [] w3.drew w') [] 13 #[false,false,false,false,false,false,false,false,false,false,false,false,false] (by as_aux_lemma => kernel_rfl) rfl rfl ?_
   try simp only [List.append_eq,List.cons_append,List.nil_append]
   have hF:=(Fr.refl [] w3).drew
   have HH:=Hd (HH.out.keep hF);have HX:=Hd (HX.out.keep hF);have HR:=Hd (HR.out.keep hF);have HX4:=Hd (HX4.out.keep hF);have HV:=Hd (Sl.keep HV.out hF);have HF:=Hd (HF.out.trans hF);have HZ:=Hd (Nat.le_trans HZ.out hF.size)
   have HFD:=Hd hF
   clear hF
   have HSS : Hid (Fr [] w3.drew w3.drew):=Hd (Fr.refl _ _)
   generalize w3.drew = wd at *
   have HX0:=HX;have HR0:=HR
   have X0 : Hid (wd.cell? ⟨q,0,none⟩ = some (.int .u32 (d.ss.toNat : Nat))):=Hd (by rw [HX.out.cell];rfl)
   refine wL 0 ?_ rfl (by as_aux_lemma => kernel_rfl) (fun _ _ _ h => h) HSS.out (by rfl) ?_ ?_
   rotate_left
   ·intro w' hSw;refine run_load_row 38 (.tmp 3) ?_ (q + 1) ?_ 38 _ _ (HR0.out.keep hSw) Tryz.underlying38 rfl (by as_aux_lemma => kernel_rfl) <;> rfl
   simp only [Act.put,zz1,zz2,zz3,zz4,zz5,zz6]
   refine wL 1 ?_ rfl (by as_aux_lemma => kernel_rfl) (fun _ _ _ h => h) HSS.out (by rfl) ?_ ?_
   rotate_left
   ·intro w hSw;go_simp;try with_reducible rfl
   simp only [Act.put,zz1,zz2,zz3,zz4,zz5,zz6]
   refine wL 2 ?_ rfl (by as_aux_lemma => kernel_rfl) (fun _ _ _ h => h) HSS.out (by rfl) ?_ ?_
   rotate_left
   ·intro w hSw;have n0:=hSw.cellSome X0.out (by simp);go_simp;try with_reducible rfl
   simp only [Act.put,zz1,zz2,zz3,zz4,zz5,zz6]
   refine wL 3 ?_ rfl (by as_aux_lemma => kernel_rfl) (fun _ _ _ h => h) HSS.out (by rfl) ?_ ?_
   rotate_left
   ·intro w' hSw;refine run_load_row 32 (.tmp 2) ?_ q ?_ 32 _ _ (HX0.out.keep hSw) Tryz.underlying32 rfl (by as_aux_lemma => kernel_rfl) <;> rfl
   simp only [Act.put,zz1,zz2,zz3,zz4,zz5,zz6]
   refine wL 4 ?_ rfl (by as_aux_lemma => kernel_rfl) (fun _ _ _ h => h) HSS.out (by rfl) ?_ ?_
   rotate_left
   ·intro w' hSw;refine run_load_row 38 (.tmp 3) ?_ (q + 1) ?_ 38 _ _ (HR0.out.keep hSw) Tryz.underlying38 rfl (by as_aux_lemma => kernel_rfl) <;> rfl
   simp only [Act.put,zz1,zz2,zz3,zz4,zz5,zz6]
   refine wpAnyT_two (i:=5) (j:=10) (by as_aux_lemma => kernel_rfl) rfl rfl (fun K hK => ?_) (fun K hK => ?_)
   ·rw [if_pos (by rfl)]
    go_simp
    refine (r16packets_any HH.out HI.out HML.out r a n c HV.out).mono ?_
    rintro e wp1 ⟨vp,rfl,hvp,hF⟩
    obtain ⟨ap,cp,rfl⟩:=hvp.shape
    have HVP:=Hd hvp
    have HSS:=Hd (HSS.out.trans hF)
    have HH:=Hd (HH.out.keep hF);have HX:=Hd (HX.out.keep hF);have HR:=Hd (HR.out.keep hF);have HX4:=Hd (HX4.out.keep hF);have HV:=Hd (Sl.keep HV.out hF);have HF:=Hd (HF.out.trans hF);have HZ:=Hd (Nat.le_trans HZ.out hF.size)
    clear hF hvp
    go_simp
    refine hK.out _ _ (fun _ => HSS.out) ?_
    clear hK K
    simp only [Act.put,zz1,zz2,zz3,zz4,zz5,zz6]
    refine wpAnyT_two (i:=6) (j:=10) (by as_aux_lemma => kernel_rfl) rfl rfl (fun K hK => ?_) (fun K hK => ?_)
    ·rw [if_pos (by rfl)]
     go_simp
     refine (r14Rest_any (r:=r) ⟨_,rfl,HV.out⟩ HBS.out d.ss HVP.out).mono ?_
     rw [HRP.out]
     rintro e wp2 ⟨⟨vh,vb,mv,rfl,hvh,hvb,hmv⟩,hF⟩
     obtain ⟨ah,nh,ch,rfl⟩:=Sl.isSlice hvh
     obtain ⟨ab,nb,cb,rfl⟩:=Sl.isSlice hvb
     obtain ⟨a8,c8,rfl⟩:=Sl.shape hmv
     rw [List.length_map]
     rw [HK.out]
     have HSS:=Hd (HSS.out.trans hF)
     have HH:=Hd (HH.out.keep hF);have HX:=Hd (HX.out.keep hF);have HR:=Hd (HR.out.keep hF);have HX4:=Hd (HX4.out.keep hF);have HV:=Hd (Sl.keep HV.out hF);have HF:=Hd (HF.out.trans hF);have HZ:=Hd (Nat.le_trans HZ.out hF.size)
     have HVP:=Hd (BRows.keep HVP.out hF)
     clear hF hvh hvb hmv
     go_simp
     refine hK.out _ _ (fun _ => HSS.out) ?_
     clear hK K
     simp only [Act.put,zz1,zz2,zz3,zz4,zz5,zz6]
     refine wL 7 ?_ rfl (by as_aux_lemma => kernel_rfl) (fun _ _ _ h => h) HSS.out (by rfl) ?_ ?_
     rotate_left
     ·intro w hSw;go_simp;try with_reducible rfl
     simp only [Act.put,zz1,zz2,zz3,zz4,zz5,zz6]
     refine wL 8 ?_ rfl (by as_aux_lemma => kernel_rfl) (fun _ _ _ h => h) HSS.out (by rfl) ?_ ?_
     rotate_left
     ·intro w hSw;go_simp;try with_reducible rfl
     simp only [Act.put,zz1,zz2,zz3,zz4,zz5,zz6]
     refine wL 9 ?_ rfl (by as_aux_lemma => kernel_rfl) (fun _ _ _ h => h) HSS.out (by rfl) ?_ ?_
     rotate_left
     ·intro w hSw;go_simp;try with_reducible rfl
     simp only [Act.put,zz1,zz2,zz3,zz4,zz5,zz6]
     refine wpAnyT_one (i:=10) (by as_aux_lemma => kernel_rfl) rfl (fun K hK => ?_)
     obtain ⟨wp3,ea,hF,hBa,hsa⟩:=one_new wp2 #[.slice none 0 0,.slice none 0 0] 105
     have EA:=Hd ea;have HGA:=Hd hBa;have HQG : Hid (wd.heap.size ≤ wp2.heap.size):=Hd HSS.out.size
     have HSS:=Hd (HSS.out.trans hF)
     have HH:=Hd (HH.out.keep hF);have HX:=Hd (HX.out.keep hF);have HR:=Hd (HR.out.keep hF);have HX4:=Hd (HX4.out.keep hF);have HV:=Hd (Sl.keep HV.out hF);have HF:=Hd (HF.out.trans hF);have HZ:=Hd (Nat.le_trans HZ.out hF.size)
     have HVP:=Hd (BRows.keep HVP.out hF)
     clear ea hF hBa hsa
     rw [if_pos (by rfl)]
     go_simp
     rw [EA.out]
     refine hK.out _ _ (fun _ => HSS.out) ?_
     clear hK K
     simp only [Act.put,zz1,zz2,zz3,zz4,zz5,zz6]
     refine wpAnyT_one (i:=11) (by as_aux_lemma => kernel_rfl) rfl (fun K hK => ?_)
     refine wp_store_row rfl 105 (.tmp 7) (.tmp 35) rfl (wp2.heap.size) rfl _ _ rfl 105 HGA.out (by as_aux_lemma => kernel_rfl) rfl (by simp [Value.oneCell']) ?_
     intro wp4 hY hG
     have HSS:=Hd (HSS.out.step hG (fun x hx => .inr (by have:=HQG.out;simp at hx;omega)))
     clear hY hG
     refine hK.out _ _ (fun _ => HSS.out) ?_
     clear hK K
     simp only [Act.put,zz1,zz2,zz3,zz4,zz5,zz6]
     refine wL 12 ?_ rfl (by as_aux_lemma => kernel_rfl) (fun _ _ _ h => h) HSS.out (by rfl) ?_ ?_
     rotate_left
     ·intro w hSw;go_simp;try with_reducible rfl
     simp only [Act.put,zz1,zz2,zz3,zz4,zz5,zz6]
     refine wpAnyT_done (by as_aux_lemma => kernel_rfl) ?_ _
     go_wp2_with fail
     go_meet
     exact ⟨_,_,rfl,HFD.out.trans HSS.out⟩
    ·obtain ⟨wp5,ea,hF,hBa,hsa⟩:=one_new wp1 #[.slice none 0 0,.slice none 0 0] 105
     have EA:=Hd ea;have HGA:=Hd hBa;have HQG : Hid (wd.heap.size ≤ wp1.heap.size):=Hd HSS.out.size
     have HSS:=Hd (HSS.out.trans hF)
     have HH:=Hd (HH.out.keep hF);have HX:=Hd (HX.out.keep hF);have HR:=Hd (HR.out.keep hF);have HX4:=Hd (HX4.out.keep hF);have HV:=Hd (Sl.keep HV.out hF);have HF:=Hd (HF.out.trans hF);have HZ:=Hd (Nat.le_trans HZ.out hF.size)
     have HVP:=Hd (BRows.keep HVP.out hF)
     clear ea hF hBa hsa
     rw [if_pos (by rfl)]
     go_simp
     rw [EA.out]
     refine hK.out _ _ (fun _ => HSS.out) ?_
     clear hK K
     simp only [Act.put,zz1,zz2,zz3,zz4,zz5,zz6]
     refine wpAnyT_one (i:=6) (by as_aux_lemma => kernel_rfl) rfl (fun K hK => ?_)
     rw [if_pos (by rfl)]
     go_simp
     refine (r14Rest_any (r:=r) ⟨_,rfl,HV.out⟩ HBS.out d.ss HVP.out).mono ?_
     rw [HRP.out]
     rintro e wp6 ⟨⟨vh,vb,mv,rfl,hvh,hvb,hmv⟩,hF⟩
     obtain ⟨ah,nh,ch,rfl⟩:=Sl.isSlice hvh
     obtain ⟨ab,nb,cb,rfl⟩:=Sl.isSlice hvb
     obtain ⟨a8,c8,rfl⟩:=Sl.shape hmv
     rw [List.length_map]
     rw [HK.out]
     have HSS:=Hd (HSS.out.trans hF)
     have HH:=Hd (HH.out.keep hF);have HX:=Hd (HX.out.keep hF);have HR:=Hd (HR.out.keep hF);have HX4:=Hd (HX4.out.keep hF);have HV:=Hd (Sl.keep HV.out hF);have HF:=Hd (HF.out.trans hF);have HZ:=Hd (Nat.le_trans HZ.out hF.size)
     have HVP:=Hd (BRows.keep HVP.out hF)
     have HGA:=Hd (HGA.out.keep hF)
     clear hF hvh hvb hmv
     go_simp
     refine hK.out _ _ (fun _ => HSS.out) ?_
     clear hK K
     simp only [Act.put,zz1,zz2,zz3,zz4,zz5,zz6]
     refine wL 7 ?_ rfl (by as_aux_lemma => kernel_rfl) (fun _ _ _ h => h) HSS.out (by rfl) ?_ ?_
     rotate_left
     ·intro w hSw;go_simp;try with_reducible rfl
     simp only [Act.put,zz1,zz2,zz3,zz4,zz5,zz6]
     refine wL 8 ?_ rfl (by as_aux_lemma => kernel_rfl) (fun _ _ _ h => h) HSS.out (by rfl) ?_ ?_
     rotate_left
     ·intro w hSw;go_simp;try with_reducible rfl
     simp only [Act.put,zz1,zz2,zz3,zz4,zz5,zz6]
     refine wL 9 ?_ rfl (by as_aux_lemma => kernel_rfl) (fun _ _ _ h => h) HSS.out (by rfl) ?_ ?_
     rotate_left
     ·intro w hSw;go_simp;try with_reducible rfl
     simp only [Act.put,zz1,zz2,zz3,zz4,zz5,zz6]
     refine wpAnyT_one (i:=11) (by as_aux_lemma => kernel_rfl) rfl (fun K hK => ?_)
     refine wp_store_row rfl 105 (.tmp 7) (.tmp 35) rfl (wp1.heap.size) rfl _ _ rfl 105 HGA.out (by as_aux_lemma => kernel_rfl) rfl (by simp [Value.oneCell']) ?_
     intro wp7 hY hG
     have HSS:=Hd (HSS.out.step hG (fun x hx => .inr (by have:=HQG.out;simp at hx;omega)))
     clear hY hG
     refine hK.out _ _ (fun _ => HSS.out) ?_
     clear hK K
     simp only [Act.put,zz1,zz2,zz3,zz4,zz5,zz6]
     refine wL 12 ?_ rfl (by as_aux_lemma => kernel_rfl) (fun _ _ _ h => h) HSS.out (by rfl) ?_ ?_
     rotate_left
     ·intro w hSw;go_simp;try with_reducible rfl
     simp only [Act.put,zz1,zz2,zz3,zz4,zz5,zz6]
     refine wpAnyT_done (by as_aux_lemma => kernel_rfl) ?_ _
     go_wp2_with fail
     go_meet
     exact ⟨_,_,rfl,HFD.out.trans HSS.out⟩
   ·obtain ⟨wp8,ea,hF,hBa,hsa⟩:=one_new wd #[.slice none 0 0,.slice none 0 0] 105
    have EA:=Hd ea;have HGA:=Hd hBa;have HQG : Hid (wd.heap.size ≤ wd.heap.size):=Hd HSS.out.size
    have HSS:=Hd (HSS.out.trans hF)
    have HH:=Hd (HH.out.keep hF);have HX:=Hd (HX.out.keep hF);have HR:=Hd (HR.out.keep hF);have HX4:=Hd (HX4.out.keep hF);have HV:=Hd (Sl.keep HV.out hF);have HF:=Hd (HF.out.trans hF);have HZ:=Hd (Nat.le_trans HZ.out hF.size)
    clear ea hF hBa hsa
    rw [if_pos (by rfl)]
    go_simp
    rw [EA.out]
    refine hK.out _ _ (fun _ => HSS.out) ?_
    clear hK K
    simp only [Act.put,zz1,zz2,zz3,zz4,zz5,zz6]
    refine wpAnyT_one (i:=5) (by as_aux_lemma => kernel_rfl) rfl (fun K hK => ?_)
    rw [if_pos (by rfl)]
    go_simp
    refine (r16packets_any HH.out HI.out HML.out r a n c HV.out).mono ?_
    rintro e wp9 ⟨vp,rfl,hvp,hF⟩
    obtain ⟨ap,cp,rfl⟩:=hvp.shape
    have HVP:=Hd hvp
    have HSS:=Hd (HSS.out.trans hF)
    have HH:=Hd (HH.out.keep hF);have HX:=Hd (HX.out.keep hF);have HR:=Hd (HR.out.keep hF);have HX4:=Hd (HX4.out.keep hF);have HV:=Hd (Sl.keep HV.out hF);have HF:=Hd (HF.out.trans hF);have HZ:=Hd (Nat.le_trans HZ.out hF.size)
    have HGA:=Hd (HGA.out.keep hF)
    clear hF hvp
    go_simp
    refine hK.out _ _ (fun _ => HSS.out) ?_
    clear hK K
    simp only [Act.put,zz1,zz2,zz3,zz4,zz5,zz6]
    refine wpAnyT_one (i:=6) (by as_aux_lemma => kernel_rfl) rfl (fun K hK => ?_)
    rw [if_pos (by rfl)]
    go_simp
    refine (r14Rest_any (r:=r) ⟨_,rfl,HV.out⟩ HBS.out d.ss HVP.out).mono ?_
    rw [HRP.out]
    rintro e wp10 ⟨⟨vh,vb,mv,rfl,hvh,hvb,hmv⟩,hF⟩
    obtain ⟨ah,nh,ch,rfl⟩:=Sl.isSlice hvh
    obtain ⟨ab,nb,cb,rfl⟩:=Sl.isSlice hvb
    obtain ⟨a8,c8,rfl⟩:=Sl.shape hmv
    rw [List.length_map]
    rw [HK.out]
    have HSS:=Hd (HSS.out.trans hF)
    have HH:=Hd (HH.out.keep hF);have HX:=Hd (HX.out.keep hF);have HR:=Hd (HR.out.keep hF);have HX4:=Hd (HX4.out.keep hF);have HV:=Hd (Sl.keep HV.out hF);have HF:=Hd (HF.out.trans hF);have HZ:=Hd (Nat.le_trans HZ.out hF.size)
    have HVP:=Hd (BRows.keep HVP.out hF)
    have HGA:=Hd (HGA.out.keep hF)
    clear hF hvh hvb hmv
    go_simp
    refine hK.out _ _ (fun _ => HSS.out) ?_
    clear hK K
    simp only [Act.put,zz1,zz2,zz3,zz4,zz5,zz6]
    refine wL 7 ?_ rfl (by as_aux_lemma => kernel_rfl) (fun _ _ _ h => h) HSS.out (by rfl) ?_ ?_
    rotate_left
    ·intro w hSw;go_simp;try with_reducible rfl
    simp only [Act.put,zz1,zz2,zz3,zz4,zz5,zz6]
    refine wL 8 ?_ rfl (by as_aux_lemma => kernel_rfl) (fun _ _ _ h => h) HSS.out (by rfl) ?_ ?_
    rotate_left
    ·intro w hSw;go_simp;try with_reducible rfl
    simp only [Act.put,zz1,zz2,zz3,zz4,zz5,zz6]
    refine wL 9 ?_ rfl (by as_aux_lemma => kernel_rfl) (fun _ _ _ h => h) HSS.out (by rfl) ?_ ?_
    rotate_left
    ·intro w hSw;go_simp;try with_reducible rfl
    simp only [Act.put,zz1,zz2,zz3,zz4,zz5,zz6]
    refine wpAnyT_one (i:=11) (by as_aux_lemma => kernel_rfl) rfl (fun K hK => ?_)
    refine wp_store_row rfl 105 (.tmp 7) (.tmp 35) rfl (wd.heap.size) rfl _ _ rfl 105 HGA.out (by as_aux_lemma => kernel_rfl) rfl (by simp [Value.oneCell']) ?_
    intro wp11 hY hG
    have HSS:=Hd (HSS.out.step hG (fun x hx => .inr (by have:=HQG.out;simp at hx;omega)))
    clear hY hG
    refine hK.out _ _ (fun _ => HSS.out) ?_
    clear hK K
    simp only [Act.put,zz1,zz2,zz3,zz4,zz5,zz6]
    refine wL 12 ?_ rfl (by as_aux_lemma => kernel_rfl) (fun _ _ _ h => h) HSS.out (by rfl) ?_ ?_
    rotate_left
    ·intro w hSw;go_simp;try with_reducible rfl
    simp only [Act.put,zz1,zz2,zz3,zz4,zz5,zz6]
    refine wpAnyT_done (by as_aux_lemma => kernel_rfl) ?_ _
    go_wp2_with fail
    go_meet
    exact ⟨_,_,rfl,HFD.out.trans HSS.out⟩
  case rest =>
   obtain ⟨a8,c8,rfl,hF⟩:=hcut
   have HH:=Hd (HH.out.keep hF);have HX:=Hd (HX.out.keep hF);have HR:=Hd (HR.out.keep hF);have HX4:=Hd (HX4.out.keep hF);have HV:=Hd (Sl.keep HV.out hF);have HF:=Hd (HF.out.trans hF);have HZ:=Hd (Nat.le_trans HZ.out hF.size)
   clear hF
   by_cases hk0 : k = 0
   ·have HM:=Hd (HRE.out.trans (if_pos hk0))
    subst hk0
    go_wp2_with (first | (refine wpList_load_row_w rfl 32 (.tmp 2) rfl q rfl 32 _ _ HX.out Tryz.underlying32 rfl (by kernel_rfl) ?_) | (refine wpList_store_row rfl 32 (.tmp 4) (.tmp 40) rfl (q + 2) rfl _ (dcc d (.slice am d.med.length cm) (.slice ar d.rep.length cr)) rfl 32 HX4.out (by kernel_rfl) rfl (oD _ _ _ _ _ _ _) ?_;intro w9 hY hG;have HY9:=Hd hY;have HG9:=Hd hG;clear hY hG))
    refine bodyPost_ret (results_row_2 rfl _ _ (q + 2) 32 _ _ rfl HY9.out Tryz.underlying32 rfl (by kernel_rfl)) rfl ⟨_,_,by rw [HM.out];rfl,⟨_,_,[],hs,turn,by rw [HM.out],?_,by rw [HM.out];exact HP.out.mono (by omega),by rw [HM.out];exact SlEls.nil _,by simp,(fun z hz => by cases hz)⟩,HF.out.step HG9.out (fun z hz => by rw [List.mem_singleton] at hz;exact .inr (by have:=HQE.out;omega))⟩
    rw [HM.out]
    exact ((HH.out.fr HG9.out (fun z hz hm => by rw [List.mem_singleton] at hm;have:=hz.2;omega)).imp (fun z _ hz => .inl hz.1))
   have HRE:=Hd (HRE.out.trans (if_neg hk0))
   have hkb : (((k : Nat) : Int) == 0) = false:=beq_eq_false_iff_ne.2 (by omega)
   clear hk0
   go_upto_region 8 with fail
   have x2:=HX.out.cell 2;have x5:=HX.out.cell 5
   simp only [dcc,zz7,zz8,zz9] at x2 x5
   have HRL : Hid (d.rep.length = hs.length):=Hd (by rw [HP.out.rep,List.length_map])
   go_upto_if 46 with fail
   clear x2
   go_cut [] (fun wx => RoomD P q wc d r hs turn N (.slice am d.med.length cm) wx)
   case first =>
    by_cases hlt : hs.length < d.r
    ·have hne : (((d.rep.length : Nat) : Int) == ((d.r : Nat) : Int)) = false:=beq_eq_false_iff_ne.2 (by have:=HRL.out;omega)
     have HLT:=Hd hlt
     clear hlt
     go_wp2_with fail
     go_meet
     exact ⟨d.rep,hs,.slice ar d.rep.length cr,room_less HP.out.rep HLT.out r,HP.out.rep,HP.out,HLT.out,HX.out,HH.out.imp (fun z _ hz => .inl hz),Fr.refl _ _⟩
    ·have hne : (((d.rep.length : Nat) : Int) == ((d.r : Nat) : Int)) = true:=beq_iff_eq.2 (by have:=HRL.out;have:=HP.out.len;omega)
     have HGE:=Hd hlt
     have HPOS : Hid (0 < d.rep.length):=Hd (by have:=HRL.out;have:=HP.out.r1;omega)
     have HLN : Hid (d.rep.length ≤ 16):=Hd (by have:=HRL.out;have:=HP.out.len;have:=HP.out.r;omega)
     have HNS : Hid (∀ y ∈ d.rep,¬(y.m.hi = 0 ∧ y.m.lo = 0)):=Hd (fun y hy => by
      rw [HP.out.rep] at hy
      obtain ⟨yh,h1,rfl⟩:=List.mem_map.1 hy
      exact HP.out.nz yh h1)
     clear hlt
     go_upto_region 11 with fail
     clear hne
     go_loopw [9,10] (fun av iv wr => ∃ (i j : Nat) (y : Rep_),iv = .int .i64 i ∧ av = .int .i64 j ∧ i ≤ d.rep.length ∧ d.rep[j]? = some y ∧ minAtF d.first (d.rep.drop i) i j (d.first y) = minAt d.first d.rep ∧ Fr [] wc wr) (fun _ iv _ => d.rep.length - (Go.RowKit.intOf iv).toNat)
     case atStart =>
      obtain ⟨y,hy⟩ : ∃ y,d.rep[0]? = some y:=⟨_,List.getElem?_eq_getElem HPOS.out⟩
      exact ⟨0,0,y,rfl,rfl,Nat.zero_le _,hy,minAt_start hy,Fr.refl _ _⟩
     case round =>
      obtain ⟨i,j,y,rfl,rfl,hi,hj,hmn,hF⟩:=hrel
      have HH:=Hd (HH.out.keep hF);have HX:=Hd (HX.out.keep hF);have HR:=Hd (HR.out.keep hF);have HX4:=Hd (HX4.out.keep hF);have HV:=Hd (Sl.keep HV.out hF);have HF:=Hd (HF.out.trans hF);have HZ:=Hd (Nat.le_trans HZ.out hF.size)
      have HFL:=Hd hF
      have HJ:=Hd hj;have HMN:=Hd hmn;have HII:=Hd hi
      have hln:=HLN.out
      clear hj hmn
      have x5:=HX.out.cell 5
      simp only [dcc,zz7,zz8,zz9] at x5
      by_cases hlt : i < d.rep.length
      ·have HLT:=Hd hlt
       clear hF
       go_upto_region 13 with fail
       clear x5
       refine wp_region_T (fun w' => Fr [] wr.drew w') [] 15 #[false,false,false,false,false,false,false,false,false,false,false,false,false,false,false] (by as_aux_lemma => kernel_rfl) rfl rfl ?_
       try simp only [List.append_eq,List.cons_append,List.nil_append]
       have hF:=(Fr.refl [] wr).drew
       have HH:=Hd (HH.out.keep hF);have HX:=Hd (HX.out.keep hF);have HR:=Hd (HR.out.keep hF);have HX4:=Hd (HX4.out.keep hF);have HV:=Hd (Sl.keep HV.out hF);have HF:=Hd (HF.out.trans hF);have HZ:=Hd (Nat.le_trans HZ.out hF.size)
       have HFL:=Hd (HFL.out.trans hF)
       clear hF
       have HSS : Hid (Fr [] wr.drew wr.drew):=Hd (Fr.refl _ _)
       generalize wr.drew = wd at *
       obtain ⟨-,Brr,-,hrs,-⟩:=HH.out
       obtain ⟨bu,ou,cu,yi,B1u,eau,-,hyu,hRu,-,hrgu⟩:=hrs.at_ Rep.rp (i:=i) (by have:=HLT.out;omega)
       subst eau
       obtain ⟨vbu,rfl,hbyu,-⟩:=hRu
       obtain ⟨au3,nu3,cu3,rfl⟩:=Sl.isSlice hbyu
       have HRGu:=Hd hrgu;have HBYu:=Hd hbyu;have HYu:=Hd hyu
       have HNZu:=Hd (HNS.out yi (List.mem_of_getElem? hyu))
       clear hrgu hbyu hyu
       obtain ⟨bv,ov,cv,yv',B1v,eav,-,hyv,hRv,-,hrgv⟩:=hrs.at_ Rep.rp (i:=j) ((List.getElem?_eq_some_iff.1 HJ.out).1)
       simp only [Option.some.injEq,Addr.mk.injEq,and_true] at eav
       obtain ⟨rfl,rfl⟩:=eav
       obtain ⟨vbv,rfl,hbyv,-⟩:=hRv
       obtain ⟨av3,nv3,cv3,rfl⟩:=Sl.isSlice hbyv
       have HRGv:=Hd hrgv;have HBYv:=Hd hbyv;have HYv:=Hd hyv
       have HNZv:=Hd (HNS.out yv' (List.mem_of_getElem? hyv))
       clear hrgv hbyv hyv
       have HYI:=HYu
       obtain rfl : y = yv':=Option.some.inj (HJ.out.symm.trans HYv.out)
       have hlj:=(List.getElem?_eq_some_iff.1 HJ.out).1
       have X5 : Hid (wd.cell? ⟨q,5,none⟩ = some (.slice (some ⟨bu,ou,none⟩) d.rep.length cr)):=Hd (by rw [HX.out.cell];rfl)
       have HX0:=HX;have HR0:=HR
       refine wL 0 ?_ rfl (by as_aux_lemma => kernel_rfl) (fun _ _ _ h => h) HSS.out (by rfl) ?_ ?_
       rotate_left
       ·intro w' hSw;refine run_load_row 32 (.tmp 2) ?_ q ?_ 32 _ _ (HX0.out.keep hSw) Tryz.underlying32 rfl (by as_aux_lemma => kernel_rfl) <;> rfl
       simp only [Act.put,zz1,zz2,zz3,zz4,zz5,zz6]
       refine wL 1 ?_ rfl (by as_aux_lemma => kernel_rfl) (fun _ _ _ h => h) HSS.out (by rfl) ?_ ?_
       rotate_left
       ·intro w hSw;have n0:=hSw.cellSome X5.out (by simp);go_simp;try with_reducible rfl
       simp only [Act.put,zz1,zz2,zz3,zz4,zz5,zz6]
       refine wL 2 ?_ rfl (by as_aux_lemma => kernel_rfl) (fun _ _ _ h => h) HSS.out (by rfl) ?_ ?_
       rotate_left
       ·intro w hSw;have n0:=hSw.cellSome X5.out (by simp);go_simp;try with_reducible rfl
       simp only [Act.put,zz1,zz2,zz3,zz4,zz5,zz6]
       refine wL 3 ?_ rfl (by as_aux_lemma => kernel_rfl) (fun _ _ _ h => h) HSS.out (by rfl) ?_ ?_
       rotate_left
       ·intro w hSw;have n0:=hSw.cellSome X5.out (by simp);go_simp;try with_reducible rfl
       simp only [Act.put,zz1,zz2,zz3,zz4,zz5,zz6]
       refine wL 4 ?_ rfl (by as_aux_lemma => kernel_rfl) (fun _ _ _ h => h) HSS.out (by rfl) ?_ ?_
       rotate_left
       ·intro w hSw;have n0:=hSw.cellSome X5.out (by simp);go_simp;try with_reducible rfl
       simp only [Act.put,zz1,zz2,zz3,zz4,zz5,zz6]
       refine wL 5 ?_ rfl (by as_aux_lemma => kernel_rfl) (fun _ _ _ h => h) HSS.out (by rfl) ?_ ?_
       rotate_left
       ·intro w' hSw;refine run_load_mid_ask 38 (.tmp 58) ?_ bu (ou + i * 12) ?_ (rpc yi (.slice au3 nu3 cu3)) _ (fr_rngB hSw HRGu.out (by simp)) Tryz.underlying38 rfl (by as_aux_lemma => kernel_rfl) <;> rfl
       simp only [Act.put,zz1,zz2,zz3,zz4,zz5,zz6]
       refine wL 7 ?_ rfl (by as_aux_lemma => kernel_rfl) (fun _ _ _ h => h) HSS.out (by rfl) ?_ ?_
       rotate_left
       ·intro w' hSw;refine run_load_row 32 (.tmp 2) ?_ q ?_ 32 _ _ (HX0.out.keep hSw) Tryz.underlying32 rfl (by as_aux_lemma => kernel_rfl) <;> rfl
       simp only [Act.put,zz1,zz2,zz3,zz4,zz5,zz6]
       refine wL 8 ?_ rfl (by as_aux_lemma => kernel_rfl) (fun _ _ _ h => h) HSS.out (by rfl) ?_ ?_
       rotate_left
       ·intro w hSw;have n0:=hSw.cellSome X5.out (by simp);go_simp;try with_reducible rfl
       simp only [Act.put,zz1,zz2,zz3,zz4,zz5,zz6]
       refine wL 9 ?_ rfl (by as_aux_lemma => kernel_rfl) (fun _ _ _ h => h) HSS.out (by rfl) ?_ ?_
       rotate_left
       ·intro w hSw;have n0:=hSw.cellSome X5.out (by simp);go_simp;try with_reducible rfl
       simp only [Act.put,zz1,zz2,zz3,zz4,zz5,zz6]
       refine wL 10 ?_ rfl (by as_aux_lemma => kernel_rfl) (fun _ _ _ h => h) HSS.out (by rfl) ?_ ?_
       rotate_left
       ·intro w hSw;have n0:=hSw.cellSome X5.out (by simp);go_simp;try with_reducible rfl
       simp only [Act.put,zz1,zz2,zz3,zz4,zz5,zz6]
       refine wL 11 ?_ rfl (by as_aux_lemma => kernel_rfl) (fun _ _ _ h => h) HSS.out (by rfl) ?_ ?_
       rotate_left
       ·intro w hSw;have n0:=hSw.cellSome X5.out (by simp);go_simp;try with_reducible rfl
       simp only [Act.put,zz1,zz2,zz3,zz4,zz5,zz6]
       refine wL 12 ?_ rfl (by as_aux_lemma => kernel_rfl) (fun _ _ _ h => h) HSS.out (by rfl) ?_ ?_
       rotate_left
       ·intro w' hSw;refine run_load_mid_ask 38 (.tmp 65) ?_ bu (ou + j * 12) ?_ (rpc y (.slice av3 nv3 cv3)) _ (fr_rngB hSw HRGv.out (by simp)) Tryz.underlying38 rfl (by as_aux_lemma => kernel_rfl) <;> rfl
       simp only [Act.put,zz1,zz2,zz3,zz4,zz5,zz6]
       refine wpAnyT_one (i:=6) (by as_aux_lemma => kernel_rfl) rfl (fun K hK => ?_)
       rw [if_pos (by rfl)]
       go_simp
       refine (r16first_any HI.out am (some ⟨bu,ou,none⟩) _ cm _ cr HNZu.out HBYu.out).mono ?_
       rintro e wq6 ⟨rfl,hF⟩
       have HSS:=Hd (HSS.out.trans hF)
       have HH:=Hd (HH.out.keep hF);have HX:=Hd (HX.out.keep hF);have HR:=Hd (HR.out.keep hF);have HX4:=Hd (HX4.out.keep hF);have HV:=Hd (Sl.keep HV.out hF);have HF:=Hd (HF.out.trans hF);have HZ:=Hd (Nat.le_trans HZ.out hF.size)
       have HFL:=Hd (HFL.out.trans hF)
       have HBYv:=Hd (Sl.keep HBYv.out hF)
       clear hF
       go_simp
       refine hK.out _ _ (fun _ => HSS.out) ?_
       clear hK K
       simp only [Act.put,zz1,zz2,zz3,zz4,zz5,zz6]
       refine wpAnyT_one (i:=13) (by as_aux_lemma => kernel_rfl) rfl (fun K hK => ?_)
       rw [if_pos (by rfl)]
       go_simp
       refine (r16first_any HI.out am (some ⟨bu,ou,none⟩) _ cm _ cr HNZv.out HBYv.out).mono ?_
       rintro e wq13 ⟨rfl,hF⟩
       have HSS:=Hd (HSS.out.trans hF)
       have HH:=Hd (HH.out.keep hF);have HX:=Hd (HX.out.keep hF);have HR:=Hd (HR.out.keep hF);have HX4:=Hd (HX4.out.keep hF);have HV:=Hd (Sl.keep HV.out hF);have HF:=Hd (HF.out.trans hF);have HZ:=Hd (Nat.le_trans HZ.out hF.size)
       have HFL:=Hd (HFL.out.trans hF)
       clear hF
       go_simp
       refine hK.out _ _ (fun _ => HSS.out) ?_
       clear hK K
       simp only [Act.put,zz1,zz2,zz3,zz4,zz5,zz6]
       refine wL 14 ?_ rfl (by as_aux_lemma => kernel_rfl) (fun _ _ _ h => h) HSS.out (by rfl) ?_ ?_
       rotate_left
       ·intro w hSw;go_simp;try with_reducible rfl
       simp only [Act.put,zz1,zz2,zz3,zz4,zz5,zz6]
       refine wpAnyT_done (by as_aux_lemma => kernel_rfl) ?_ _
       clear HSS X5 HX0 HR0
       obtain ⟨tb,htb⟩ : ∃ tb,decide (d.first yi < d.first y) = tb:=⟨_,rfl⟩
       rw [htb]
       cases tb
       rotate_left
       ·have hfl : d.first yi < d.first y:=of_decide_eq_true htb
        clear htb
        have HM2 : Hid (minAtF d.first (d.rep.drop (i + 1)) (i + 1) i (d.first yi) = minAt d.first d.rep):=Hd (by rw [← HMN.out,drop_at HYI.out,minAtF_lt hfl])
        clear hfl
        go_wp2_with fail
        go_roundw
        case rel => refine ⟨i + 1,?_,i,rfl,by omega,yi,HYI.out,HM2.out,HFL.out⟩;go_num
        case measure => simp [Go.RowKit.intOf];omega
       ·have hfl : ¬ d.first yi < d.first y:=of_decide_eq_false htb
        clear htb
        have HM2 : Hid (minAtF d.first (d.rep.drop (i + 1)) (i + 1) j (d.first y) = minAt d.first d.rep):=Hd (by rw [← HMN.out,drop_at HYI.out,minAtF_ge hfl])
        clear hfl
        go_wp2_with fail
        go_roundw
        case rel => refine ⟨i + 1,?_,j,rfl,by omega,y,HJ.out,HM2.out,HFL.out⟩;go_num
        case measure => simp [Go.RowKit.intOf];omega
      ·obtain rfl : i = d.rep.length:=by omega
       have HME : Hid (minAt d.first d.rep = j):=Hd (by
        rw [← HMN.out,List.drop_length]
        rfl)
       have HRM : Hid (d.room r = if d.first r < d.first y then none else some (d.rep.eraseIdx j)):=Hd (by
        unfold PkD.room
        rw [if_neg (by have:=HGE.out;have:=HRL.out;omega),HME.out,HJ.out])
       clear hlt hF
       go_upto_region 15 with fail
       clear x5
       refine wp_region_T (fun w' => Fr [] wr.drew w') [] 11 #[false,false,false,false,false,false,false,false,false,false,false] (by as_aux_lemma => kernel_rfl) rfl rfl ?_
       try simp only [List.append_eq,List.cons_append,List.nil_append]
       have hF:=(Fr.refl [] wr).drew
       have HH:=Hd (HH.out.keep hF);have HX:=Hd (HX.out.keep hF);have HR:=Hd (HR.out.keep hF);have HX4:=Hd (HX4.out.keep hF);have HV:=Hd (Sl.keep HV.out hF);have HF:=Hd (HF.out.trans hF);have HZ:=Hd (Nat.le_trans HZ.out hF.size)
       have HFL:=Hd (HFL.out.trans hF)
       clear hF
       have HSS : Hid (Fr [] wr.drew wr.drew):=Hd (Fr.refl _ _)
       generalize wr.drew = wd at *
       obtain ⟨-,Brr,-,hrs,-⟩:=HH.out
       obtain ⟨bu,ou,cu,yu',B1u,eau,-,hyu,hRu,-,hrgu⟩:=hrs.at_ Rep.rp (i:=j) ((List.getElem?_eq_some_iff.1 HJ.out).1)
       subst eau
       obtain ⟨vbu,rfl,hbyu,-⟩:=hRu
       obtain ⟨au3,nu3,cu3,rfl⟩:=Sl.isSlice hbyu
       have HRGu:=Hd hrgu;have HBYu:=Hd hbyu;have HYu:=Hd hyu
       have HNZu:=Hd (HNS.out yu' (List.mem_of_getElem? hyu))
       clear hrgu hbyu hyu
       obtain rfl : y = yu':=Option.some.inj (HJ.out.symm.trans HYu.out)
       have hlj:=(List.getElem?_eq_some_iff.1 HJ.out).1
       have X5 : Hid (wd.cell? ⟨q,5,none⟩ = some (.slice (some ⟨bu,ou,none⟩) d.rep.length cr)):=Hd (by rw [HX.out.cell];rfl)
       have HX0:=HX;have HR0:=HR
       refine wL 0 ?_ rfl (by as_aux_lemma => kernel_rfl) (fun _ _ _ h => h) HSS.out (by rfl) ?_ ?_
       rotate_left
       ·intro w' hSw;refine run_load_row 32 (.tmp 2) ?_ q ?_ 32 _ _ (HX0.out.keep hSw) Tryz.underlying32 rfl (by as_aux_lemma => kernel_rfl) <;> rfl
       simp only [Act.put,zz1,zz2,zz3,zz4,zz5,zz6]
       refine wL 1 ?_ rfl (by as_aux_lemma => kernel_rfl) (fun _ _ _ h => h) HSS.out (by rfl) ?_ ?_
       rotate_left
       ·intro w' hSw;refine run_load_row 38 (.tmp 3) ?_ (q + 1) ?_ 38 _ _ (HR0.out.keep hSw) Tryz.underlying38 rfl (by as_aux_lemma => kernel_rfl) <;> rfl
       simp only [Act.put,zz1,zz2,zz3,zz4,zz5,zz6]
       refine wL 3 ?_ rfl (by as_aux_lemma => kernel_rfl) (fun _ _ _ h => h) HSS.out (by rfl) ?_ ?_
       rotate_left
       ·intro w' hSw;refine run_load_row 32 (.tmp 2) ?_ q ?_ 32 _ _ (HX0.out.keep hSw) Tryz.underlying32 rfl (by as_aux_lemma => kernel_rfl) <;> rfl
       simp only [Act.put,zz1,zz2,zz3,zz4,zz5,zz6]
       refine wL 4 ?_ rfl (by as_aux_lemma => kernel_rfl) (fun _ _ _ h => h) HSS.out (by rfl) ?_ ?_
       rotate_left
       ·intro w hSw;have n0:=hSw.cellSome X5.out (by simp);go_simp;try with_reducible rfl
       simp only [Act.put,zz1,zz2,zz3,zz4,zz5,zz6]
       refine wL 5 ?_ rfl (by as_aux_lemma => kernel_rfl) (fun _ _ _ h => h) HSS.out (by rfl) ?_ ?_
       rotate_left
       ·intro w hSw;have n0:=hSw.cellSome X5.out (by simp);go_simp;try with_reducible rfl
       simp only [Act.put,zz1,zz2,zz3,zz4,zz5,zz6]
       refine wL 6 ?_ rfl (by as_aux_lemma => kernel_rfl) (fun _ _ _ h => h) HSS.out (by rfl) ?_ ?_
       rotate_left
       ·intro w hSw;have n0:=hSw.cellSome X5.out (by simp);go_simp;try with_reducible rfl
       simp only [Act.put,zz1,zz2,zz3,zz4,zz5,zz6]
       refine wL 7 ?_ rfl (by as_aux_lemma => kernel_rfl) (fun _ _ _ h => h) HSS.out (by rfl) ?_ ?_
       rotate_left
       ·intro w hSw;have n0:=hSw.cellSome X5.out (by simp);go_simp;try with_reducible rfl
       simp only [Act.put,zz1,zz2,zz3,zz4,zz5,zz6]
       refine wL 8 ?_ rfl (by as_aux_lemma => kernel_rfl) (fun _ _ _ h => h) HSS.out (by rfl) ?_ ?_
       rotate_left
       ·intro w' hSw;refine run_load_mid_ask 38 (.tmp 77) ?_ bu (ou + j * 12) ?_ (rpc y (.slice au3 nu3 cu3)) _ (fr_rngB hSw HRGu.out (by simp)) Tryz.underlying38 rfl (by as_aux_lemma => kernel_rfl) <;> rfl
       simp only [Act.put,zz1,zz2,zz3,zz4,zz5,zz6]
       refine wpAnyT_one (i:=2) (by as_aux_lemma => kernel_rfl) rfl (fun K hK => ?_)
       rw [if_pos (by rfl)]
       go_simp
       refine (r16first_any HI.out am (some ⟨bu,ou,none⟩) _ cm _ cr HNZ.out HV.out).mono ?_
       rintro e wq2 ⟨rfl,hF⟩
       have HSS:=Hd (HSS.out.trans hF)
       have HH:=Hd (HH.out.keep hF);have HX:=Hd (HX.out.keep hF);have HR:=Hd (HR.out.keep hF);have HX4:=Hd (HX4.out.keep hF);have HV:=Hd (Sl.keep HV.out hF);have HF:=Hd (HF.out.trans hF);have HZ:=Hd (Nat.le_trans HZ.out hF.size)
       have HFL:=Hd (HFL.out.trans hF)
       have HBYu:=Hd (Sl.keep HBYu.out hF)
       clear hF
       go_simp
       refine hK.out _ _ (fun _ => HSS.out) ?_
       clear hK K
       simp only [Act.put,zz1,zz2,zz3,zz4,zz5,zz6]
       refine wpAnyT_one (i:=9) (by as_aux_lemma => kernel_rfl) rfl (fun K hK => ?_)
       rw [if_pos (by rfl)]
       go_simp
       refine (r16first_any HI.out am (some ⟨bu,ou,none⟩) _ cm _ cr HNZu.out HBYu.out).mono ?_
       rintro e wq9 ⟨rfl,hF⟩
       have HSS:=Hd (HSS.out.trans hF)
       have HH:=Hd (HH.out.keep hF);have HX:=Hd (HX.out.keep hF);have HR:=Hd (HR.out.keep hF);have HX4:=Hd (HX4.out.keep hF);have HV:=Hd (Sl.keep HV.out hF);have HF:=Hd (HF.out.trans hF);have HZ:=Hd (Nat.le_trans HZ.out hF.size)
       have HFL:=Hd (HFL.out.trans hF)
       clear hF
       go_simp
       refine hK.out _ _ (fun _ => HSS.out) ?_
       clear hK K
       simp only [Act.put,zz1,zz2,zz3,zz4,zz5,zz6]
       refine wL 10 ?_ rfl (by as_aux_lemma => kernel_rfl) (fun _ _ _ h => h) HSS.out (by rfl) ?_ ?_
       rotate_left
       ·intro w hSw;go_simp;try with_reducible rfl
       simp only [Act.put,zz1,zz2,zz3,zz4,zz5,zz6]
       refine wpAnyT_done (by as_aux_lemma => kernel_rfl) ?_ _
       clear HSS X5 HX0 HR0
       obtain ⟨tb,htb⟩ : ∃ tb,decide (d.first r < d.first y) = tb:=⟨_,rfl⟩
       rw [htb]
       cases tb
       rotate_left
       ·have hfr : d.first r < d.first y:=of_decide_eq_true htb
        clear htb
        have HM : Hid (d.repair r = (d,[],50)):=Hd (by rw [HRE.out,HRM.out,if_pos hfr])
        clear hfr
        go_wp2_with (first | (refine wpList_load_row_w rfl 32 (.tmp 2) rfl q rfl 32 _ _ HX.out Tryz.underlying32 rfl (by kernel_rfl) ?_) | (refine wpList_store_row rfl 32 (.tmp 4) (.tmp 81) rfl (q + 2) rfl _ (dcc d (.slice am d.med.length cm) (.slice (some ⟨bu,ou,none⟩) d.rep.length cr)) rfl 32 HX4.out (by kernel_rfl) rfl (oD _ _ _ _ _ _ _) ?_;intro w9 hY hG;have HY9:=Hd hY;have HG9:=Hd hG;clear hY hG))
        refine bodyPost_ret (results_row_2 rfl _ _ (q + 2) 32 _ _ rfl HY9.out Tryz.underlying32 rfl (by kernel_rfl)) rfl ⟨_,_,by rw [HM.out];rfl,⟨_,_,[],hs,turn,by rw [HM.out],?_,by rw [HM.out];exact HP.out.mono (by omega),by rw [HM.out];exact SlEls.nil _,by simp,(fun z hz => by cases hz)⟩,HF.out.step HG9.out (fun z hz => by rw [List.mem_singleton] at hz;exact .inr (by have:=HQE.out;omega))⟩
        rw [HM.out]
        exact ((HH.out.fr HG9.out (fun z hz hm => by rw [List.mem_singleton] at hm;have:=hz.2;omega)).imp (fun z _ hz => .inl hz.1))
       have hfr : ¬ d.first r < d.first y:=of_decide_eq_false htb
       clear htb
       have HRM:=Hd (HRM.out.trans (if_neg hfr))
       clear hfr
       obtain ⟨vis,hvis⟩ : ∃ vis,d.rep.take j = vis:=⟨_,rfl⟩
       obtain ⟨rest,hrest⟩ : ∃ rest,d.rep.drop (j + 1) = rest:=⟨_,rfl⟩
       have hrep : d.rep = vis ++ y :: rest:=by rw [← hvis,← hrest,← drop_at HJ.out,List.take_append_drop]
       obtain rfl : vis.length = j:=by rw [← hvis,List.length_take];omega
       have HER : Hid (d.rep.eraseIdx vis.length = vis ++ rest):=Hd (by rw [List.eraseIdx_eq_take_drop_succ,hvis,hrest])
       have HHE : Hid ((hs.eraseIdx vis.length).map Prod.fst = vis ++ rest):=Hd (by rw [map_erase,← HP.out.rep,HER.out])
       have HRL0 : Hid (d.rep.length = vis.length + (rest.length + 1)):=Hd (by rw [hrep,List.length_append,List.length_cons])
       have het : (d.rep.drop (vis.length + 1)).take rest.length = rest:=by rw [hrest,List.take_length]
       obtain ⟨Bm,Br,hm,hr,hBm,hBr,hlm,hlr⟩:=HH.out
       obtain ⟨Bv,hv1,hv2⟩:=hr.pre Rep.rp vis.length (by have:=HRL0.out;omega)
       obtain ⟨Bt,ht1,ht2⟩:=hr.part Rep.rp (vis.length + 1) rest.length (by have:=HRL0.out;omega)
       have hcap:=(hr.len).2.1
       rw [hvis] at hv1
       rw [het] at ht1
       simp only [Option.map_some,Addr.add_mid] at ht1
       obtain ⟨qa,hqa⟩ : ∃ qa,(if cr = vis.length + 1 then some (⟨bu,ou,none⟩ : Addr) else some ⟨bu,ou + (vis.length + 1) * 12,none⟩) = qa:=⟨_,rfl⟩
       rw [hqa] at ht1
       have HST2:=Hd ht1
       have HMM:=Hd hm;have HBM:=Hd hBm;have HBR:=Hd hBr;have HLMM:=Hd hlm
       have HBV : Hid (∀ z ∈ Bv,P z ∧ z < q):=Hd (fun z hz => hBr z (hv2 z hz))
       have HBT : Hid (∀ z ∈ Bt,P z ∧ z < q):=Hd (fun z hz => hBr z (ht2 z hz))
       obtain ⟨w5,e5,hF5,hB5,hs5⟩:=one_new wq9 #[] 38
       have E5:=Hd e5
       have HA0 : Hid (OwnEls 12 RpR w5 wq9.heap.size 38 (.slice (some ⟨wq9.heap.size,0,none⟩) 0 0) [] []):=Hd (by rw [← e5];exact OwnEls.made wq9 wq9.heap.size 38 (Nat.le_refl _))
       have HSV5:=Hd (hv1.keep Rep.rp hF5);have HST5:=Hd (ht1.keep Rep.rp hF5)
       have HF5:=Hd hF5
       have HDJ1 : Hid (∀ z,blockOf (.slice (some ⟨wq9.heap.size,0,none⟩) 0 0) = some z → z ∉ Bv):=Hd (fun z hz hm => by
        have h1:=(hv1.lt Rep.rp).1 z hm
        simp [blockOf] at hz
        omega)
       have HTLT : Hid (∀ z ∈ Bt,z < wq9.heap.size):=Hd (fun z hz => (ht1.lt Rep.rp).1 z hz)
       have HNL : Hid (vis.length + (rest.length + 1) ≤ 16):=Hd (by have h1:=HLN.out;have h2:=HRL0.out;omega)
       have HLA1 : Hid (([] : List Rep_).length + vis.length ≤ maxLen):=Hd (by have h1:=HNL.out;unfold maxLen;simp;omega)
       have HLA2 : Hid ((([] : List Rep_).length + vis.length) * 56 ≤ 140737488355328):=Hd (by have h1:=HNL.out;simp;omega)
       have HLB1 : Hid (([] ++ vis).length + rest.length ≤ maxLen):=Hd (by have h1:=HNL.out;unfold maxLen;simp;omega)
       have HLB2 : Hid ((([] ++ vis).length + rest.length) * 56 ≤ 140737488355328):=Hd (by have h1:=HNL.out;simp;omega)
       have HZ5 : Hid (wq9.heap.size ≤ w5.heap.size):=Hd hF5.size
       have x5 : wq9.cell? ⟨q,5,none⟩ = some (.slice (some ⟨bu,ou,none⟩) (vis.length + (rest.length + 1)) cr):=by
        have h1:=HX.out.cell 5
        simp only [dcc,zz7,zz8,zz9] at h1
        rw [h1,HRL0.out]
       rw [HRL0.out] at hcap hlj hi
       have hsub : vis.length + (rest.length + 1) - (vis.length + 1) = rest.length:=by omega
       have hnl:=HNL.out
       clear e5 hF5 hB5 hs5 hm hr hBm hBr hlm hlr hv1 hv2 ht1 ht2 het hrep hvis hrest hi hln
       have HXQ:=Hd (HX.out.keep HF5.out)
       go_upto_region 18 with fail
       rw [E5.out]
       clear E5 x5
       have x5:=HXQ.out.cell 5
       simp only [dcc,zz7,zz8,zz9] at x5
       rw [HRL0.out] at x5
       generalize hB5 : wq9.heap.size = B5 at *
       have HB5E:=Hd hB5
       clear hB5
       go_upto_region 19 with (at_builtin;go_loud (refine wpList_append_elsN Rep.rp (by decide) rfl (.tmp 83) (.tmp 87) 30 rfl B5 38 (.agg #[.int .u8 0,.int .u8 0,.int .u8 0,.int .u8 0,.int .u8 0,.int .u8 0,.int .u8 0,.int .u8 0,.int .u16 0,.int .u64 0,.int .u64 0,.slice none 0 0]) 56 Tryz.underlying30 info_rep rfl (.slice (some ⟨B5,0,none⟩) 0 0) [] [] rfl HA0.out (some ⟨bu,ou,none⟩) vis.length cr rfl vis Bv HSV5.out HDJ1.out HLA1.out HLA2.out HZ5.out ?_;intro v6 w6 hown6 hfr6 hv6;obtain ⟨a6,c6,ev6⟩:=hown6.shape;rw [List.nil_append] at ev6;subst ev6;have HO6:=Hd hown6;have HF6:=Hd hfr6;have HV6:=Hd hv6;clear hown6 hfr6 hv6))
       have HF56 : Hid (Fr [] wq9 w6):=Hd (HF5.out.step HF6.out (fun z hz => .inr (by simp [blockOf] at hz;have:=HB5E.out;omega)))
       have HST6:=Hd (HST5.out.fr Rep.rp HF6.out (fun z hz hm => by simp [blockOf] at hm;have:=HTLT.out z hz;omega) (fun z hz hm => by
        simp [blockOf] at hm
        have h1:=(HST2.out.lt Rep.rp).2 z hz
        have h2:=HB5E.out
        omega))
       have HBK6 : Hid (∀ z,blockOf (.slice a6 vis.length c6) = some z → B5 ≤ z):=Hd (fun z hz => by
        rcases HV6.out z hz with h1 | h1
        ·simp [blockOf] at h1;omega
        ·have:=HZ5.out;omega)
       have HDJ2 : Hid (∀ z,blockOf (.slice a6 vis.length c6) = some z → z ∉ Bt):=Hd (fun z hz hm => by have h1:=HTLT.out z hm;have h2:=HBK6.out z hz;omega)
       have HZ6 : Hid (B5 ≤ w6.heap.size):=Hd (Nat.le_trans HZ5.out HF6.out.size)
       have HXR:=Hd (HX.out.keep HF56.out)
       have hqlt : q + 3 ≤ B5:=HZ.out
       have HQLT:=Hd hqlt
       have HLV2 : Hid (([] ++ vis ++ rest).length = vis.length + rest.length):=Hd (by simp)
       clear hqlt x5
       have x5:=HXR.out.cell 5
       simp only [dcc,zz7,zz8,zz9] at x5
       rw [HRL0.out] at x5
       go_wp2_with (at_builtin;go_loud (refine wpList_append_elsN Rep.rp (by decide) rfl (.tmp 89) (.tmp 94) 30 rfl B5 38 (.agg #[.int .u8 0,.int .u8 0,.int .u8 0,.int .u8 0,.int .u8 0,.int .u8 0,.int .u8 0,.int .u8 0,.int .u16 0,.int .u64 0,.int .u64 0,.slice none 0 0]) 56 Tryz.underlying30 info_rep rfl (.slice a6 vis.length c6) ([] ++ vis) ([] ++ Bv) rfl HO6.out qa rest.length (cr - (vis.length + 1)) rfl rest Bt HST6.out HDJ2.out HLB1.out HLB2.out HZ6.out ?_;intro v7 w7 hown7 hfr7 hv7;obtain ⟨a7,c7,ev7⟩:=hown7.shape;rw [HLV2.out] at ev7;subst ev7;have HX7:=Hd (HXR.out.fr hfr7 (fun hm => by have h1:=HBK6.out _ (mem_toList.1 hm);have h2:=HQLT.out;omega));have x5b:=HX7.out.cell 5;have f5b:=HX7.out.free 5;simp only [dcc,zz7,zz8,zz9] at x5b;obtain ⟨w8,e8,hF8,hB8,hs8⟩:=set_new HX7.out 5 (.slice a7 (vis.length + rest.length) c7);have HO7:=Hd hown7;have HF7:=Hd hfr7;have HV7:=Hd hv7;have E8:=Hd e8;have HF8:=Hd hF8;have HB8:=Hd hB8;clear hown7 hfr7 hv7 e8 hF8 hB8 hs8))
       rw [E8.out]
       clear E8 x5b f5b
       go_meet
       have hf57 : Fr [] wq9 w7:=HF56.out.step HF7.out (fun z hz => .inr (by have h1:=HBK6.out z (mem_toList.1 hz);have h2:=HB5E.out;omega))
       have hb7 : ∀ z,blockOf (.slice a7 (vis.length + rest.length) c7) = some z → B5 ≤ z:=fun z hz => by
        rcases HV7.out z hz with h1 | h1
        ·exact HBK6.out z h1
        ·have:=HZ6.out;omega
       have hq3:=HQLT.out
       have hne : ∀ z,P z ∧ z < q → z ∉ [q]:=fun z hz hm => by
        rw [List.mem_singleton] at hm
        have:=hz.2
        omega
       refine ⟨vis ++ rest,hs.eraseIdx vis.length,.slice a7 (vis.length + rest.length) c7,by rw [HRM.out,HER.out],HHE.out.symm,by rw [← HHE.out];exact HP.out.sub (List.eraseIdx_sublist _ _),?_,HB8.out,?_,(HFL.out.trans hf57).any.trans HF8.out⟩
       ·have h1:=congrArg List.length HHE.out
        rw [List.length_map,List.length_append] at h1
        have h2:=HRL0.out
        have h3:=HRL.out
        have h4:=HP.out.len
        omega
       ·refine ⟨Bm,_,(HMM.out.keep Rep.oneP hf57).fr Rep.oneP HF8.out (fun z hz => hne z (HBM.out z hz)) (fun z hz => hne z (HLMM.out z hz)),(HO7.out.fr Rep.rp HF8.out (fun z hz hm => ?_) (fun z hz hm => ?_)).sl,fun z hz => .inl (HBM.out z hz),fun z hz => ?_,fun z hz => .inl (HLMM.out z hz),fun z hz => .inr (by have:=hb7 z (live_block hz);omega)⟩
        ·rcases List.mem_append.1 hz with hz | hz
         ·rcases List.mem_append.1 hz with hz | hz
          ·cases hz
          ·exact hne z (HBV.out z hz) hm
         ·exact hne z (HBT.out z hz) hm
        ·rw [List.mem_singleton] at hm
         have h1:=hb7 z hz
         omega
        ·rcases List.mem_append.1 hz with hz | hz
         ·rcases List.mem_append.1 hz with hz | hz
          ·cases hz
          ·exact .inl (HBV.out z hz)
         ·exact .inl (HBT.out z hz)
   case rest =>
    obtain ⟨l,hs2,vr2,hroom,hl,hp2,hlt2,hX2,⟨Bm,Br,hm,hr,hBm,hBr,hlm,hlr⟩,hF⟩:=hcut
    have hr : SlEls 12 RpR wc vr2 l Br:=hr
    obtain ⟨ar2,cr2,rfl⟩:=hr.shape
    have HRE : Hid (d.repair r = (({ d with rep:=l ++ [r] } : PkD).tell.1,({ d with rep:=l ++ [r] } : PkD).tell.2.map toldT,0)):=Hd (by rw [HRE.out,hroom];rfl)
    have HLL : Hid (l.length ≤ 16):=Hd (by rw [hl,List.length_map];have:=HP.out.r;omega)
    have HPR : Hid (PkP { d with rep:=l ++ [r] } (hs2 ++ [(r,turn + 1)]) (turn + 1) (N + 1)):=Hd (hp2.addRep hlt2 HLB.out HNZ.out hbl)
    have HX : Hid (Box wc q 32 #[.int .u32 (d.ss.toNat : Nat),.int .i64 (d.w : Nat),.int .i64 (d.r : Nat),.int .i64 (d.hi.getD (-1)),.slice am d.med.length cm,.slice ar2 l.length cr2]):=Hd hX2
    have HR:=Hd (HR.out.fr hF (by simp));have HX4:=Hd (HX4.out.fr hF (by simp))
    have HV:=Hd (Sl.frL HV.out hF (fun z hz hm => by rw [List.mem_singleton] at hm;have:=(HPV.out z hz).2;omega))
    have HZ:=Hd (Nat.le_trans HZ.out hF.size)
    have HF : Hid (Fr [] w wc):=Hd (HF.out.step hF (fun z hz => by rw [List.mem_singleton] at hz;exact .inr (by have:=HQE.out;omega)))
    have HMM : Hid (SlEls 3 OneR wc (.slice am d.med.length cm) d.med Bm):=Hd hm
    have HBM:=Hd hBm;have HBR:=Hd hBr;have HLMM:=Hd hlm
    have HRLT:=Hd (hr.lt Rep.rp)
    clear hroom hl hp2 hlt2 hX2 hm hBm hBr hlm hlr hF hkb HH HRP HK
    obtain ⟨w5,e5,hF5,hB5,hs5⟩:=one_new wc #[] 38
    have E5:=Hd e5
    have HA0 : Hid (OwnEls 12 RpR w5 wc.heap.size 38 (.slice (some ⟨wc.heap.size,0,none⟩) 0 0) [] []):=Hd (by rw [← e5];exact OwnEls.made wc wc.heap.size 38 (Nat.le_refl _))
    have HSL5:=Hd (hr.keep Rep.rp hF5)
    have HF5:=Hd hF5
    have HDJ1 : Hid (∀ z,blockOf (.slice (some ⟨wc.heap.size,0,none⟩) 0 0) = some z → z ∉ Br):=Hd (fun z hz hm => by
     have h1:=HRLT.out.1 z hm
     simp [blockOf] at hz
     omega)
    have HLA1 : Hid (([] : List Rep_).length + l.length ≤ maxLen):=Hd (by have h1:=HLL.out;unfold maxLen;simp;omega)
    have HLA2 : Hid ((([] : List Rep_).length + l.length) * 56 ≤ 140737488355328):=Hd (by have h1:=HLL.out;simp;omega)
    have HLB1 : Hid (([] ++ l).length + 1 ≤ maxLen):=Hd (by have h1:=HLL.out;unfold maxLen;simp;omega)
    have HLB2 : Hid ((([] ++ l).length + 1) * 56 ≤ 140737488355328):=Hd (by have h1:=HLL.out;simp;omega)
    have HZ5 : Hid (wc.heap.size ≤ w5.heap.size):=Hd hF5.size
    have HX5:=Hd (HX.out.keep hF5);have HR5:=Hd (HR.out.keep hF5);have HV5:=Hd (Sl.keep HV.out hF5)
    clear hr e5 hF5 hB5 hs5
    go_upto_region 21 with fail
    rw [E5.out]
    clear E5
    have x5:=HX5.out.cell 5
    simp only [zz7,zz8,zz9] at x5
    generalize hB5 : wc.heap.size = B5 at *
    have HB5E:=Hd hB5
    clear hB5
    go_upto_region 22 with (at_builtin;go_loud (refine wpList_append_elsN Rep.rp (by decide) rfl (.tmp 98) (.tmp 100) 30 rfl B5 38 (.agg #[.int .u8 0,.int .u8 0,.int .u8 0,.int .u8 0,.int .u8 0,.int .u8 0,.int .u8 0,.int .u8 0,.int .u16 0,.int .u64 0,.int .u64 0,.slice none 0 0]) 56 Tryz.underlying30 info_rep rfl (.slice (some ⟨B5,0,none⟩) 0 0) [] [] rfl HA0.out ar2 l.length cr2 rfl l Br HSL5.out HDJ1.out HLA1.out HLA2.out HZ5.out ?_;intro v6 w6 hown6 hfr6 hv6;obtain ⟨a6,c6,ev6⟩:=hown6.shape;rw [List.nil_append] at ev6;subst ev6;have HO6:=Hd hown6;have HF6:=Hd hfr6;have HV6:=Hd hv6;clear hown6 hfr6 hv6))
    clear x5
    have HFB : Hid (∀ z ∈ (blockOf (.slice (some ⟨B5,0,none⟩) 0 0)).toList,z = B5):=Hd (fun z hz => by simp [blockOf] at hz;omega)
    have HX6:=Hd (HX5.out.fr HF6.out (fun hm => by have h1:=HFB.out _ hm;have:=HZ.out;omega))
    have HR6:=Hd (HR5.out.fr HF6.out (fun hm => by have h1:=HFB.out _ hm;have:=HZ.out;omega))
    have HV6':=Hd (Sl.frL HV5.out HF6.out (fun z hz hm => by have h1:=HFB.out z hm;have h2:=(HPV.out z hz).2;have:=HZ.out;omega))
    have HF56 : Hid (Fr [] wc w6):=Hd (HF5.out.step HF6.out (fun z hz => .inr (by have h1:=HFB.out z hz;have:=HB5E.out;omega)))
    have HBK6 : Hid (∀ z,blockOf (.slice a6 l.length c6) = some z → B5 ≤ z):=Hd (fun z hz => by
     rcases HV6.out z hz with h1 | h1
     ·have:=HFB.out z (mem_toList.2 h1);omega
     ·have:=HZ5.out;omega)
    obtain ⟨wb,eb,hFb,hBb,-⟩:=one_new w6 (rpc r (.slice a n c)) 38
    have EB:=Hd eb
    have HOb:=Hd (HO6.out.keep Rep.rp hFb);have HSb:=Hd (rep_lit hBb (Sl.keep HV6'.out hFb));have HFb:=Hd hFb
    have HXb:=Hd (HX6.out.keep hFb)
    have HDJ2 : Hid (∀ z,blockOf (.slice a6 l.length c6) = some z → z ∉ (liveOf (.slice a n c)).toList):=Hd (fun z hz hm => by
     have h1:=(HPV.out z (mem_toList.1 hm)).2
     have h2:=HBK6.out z hz
     have h3:=HZ.out
     omega)
    have HZ6 : Hid (B5 ≤ wb.heap.size):=Hd (Nat.le_trans (Nat.le_trans HZ5.out HF6.out.size) hFb.size)
    have HLV : Hid (([] ++ l ++ [r]).length = l.length + 1):=Hd (by simp)
    clear eb hFb hBb
    go_upto_region 23 with (first | (refine wpList_load_row_w rfl 38 (.tmp 3) rfl (q + 1) rfl 38 _ _ HR6.out Tryz.underlying38 rfl (by kernel_rfl) ?_) | (at_builtin;(rw [EB.out]);go_loud (refine wpList_append_elsN Rep.rp (by decide) rfl (.tmp 102) (.tmp 104) 30 rfl B5 38 (.agg #[.int .u8 0,.int .u8 0,.int .u8 0,.int .u8 0,.int .u8 0,.int .u8 0,.int .u8 0,.int .u8 0,.int .u16 0,.int .u64 0,.int .u64 0,.slice none 0 0]) 56 Tryz.underlying30 info_rep rfl (.slice a6 l.length c6) ([] ++ l) ([] ++ Br) rfl HOb.out (some ⟨w6.heap.size,0,none⟩) 1 1 rfl [r] (liveOf (.slice a n c)).toList HSb.out HDJ2.out HLB1.out HLB2.out HZ6.out ?_;intro v7 w7 hown7 hfr7 hv7;obtain ⟨a7,c7,ev7⟩:=hown7.shape;rw [HLV.out] at ev7;subst ev7;have HX7:=Hd (HXb.out.fr hfr7 (fun hm => by have h1:=HBK6.out _ (mem_toList.1 hm);have h2:=HZ.out;omega));have x5b:=HX7.out.cell 5;have f5b:=HX7.out.free 5;simp only [zz7,zz8,zz9] at x5b;obtain ⟨w8,e8,hF8,hB8,hs8⟩:=set_new HX7.out 5 (.slice a7 (l.length + 1) c7);have HO7:=Hd hown7;have HF7:=Hd hfr7;have HV7:=Hd hv7;have E8:=Hd e8;have HF8:=Hd hF8;have HB8:=Hd hB8;clear hown7 hfr7 hv7 e8 hF8 hB8 hs8)))
    rw [E8.out]
    clear E8 x5b f5b
    have hb7 : ∀ z,blockOf (.slice a7 (l.length + 1) c7) = some z → B5 ≤ z:=fun z hz => by
     rcases HV7.out z hz with h1 | h1
     ·exact HBK6.out z h1
     ·have:=HZ6.out;omega
    have hbk6 : ∀ z ∈ (blockOf (.slice a6 l.length c6)).toList,B5 ≤ z:=fun z hz => HBK6.out z (mem_toList.1 hz)
    have HF57 : Hid (Fr [] wc w7):=Hd ((HF56.out.quiet HFb.out).step HF7.out (fun z hz => .inr (by have:=hbk6 z hz;have:=HB5E.out;omega)))
    have HX:=HB8
    have HX4:=Hd ((HX4.out.keep HF57.out).fr HF8.out (by simp))
    have HZ8 : Hid (q + 3 ≤ w8.heap.size):=Hd (by have h1:=HX4.out.lt;omega)
    have hq3:=HZ.out
    have hne : ∀ z,((P z ∧ z < q) ∨ q + 3 ≤ z) → z ∉ [q]:=fun z hz hm => by
     rw [List.mem_singleton] at hm
     rcases hz with ⟨-,k⟩ | k <;> omega
    have HD8 : Hid (DocV w8 (fun z => ((P z ∨ Pv z) ∧ z < q) ∨ q + 3 ≤ z) (.slice am d.med.length cm) (.slice a7 (l.length + 1) c7) { d with rep:=l ++ [r] }):=Hd (by
     have hB7 : ∀ z ∈ [] ++ Br ++ (liveOf (.slice a n c)).toList,((P z ∨ Pv z) ∧ z < q) ∨ q + 3 ≤ z:=fun z hz => by
      rcases List.mem_append.1 hz with hz | hz
      ·rcases HBR.out z hz with k | k
       ·exact .inl ⟨.inl k.1,k.2⟩
       ·exact .inr k
      ·exact .inl ⟨.inr (HPV.out z (mem_toList.1 hz)).1,(HPV.out z (mem_toList.1 hz)).2⟩
     have hne2 : ∀ z,(((P z ∨ Pv z) ∧ z < q) ∨ q + 3 ≤ z) → z ∉ [q]:=fun z hz hm => by
      rw [List.mem_singleton] at hm
      rcases hz with ⟨-,k⟩ | k <;> omega
     refine ⟨Bm,_,(HMM.out.keep Rep.oneP HF57.out).fr Rep.oneP HF8.out (fun z hz => hne z (HBM.out z hz)) (fun z hz => hne z (HLMM.out z hz)),(HO7.out.fr Rep.rp HF8.out (fun z hz => hne2 z (hB7 z hz)) (fun z hz hm => ?_)).sl,fun z hz => ?_,hB7,fun z hz => ?_,fun z hz => .inr (by have:=hb7 z (live_block hz);omega)⟩
     ·rw [List.mem_singleton] at hm
      have h1:=hb7 z hz
      omega
     ·rcases HBM.out z hz with k | k
      ·exact .inl ⟨.inl k.1,k.2⟩
      ·exact .inr k
     ·rcases HLMM.out z hz with k | k
      ·exact .inl ⟨.inl k.1,k.2⟩
      ·exact .inr k)
    have HF : Hid (Fr [] w w8):=Hd ((HF.out.quiet HF57.out).step HF8.out (fun z hz => by rw [List.mem_singleton] at hz;exact .inr (by have:=HQE.out;omega)))
    have HLE : Hid ((l ++ [r]).length = l.length + 1):=Hd (by simp)
    generalize hdx : ({ d with rep:=l ++ [r] } : PkD) = dx at *
    have HDX : Hid (dx.rep.length = l.length + 1 ∧ dx.med.length = d.med.length):=Hd (by rw [← hdx];exact ⟨HLE.out,rfl⟩)
    have HX : Hid (Box w8 q 32 (dcc dx (.slice am d.med.length cm) (.slice a7 (l.length + 1) c7))):=Hd (by rw [← hdx];exact HX.out)
    clear hb7 hbk6 hne hdx HX5 HX6 HR5 HR6 HV5 HV6' HX7 HXb HMM HO6 HOb HSb HO7 HB8 HSL5 HA0
    go_wp2_with (refine wpList_load_row_w rfl 32 (.tmp 2) rfl q rfl 32 _ _ HX.out Tryz.underlying32 rfl (by kernel_rfl) ?_)
    refine (r16tell_any HD8.out HPR.out (by omega)).mono ?_
    rintro e w9 ⟨vd9,vo9,rfl,⟨vm9,vr9,Bo9,hs9,rfl,hD9,hP9,hO9,hBo9,hlo9⟩,hF⟩
    obtain ⟨am5,cm5,ar5,cr5,rfl,rfl⟩:=hD9.shape
    obtain ⟨ao5,co5,rfl⟩:=hO9.shape
    rw [List.length_map] at hO9 hlo9
    rw [List.length_map]
    have HD9:=Hd hD9;have HP9:=Hd hP9;have HTO:=Hd hO9;have HBO9:=Hd hBo9;have HLO9:=Hd hlo9
    have HX:=Hd (HX.out.keep hF);have HX4:=Hd (HX4.out.keep hF);have HF:=Hd (HF.out.trans hF)
    generalize dx.tell.2 = tl at *
    generalize dx.tell.1 = dt at *
    clear hD9 hP9 hO9 hBo9 hlo9 hF HD8
    go_upto_region 24 with (refine wpList_store_row rfl 32 (.tmp 2) (.tmp 110) rfl q rfl _ (dcc dt (.slice am5 dt.med.length cm5) (.slice ar5 dt.rep.length cr5)) rfl 32 HX.out (by kernel_rfl) rfl (oD _ _ _ _ _ _ _) ?_;intro w10 hY hG;have HX:=Hd hY;have HG10:=Hd hG;clear hY hG)
    have HX4:=Hd (HX4.out.fr HG10.out (by simp))
    go_wp2_with (first | (refine wpList_load_row_w rfl 32 (.tmp 2) rfl q rfl 32 _ _ HX.out Tryz.underlying32 rfl (by kernel_rfl) ?_) | (refine wpList_store_row rfl 32 (.tmp 4) (.tmp 112) rfl (q + 2) rfl _ (dcc dt (.slice am5 dt.med.length cm5) (.slice ar5 dt.rep.length cr5)) rfl 32 HX4.out (by kernel_rfl) rfl (oD _ _ _ _ _ _ _) ?_;intro w11 hY hG;have HY9:=Hd hY;have HG9:=Hd hG;clear hY hG))
    have hqe:=HQE.out
    have hz8:=HZ8.out
    have hP' : ∀ z,((((P z ∨ Pv z) ∧ z < q) ∨ q + 3 ≤ z) ∨ w8.heap.size ≤ z) → (P z ∨ Pv z ∨ w.heap.size ≤ z) ∧ z ∉ [q] ∧ z ∉ [q + 2]:=fun z hz => by
     simp only [List.mem_singleton]
     rcases hz with (⟨k | k,k2⟩ | k) | k
     ·exact ⟨.inl k,by omega,by omega⟩
     ·exact ⟨.inr (.inl k),by omega,by omega⟩
     ·exact ⟨.inr (.inr (by omega)),by omega,by omega⟩
     ·exact ⟨.inr (.inr (by omega)),by omega,by omega⟩
    have hlo : ∀ z,liveOf (.slice ao5 tl.length co5) = some z → z ∉ [q] ∧ z ∉ [q + 2] ∧ w.heap.size ≤ z:=fun z hz => by
     have:=HLO9.out z hz
     simp only [List.mem_singleton]
     omega
    refine bodyPost_ret (results_row_2 rfl _ _ (q + 2) 32 _ _ rfl HY9.out Tryz.underlying32 rfl (by kernel_rfl)) rfl ⟨_,_,by rw [HRE.out];rfl,⟨_,_,Bo9,hs9,_,by rw [HRE.out],?_,by rw [HRE.out];exact HP9.out,?_,fun z hz => (hP' z (HBO9.out z hz)).1,fun z hz => (hlo z hz).2.2⟩,?_⟩
    ·rw [HRE.out]
     exact ((HD9.out.fr HG10.out (fun z hz => (hP' z hz).2.1)).fr HG9.out (fun z hz => (hP' z hz).2.2)).imp (fun z _ hz => (hP' z hz).1)
    ·rw [HRE.out]
     exact (HTO.out.fr Rep.dgr HG10.out (fun z hz => (hP' z (HBO9.out z hz)).2.1) (fun z hz => (hlo z hz).1)).fr Rep.dgr HG9.out (fun z hz => (hP' z (HBO9.out z hz)).2.2) (fun z hz => (hlo z hz).2.1)
    ·exact (HF.out.step HG10.out (fun z hz => by rw [List.mem_singleton] at hz;exact .inr (by omega))).step HG9.out (fun z hz => by rw [List.mem_singleton] at hz;exact .inr (by omega))
end Go.Proofs.YtcngfbjmpemehaaGreat
