/- The walk of PeelPlays (printed by gen_lw5.py). -/
import Derived.Test.YtcngfbjmpemehaaGreatMpLw4
import Derived.Test.YtcngfbjmpemehaaGreatMp42
import Derived.Test.YtcngfbjmpemehaaGreatMpDc8
set_option maxRecDepth 100000
set_option maxHeartbeats 16000000
open List renaming getElem_toArray → zz1, getElem_cons_zero → zz2, getElem_cons_succ → zz3, setIfInBounds_toArray → zz4, set_cons_zero → zz5, set_cons_succ → zz6, getElem?_toArray → zz7, getElem?_cons_succ → zz8, getElem?_cons_zero → zz9
open Go.Lib renaming hid → Hd
namespace Go.Proofs.YtcngfbjmpemehaaGreat
open Go.RowKit

theorem smallE_true {es : List Ev} (h : smallE es = true) : es.length ≤ 40 ∧ ∀ e ∈ es,e.b.length ≤ 300 ∧ e.r.bt.body.length ≤ 300:=by
 unfold smallE at h
 simp only [Bool.and_eq_true,List.all_eq_true,decide_eq_true_eq] at h
 exact ⟨h.2,fun e he => h.1 e he⟩
def PlayI (w : World) (base q g mb j : Nat) (d : PkD) (vm vr : Value) (wr : World) : Prop :=
 ∃ own no hs turn hs' turn',PkW wr base own no g mb d hs turn ∧ PkP d hs turn j ∧ PkP d hs' turn' j ∧ 0 ≤ turn ∧ turn ≤ j ∧ q ∈ no ∧ q ∉ own ∧ (∀ y ∈ own,w.heap.size ≤ y) ∧ DocV wr (fun z => z ∉ own ∧ z ≠ q) vm vr d ∧ Box wr q 32 (dcc d vm vr) ∧ w.heap.size ≤ q ∧ Fr [] w wr
theorem PlayI.new {w w3 w4 w5 : World} {q g mb : Nat} {ss : UInt32} {a b : Int} (hB : Box w3 g 90 (pkc (PkD.new ss a b) mb (.slice none 0 0) 0)) {base : Nat} (hM : MapB w3 base mb [g,mb] (.map []) []) (hne : g ≠ mb) (hg : w.heap.size ≤ g) (hmb : w.heap.size ≤ mb) (hb : base ≤ w3.heap.size) (hf : Fr [] w w3) (hf4 : Fr [] w3 w4) (hf5 : Fr [] w4 w5) (hq : w4.heap.size = q) (hX : Box w5 q 32 (dcc (PkD.new ss a b) (.slice none 0 0) (.slice none 0 0))) : PlayI w base q g mb 0 (PkD.new ss a b) (.slice none 0 0) (.slice none 0 0) w5:=by
 have hlt:=hX.lt
 have hW : PkW w3 base [g,mb] [g,mb] g mb (PkD.new ss a b) [] 0 :=
  ⟨⟨.slice none 0 0,[],.map [],hB,OwnEls.nil _ _ _,hM,by simp [blockOf],by simp⟩,fun b hb => hb,by simp,by simp,hne,hb,fun x hx => by
   simp only [List.mem_cons,List.not_mem_nil,or_false] at hx
   rcases hx with rfl | rfl
   ·exact hB.lt
   ·have h1:=hM.own
    obtain ⟨es,clock,hb,-⟩:=h1
    exact (Array.getElem?_eq_some_iff.1 hb).1⟩
 have hW5:=(hW.keep hf4).grow (new:=[q]) hf5 (fun x hx => by rw [List.mem_singleton] at hx;subst hx;omega)
 have hgq : g < w4.heap.size:=Nat.lt_of_lt_of_le hB.lt hf4.size
 have hmq : mb < w4.heap.size:=(hW.keep hf4).lt mb (by simp)
 refine ⟨[g,mb],[q] ++ [g,mb],[],0,[],0,hW5,PkP.new ss a b,PkP.new ss a b,by omega,by omega,by simp,?_,?_,?_,hX,by have:=hf.size;have:=hf4.size;omega,(hf.trans hf4).trans hf5⟩
 ·simp only [List.mem_cons,List.not_mem_nil,or_false];omega
 ·intro y hy
  simp only [List.mem_cons,List.not_mem_nil,or_false] at hy
  rcases hy with rfl | rfl <;> assumption
 ·exact ⟨[],[],SlEls.nil _,SlEls.nil _,by simp,by simp,(fun b hb => by cases hb),(fun b hb => by cases hb)⟩
def PlayD (P : Nat → Prop) (g17 N : Nat) (d1 : PkD) (out : List (UInt16 × List UInt8 × Bool)) (k : Int) (ov kv : Value) (wc wx : World) : Prop :=
 ∃ am cm ar cr ao co Bo hs turn,ov = .slice ao out.length co ∧ kv = .int .i64 k ∧ Box wx g17 32 (dcc d1 (.slice am d1.med.length cm) (.slice ar d1.rep.length cr)) ∧ DocV wx P (.slice am d1.med.length cm) (.slice ar d1.rep.length cr) d1 ∧ PkP d1 hs turn N ∧ SlEls 3 DGR wx (.slice ao out.length co) out Bo ∧ (∀ z ∈ Bo,P z) ∧ (∀ z,liveOf (.slice ao out.length co) = some z → P z) ∧ Fr [g17] wc wx
theorem PeelPlays_any {w : World} (ss : UInt32) (a b : Int) {v : Value} {es : List Ev} {B : List Nat} (h : SlEls 14 EvR w v es B) (ask : UInt16) :
  Calls Tryz.prog 3 #[.int .u32 (ss.toNat : Nat),.int .i64 a,.int .i64 b,v,.int .u16 (ask.toNat : Nat)] w fun e w' => e = .returned (.bool true) ∧ Fr [] w w':=by
 obtain ⟨ae,ce,rfl⟩:=h.shape
 have hn : es.length ≤ 9223372036854775807:=by have h1:=(h.len).2.1;have h2:=(h.len).2.2.1;unfold maxLen at h2;omega
 have HL:=Hd h
 clear h
 obtain ⟨n,hnn⟩ : ∃ n,es.length = n:=⟨_,rfl⟩
 rw [hnn] at HL hn
 rw [hnn]
 have HN:=Hd hnn
 have HNB:=Hd hn
 clear hnn hn
 go_enter Tryz.func3,Tryz.ntmps3
 go_wp2_with fail
 refine l16alive_any.mono ?_
 rintro e w1 ⟨rfl,hF⟩
 have HF:=Hd hF
 clear hF
 go_wp2_with fail
 refine (l16small_any (HL.out.keep Rep.ev HF.out)).mono ?_
 rintro e w2 ⟨rfl,hF⟩
 have HF:=Hd (HF.out.trans hF)
 clear hF
 cases hsm : smallE es with
 | false =>
  clear hsm
  go_wp2_with fail
  go_ret
  exact ⟨rfl,HF.out⟩
 | true =>
 have HSM:=Hd (smallE_true hsm)
 clear hsm
 go_upto_region 5 with fail
 go_wp2_with fail
 refine (pkNew_any ss a b).mono ?_
 rintro e w3 ⟨mb,g,rfl,hB3,hM3,hne3,hg3,hmb3,hF3⟩
 have HB3:=Hd hB3;have HM3:=Hd hM3;have HNE3:=Hd hne3;have HF3:=Hd hF3
 have HG3 : Hid (w.heap.size ≤ g ∧ w.heap.size ≤ mb):=Hd (by have:=HF.out.size;omega)
 clear hB3 hM3 hne3 hg3 hmb3 hF3
 go_wp2_with fail
 refine (r16New_any ss a b).mono ?_
 rintro e w4 ⟨rfl,hF⟩
 have HF4:=Hd hF
 clear hF
 go_upto_region 6 with (refine wpList_store_row rfl 32 (.tmp 12) (.tmp 40) rfl w4.heap.size rfl _ (dcc (PkD.new ss a b) (.slice none 0 0) (.slice none 0 0)) rfl 32 (Box.new w4 32 _) (by kernel_rfl) rfl (oD _ _ _ _ _ _ _) ?_;intro w5 hY hG;have hFn:=((Fr.refl [] w4).alloc _).step hG (by simp);have HFn:=Hd hFn;have HY:=Hd hY;clear hG hFn hY)
 have HPL : Hid (PlayI w w2.heap.size w4.heap.size g mb 0 (PkD.new ss a b) (.slice none 0 0) (.slice none 0 0) w5):=Hd (PlayI.new HB3.out HM3.out HNE3.out HG3.out.1 HG3.out.2 HF3.out.size (HF.out.trans HF3.out) HF4.out HFn.out rfl HY.out)
 generalize hqe : w4.heap.size = q at *
 clear HB3 HM3 HNE3 HY hqe
 go_upto_region 7 with fail
 go_loopw [43] (fun iv wr => ∃ (j : Nat) (d : PkD) (vm vr : Value),j ≤ n ∧ iv = .int .i64 (j : Nat) ∧ PlayI w w2.heap.size q g mb j d vm vr wr) (fun iv _ => n - (Go.RowKit.intOf iv).toNat)
 case atStart => exact ⟨0,_,_,_,Nat.zero_le _,rfl,HPL.out⟩
 case round =>
  obtain ⟨j,d,vm,vr,hj,rfl,own,no,hs,turn,hs2,turn2,hPW,hPP,hPP2,ht0,ht1,hqn,hqo,hown,hD,hX,hwq,hF⟩:=hrel
  have HPW:=Hd hPW;have HPP:=Hd hPP;have HPP2:=Hd hPP2;have HT : Hid (0 ≤ turn ∧ turn ≤ j):=Hd ⟨ht0,ht1⟩;have HQN:=Hd hqn;have HQO:=Hd hqo;have HOWN:=Hd hown;have HX:=Hd hX;have HWQ:=Hd hwq;have HF:=Hd hF
  have HD : Hid (DocV wr (fun z => (z ∉ own ∧ z ≠ q) ∧ z < wr.heap.size) vm vr d):=Hd (hD.imp (fun z h1 h2 => ⟨h2,h1⟩))
  have HJ:=Hd hj
  clear hPW hPP hPP2 ht0 ht1 hqn hqo hown hD hX hwq hF HPL HF3 HF4 HFn HG3 hj
  by_cases hlt : j < n
  ·obtain ⟨b,o,c,y,B1,ea,-,hy,⟨vb,vrr,rfl,h1,h2,-⟩,-,hrg⟩:=HL.out.at_ Rep.ev (i:=j) hlt
   subst ea
   obtain ⟨a1,c1,rfl⟩:=Sl.shape h1
   obtain ⟨a2,c2,rfl⟩:=Sl.shape h2
   simp only [List.length_map] at hrg h1 h2
   have HRG : Hid (wr.rangeAt b (o + j * 14) (evc y (.slice a1 y.b.length c1) (.slice a2 y.r.bt.body.length c2)).toList):=Hd (fr_rngB HF.out hrg (by simp))
   have HE1 : Hid (∀ z,liveOf (.slice a1 y.b.length c1) = some z → z ∉ own ∧ z ≠ q ∧ z < w.heap.size):=Hd (fun z hz => by
    have hz1:=Sl.lt h1 z hz
    have hz2:=HWQ.out
    exact ⟨fun hm => by have:=HOWN.out z hm;omega,by omega,hz1⟩)
   have HE2 : Hid (∀ z,liveOf (.slice a2 y.r.bt.body.length c2) = some z → z ∉ own ∧ z ≠ q ∧ z < w.heap.size):=Hd (fun z hz => by
    have hz1:=Sl.lt h2 z hz
    have hz2:=HWQ.out
    exact ⟨fun hm => by have:=HOWN.out z hm;omega,by omega,hz1⟩)
   have HSY : Hid (y.b.length ≤ 300 ∧ y.r.bt.body.length ≤ 300):=Hd (HSM.out.2 y (List.mem_of_getElem? hy))
   obtain ⟨wa,ea,hFa,hBa,hsa⟩:=one_new wr (evc y (.slice a1 y.b.length c1) (.slice a2 y.r.bt.body.length c2)) 40
   have EA:=Hd ea;have HEV:=Hd hBa
   have HV1:=Hd (Sl.keep h1 (HF.out.trans hFa));have HV2:=Hd (Sl.keep h2 (HF.out.trans hFa))
   have HWG : Hid (w.heap.size ≤ wr.heap.size):=Hd HF.out.size
   have HOLT : Hid (∀ z ∈ own,z < wr.heap.size):=Hd (fun z hz => HPW.out.lt z (HPW.out.sub z hz))
   have HPW:=Hd (HPW.out.keep hFa);have HX:=Hd (HX.out.keep hFa);have HD:=Hd (HD.out.keep hFa)
   have HSA:=Hd hsa
   have HFA:=Hd (HF.out.trans hFa)
   clear hrg hy ea hFa hBa hsa h1 h2
   go_upto_region 9 with (refine wpList_load_midA rfl 40 (.tmp 45) rfl b (o + j * 14) rfl (evc y (.slice a1 y.b.length c1) (.slice a2 y.r.bt.body.length c2)) _ HRG.out Tryz.underlying40 rfl (by kernel_rfl) ?_)
   rw [EA.out]
   clear EA
   have HF:=HFA
   clear HFA HRG
   generalize hge : wr.heap.size = ge at *
   have HGE : Hid (ge < wa.heap.size):=Hd HEV.out.lt
   clear hge
   go_wp2_with (refine wpList_load_row_w rfl 40 (.tmp 14) rfl ge rfl 40 _ _ HEV.out Tryz.underlying40 rfl (by kernel_rfl) ?_)
   refine (l16step_any HPW.out HPP.out (by have h1:=HJ.out;have h2:=HSM.out.1;have h3:=HN.out;omega) (by have h0:=HT.out;have h1:=HJ.out;have h2:=HSM.out.1;have h3:=HN.out;omega) HV1.out HV2.out (fun z hz => (HE1.out z hz).1) (fun z hz => (HE2.out z hz).1) (by have:=HSY.out;omega) (by have:=HSY.out;omega)).mono ?_
   rintro e w6 ⟨v6,rfl,hs1,turn1,ht1,ht2,⟨own1,Bo,no1,hPW,hG,hBo,hLo,hown1,hno1⟩,hPP,hF⟩
   obtain ⟨a6,c6,rfl⟩:=hG.shape
   obtain ⟨d1,hd1⟩ : ∃ d1,(d.step y).1 = d1:=⟨_,rfl⟩
   obtain ⟨out,hout⟩ : ∃ out,(d.step y).2.1 = out:=⟨_,rfl⟩
   obtain ⟨k,hk⟩ : ∃ k,(d.step y).2.2 = k:=⟨_,rfl⟩
   rw [hd1] at hPW hPP
   rw [hout] at hG hLo ⊢
   rw [hk]
   obtain ⟨m,hm⟩ : ∃ m,out.length = m:=⟨_,rfl⟩
   rw [hm] at hG hLo ⊢
   have HD1:=Hd hd1;have HOUT:=Hd hout;have HK:=Hd hk;have HM:=Hd hm
   have HPW:=Hd hPW;have HPP:=Hd hPP;have HGOT:=Hd hG;have HBO:=Hd hBo;have HLO:=Hd hLo;have HNO1:=Hd hno1
   have HT : Hid (0 ≤ turn1 ∧ turn1 ≤ (j + 1 : Nat)):=Hd (by have:=HT.out;omega)
   have HQN:=Hd (hno1 q HQN.out)
   have HOWN1 : Hid (∀ z ∈ own1,z ∈ own ∨ wa.heap.size ≤ z):=Hd hown1
   have HOWNX:=Hd (fun z hz => by
    rcases hown1 z hz with h1 | h1
    ·exact HOWN.out z h1
    ·have h2:=HF.out.size;omega : ∀ z ∈ own1,w.heap.size ≤ z)
   have hqlt:=HX.out.lt
   have HQO1 : Hid (q ∉ own1):=Hd (fun hm => by
    rcases hown1 q hm with h1 | h1
    ·exact HQO.out h1
    ·omega)
   have HX:=Hd (HX.out.fr hF HQO.out)
   have HEV:=Hd (HEV.out.fr hF (fun hm => by have:=HOLT.out ge hm;omega))
   have HV1:=Hd (Sl.frL HV1.out hF (fun z hz => (HE1.out z hz).1));have HV2:=Hd (Sl.frL HV2.out hF (fun z hz => (HE2.out z hz).1))
   have HD:=Hd (HD.out.fr hF (fun z hz => hz.1.1))
   have HFo:=HF
   have HF : Hid (Fr [] w w6):=Hd (HF.out.step hF (fun z hz => .inr (HOWN.out z hz)))
   have HSZ6 : Hid (wa.heap.size ≤ w6.heap.size):=Hd hF.size
   have HP1 : Hid (∀ z,z < ge → z ∉ own → z ≠ q → (z ∉ own1 ∧ z ∉ Bo ∧ z ≠ q)):=Hd (fun z h1 h2 h3 => ⟨fun hm => by
    rcases hown1 z hm with h4 | h4
    ·exact h2 h4
    ·have:=HGE.out;omega,fun hm => by have h4:=(hBo z hm).1;have:=HGE.out;omega,h3⟩)
   have HQB : Hid (q ∉ Bo):=Hd (fun hm => by have h4:=(hBo q hm).1;omega)
   clear hPW hG hBo hLo hown1 hno1 hPP hF hd1 hout hk hm HFo ht1 ht2 HQO HOWN
   generalize Value.slice a1 y.b.length c1 = v1 at *
   have y1 : w6.cell? ⟨ge,1,none⟩ = some v1:=by rw [HEV.out.cell];simp [evc]
   go_upto_region 10 with fail
   obtain ⟨am,cm,ar,cr,rfl,rfl⟩:=HD.out.shape
   have HLT6 : Hid ((∀ z ∈ own1,z < w6.heap.size) ∧ (∀ z ∈ Bo,z < w6.heap.size) ∧ q < w6.heap.size ∧ (∀ z,liveOf (.slice a6 m c6) = some z → z < w6.heap.size)):=Hd ⟨fun z hz => HPW.out.lt z (HPW.out.sub z hz),(HGOT.out.lt Rep.got).1,HX.out.lt,(HGOT.out.lt Rep.got).2⟩
   have HOB : Hid (∀ x ∈ out,x.2.1.length ≤ 1099511627776):=Hd (fun x hx => by have h1:=HSY.out;have h2:=step_len HPP2.out (e:=y) (by omega) (by omega) x (by rw [HOUT.out];exact hx);omega)
   have HN1 : Hid (j + 1 < 1000000):=Hd (by have h1:=HJ.out;have h2:=HSM.out.1;have h3:=HN.out;omega)
   go_wp2_with (refine wpList_load_row_w rfl 32 (.tmp 12) rfl q rfl 32 _ _ HX.out Tryz.underlying32 rfl (by kernel_rfl) ?_)
   refine (r16Media_any (Pv:=fun z => z ∉ own ∧ z ≠ q ∧ z < w.heap.size) HD.out HPP2.out HN1.out HV1.out HE1.out (by have:=HSY.out;omega)).mono ?_
   rintro e w7 ⟨vd,vo,rfl,⟨vm7,vr7,Bo7,hs7,turn7,rfl,hD7,hP7,hO7,hBo7,hlo7⟩,hF⟩
   obtain ⟨am7,cm7,ar7,cr7,rfl,rfl⟩:=hD7.shape
   obtain ⟨ao7,co7,rfl⟩:=hO7.shape
   have HMST : Hid (y.rp = false → d.step y = d.media y.b):=Hd (fun e => by unfold PkD.step;rw [if_neg (by rw [e];simp)])
   have HRST : Hid (y.rp = true → d.step y = d.repair y.r):=Hd (fun e => by unfold PkD.step;rw [if_pos e])
   obtain ⟨dm,hdm⟩ : ∃ dm,(d.media y.b).1 = dm:=⟨_,rfl⟩
   obtain ⟨om,hom⟩ : ∃ om,(d.media y.b).2.1 = om:=⟨_,rfl⟩
   obtain ⟨km,hkm⟩ : ∃ km,(d.media y.b).2.2 = km:=⟨_,rfl⟩
   rw [hdm] at hD7 hP7 ⊢
   rw [hom] at hO7 hlo7 ⊢
   rw [hkm]
   have HDM:=Hd hdm;have HOM:=Hd hom;have HKM:=Hd hkm
   have HD7:=Hd hD7;have HP7:=Hd hP7;have HO7:=Hd hO7;have HBO7:=Hd hBo7;have HLO7:=Hd hlo7
   have HPW:=Hd (HPW.out.keep hF);have HGOT:=Hd (HGOT.out.keep Rep.got hF);have HX:=Hd (HX.out.keep hF);have HD:=Hd (HD.out.keep hF);have HEV:=Hd (HEV.out.keep hF);have HV2:=Hd (Sl.keep HV2.out hF);have HF:=Hd (HF.out.trans hF)
   have HSZ7 : Hid (w6.heap.size ≤ w7.heap.size):=Hd hF.size
   clear hdm hom hkm hD7 hP7 hO7 hBo7 hlo7 hF
   go_upto_region 11 with (refine wpList_store_row rfl 32 (.tmp 17) (.tmp 58) rfl w7.heap.size rfl _ (dcc dm (.slice am7 dm.med.length cm7) (.slice ar7 dm.rep.length cr7)) rfl 32 (Box.new w7 32 _) (by kernel_rfl) rfl (oD _ _ _ _ _ _ _) ?_;intro w8 hY hG;have hFn:=((Fr.refl [] w7).alloc _).step hG (by simp);have HFn:=Hd hFn;have HY:=Hd hY;clear hG hFn hY)
   have hF:=HFn.out
   have HPW:=Hd (HPW.out.grow (new:=[w7.heap.size]) hF (fun x hx => by rw [List.mem_singleton] at hx;subst hx;exact ⟨Nat.le_refl _,HY.out.lt⟩));have HGOT:=Hd (HGOT.out.keep Rep.got hF);have HX:=Hd (HX.out.keep hF);have HD:=Hd (HD.out.keep hF);have HEV:=Hd (HEV.out.keep hF);have HV2:=Hd (Sl.keep HV2.out hF);have HF:=Hd (HF.out.trans hF)
   have HQN:=Hd (List.mem_append_right [w7.heap.size] HQN.out)
   have HD7:=Hd ((HD7.out.imp (P':=fun z => (((z ∉ own ∧ z ≠ q) ∧ z < ge) ∨ (z ∉ own ∧ z ≠ q ∧ z < w.heap.size) ∨ w6.heap.size ≤ z) ∧ z ≠ w7.heap.size) (fun z h1 h2 => ⟨h2,by omega⟩)).keep hF)
   have HO7:=Hd (HO7.out.keep Rep.dgr hF)
   have HG17:=Hd HY.out
   have HSZ8 : Hid (w7.heap.size < w8.heap.size):=Hd HY.out.lt
   clear hF HFn HY
   generalize hg17 : w7.heap.size = g17 at *
   clear hg17
   have HPP1 : Hid (∀ z,(((z ∉ own ∧ z ≠ q) ∧ z < ge) ∨ (z ∉ own ∧ z ≠ q ∧ z < w.heap.size) ∨ w6.heap.size ≤ z) → z ∉ own1 ∧ z ∉ Bo ∧ z ≠ q):=Hd (fun z hz => by
    rcases hz with hz | hz | hz
    ·exact HP1.out z hz.2 hz.1.1 hz.1.2
    ·exact HP1.out z (by have:=HWG.out;omega) hz.1 hz.2.1
    ·exact ⟨fun hm => by have:=HLT6.out.1 z hm;omega,fun hm => by have:=HLT6.out.2.1 z hm;omega,by have:=HLT6.out.2.2.1;omega⟩)
   have y0:=HEV.out.cell 0
   simp only [evc,zz7,zz9] at y0
   clear y1
   go_upto_if 62 with fail
   go_cut [18,19] (fun ov kv wx => PlayD (fun z => z ∉ own1 ∧ z ∉ Bo ∧ z ≠ q) g17 (j + 1) d1 out k ov kv w8 wx)
   case first =>
    cases hrp : y.rp with
    | false =>
     have HE:=Hd (HMST.out hrp)
     rw [hrp] at y0
     clear hrp
     go_wp2_with fail
     go_meet
     have e1 : dm = d1:=by rw [← HDM.out,← HD1.out,HE.out]
     have e2 : om = out:=by rw [← HOM.out,← HOUT.out,HE.out]
     have e3 : km = k:=by rw [← HKM.out,← HK.out,HE.out]
     subst e1 e2 e3
     exact ⟨am7,cm7,ar7,cr7,ao7,co7,Bo7,hs7,turn7,rfl,rfl,HG17.out,HD7.out.imp (fun z _ hz => HPP1.out z hz.1),HP7.out,HO7.out,fun z hz => HPP1.out z (HBO7.out z hz),fun z hz => HPP1.out z (.inr (.inr (HLO7.out z hz))),Fr.refl _ _⟩
    | true =>
     have HE:=Hd (HRST.out hrp)
     have HRGE:=Hd (ev_range HEV.out)
     rw [hrp] at y0
     clear hrp
     go_wp2_with (first | (refine wpList_load_row_w rfl 32 (.tmp 12) rfl q rfl 32 _ _ HX.out Tryz.underlying32 rfl (by kernel_rfl) ?_) | (refine wpList_load_midA rfl 38 (.tmp 65) rfl ge 2 rfl (rpc y.r (.slice a2 y.r.bt.body.length c2)) _ HRGE.out Tryz.underlying38 rfl (by kernel_rfl) ?_))
     refine (r16Repair_any (Pv:=fun z => z ∉ own ∧ z ≠ q ∧ z < w.heap.size) HD.out HPP2.out HN1.out HV2.out HE2.out (by have:=HSY.out;omega)).mono ?_
     rintro e w9 ⟨vd,vo,rfl,⟨vm9,vr9,Bo9,hs9,turn9,rfl,hD9,hP9,hO9,hBo9,hlo9⟩,hF⟩
     obtain ⟨am9,cm9,ar9,cr9,rfl,rfl⟩:=hD9.shape
     obtain ⟨ao9,co9,rfl⟩:=hO9.shape
     have e1 : (d.repair y.r).1 = d1:=by rw [← HD1.out,HE.out]
     have e2 : (d.repair y.r).2.1 = out:=by rw [← HOUT.out,HE.out]
     have e3 : (d.repair y.r).2.2 = k:=by rw [← HK.out,HE.out]
     rw [e1] at hD9 hP9 ⊢
     rw [e2] at hO9 hlo9 ⊢
     rw [e3]
     have HD9:=Hd hD9;have HP9:=Hd hP9;have HO9:=Hd hO9;have HBO9:=Hd hBo9;have HLO9:=Hd hlo9;have HF9:=Hd hF;have HG9:=Hd (HG17.out.keep hF)
     clear e1 e2 e3 hD9 hP9 hO9 hBo9 hlo9 hF
     go_wp2_with (refine wpList_store_row rfl 32 (.tmp 17) (.tmp 68) rfl g17 rfl _ (dcc d1 (.slice am9 d1.med.length cm9) (.slice ar9 d1.rep.length cr9)) rfl 32 HG9.out (by kernel_rfl) rfl (oD _ _ _ _ _ _ _) ?_;intro w10 hY hG;have HY10:=Hd hY;have HG10:=Hd hG;clear hY hG)
     go_meet
     have hsz:=HSZ8.out;have hsz7:=HSZ7.out;have hsz6:=HSZ6.out;have hge:=HGE.out;have hwg:=HWG.out
     have hP9' : ∀ z,(((z ∉ own ∧ z ≠ q) ∧ z < ge) ∨ (z ∉ own ∧ z ≠ q ∧ z < w.heap.size) ∨ w8.heap.size ≤ z) → (z ∉ own1 ∧ z ∉ Bo ∧ z ≠ q) ∧ z ∉ [g17]:=fun z hz => by
      refine ⟨HPP1.out z ?_,?_⟩
      ·rcases hz with hz | hz | hz
       ·exact .inl hz
       ·exact .inr (.inl hz)
       ·exact .inr (.inr (by omega))
      ·rw [List.mem_singleton]
       rcases hz with ⟨-,hz⟩ | ⟨-,-,hz⟩ | hz <;> omega
     exact ⟨am9,cm9,ar9,cr9,ao9,co9,Bo9,hs9,turn9,rfl,rfl,HY10.out,(HD9.out.fr HG10.out (fun z hz => (hP9' z hz).2)).imp (fun z _ hz => (hP9' z hz).1),HP9.out,HO9.out.fr Rep.dgr HG10.out (fun z hz => (hP9' z (HBO9.out z hz)).2) (fun z hz => (hP9' z (.inr (.inr (HLO9.out z hz)))).2),fun z hz => (hP9' z (HBO9.out z hz)).1,fun z hz => (hP9' z (.inr (.inr (HLO9.out z hz)))).1,HF9.out.any.trans HG10.out⟩
   case rest =>
    obtain ⟨am1,cm1,ar1,cr1,ao1,co1,Bo1,hs3,turn3,rfl,rfl,hG17,hD1,hP1,hO1,hBo1,hLo1,hF⟩:=hcut
    clear y0
    have HG17:=Hd hG17;have HD1':=Hd hD1;have HPP3:=Hd hP1;have HWANT:=Hd hO1;have HBO1:=Hd hBo1;have HLO1:=Hd hLo1
    have hsz:=HSZ8.out;have hsz7:=HSZ7.out;have hsz6:=HSZ6.out;have hge:=HGE.out;have hwg:=HWG.out
    have hgl : w6.heap.size ≤ g17:=by have:=HSZ7.out;omega
    have HPW:=Hd (HPW.out.fr hF (fun s hs hm => by rw [List.mem_singleton] at hs;subst hs;have:=HLT6.out.1 _ hm;omega) (fun s hs => by rw [List.mem_singleton] at hs;subst hs;exact .inl (by simp)))
    have HGOT:=Hd (HGOT.out.fr Rep.got hF (fun z hz hm => by rw [List.mem_singleton] at hm;have:=HLT6.out.2.1 z hz;omega) (fun z hz hm => by rw [List.mem_singleton] at hm;have:=HLT6.out.2.2.2 z hz;omega))
    have HX:=Hd (HX.out.fr hF (by have:=HLT6.out.2.2.1;simp;omega))
    have HF : Hid (Fr [] w wc):=Hd (HF.out.step hF (fun z hz => by rw [List.mem_singleton] at hz;exact .inr (by omega)))
    clear hG17 hD1 hP1 hO1 hBo1 hLo1 hF
    go_upto_region 14 with (first | (refine wpList_load_row_w rfl 32 (.tmp 17) rfl g17 rfl 32 _ _ HG17.out Tryz.underlying32 rfl (by kernel_rfl) ?_) | (refine wpList_store_row rfl 32 (.tmp 12) (.tmp 71) rfl q rfl _ (dcc d1 (.slice am1 d1.med.length cm1) (.slice ar1 d1.rep.length cr1)) rfl 32 HX.out (by kernel_rfl) rfl (oD _ _ _ _ _ _ _) ?_;intro w8x hY hG;have HY10:=Hd hY;have HG10:=Hd hG;clear hY hG))
    simp only [Act.put,zz1,zz2,zz3,zz4,zz5,zz6]
    go_cut [110] (fun tv wx => tv = .bool false ∧ Fr [] w8x wx)
    case first =>
     have hqq : ∀ z,(z ∉ own1 ∧ z ∉ Bo ∧ z ≠ q) → z ∉ [q]:=fun z hz hm => by rw [List.mem_singleton] at hm;exact hz.2.2 hm
     have HX:=HY10
     have HPW:=Hd (HPW.out.fr HG10.out (fun s hs hm => by rw [List.mem_singleton] at hs;subst hs;exact HQO1.out hm) (fun s hs => by rw [List.mem_singleton] at hs;subst hs;exact .inl HQN.out))
     have HGOT:=Hd (HGOT.out.fr Rep.got HG10.out (fun z hz hm => by rw [List.mem_singleton] at hm;subst hm;exact HQB.out hz) (fun z hz hm => by rw [List.mem_singleton] at hm;have:=(HLO.out z hz).1;omega))
     have HWANT:=Hd (HWANT.out.fr Rep.dgr HG10.out (fun z hz => hqq z (HBO1.out z hz)) (fun z hz => hqq z (HLO1.out z hz)))
     have HD : Hid (DocV w8x (fun z => z ∉ own1 ∧ z ∉ Bo ∧ z ≠ q) (.slice am1 d1.med.length cm1) (.slice ar1 d1.rep.length cr1) d1):=Hd (HD1'.out.fr HG10.out hqq)
     have HF : Hid (Fr [] w w8x):=Hd (HF.out.step HG10.out (fun z hz => by rw [List.mem_singleton] at hz;exact .inr (by have:=HWQ.out;omega)))
     have HHL : Hid (hs1.length = d1.rep.length):=Hd (by rw [HPP.out.rep,List.length_map])
     have HC1 : Hid (decide (d1.w < d1.med.length) = false):=Hd (decide_eq_false (by have:=HPP.out.medlen;omega))
     have HC2 : Hid (decide (d1.r < d1.rep.length) = false):=Hd (decide_eq_false (by have h1:=HPP.out.len;have h2:=HHL.out;omega))
     clear hqq hsz hsz7 hsz6 hge hwg HEV HV2 HD1' HY10 HG10
     refine wp_region_T (fun w' => Fr [] w8x.drew w') [] 39 #[false,false,false,false,false,false,false,false,false,false,false,false,false,false,false,false,false,false,false,false,false,false,false,false,false,false,false,false,false,false,false,false,false,false,false,false,false,false,false] (by as_aux_lemma => kernel_rfl) rfl rfl ?_
     try simp only [List.append_eq,List.cons_append,List.nil_append]
     have hF:=(Fr.refl [] w8x).drew
     have HPW:=Hd (HPW.out.keep hF);have HGOT:=Hd (HGOT.out.keep Rep.got hF);have HWANT:=Hd (HWANT.out.keep Rep.dgr hF);have HX:=Hd (HX.out.keep hF);have HD:=Hd (HD.out.keep hF);have HF:=Hd (HF.out.trans hF)
     have HFD:=Hd hF
     clear hF
     have HSS : Hid (Fr [] w8x.drew w8x.drew):=Hd (Fr.refl _ _)
     generalize w8x.drew = wd at *
     have X1 : Hid (wd.cell? ⟨q,1,none⟩ = some (.int .i64 (d1.w : Nat))):=Hd (by rw [HX.out.cell];rfl)
     have X2 : Hid (wd.cell? ⟨q,2,none⟩ = some (.int .i64 (d1.r : Nat))):=Hd (by rw [HX.out.cell];rfl)
     have X4 : Hid (wd.cell? ⟨q,4,none⟩ = some (.slice am1 d1.med.length cm1)):=Hd (by rw [HX.out.cell];rfl)
     have X5 : Hid (wd.cell? ⟨q,5,none⟩ = some (.slice ar1 d1.rep.length cr1)):=Hd (by rw [HX.out.cell];rfl)
     refine wL 0 ?_ rfl (by as_aux_lemma => kernel_rfl) (fun _ _ _ h => h) HSS.out (by rfl) ?_ ?_
     rotate_left
     ·intro w hSw;go_simp;try with_reducible rfl
     simp only [Act.put,zz1,zz2,zz3,zz4,zz5,zz6]
     refine wL 1 ?_ rfl (by as_aux_lemma => kernel_rfl) (fun _ _ _ h => h) HSS.out (by rfl) ?_ ?_
     rotate_left
     ·intro w hSw;go_simp;try with_reducible rfl
     simp only [Act.put,zz1,zz2,zz3,zz4,zz5,zz6]
     refine wL 2 ?_ rfl (by as_aux_lemma => kernel_rfl) (fun _ _ _ h => h) HSS.out (by rfl) ?_ ?_
     rotate_left
     ·intro w hSw;go_simp;try with_reducible rfl
     simp only [Act.put,zz1,zz2,zz3,zz4,zz5,zz6]
     refine wL 3 ?_ rfl (by as_aux_lemma => kernel_rfl) (fun _ _ _ h => h) HSS.out (by rfl) ?_ ?_
     rotate_left
     ·intro w hSw;go_simp;try with_reducible rfl
     simp only [Act.put,zz1,zz2,zz3,zz4,zz5,zz6]
     refine wL 4 ?_ rfl (by as_aux_lemma => kernel_rfl) (fun _ _ _ h => h) HSS.out (by rfl) ?_ ?_
     rotate_left
     ·intro w hSw;go_simp;try with_reducible rfl
     simp only [Act.put,zz1,zz2,zz3,zz4,zz5,zz6]
     refine wL 5 ?_ rfl (by as_aux_lemma => kernel_rfl) (fun _ _ _ h => h) HSS.out (by rfl) ?_ ?_
     rotate_left
     ·intro w hSw;go_simp;try with_reducible rfl
     simp only [Act.put,zz1,zz2,zz3,zz4,zz5,zz6]
     refine wpAnyT_one (i:=6) (by as_aux_lemma => kernel_rfl) rfl (fun K hK => ?_)
     rw [if_pos (by rfl)]
     go_simp
     refine (l16same_any HGOT.out HWANT.out HOB.out).mono ?_
     rintro e w81 ⟨rfl,hF⟩
     have HSS:=Hd (HSS.out.trans hF)
     have HPW:=Hd (HPW.out.keep hF);have HGOT:=Hd (HGOT.out.keep Rep.got hF);have HWANT:=Hd (HWANT.out.keep Rep.dgr hF);have HX:=Hd (HX.out.keep hF);have HD:=Hd (HD.out.keep hF);have HF:=Hd (HF.out.trans hF)
     clear hF
     go_simp
     refine hK.out _ _ (fun _ => HSS.out) ?_
     clear hK K
     simp only [Act.put,zz1,zz2,zz3,zz4,zz5,zz6]
     refine wL 7 ?_ rfl (by as_aux_lemma => kernel_rfl) (fun _ _ _ h => h) HSS.out (by rfl) ?_ ?_
     rotate_left
     ·intro w hSw;go_simp;try with_reducible rfl
     simp only [Act.put,zz1,zz2,zz3,zz4,zz5,zz6]
     refine wL 8 ?_ rfl (by as_aux_lemma => kernel_rfl) (fun _ _ _ h => h) HSS.out (by rfl) ?_ ?_
     rotate_left
     ·intro w hSw;go_simp;try with_reducible rfl
     simp only [Act.put,zz1,zz2,zz3,zz4,zz5,zz6]
     refine wL 9 ?_ rfl (by as_aux_lemma => kernel_rfl) (fun _ _ _ h => h) HSS.out (by rfl) ?_ ?_
     rotate_left
     ·intro w hSw;go_simp;try with_reducible rfl
     simp only [Act.put,zz1,zz2,zz3,zz4,zz5,zz6]
     refine wL 10 ?_ rfl (by as_aux_lemma => kernel_rfl) (fun _ _ _ h => h) HSS.out (by rfl) ?_ ?_
     rotate_left
     ·intro w hSw;go_simp;try with_reducible rfl
     simp only [Act.put,zz1,zz2,zz3,zz4,zz5,zz6]
     refine wL 12 ?_ rfl (by as_aux_lemma => kernel_rfl) (fun _ _ _ h => h) HSS.out (by rfl) ?_ ?_
     rotate_left
     ·intro w hSw;go_simp;try with_reducible rfl
     simp only [Act.put,zz1,zz2,zz3,zz4,zz5,zz6]
     refine wL 13 ?_ rfl (by as_aux_lemma => kernel_rfl) (fun _ _ _ h => h) HSS.out (by rfl) ?_ ?_
     rotate_left
     ·intro w hSw;have x1:=hSw.cellSome X1.out (by simp);have x2:=hSw.cellSome X2.out (by simp);have x4:=hSw.cellSome X4.out (by simp);have x5:=hSw.cellSome X5.out (by simp);go_simp;try with_reducible rfl
     simp only [Act.put,zz1,zz2,zz3,zz4,zz5,zz6]
     refine wL 14 ?_ rfl (by as_aux_lemma => kernel_rfl) (fun _ _ _ h => h) HSS.out (by rfl) ?_ ?_
     rotate_left
     ·intro w hSw;go_simp;try with_reducible rfl
     simp only [Act.put,zz1,zz2,zz3,zz4,zz5,zz6]
     refine wpAnyT_one (i:=11) (by as_aux_lemma => kernel_rfl) rfl (fun K hK => ?_)
     rw [if_pos (by rfl)]
     go_simp
     obtain ⟨vrr,Brr,Drr,hBrr,hOrr,hMrr,-⟩:=HPW.out.ex
     refine (pkLen_any hBrr hMrr).mono ?_
     rintro e w811 ⟨rfl,hF⟩
     clear hBrr hOrr hMrr
     have HSS:=Hd (HSS.out.trans hF)
     have HPW:=Hd (HPW.out.keep hF);have HGOT:=Hd (HGOT.out.keep Rep.got hF);have HWANT:=Hd (HWANT.out.keep Rep.dgr hF);have HX:=Hd (HX.out.keep hF);have HD:=Hd (HD.out.keep hF);have HF:=Hd (HF.out.trans hF)
     clear hF
     go_simp
     refine hK.out _ _ (fun _ => HSS.out) ?_
     clear hK K
     simp only [Act.put,zz1,zz2,zz3,zz4,zz5,zz6]
     refine wL 15 ?_ rfl (by as_aux_lemma => kernel_rfl) (fun _ _ _ h => h) HSS.out (by rfl) ?_ ?_
     rotate_left
     ·intro w hSw;go_simp;try with_reducible rfl
     simp only [Act.put,zz1,zz2,zz3,zz4,zz5,zz6]
     refine wL 16 ?_ rfl (by as_aux_lemma => kernel_rfl) (fun _ _ _ h => h) HSS.out (by rfl) ?_ ?_
     rotate_left
     ·intro w hSw;go_simp;try with_reducible rfl
     simp only [Act.put,zz1,zz2,zz3,zz4,zz5,zz6]
     refine wL 17 ?_ rfl (by as_aux_lemma => kernel_rfl) (fun _ _ _ h => h) HSS.out (by rfl) ?_ ?_
     rotate_left
     ·intro w hSw;go_simp;try with_reducible rfl
     simp only [Act.put,zz1,zz2,zz3,zz4,zz5,zz6]
     refine wL 18 ?_ rfl (by as_aux_lemma => kernel_rfl) (fun _ _ _ h => h) HSS.out (by rfl) ?_ ?_
     rotate_left
     ·intro w hSw;go_simp;try with_reducible rfl
     simp only [Act.put,zz1,zz2,zz3,zz4,zz5,zz6]
     refine wL 20 ?_ rfl (by as_aux_lemma => kernel_rfl) (fun _ _ _ h => h) HSS.out (by rfl) ?_ ?_
     rotate_left
     ·intro w hSw;go_simp;try with_reducible rfl
     simp only [Act.put,zz1,zz2,zz3,zz4,zz5,zz6]
     refine wL 21 ?_ rfl (by as_aux_lemma => kernel_rfl) (fun _ _ _ h => h) HSS.out (by rfl) ?_ ?_
     rotate_left
     ·intro w hSw;have x1:=hSw.cellSome X1.out (by simp);have x2:=hSw.cellSome X2.out (by simp);have x4:=hSw.cellSome X4.out (by simp);have x5:=hSw.cellSome X5.out (by simp);go_simp;try with_reducible rfl
     simp only [Act.put,zz1,zz2,zz3,zz4,zz5,zz6]
     refine wL 22 ?_ rfl (by as_aux_lemma => kernel_rfl) (fun _ _ _ h => h) HSS.out (by rfl) ?_ ?_
     rotate_left
     ·intro w hSw;go_simp;try with_reducible rfl
     simp only [Act.put,zz1,zz2,zz3,zz4,zz5,zz6]
     refine wpAnyT_one (i:=19) (by as_aux_lemma => kernel_rfl) rfl (fun K hK => ?_)
     rw [if_pos (by rfl)]
     go_simp
     obtain ⟨vrr,Brr,Drr,hBrr,hOrr,hMrr,-⟩:=HPW.out.ex
     refine (pkRepairs_any hBrr hOrr).mono ?_
     rintro e w819 ⟨rfl,hF⟩
     rw [HHL.out]
     clear hBrr hOrr hMrr
     have HSS:=Hd (HSS.out.trans hF)
     have HPW:=Hd (HPW.out.keep hF);have HGOT:=Hd (HGOT.out.keep Rep.got hF);have HWANT:=Hd (HWANT.out.keep Rep.dgr hF);have HX:=Hd (HX.out.keep hF);have HD:=Hd (HD.out.keep hF);have HF:=Hd (HF.out.trans hF)
     clear hF
     go_simp
     refine hK.out _ _ (fun _ => HSS.out) ?_
     clear hK K
     simp only [Act.put,zz1,zz2,zz3,zz4,zz5,zz6]
     refine wL 23 ?_ rfl (by as_aux_lemma => kernel_rfl) (fun _ _ _ h => h) HSS.out (by rfl) ?_ ?_
     rotate_left
     ·intro w hSw;go_simp;try with_reducible rfl
     simp only [Act.put,zz1,zz2,zz3,zz4,zz5,zz6]
     refine wL 24 ?_ rfl (by as_aux_lemma => kernel_rfl) (fun _ _ _ h => h) HSS.out (by rfl) ?_ ?_
     rotate_left
     ·intro w hSw;go_simp;try with_reducible rfl
     simp only [Act.put,zz1,zz2,zz3,zz4,zz5,zz6]
     refine wL 25 ?_ rfl (by as_aux_lemma => kernel_rfl) (fun _ _ _ h => h) HSS.out (by rfl) ?_ ?_
     rotate_left
     ·intro w hSw;go_simp;try with_reducible rfl
     simp only [Act.put,zz1,zz2,zz3,zz4,zz5,zz6]
     refine wL 26 ?_ rfl (by as_aux_lemma => kernel_rfl) (fun _ _ _ h => h) HSS.out (by rfl) ?_ ?_
     rotate_left
     ·intro w hSw;go_simp;try with_reducible rfl
     simp only [Act.put,zz1,zz2,zz3,zz4,zz5,zz6]
     refine wL 28 ?_ rfl (by as_aux_lemma => kernel_rfl) (fun _ _ _ h => h) HSS.out (by rfl) ?_ ?_
     rotate_left
     ·intro w hSw;go_simp;try with_reducible rfl
     simp only [Act.put,zz1,zz2,zz3,zz4,zz5,zz6]
     refine wL 29 ?_ rfl (by as_aux_lemma => kernel_rfl) (fun _ _ _ h => h) HSS.out (by rfl) ?_ ?_
     rotate_left
     ·intro w hSw;have x1:=hSw.cellSome X1.out (by simp);have x2:=hSw.cellSome X2.out (by simp);have x4:=hSw.cellSome X4.out (by simp);have x5:=hSw.cellSome X5.out (by simp);go_simp;try with_reducible rfl
     simp only [Act.put,zz1,zz2,zz3,zz4,zz5,zz6]
     refine wpAnyT_one (i:=27) (by as_aux_lemma => kernel_rfl) rfl (fun K hK => ?_)
     rw [if_pos (by rfl)]
     go_simp
     obtain ⟨vrr,Brr,Drr,hBrr,hOrr,hMrr,-⟩:=HPW.out.ex
     refine (pkLen_any hBrr hMrr).mono ?_
     rintro e w827 ⟨rfl,hF⟩
     clear hBrr hOrr hMrr
     have HSS:=Hd (HSS.out.trans hF)
     have HPW:=Hd (HPW.out.keep hF);have HGOT:=Hd (HGOT.out.keep Rep.got hF);have HWANT:=Hd (HWANT.out.keep Rep.dgr hF);have HX:=Hd (HX.out.keep hF);have HD:=Hd (HD.out.keep hF);have HF:=Hd (HF.out.trans hF)
     clear hF
     go_simp
     refine hK.out _ _ (fun _ => HSS.out) ?_
     clear hK K
     simp only [Act.put,zz1,zz2,zz3,zz4,zz5,zz6]
     refine wL 30 ?_ rfl (by as_aux_lemma => kernel_rfl) (fun _ _ _ h => h) HSS.out (by rfl) ?_ ?_
     rotate_left
     ·intro w hSw;have x1:=HC1.out;go_simp;try with_reducible rfl
     simp only [Act.put,zz1,zz2,zz3,zz4,zz5,zz6]
     refine wL 31 ?_ rfl (by as_aux_lemma => kernel_rfl) (fun _ _ _ h => h) HSS.out (by rfl) ?_ ?_
     rotate_left
     ·intro w hSw;go_simp;try with_reducible rfl
     simp only [Act.put,zz1,zz2,zz3,zz4,zz5,zz6]
     refine wL 32 ?_ rfl (by as_aux_lemma => kernel_rfl) (fun _ _ _ h => h) HSS.out (by rfl) ?_ ?_
     rotate_left
     ·intro w hSw;go_simp;try with_reducible rfl
     simp only [Act.put,zz1,zz2,zz3,zz4,zz5,zz6]
     refine wL 33 ?_ rfl (by as_aux_lemma => kernel_rfl) (fun _ _ _ h => h) HSS.out (by rfl) ?_ ?_
     rotate_left
     ·intro w hSw;go_simp;try with_reducible rfl
     simp only [Act.put,zz1,zz2,zz3,zz4,zz5,zz6]
     refine wL 35 ?_ rfl (by as_aux_lemma => kernel_rfl) (fun _ _ _ h => h) HSS.out (by rfl) ?_ ?_
     rotate_left
     ·intro w hSw;go_simp;try with_reducible rfl
     simp only [Act.put,zz1,zz2,zz3,zz4,zz5,zz6]
     refine wL 36 ?_ rfl (by as_aux_lemma => kernel_rfl) (fun _ _ _ h => h) HSS.out (by rfl) ?_ ?_
     rotate_left
     ·intro w hSw;have x1:=hSw.cellSome X1.out (by simp);have x2:=hSw.cellSome X2.out (by simp);have x4:=hSw.cellSome X4.out (by simp);have x5:=hSw.cellSome X5.out (by simp);go_simp;try with_reducible rfl
     simp only [Act.put,zz1,zz2,zz3,zz4,zz5,zz6]
     refine wpAnyT_one (i:=34) (by as_aux_lemma => kernel_rfl) rfl (fun K hK => ?_)
     rw [if_pos (by rfl)]
     go_simp
     obtain ⟨vrr,Brr,Drr,hBrr,hOrr,hMrr,-⟩:=HPW.out.ex
     refine (pkRepairs_any hBrr hOrr).mono ?_
     rintro e w834 ⟨rfl,hF⟩
     rw [HHL.out]
     clear hBrr hOrr hMrr
     have HSS:=Hd (HSS.out.trans hF)
     have HPW:=Hd (HPW.out.keep hF);have HGOT:=Hd (HGOT.out.keep Rep.got hF);have HWANT:=Hd (HWANT.out.keep Rep.dgr hF);have HX:=Hd (HX.out.keep hF);have HD:=Hd (HD.out.keep hF);have HF:=Hd (HF.out.trans hF)
     clear hF
     go_simp
     refine hK.out _ _ (fun _ => HSS.out) ?_
     clear hK K
     simp only [Act.put,zz1,zz2,zz3,zz4,zz5,zz6]
     refine wL 37 ?_ rfl (by as_aux_lemma => kernel_rfl) (fun _ _ _ h => h) HSS.out (by rfl) ?_ ?_
     rotate_left
     ·intro w hSw;have x2:=HC2.out;go_simp;try with_reducible rfl
     simp only [Act.put,zz1,zz2,zz3,zz4,zz5,zz6]
     refine wL 38 ?_ rfl (by as_aux_lemma => kernel_rfl) (fun _ _ _ h => h) HSS.out (by rfl) ?_ ?_
     rotate_left
     ·intro w hSw;go_simp;try with_reducible rfl
     simp only [Act.put,zz1,zz2,zz3,zz4,zz5,zz6]
     refine wpAnyT_done (by as_aux_lemma => kernel_rfl) ?_ _
     clear X1 X2 X4 X5
     go_wp2_with fail
     go_meet
     exact ⟨rfl,HFD.out.trans HSS.out⟩
    case rest =>
     obtain ⟨rfl,hF⟩:=hcut
     have hqq : ∀ z,(z ∉ own1 ∧ z ∉ Bo ∧ z ≠ q) → z ∉ [q]:=fun z hz hm => by rw [List.mem_singleton] at hm;exact hz.2.2 hm
     have HX:=HY10
     have HPW:=Hd (HPW.out.fr HG10.out (fun s hs hm => by rw [List.mem_singleton] at hs;subst hs;exact HQO1.out hm) (fun s hs => by rw [List.mem_singleton] at hs;subst hs;exact .inl HQN.out))
     have HGOT:=Hd (HGOT.out.fr Rep.got HG10.out (fun z hz hm => by rw [List.mem_singleton] at hm;subst hm;exact HQB.out hz) (fun z hz hm => by rw [List.mem_singleton] at hm;have:=(HLO.out z hz).1;omega))
     have HWANT:=Hd (HWANT.out.fr Rep.dgr HG10.out (fun z hz => hqq z (HBO1.out z hz)) (fun z hz => hqq z (HLO1.out z hz)))
     have HD : Hid (DocV w8x (fun z => z ∉ own1 ∧ z ∉ Bo ∧ z ≠ q) (.slice am1 d1.med.length cm1) (.slice ar1 d1.rep.length cr1) d1):=Hd (HD1'.out.fr HG10.out hqq)
     have HF : Hid (Fr [] w w8x):=Hd (HF.out.step HG10.out (fun z hz => by rw [List.mem_singleton] at hz;exact .inr (by have:=HWQ.out;omega)))
     have HHL : Hid (hs1.length = d1.rep.length):=Hd (by rw [HPP.out.rep,List.length_map])
     have HC1 : Hid (decide (d1.w < d1.med.length) = false):=Hd (decide_eq_false (by have:=HPP.out.medlen;omega))
     have HC2 : Hid (decide (d1.r < d1.rep.length) = false):=Hd (decide_eq_false (by have h1:=HPP.out.len;have h2:=HHL.out;omega))
     clear hqq hsz hsz7 hsz6 hge hwg HEV HV2 HD1' HY10 HG10
     have HPW:=Hd (HPW.out.keep hF);have HGOT:=Hd (HGOT.out.keep Rep.got hF);have HX:=Hd (HX.out.keep hF);have HD:=Hd (HD.out.keep hF);have HF:=Hd (HF.out.trans hF)
     clear hF HWANT HC1 HC2
     obtain ⟨gc,hgm⟩:=GotM.of HGOT.out
     rw [HM.out] at hgm
     have HGM:=Hd hgm
     have HBG : Hid (∀ z ∈ Bo,w.heap.size ≤ z):=Hd (fun z hz => by have h1:=(HBO.out z hz).1;have:=HWG.out;have:=HGE.out;omega)
     have HMX : Hid (m ≤ 9223372036854775807):=Hd (by have h1:=(HGOT.out.len).2;unfold maxLen at h1;omega)
     clear hgm HGOT
     go_upto_region 17 with fail
     go_loopw [113] (fun iv wr' => ∃ i : Nat,i ≤ m ∧ iv = .int .i64 (i : Nat) ∧ GotM wr' (.slice a6 m c6) m gc Bo ∧ Fr Bo wc wr') (fun iv _ => m - (Go.RowKit.intOf iv).toNat)
     case atStart => exact ⟨0,Nat.zero_le _,rfl,HGM.out,Fr.refl _ _⟩
     case round =>
      obtain ⟨i,hi,rfl,hgm,hF⟩:=hrel
      have HGM:=Hd hgm;have HFL:=Hd hF
      clear hgm hF
      have hmx:=HMX.out
      by_cases hlti : i < m
      ·obtain ⟨bs,os,al,nl,cl,lb,ea,hci,hcell,hob,hlb,hbin⟩:=HGM.out.at_ hlti
       subst ea
       have HCI:=Hd hci;have HNL:=Hd hlb
       have hnlm : nl ≤ 9223372036854775807:=by have h1:=(Sl.len hob.bytes).2;unfold maxLen at h1;omega
       clear hci hob hlb hbin
       go_upto_region 20 with fail
       clear hcell
       go_loopw [122] (fun kv wk => ∃ i2 : Nat,i2 ≤ nl ∧ kv = .int .i64 (i2 : Nat) ∧ GotM wk (.slice (some ⟨bs,os,none⟩) m c6) m gc Bo ∧ Fr Bo wc wk) (fun kv _ => nl - (Go.RowKit.intOf kv).toNat)
       case atStart => exact ⟨0,Nat.zero_le _,rfl,HGM.out,HFL.out⟩
       case round =>
        obtain ⟨i2,hi2,rfl,hgm,hF⟩:=hrel
        have HGM:=Hd hgm;have HFL:=Hd hF
        clear hgm hF
        by_cases hlt2 : i2 < nl
        ·obtain ⟨bs',os',al',nl',cl',lb,ea,hci,hcell,hob,hlb,hbin⟩:=HGM.out.at_ hlti
         simp only [Option.some.injEq,Addr.mk.injEq,and_true] at ea
         obtain ⟨rfl,rfl⟩:=ea
         obtain ⟨rfl,rfl,rfl⟩ : al = al' ∧ nl = nl' ∧ cl = cl':=by
          have h1:=HCI.out.symm.trans hci
          simpa using h1
         obtain ⟨gb,capb,eb,-,hgb,hlc,hcells,hfree,-⟩:=hob.live (by omega)
         simp only [Value.slice.injEq] at eb
         obtain ⟨rfl,-,rfl⟩:=eb
         obtain ⟨x,hx⟩ : ∃ x,lb[i2]? = some x:=⟨_,List.getElem?_eq_getElem (by omega)⟩
         have hc8:=hcells i2 (by omega)
         have hxe : lb[i2] = x:=by have:=List.getElem?_eq_getElem (l:=lb) (i:=i2) (by omega);rw [hx] at this;exact (Option.some.inj this).symm
         rw [hxe] at hc8
         have hf8:=hfree i2
         obtain ⟨c8,hc8'⟩:=byte_up x
         have HC8:=Hd hc8
         have HBX : Hid (∃ cur t,Box wr gb t cur):=Hd (by
          obtain ⟨cur,t,h9⟩:=hob.cells gb rfl
          exact ⟨cur,t,h9⟩)
         have HBIN:=Hd (hbin gb rfl)
         obtain ⟨ws,hws⟩ : ∃ ws,wr.setCell ⟨gb,i2,none⟩ (B8 c8) = ws:=⟨_,rfl⟩
         have HWS:=Hd hws
         have HC8':=Hd hc8'
         unfold B8 at hc8
         clear hci hob hlb hbin hcells hfree hx hxe hws hc8'
         go_wp2_with fail
         have HE8 : Hid (Value.int .u8 (((x.toNat : Int) + 1) % 256) = B8 c8):=Hd (by rw [← IntKind.wrap_u8];exact HC8'.out)
         refine ⟨⟨i2 + 1,by omega,by go_num,?_,?_⟩,by simp [Go.RowKit.intOf];omega⟩
         ·rw [HE8.out]
          obtain ⟨cur,t,hB⟩:=HBX.out
          exact HGM.out.set hB HC8.out c8
         ·rw [HE8.out]
          exact HFL.out.set (.inl HBIN.out) _
        ·obtain rfl : i2 = nl:=by omega
         go_wp2_with fail
         go_roundw
         case rel => exact ⟨i + 1,by omega,by go_num,HGM.out,HFL.out⟩
         case measure => simp [Go.RowKit.intOf];omega
      ·obtain rfl : i = m:=by omega
       have hF:=HFL.out
       have HPW:=Hd (HPW.out.fr hF (fun s hs => (HBO.out s hs).2.2) (fun s hs => .inl (List.mem_append_right _ (HBO.out s hs).2.1)))
       have HX:=Hd (HX.out.fr hF HQB.out)
       have HD:=Hd (HD.out.fr hF (fun z hz => hz.2.1))
       have HF : Hid (Fr [] w wr):=Hd (HF.out.step hF (fun z hz => .inr (HBG.out z hz)))
       have HI1:=Hd (HPP.out.bd (by have:=HN1.out;omega))
       have HML1 : Hid (d1.med.length ≤ 1000):=Hd (by have h1:=HPP.out.medlen;have h2:=HPP.out.w;omega)
       clear hF hlti hi hmx
       obtain ⟨vrr,Brr,Drr,hBrr,hOrr,hMrr,-⟩:=HPW.out.ex
       have HBR:=Hd hBrr;have HMR:=Hd hMrr
       clear hBrr hOrr hMrr
       go_wp2_with fail
       refine (pkHas_any HBR.out HMR.out HI1.out HPP.out.sz ask).mono ?_
       rintro e w10 ⟨v10,rfl,hO,hF⟩
       obtain ⟨a10,n10,c10,rfl⟩:=hO.isSlice
       have HVH:=Hd hO
       have HPW:=Hd (HPW.out.keep hF);have HX:=Hd (HX.out.keep hF);have HD:=Hd (HD.out.keep hF);have HBR:=Hd (HBR.out.keep hF);have HF:=Hd (HF.out.trans hF)
       clear hO hF HMR
       go_wp2_with (refine wpList_load_row_w rfl 32 (.tmp 12) rfl q rfl 32 _ _ HX.out Tryz.underlying32 rfl (by kernel_rfl) ?_)
       refine (r16Has_any HD.out HI1.out HML1.out ask).mono ?_
       rintro e w11 ⟨v11,rfl,hO,-,hF⟩
       obtain ⟨a11,n11,c11,rfl⟩:=Sl.isSlice hO
       have HVC:=Hd hO
       have HPW:=Hd (HPW.out.keep hF);have HX:=Hd (HX.out.keep hF);have HD:=Hd (HD.out.keep hF);have HBR:=Hd (HBR.out.keep hF);have HVH:=Hd (HVH.out.keep hF);have HF:=Hd (HF.out.trans hF)
       clear hO hF
       have HHB : Hid (((d1.has ask).getD []).length ≤ 1099511627776):=Hd (by
        cases hx : d1.has ask with
        | none => simp
        | some b =>
         obtain ⟨o,ho,rfl⟩ : ∃ o ∈ d1.med,o.b = b:=by
          unfold PkD.has PkD.look at hx
          obtain ⟨o,ho,e⟩:=Option.map_eq_some_iff.1 hx
          exact ⟨o,List.mem_of_find?_eq_some ho,e⟩
         have:=HPP.out.sz o ho
         simp only [Option.getD_some]
         omega)
       generalize (d1.has ask).isSome = hb at *
       generalize (d1.has ask).getD [] = hbb at *
       go_wp2_with fail
       refine (pkNewest_any HBR.out).mono ?_
       rintro e w12 ⟨rfl,hF⟩
       have HPW:=Hd (HPW.out.keep hF);have HX:=Hd (HX.out.keep hF);have HD:=Hd (HD.out.keep hF);have HVH:=Hd (HVH.out.keep hF);have HVC:=Hd (Sl.keep HVC.out hF);have HF:=Hd (HF.out.trans hF)
       clear hF HBR
       have HX3 : Hid ((dcc d1 (.slice am1 d1.med.length cm1) (.slice ar1 d1.rep.length cr1))[3]? = some (.int .i64 (d1.hi.getD (-1)))):=Hd rfl
       have hi1:=HI1.out
       go_upto_region 28 with fail
       generalize hhi : d1.hi = hi at *
       have HHI:=Hd hhi
       clear hhi
       cases hi with
       | none =>
        clear hi1
        have HX3 : Hid ((dcc d1 (.slice am1 d1.med.length cm1) (.slice ar1 d1.rep.length cr1))[3]? = some (.int .i64 (-1))):=Hd HX3.out
        have x3 : w12.cell? ⟨q,3,none⟩ = some (.int .i64 (-1)):=by rw [HX.out.cell];exact HX3.out
        simp only [Option.isSome_none,Option.getD_none]
        go_wp2_with fail
        refine (RSame_any HVH.out.bytes HVC.out HHB.out HHB.out).mono ?_
        rintro e w28 ⟨rfl,hF⟩
        rw [beq_self_eq_true]
        have HPW:=Hd (HPW.out.keep hF);have HX:=Hd (HX.out.keep hF);have HD:=Hd (HD.out.keep hF);have HF:=Hd (HF.out.trans hF)
        have x3:=hF.cellSome x3 (by simp)
        have hnb : n ≤ 9223372036854775807:=HNB.out
        clear hF
        go_wp2_with fail
        go_roundw
        case rel => exact ⟨j + 1,d1,_,_,by omega,by go_num,own1,_,hs1,turn1,hs3,turn3,HPW.out,HPP.out,HPP3.out,HT.out.1,HT.out.2,HQN.out,HQO1.out,HOWNX.out,HD.out.imp (fun z _ hz => ⟨hz.1,hz.2.2⟩),HX.out,HWQ.out,HF.out⟩
        case measure => simp [Go.RowKit.intOf];omega
       | some hh =>
        have hhb:=hi1 hh rfl
        have HX3 : Hid ((dcc d1 (.slice am1 d1.med.length cm1) (.slice ar1 d1.rep.length cr1))[3]? = some (.int .i64 hh)):=Hd HX3.out
        have x3 : w12.cell? ⟨q,3,none⟩ = some (.int .i64 hh):=by rw [HX.out.cell];exact HX3.out
        have hge0 : decide (0 ≤ hh) = true:=decide_eq_true (by omega)
        have hge1 : (0 ≤ hh) = True:=by simp;omega
        have hrem : Int.tmod hh 65536 = hh % 65536:=Int.tmod_eq_emod_of_nonneg (by omega)
        have hcv : IntKind.u16.wrap (hh % 65536) = ((low16 hh).toNat : Int):=by rw [IntKind.wrap_u16,low16_nat];omega
        have hcv2 : hh % 65536 % 65536 = ((low16 hh).toNat : Int):=by rw [low16_nat];omega
        clear hi1 hhb
        simp only [Option.isSome_some,Option.getD_some]
        go_wp2_with fail
        refine (RSame_any HVH.out.bytes HVC.out HHB.out HHB.out).mono ?_
        rintro e w28 ⟨rfl,hF⟩
        rw [beq_self_eq_true]
        have HPW:=Hd (HPW.out.keep hF);have HX:=Hd (HX.out.keep hF);have HD:=Hd (HD.out.keep hF);have HF:=Hd (HF.out.trans hF)
        have x3:=hF.cellSome x3 (by simp)
        have hnb : n ≤ 9223372036854775807:=HNB.out
        clear hF
        go_wp2_with fail
        go_roundw
        case rel => exact ⟨j + 1,d1,_,_,by omega,by go_num,own1,_,hs1,turn1,hs3,turn3,HPW.out,HPP.out,HPP3.out,HT.out.1,HT.out.2,HQN.out,HQO1.out,HOWNX.out,HD.out.imp (fun z _ hz => ⟨hz.1,hz.2.2⟩),HX.out,HWQ.out,HF.out⟩
        case measure => simp [Go.RowKit.intOf];omega
  ·obtain rfl : j = n:=by have:=HJ.out;omega
   go_wp2_with fail
   go_ret
   exact ⟨rfl,HF.out⟩
end Go.Proofs.YtcngfbjmpemehaaGreat
