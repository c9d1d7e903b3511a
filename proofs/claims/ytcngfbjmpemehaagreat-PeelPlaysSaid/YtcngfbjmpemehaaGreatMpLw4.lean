/- The walks of confluxlaw16.two and alive (printed by gen_lw4.py). -/
import Derived.Lib.SlBytesConst
import Derived.Test.YtcngfbjmpemehaaGreatMp41
import Derived.Test.YtcngfbjmpemehaaGreatMp21
import Derived.Test.YtcngfbjmpemehaaGreatMp19
import Derived.Test.YtcngfbjmpemehaaGreatMp28
import Derived.Test.YtcngfbjmpemehaaGreatMpDc8
set_option maxRecDepth 100000
set_option maxHeartbeats 16000000
open List renaming getElem_toArray → zz1, getElem_cons_zero → zz2, getElem_cons_succ → zz3, setIfInBounds_toArray → zz4, set_cons_zero → zz5, set_cons_succ → zz6, getElem?_toArray → zz7, getElem?_cons_succ → zz8, getElem?_cons_zero → zz9
open Go.Lib renaming hid → Hd
namespace Go.Proofs.YtcngfbjmpemehaaGreat
open Go.RowKit

def ba14 : List UInt8:=[128,96,255,255,0,0,0,2,0,0,0,3,97,98]
def bb14 : List UInt8:=[128,96,0,0,0,0,0,2,0,0,0,3,98]
def ca14 : Array Value:=#[.int .u8 128,.int .u8 96,.int .u8 255,.int .u8 255,.int .u8 0,.int .u8 0,.int .u8 0,.int .u8 2,.int .u8 0,.int .u8 0,.int .u8 0,.int .u8 3,.int .u8 97,.int .u8 98]
def cb14 : Array Value:=#[.int .u8 128,.int .u8 96,.int .u8 0,.int .u8 0,.int .u8 0,.int .u8 0,.int .u8 0,.int .u8 2,.int .u8 0,.int .u8 0,.int .u8 0,.int .u8 3,.int .u8 98]
abbrev two14 : List (List UInt8):=[ba14,bb14]
def rep14 : Rep_:=⟨⟨0,0,0,0,0,0,0,3,[3,98]⟩,65535,⟨13835058055282163712#64,0#64⟩⟩
def zrep14 : Rep_:=⟨Bt.zero,0,⟨0,0⟩⟩
theorem mk_two14 : mkP two14 = .ok rep14:=by rfl
theorem l16two_any {w : World} : Calls Tryz.prog 28 #[] w fun e w' => ∃ g B,e = .returned (.slice (some ⟨g,0,none⟩) 2 2) ∧ OwnEls 1 BytesR w' w.heap.size 34 (.slice (some ⟨g,0,none⟩) 2 2) two14 B ∧ Fr [] w w':=by
 have k1:=Lib.run_convert_bytes_const (P:=Tryz.prog) w 34 5 ca14 14 14 Tryz.underlying34 Tryz.underlying5
 obtain ⟨w1,e1,hF1,hB1⟩:=const_block w ca14 5 (ca14.size,ca14.size + 1) 14 rfl (by unfold maxLen;omega)
 rw [e1] at k1
 have k2:=Lib.run_convert_bytes_const (P:=Tryz.prog) w1 34 5 cb14 13 13 Tryz.underlying34 Tryz.underlying5
 obtain ⟨w2,e2,hF2,hB2⟩:=const_block w1 cb14 5 (cb14.size,cb14.size + 1) 13 rfl (by unfold maxLen;omega)
 rw [e2] at k2
 have HA : Hid (Bytes w2 (.slice (some ⟨w.heap.size,0,none⟩) 14 14) ba14):=Hd (Sl.keep hB1 hF2)
 have HB : Hid (Bytes w2 (.slice (some ⟨w1.heap.size,0,none⟩) 13 13) bb14):=Hd hB2
 have HF:=Hd (hF1.trans hF2)
 clear e1 hF1 hB1 e2 hF2 hB2
 unfold ca14 at k1
 unfold cb14 at k2
 go_enter Tryz.func28,Tryz.ntmps28
 go_wp2_with fail
 go_ret
 have hf2 : Fr [] w2 (w2.alloc (.cells #[.slice (some ⟨w.heap.size,0,none⟩) 14 14,.slice (some ⟨w1.heap.size,0,none⟩) 13 13] 34)):=(Fr.refl [] w2).alloc _
 have hown : OwnEls 1 BytesR (w2.alloc (.cells #[.slice (some ⟨w.heap.size,0,none⟩) 14 14,.slice (some ⟨w1.heap.size,0,none⟩) 13 13] 34)) w.heap.size 34 (.slice (some ⟨w2.heap.size,0,none⟩) 2 2) two14 [w.heap.size,w1.heap.size] :=
  ⟨[.slice (some ⟨w.heap.size,0,none⟩) 14 14,.slice (some ⟨w1.heap.size,0,none⟩) 13 13],
   ⟨rfl,.inr ⟨w2.heap.size,2,_,rfl,HF.out.size,heap_alloc_new w2 _,Nat.le_refl _,by unfold maxLen;omega,rfl,rfl⟩⟩,
   ⟨[_],[_],[w.heap.size],[w1.heap.size],rfl,rfl,⟨_,rfl,Sl.keep HA.out hf2,rfl⟩,⟨[_],[],[w1.heap.size],[],rfl,rfl,⟨_,rfl,Sl.keep HB.out hf2,rfl⟩,rfl,rfl⟩⟩,
   fun b hb hm => by
    simp only [blockOf,Option.some.injEq] at hb
    have h1 : w.heap.size < w2.heap.size:=Sl.lt HA.out _ rfl
    have h2 : w1.heap.size < w2.heap.size:=Sl.lt HB.out _ rfl
    simp only [List.mem_cons,List.not_mem_nil,or_false] at hm
    rcases hm with hm | hm <;> omega⟩
 exact ⟨_,_,rfl,hown,HF.out.trans hf2⟩

def d16a : PkD:=PkD.new 3 8 4
def d16b : PkD:=(d16a.media bb14).1
def d16c : PkD:=(d16b.repair rep14).1
def d16d : PkD:=(d16c.media ba14).1
def d16e : PkD:=(d16d.repair rep14).1
def d16f : PkD:=(d16e.repair zrep14).1
theorem m16a : (d16a.media bb14).2 = ([(0,bb14,false)],0):=by decide +kernel
theorem m16b : (d16b.repair rep14).2 = ([(65535,ba14,true)],0):=by decide +kernel
theorem m16c : (d16c.media ba14).2 = ([],5):=by decide +kernel
theorem m16d : (d16d.repair rep14).2 = ([],40):=by decide +kernel
theorem m16e : (d16e.repair zrep14).2 = ([],30):=by decide +kernel
theorem m16f : d16f.has 65535 = some ba14:=by decide +kernel
theorem m16g : d16f.hi = some 4294967296:=by decide +kernel
theorem m16h : d16f.med.length = 2:=by decide +kernel
theorem m16i : d16f.rep.length = 0:=by decide +kernel
theorem pkW_new {w3 : World} {g mb : Nat} {ss : UInt32} {a b : Int} (hB : Box w3 g 90 (pkc (PkD.new ss a b) mb (.slice none 0 0) 0)) {base : Nat} (hM : MapB w3 base mb [g,mb] (.map []) []) (hne : g ≠ mb) (hb : base ≤ w3.heap.size) : PkW w3 base [g,mb] [g,mb] g mb (PkD.new ss a b) [] 0 :=
 ⟨⟨.slice none 0 0,[],.map [],hB,OwnEls.nil _ _ _,hM,by simp [blockOf],by simp⟩,fun b hb => hb,by simp,by simp,hne,hb,fun x hx => by
   simp only [List.mem_cons,List.not_mem_nil,or_false] at hx
   rcases hx with rfl | rfl
   ·exact hB.lt
   ·have h1:=hM.own
    obtain ⟨es,clock,hb,-⟩:=h1
    exact (Array.getElem?_eq_some_iff.1 hb).1⟩
theorem l16alive_any {w : World} : Calls Tryz.prog 7 #[] w fun e w' => e = .returned (.bool true) ∧ Fr [] w w':=by
 go_enter Tryz.func7,Tryz.ntmps7
 go_wp2_with fail
 refine l16two_any.mono ?_
 rintro e w1 ⟨gp,B1,rfl,hO,hF⟩
 have HP:=Hd hO.sl;have HF:=Hd hF
 clear hO hF
 go_wp2_with fail
 refine (pMake_any HP.out.rows).mono ?_
 rintro e w2 ⟨hF,⟨r,v',hm,rfl,hv⟩ | ⟨kk,hm,-,-⟩⟩
 rotate_left
 ·rw [mk_two14] at hm;cases hm
 rw [mk_two14] at hm
 cases hm
 obtain ⟨vb,rfl,hb,-⟩:=hv
 obtain ⟨a2,c2,rfl⟩ : ∃ a c,vb = .slice a 2 c:=Sl.shape hb
 have HP:=Hd (HP.out.keep Rep.bytes hF);have HF:=Hd (HF.out.trans hF);have HBY:=Hd hb
 clear hF hb
 go_upto_region 3 with (refine wpList_store_row rfl 38 (.tmp 2) (.tmp 23) rfl w2.heap.size rfl _ _ rfl 38 (Box.new w2 38 rpz) (by as_aux_lemma => kernel_rfl) rfl (by simp [Value.oneCell']) ?_;intro w3 hY hG;have hFn:=((Fr.refl [] w2).alloc _).step hG (by simp);have HFn:=Hd hFn;have HY:=Hd hY;clear hG hFn hY)
 have hF:=HFn.out
 have HP:=Hd (HP.out.keep Rep.bytes hF);have HF:=Hd (HF.out.trans hF);have HBY:=Hd (Sl.keep HBY.out hF)
 have HR:=HY
 clear hF HFn HY
 generalize hg2 : w2.heap.size = g2 at *
 clear hg2
 obtain ⟨b0,o0,x0,y0,B0,ea,-,hy0,⟨v0,rfl,hv0,-⟩,-,hr0⟩:=HP.out.at_ Rep.bytes (i:=0) (by decide)
 obtain ⟨b1,o1,x1,y1,B1',eb,-,hy1,⟨v1,rfl,hv1,-⟩,-,hr1⟩:=HP.out.at_ Rep.bytes (i:=1) (by decide)
 obtain rfl:=Option.some.inj hy0
 obtain rfl:=Option.some.inj hy1
 simp only [Option.some.injEq,Addr.mk.injEq,and_true] at ea eb
 obtain ⟨rfl,rfl⟩:=ea
 obtain ⟨rfl,rfl⟩:=eb
 obtain ⟨a0,c0,rfl⟩ : ∃ a c,v0 = .slice a 14 c:=Sl.shape hv0
 obtain ⟨a1,c1,rfl⟩ : ∃ a c,v1 = .slice a 13 c:=Sl.shape hv1
 have HC0:=Hd (hr0 0 _ rfl);have HC1:=Hd (hr1 0 _ rfl);have HV0:=Hd hv0;have HV1:=Hd hv1
 simp only [Nat.zero_mul,Nat.add_zero,Nat.zero_add,Nat.one_mul] at HC0 HC1
 have HLT : Hid (gp < w3.heap.size ∧ g2 < w3.heap.size ∧ (∀ z,liveOf (.slice a0 14 c0) = some z → z < w3.heap.size) ∧ (∀ z,liveOf (.slice a1 13 c1) = some z → z < w3.heap.size) ∧ (∀ z,liveOf (.slice a2 2 c2) = some z → z < w3.heap.size)):=Hd ⟨(HP.out.lt Rep.bytes).2 gp (by
  simp [liveOf]),HR.out.lt,fun z hz => Sl.lt HV0.out z hz,fun z hz => Sl.lt HV1.out z hz,fun z hz => Sl.lt HBY.out z hz⟩
 have HW3 : Hid (w.heap.size ≤ w3.heap.size):=Hd HF.out.size
 clear hy0 hy1 hv0 hv1 hr0 hr1 HP
 go_wp2_with fail
 refine (pkNew_any 3 8 4).mono ?_
 rintro e w4 ⟨mb,g,rfl,hB4,hM4,hne4,hg4,hmb4,hF⟩
 have hPW : PkW w4 w3.heap.size [g,mb] [g,mb] g mb d16a [] 0:=pkW_new hB4 hM4 hne4 hF.size
 have HOWN : Hid (∀ z ∈ [g,mb],w3.heap.size ≤ z):=Hd (fun z hz => by
  simp only [List.mem_cons,List.not_mem_nil,or_false] at hz
  rcases hz with rfl | rfl <;> assumption)
 have HNO : Hid (∀ z,z < w3.heap.size → z ∉ [g,mb]):=Hd (fun z h9 hm => by have:=HOWN.out z hm;omega)
 have HPW:=Hd hPW;have HPP : Hid (PkP d16a [] 0 0):=Hd (PkP.new 3 8 4)
 have HC0:=Hd (hF.cellSome HC0.out (by simp));have HC1:=Hd (hF.cellSome HC1.out (by simp));have HV0:=Hd (Sl.keep HV0.out hF);have HV1:=Hd (Sl.keep HV1.out hF);have HR:=Hd (HR.out.keep hF);have HBY:=Hd (Sl.keep HBY.out hF);have HF:=Hd (HF.out.trans hF)
 have HTN : Hid ((0 : Int) ≤ 0 ∧ (0 : Int) ≤ 1):=Hd (by omega)
 clear hPW hB4 hM4 hne4 hg4 hmb4 hF
 have hc1:=HC1.out
 go_wp2_with fail
 refine (pkMedia_any (d:=d16a) HPW.out HPP.out (by decide) HV1.out (fun z hz => HNO.out z (HLT.out.2.2.2.1 z hz)) (by decide)).mono ?_
 rintro e w5 ⟨v1,rfl,hs1,hg0,hPP,hF⟩
 have hg2:=hg0.two (fun z hz => HPW.out.lt z (HPW.out.sub z hz))
 rw [m16a] at hg2 ⊢
 obtain ⟨own5,Bo1,no5,hPW,k2,k3,k4,k5,k6⟩:=hg2
 have hPW : PkW w5 w3.heap.size own5 no5 g mb d16b hs1 _:=hPW
 have hPP : PkP d16b hs1 _ 1:=hPP
 have HC0:=Hd (hF.cellSome HC0.out (HNO.out gp HLT.out.1));have HC1:=Hd (hF.cellSome HC1.out (HNO.out gp HLT.out.1));have HV0:=Hd (Sl.frL HV0.out hF (fun z hz => HNO.out z (HLT.out.2.2.1 z hz)));have HV1:=Hd (Sl.frL HV1.out hF (fun z hz => HNO.out z (HLT.out.2.2.2.1 z hz)));have HR:=Hd (HR.out.fr hF (HNO.out g2 HLT.out.2.1));have HBY:=Hd (Sl.frL HBY.out hF (fun z hz => HNO.out z (HLT.out.2.2.2.2 z hz)))
 have HOWNX:=HOWN
 have HOWN : Hid (∀ z ∈ own5,w3.heap.size ≤ z):=Hd (fun z hz => by
  rcases k5 z hz with h9 | h9
  ·exact HOWN.out z h9
  ·have:=HPW.out.low;omega)
 have HF : Hid (Fr [] w w5):=Hd (HF.out.step hF (fun z hz => .inr (by have:=HOWNX.out z hz;have:=HW3.out;omega)))
 have HNO : Hid (∀ z,z < w3.heap.size → z ∉ own5):=Hd (fun z h9 hm => by have:=HOWN.out z hm;omega)
 have HPW:=Hd hPW;have HPP:=Hd hPP
 obtain ⟨a5,c5,rfl⟩ : ∃ a c,v1 = .slice a 1 c:=k2.shape
 obtain ⟨ga,oa,ca,ya,B1a,ea,-,hya,⟨vva,rfl,hva,-⟩,-,hrga⟩:=k2.at_ Rep.got (i:=0) (by decide)
 obtain rfl:=Option.some.inj hya
 subst ea
 have HA0:=Hd (hrga 0 _ rfl);have HA2:=Hd (hrga 2 _ rfl)
 have HGA : Hid (ga ∉ own5 ∧ ga < w5.heap.size):=Hd (by
  have h9 : liveOf (.slice (some ⟨ga,oa,none⟩) 1 c5) = some ga:=by
   have:=(k2.len).2.1
   simp only [liveOf]
   rw [if_pos (by omega)]
  exact ⟨(k4 ga h9).2.2,(k2.lt Rep.got).2 ga h9⟩)
 simp only [Nat.zero_mul,Nat.add_zero] at HA0 HA2
 have HA0 : Hid (w5.cell? ⟨ga,oa,none⟩ = some (.int .u16 0)):=HA0
 have HA2 : Hid (w5.cell? ⟨ga,oa + 2,none⟩ = some (.bool false)):=HA2
 clear hrga hva
 clear hPW hPP hF k2 k3 k4 k5 k6 HOWNX
 clear hg0
 clear hc1
 go_wp2_with (refine wpList_load_row_w rfl 38 (.tmp 2) rfl g2 rfl 38 _ _ HR.out Tryz.underlying38 rfl (by as_aux_lemma => kernel_rfl) ?_)
 refine (pkRepair_any (d:=d16b) (r:=rep14) HPW.out HPP.out (by decide) (by have:=HTN.out;omega) HBY.out (fun z hz => HNO.out z (HLT.out.2.2.2.2 z hz)) (by decide)).mono ?_
 rintro e w6 ⟨v2,rfl,hs2,tn2,ht1,ht2,hg2,hPP,hF⟩
 have HTN : Hid (0 ≤ tn2 ∧ tn2 ≤ 2):=Hd (by have:=HTN.out;omega)
 rw [m16b] at hg2 ⊢
 obtain ⟨own6,Bo2,no6,hPW,k2,k3,k4,k5,k6⟩:=hg2
 have hPW : PkW w6 w3.heap.size own6 no6 g mb d16c hs2 _:=hPW
 have hPP : PkP d16c hs2 _ 2:=hPP
 have HC0:=Hd (hF.cellSome HC0.out (HNO.out gp HLT.out.1));have HC1:=Hd (hF.cellSome HC1.out (HNO.out gp HLT.out.1));have HV0:=Hd (Sl.frL HV0.out hF (fun z hz => HNO.out z (HLT.out.2.2.1 z hz)));have HV1:=Hd (Sl.frL HV1.out hF (fun z hz => HNO.out z (HLT.out.2.2.2.1 z hz)));have HR:=Hd (HR.out.fr hF (HNO.out g2 HLT.out.2.1));have HBY:=Hd (Sl.frL HBY.out hF (fun z hz => HNO.out z (HLT.out.2.2.2.2 z hz)))
 have HA0:=Hd (hF.cellSome HA0.out HGA.out.1);have HA2:=Hd (hF.cellSome HA2.out HGA.out.1)
 have HGA : Hid (ga ∉ own6 ∧ ga < w6.heap.size):=Hd ⟨fun hm => by
  rcases k5 ga hm with h9 | h9
  ·exact HGA.out.1 h9
  ·have:=HGA.out.2;omega,by have:=HGA.out.2;have:=hF.size;omega⟩
 have HOWNX:=HOWN
 have HOWN : Hid (∀ z ∈ own6,w3.heap.size ≤ z):=Hd (fun z hz => by
  rcases k5 z hz with h9 | h9
  ·exact HOWN.out z h9
  ·have:=HPW.out.low;omega)
 have HF : Hid (Fr [] w w6):=Hd (HF.out.step hF (fun z hz => .inr (by have:=HOWNX.out z hz;have:=HW3.out;omega)))
 have HNO : Hid (∀ z,z < w3.heap.size → z ∉ own6):=Hd (fun z h9 hm => by have:=HOWN.out z hm;omega)
 have HPW:=Hd hPW;have HPP:=Hd hPP
 obtain ⟨a7,c7,rfl⟩ : ∃ a c,v2 = .slice a 1 c:=k2.shape
 obtain ⟨gb,ob,cb,yb,B1b,eb,-,hyb,⟨vvb,rfl,hvb,eB⟩,hBi,hrgb⟩:=k2.at_ Rep.got (i:=0) (by decide)
 obtain rfl:=Option.some.inj hyb
 subst eb
 obtain ⟨a6,n6,c6,rfl⟩:=hvb.isSlice
 have HB0:=Hd (hrgb 0 _ rfl);have HB1:=Hd (hrgb 1 _ rfl);have HB2:=Hd (hrgb 2 _ rfl);have HVB:=Hd hvb.bytes
 have HGB : Hid (gb ∉ own6 ∧ gb < w6.heap.size):=Hd (by
  have h9 : liveOf (.slice (some ⟨gb,ob,none⟩) 1 c7) = some gb:=by
   have:=(k2.len).2.1
   simp only [liveOf]
   rw [if_pos (by omega)]
  exact ⟨(k4 gb h9).2.2,(k2.lt Rep.got).2 gb h9⟩)
 have HGV : Hid (∀ z,liveOf (.slice a6 n6 c6) = some z → z ∉ own6 ∧ z < w6.heap.size):=Hd (fun z hz => by
  have h9 : z ∈ Bo2:=hBi z (by rw [eB];exact mem_toList.2 (live_block hz))
  exact ⟨(k3 z h9).2.2,(k2.lt Rep.got).1 z h9⟩)
 simp only [Nat.zero_mul,Nat.add_zero] at HB0 HB1 HB2
 have HB0 : Hid (w6.cell? ⟨gb,ob,none⟩ = some (.int .u16 65535)):=HB0
 have HB2 : Hid (w6.cell? ⟨gb,ob + 2,none⟩ = some (.bool true)):=HB2
 clear hrgb hvb hBi
 clear hPW hPP hF k2 k3 k4 k5 k6 HOWNX
 clear ht1 ht2
 have hc0:=HC0.out
 go_wp2_with fail
 refine (pkMedia_any (d:=d16c) HPW.out HPP.out (by decide) HV0.out (fun z hz => HNO.out z (HLT.out.2.2.1 z hz)) (by decide)).mono ?_
 rintro e w7 ⟨v3,rfl,hs3,hg0,hPP,hF⟩
 have hg2:=hg0.two (fun z hz => HPW.out.lt z (HPW.out.sub z hz))
 rw [m16c] at hg2 ⊢
 obtain ⟨own7,Bo3,no7,hPW,k2,k3,k4,k5,k6⟩:=hg2
 have hPW : PkW w7 w3.heap.size own7 no7 g mb d16d hs3 _:=hPW
 have hPP : PkP d16d hs3 _ 3:=hPP
 have HC0:=Hd (hF.cellSome HC0.out (HNO.out gp HLT.out.1));have HC1:=Hd (hF.cellSome HC1.out (HNO.out gp HLT.out.1));have HV0:=Hd (Sl.frL HV0.out hF (fun z hz => HNO.out z (HLT.out.2.2.1 z hz)));have HV1:=Hd (Sl.frL HV1.out hF (fun z hz => HNO.out z (HLT.out.2.2.2.1 z hz)));have HR:=Hd (HR.out.fr hF (HNO.out g2 HLT.out.2.1));have HBY:=Hd (Sl.frL HBY.out hF (fun z hz => HNO.out z (HLT.out.2.2.2.2 z hz)))
 have HA0:=Hd (hF.cellSome HA0.out HGA.out.1);have HA2:=Hd (hF.cellSome HA2.out HGA.out.1)
 have HGA : Hid (ga ∉ own7 ∧ ga < w7.heap.size):=Hd ⟨fun hm => by
  rcases k5 ga hm with h9 | h9
  ·exact HGA.out.1 h9
  ·have:=HGA.out.2;omega,by have:=HGA.out.2;have:=hF.size;omega⟩
 have HB0:=Hd (hF.cellSome HB0.out HGB.out.1);have HB2:=Hd (hF.cellSome HB2.out HGB.out.1);have HB1:=Hd (hF.cellSome HB1.out HGB.out.1);have HVB:=Hd (Sl.frL HVB.out hF (fun z hz => (HGV.out z hz).1))
 have HGB : Hid (gb ∉ own7 ∧ gb < w7.heap.size):=Hd ⟨fun hm => by
  rcases k5 gb hm with h9 | h9
  ·exact HGB.out.1 h9
  ·have:=HGB.out.2;omega,by have:=HGB.out.2;have:=hF.size;omega⟩
 have HGV : Hid (∀ z,liveOf (.slice a6 n6 c6) = some z → z ∉ own7 ∧ z < w7.heap.size):=Hd (fun z hz => ⟨fun hm => by
  rcases k5 z hm with h9 | h9
  ·exact (HGV.out z hz).1 h9
  ·have:=(HGV.out z hz).2;omega,by have:=(HGV.out z hz).2;have:=hF.size;omega⟩)
 have HOWNX:=HOWN
 have HOWN : Hid (∀ z ∈ own7,w3.heap.size ≤ z):=Hd (fun z hz => by
  rcases k5 z hz with h9 | h9
  ·exact HOWN.out z h9
  ·have:=HPW.out.low;omega)
 have HF : Hid (Fr [] w w7):=Hd (HF.out.step hF (fun z hz => .inr (by have:=HOWNX.out z hz;have:=HW3.out;omega)))
 have HNO : Hid (∀ z,z < w3.heap.size → z ∉ own7):=Hd (fun z h9 hm => by have:=HOWN.out z hm;omega)
 have HPW:=Hd hPW;have HPP:=Hd hPP
 obtain ⟨ax3,cx3,rfl⟩ : ∃ a c,v3 = .slice a 0 c:=k2.shape
 clear hPW hPP hF k2 k3 k4 k5 k6 HOWNX
 clear hg0
 clear hc0
 go_wp2_with (refine wpList_load_row_w rfl 38 (.tmp 2) rfl g2 rfl 38 _ _ HR.out Tryz.underlying38 rfl (by as_aux_lemma => kernel_rfl) ?_)
 refine (pkRepair_any (d:=d16d) (r:=rep14) HPW.out HPP.out (by decide) (by have:=HTN.out;omega) HBY.out (fun z hz => HNO.out z (HLT.out.2.2.2.2 z hz)) (by decide)).mono ?_
 rintro e w8 ⟨v4,rfl,hs4,tn4,ht1,ht2,hg2,hPP,hF⟩
 have HTN : Hid (0 ≤ tn4 ∧ tn4 ≤ 4):=Hd (by have:=HTN.out;omega)
 rw [m16d] at hg2 ⊢
 obtain ⟨own8,Bo4,no8,hPW,k2,k3,k4,k5,k6⟩:=hg2
 have hPW : PkW w8 w3.heap.size own8 no8 g mb d16e hs4 _:=hPW
 have hPP : PkP d16e hs4 _ 4:=hPP
 have HC0:=Hd (hF.cellSome HC0.out (HNO.out gp HLT.out.1));have HC1:=Hd (hF.cellSome HC1.out (HNO.out gp HLT.out.1));have HV0:=Hd (Sl.frL HV0.out hF (fun z hz => HNO.out z (HLT.out.2.2.1 z hz)));have HV1:=Hd (Sl.frL HV1.out hF (fun z hz => HNO.out z (HLT.out.2.2.2.1 z hz)));have HR:=Hd (HR.out.fr hF (HNO.out g2 HLT.out.2.1));have HBY:=Hd (Sl.frL HBY.out hF (fun z hz => HNO.out z (HLT.out.2.2.2.2 z hz)))
 have HA0:=Hd (hF.cellSome HA0.out HGA.out.1);have HA2:=Hd (hF.cellSome HA2.out HGA.out.1)
 have HGA : Hid (ga ∉ own8 ∧ ga < w8.heap.size):=Hd ⟨fun hm => by
  rcases k5 ga hm with h9 | h9
  ·exact HGA.out.1 h9
  ·have:=HGA.out.2;omega,by have:=HGA.out.2;have:=hF.size;omega⟩
 have HB0:=Hd (hF.cellSome HB0.out HGB.out.1);have HB2:=Hd (hF.cellSome HB2.out HGB.out.1);have HB1:=Hd (hF.cellSome HB1.out HGB.out.1);have HVB:=Hd (Sl.frL HVB.out hF (fun z hz => (HGV.out z hz).1))
 have HGB : Hid (gb ∉ own8 ∧ gb < w8.heap.size):=Hd ⟨fun hm => by
  rcases k5 gb hm with h9 | h9
  ·exact HGB.out.1 h9
  ·have:=HGB.out.2;omega,by have:=HGB.out.2;have:=hF.size;omega⟩
 have HGV : Hid (∀ z,liveOf (.slice a6 n6 c6) = some z → z ∉ own8 ∧ z < w8.heap.size):=Hd (fun z hz => ⟨fun hm => by
  rcases k5 z hm with h9 | h9
  ·exact (HGV.out z hz).1 h9
  ·have:=(HGV.out z hz).2;omega,by have:=(HGV.out z hz).2;have:=hF.size;omega⟩)
 have HOWNX:=HOWN
 have HOWN : Hid (∀ z ∈ own8,w3.heap.size ≤ z):=Hd (fun z hz => by
  rcases k5 z hz with h9 | h9
  ·exact HOWN.out z h9
  ·have:=HPW.out.low;omega)
 have HF : Hid (Fr [] w w8):=Hd (HF.out.step hF (fun z hz => .inr (by have:=HOWNX.out z hz;have:=HW3.out;omega)))
 have HNO : Hid (∀ z,z < w3.heap.size → z ∉ own8):=Hd (fun z h9 hm => by have:=HOWN.out z hm;omega)
 have HPW:=Hd hPW;have HPP:=Hd hPP
 obtain ⟨ax4,cx4,rfl⟩ : ∃ a c,v4 = .slice a 0 c:=k2.shape
 clear hPW hPP hF k2 k3 k4 k5 k6 HOWNX
 clear ht1 ht2
 go_wp2_with fail
 refine (pkRepair_any (d:=d16e) (r:=zrep14) HPW.out HPP.out (by decide) (by have:=HTN.out;omega) (Sl.nil _) (fun z hz => by cases hz) (by decide)).mono ?_
 rintro e w9 ⟨v5,rfl,hs5,tn5,ht1,ht2,hg2,hPP,hF⟩
 have HTN : Hid (0 ≤ tn5 ∧ tn5 ≤ 5):=Hd (by have:=HTN.out;omega)
 rw [m16e] at hg2 ⊢
 obtain ⟨own9,Bo5,no9,hPW,k2,k3,k4,k5,k6⟩:=hg2
 have hPW : PkW w9 w3.heap.size own9 no9 g mb d16f hs5 _:=hPW
 have hPP : PkP d16f hs5 _ 5:=hPP
 have HC0:=Hd (hF.cellSome HC0.out (HNO.out gp HLT.out.1));have HC1:=Hd (hF.cellSome HC1.out (HNO.out gp HLT.out.1));have HV0:=Hd (Sl.frL HV0.out hF (fun z hz => HNO.out z (HLT.out.2.2.1 z hz)));have HV1:=Hd (Sl.frL HV1.out hF (fun z hz => HNO.out z (HLT.out.2.2.2.1 z hz)));have HR:=Hd (HR.out.fr hF (HNO.out g2 HLT.out.2.1));have HBY:=Hd (Sl.frL HBY.out hF (fun z hz => HNO.out z (HLT.out.2.2.2.2 z hz)))
 have HA0:=Hd (hF.cellSome HA0.out HGA.out.1);have HA2:=Hd (hF.cellSome HA2.out HGA.out.1)
 have HGA : Hid (ga ∉ own9 ∧ ga < w9.heap.size):=Hd ⟨fun hm => by
  rcases k5 ga hm with h9 | h9
  ·exact HGA.out.1 h9
  ·have:=HGA.out.2;omega,by have:=HGA.out.2;have:=hF.size;omega⟩
 have HB0:=Hd (hF.cellSome HB0.out HGB.out.1);have HB2:=Hd (hF.cellSome HB2.out HGB.out.1);have HB1:=Hd (hF.cellSome HB1.out HGB.out.1);have HVB:=Hd (Sl.frL HVB.out hF (fun z hz => (HGV.out z hz).1))
 have HGB : Hid (gb ∉ own9 ∧ gb < w9.heap.size):=Hd ⟨fun hm => by
  rcases k5 gb hm with h9 | h9
  ·exact HGB.out.1 h9
  ·have:=HGB.out.2;omega,by have:=HGB.out.2;have:=hF.size;omega⟩
 have HGV : Hid (∀ z,liveOf (.slice a6 n6 c6) = some z → z ∉ own9 ∧ z < w9.heap.size):=Hd (fun z hz => ⟨fun hm => by
  rcases k5 z hm with h9 | h9
  ·exact (HGV.out z hz).1 h9
  ·have:=(HGV.out z hz).2;omega,by have:=(HGV.out z hz).2;have:=hF.size;omega⟩)
 have HOWNX:=HOWN
 have HOWN : Hid (∀ z ∈ own9,w3.heap.size ≤ z):=Hd (fun z hz => by
  rcases k5 z hz with h9 | h9
  ·exact HOWN.out z h9
  ·have:=HPW.out.low;omega)
 have HF : Hid (Fr [] w w9):=Hd (HF.out.step hF (fun z hz => .inr (by have:=HOWNX.out z hz;have:=HW3.out;omega)))
 have HNO : Hid (∀ z,z < w3.heap.size → z ∉ own9):=Hd (fun z h9 hm => by have:=HOWN.out z hm;omega)
 have HPW:=Hd hPW;have HPP:=Hd hPP
 obtain ⟨ax5,cx5,rfl⟩ : ∃ a c,v5 = .slice a 0 c:=k2.shape
 clear hPW hPP hF k2 k3 k4 k5 k6 HOWNX
 clear ht1 ht2
 obtain ⟨no9',hno9⟩ : ∃ n,no9 = n:=⟨_,rfl⟩
 clear hno9 HNO HOWN HGA HGB HGV
 obtain ⟨vrr,Brr,Drr,hBrr,hOrr,hMrr,-⟩:=HPW.out.ex
 go_wp2_with fail
 refine (pkHas_any hBrr hMrr (HPP.out.bd (by decide)) HPP.out.sz 65535).mono ?_
 rw [m16f]
 rintro e w10 ⟨v10,rfl,hO,hF⟩
 obtain ⟨a10,c10,rfl⟩ : ∃ a c,v10 = .slice a 14 c:=Sl.shape hO.bytes
 have HVH:=Hd hO.bytes
 clear hBrr hOrr hMrr hO
 have HC0:=Hd (hF.cellSome HC0.out (by simp));have HA0:=Hd (hF.cellSome HA0.out (by simp));have HA2:=Hd (hF.cellSome HA2.out (by simp));have HB0:=Hd (hF.cellSome HB0.out (by simp));have HB1:=Hd (hF.cellSome HB1.out (by simp));have HB2:=Hd (hF.cellSome HB2.out (by simp));have HVB:=Hd (Sl.keep HVB.out hF);have HV0:=Hd (Sl.keep HV0.out hF);have HPW:=Hd (HPW.out.keep hF);have HF:=Hd (HF.out.trans hF)
 clear hF
 obtain ⟨vrr,Brr,Drr,hBrr,hOrr,hMrr,-⟩:=HPW.out.ex
 go_wp2_with fail
 refine (pkNewest_any hBrr).mono ?_
 rw [m16g]
 rintro e w11 ⟨rfl,hF⟩
 rw [show ((low16 ((some (4294967296 : Int)).getD 0)).toNat : Nat) = 0 from by decide]
 simp only [Option.isSome_some]
 have HVH:=Hd (Sl.keep HVH.out hF)
 clear hBrr hOrr hMrr
 have HC0:=Hd (hF.cellSome HC0.out (by simp));have HA0:=Hd (hF.cellSome HA0.out (by simp));have HA2:=Hd (hF.cellSome HA2.out (by simp));have HB0:=Hd (hF.cellSome HB0.out (by simp));have HB1:=Hd (hF.cellSome HB1.out (by simp));have HB2:=Hd (hF.cellSome HB2.out (by simp));have HVB:=Hd (Sl.keep HVB.out hF);have HV0:=Hd (Sl.keep HV0.out hF);have HPW:=Hd (HPW.out.keep hF);have HF:=Hd (HF.out.trans hF)
 clear hF
 go_upto_region 13 with fail
 refine wp_region_T (fun w' => Fr [] w11.drew w') [] 93 #[false,false,false,false,false,false,false,false,false,false,false,false,false,false,false,false,false,false,false,false,false,false,false,false,false,false,false,false,false,false,false,false,false,false,false,false,false,false,false,false,false,false,false,false,false,false,false,false,false,false,false,false,false,false,false,false,false,false,false,false,false,false,false,false,false,false,false,false,false,false,false,false,false,false,false,false,false,false,false,false,false,false,false,false,false,false,false,false,false,false,false,false,false] (by as_aux_lemma => kernel_rfl) rfl rfl ?_
 try simp only [List.append_eq,List.cons_append,List.nil_append]
 have hF:=(Fr.refl [] w11).drew
 have HC0:=Hd (hF.cellSome HC0.out (by simp));have HA0:=Hd (hF.cellSome HA0.out (by simp));have HA2:=Hd (hF.cellSome HA2.out (by simp));have HB0:=Hd (hF.cellSome HB0.out (by simp));have HB1:=Hd (hF.cellSome HB1.out (by simp));have HB2:=Hd (hF.cellSome HB2.out (by simp));have HVB:=Hd (Sl.keep HVB.out hF);have HV0:=Hd (Sl.keep HV0.out hF);have HPW:=Hd (HPW.out.keep hF);have HF:=Hd (HF.out.trans hF)
 have HVH:=Hd (Sl.keep HVH.out hF)
 clear hF
 have HSS : Hid (Fr [] w11.drew w11.drew):=Hd (Fr.refl _ _)
 generalize w11.drew = wd at *
 refine wL 0 ?_ rfl (by as_aux_lemma => kernel_rfl) (fun _ _ _ h => h) HSS.out (by rfl) ?_ ?_
 rotate_left
 ·intro w hSw;go_simp;try with_reducible rfl
 simp only [Act.put,zz1,zz2,zz3,zz4,zz5,zz6]
 refine wL 1 ?_ rfl (by as_aux_lemma => kernel_rfl) (fun _ _ _ h => h) HSS.out (by rfl) ?_ ?_
 rotate_left
 ·intro w hSw;go_simp;try with_reducible rfl
 simp only [Act.put,zz1,zz2,zz3,zz4,zz5,zz6]
 refine wL 2 ?_ rfl (by as_aux_lemma => kernel_rfl) (fun _ _ _ h => h) HSS.out (by rfl) ?_ ?_
 rotate_left
 ·intro w hSw;go_simp;try with_reducible rfl
 simp only [Act.put,zz1,zz2,zz3,zz4,zz5,zz6]
 refine wL 3 ?_ rfl (by as_aux_lemma => kernel_rfl) (fun _ _ _ h => h) HSS.out (by rfl) ?_ ?_
 rotate_left
 ·intro w hSw;go_simp;try with_reducible rfl
 simp only [Act.put,zz1,zz2,zz3,zz4,zz5,zz6]
 refine wL 4 ?_ rfl (by as_aux_lemma => kernel_rfl) (fun _ _ _ h => h) HSS.out (by rfl) ?_ ?_
 rotate_left
 ·intro w hSw;go_simp;try with_reducible rfl
 simp only [Act.put,zz1,zz2,zz3,zz4,zz5,zz6]
 refine wL 5 ?_ rfl (by as_aux_lemma => kernel_rfl) (fun _ _ _ h => h) HSS.out (by rfl) ?_ ?_
 rotate_left
 ·intro w hSw;go_simp;try with_reducible rfl
 simp only [Act.put,zz1,zz2,zz3,zz4,zz5,zz6]
 refine wL 6 ?_ rfl (by as_aux_lemma => kernel_rfl) (fun _ _ _ h => h) HSS.out (by rfl) ?_ ?_
 rotate_left
 ·intro w hSw;go_simp;try with_reducible rfl
 simp only [Act.put,zz1,zz2,zz3,zz4,zz5,zz6]
 refine wL 7 ?_ rfl (by as_aux_lemma => kernel_rfl) (fun _ _ _ h => h) HSS.out (by rfl) ?_ ?_
 rotate_left
 ·intro w hSw;go_simp;try with_reducible rfl
 simp only [Act.put,zz1,zz2,zz3,zz4,zz5,zz6]
 refine wL 8 ?_ rfl (by as_aux_lemma => kernel_rfl) (fun _ _ _ h => h) HSS.out (by rfl) ?_ ?_
 rotate_left
 ·intro w hSw;go_simp;try with_reducible rfl
 simp only [Act.put,zz1,zz2,zz3,zz4,zz5,zz6]
 refine wL 9 ?_ rfl (by as_aux_lemma => kernel_rfl) (fun _ _ _ h => h) HSS.out (by rfl) ?_ ?_
 rotate_left
 ·intro w hSw;go_simp;try with_reducible rfl
 simp only [Act.put,zz1,zz2,zz3,zz4,zz5,zz6]
 refine wL 10 ?_ rfl (by as_aux_lemma => kernel_rfl) (fun _ _ _ h => h) HSS.out (by rfl) ?_ ?_
 rotate_left
 ·intro w hSw;go_simp;try with_reducible rfl
 simp only [Act.put,zz1,zz2,zz3,zz4,zz5,zz6]
 refine wL 11 ?_ rfl (by as_aux_lemma => kernel_rfl) (fun _ _ _ h => h) HSS.out (by rfl) ?_ ?_
 rotate_left
 ·intro w hSw;have n0:=hSw.cellSome HA0.out (by simp);go_simp;try with_reducible rfl
 simp only [Act.put,zz1,zz2,zz3,zz4,zz5,zz6]
 refine wL 12 ?_ rfl (by as_aux_lemma => kernel_rfl) (fun _ _ _ h => h) HSS.out (by rfl) ?_ ?_
 rotate_left
 ·intro w hSw;go_simp;try with_reducible rfl
 simp only [Act.put,zz1,zz2,zz3,zz4,zz5,zz6]
 refine wL 13 ?_ rfl (by as_aux_lemma => kernel_rfl) (fun _ _ _ h => h) HSS.out (by rfl) ?_ ?_
 rotate_left
 ·intro w hSw;go_simp;try with_reducible rfl
 simp only [Act.put,zz1,zz2,zz3,zz4,zz5,zz6]
 refine wL 14 ?_ rfl (by as_aux_lemma => kernel_rfl) (fun _ _ _ h => h) HSS.out (by rfl) ?_ ?_
 rotate_left
 ·intro w hSw;go_simp;try with_reducible rfl
 simp only [Act.put,zz1,zz2,zz3,zz4,zz5,zz6]
 refine wL 15 ?_ rfl (by as_aux_lemma => kernel_rfl) (fun _ _ _ h => h) HSS.out (by rfl) ?_ ?_
 rotate_left
 ·intro w hSw;go_simp;try with_reducible rfl
 simp only [Act.put,zz1,zz2,zz3,zz4,zz5,zz6]
 refine wL 16 ?_ rfl (by as_aux_lemma => kernel_rfl) (fun _ _ _ h => h) HSS.out (by rfl) ?_ ?_
 rotate_left
 ·intro w hSw;go_simp;try with_reducible rfl
 simp only [Act.put,zz1,zz2,zz3,zz4,zz5,zz6]
 refine wL 17 ?_ rfl (by as_aux_lemma => kernel_rfl) (fun _ _ _ h => h) HSS.out (by rfl) ?_ ?_
 rotate_left
 ·intro w hSw;go_simp;try with_reducible rfl
 simp only [Act.put,zz1,zz2,zz3,zz4,zz5,zz6]
 refine wL 18 ?_ rfl (by as_aux_lemma => kernel_rfl) (fun _ _ _ h => h) HSS.out (by rfl) ?_ ?_
 rotate_left
 ·intro w hSw;have n0:=hSw.cellSome HA2.out (by simp);go_simp;try with_reducible rfl
 simp only [Act.put,zz1,zz2,zz3,zz4,zz5,zz6]
 refine wL 19 ?_ rfl (by as_aux_lemma => kernel_rfl) (fun _ _ _ h => h) HSS.out (by rfl) ?_ ?_
 rotate_left
 ·intro w hSw;go_simp;try with_reducible rfl
 simp only [Act.put,zz1,zz2,zz3,zz4,zz5,zz6]
 refine wL 20 ?_ rfl (by as_aux_lemma => kernel_rfl) (fun _ _ _ h => h) HSS.out (by rfl) ?_ ?_
 rotate_left
 ·intro w hSw;go_simp;try with_reducible rfl
 simp only [Act.put,zz1,zz2,zz3,zz4,zz5,zz6]
 refine wL 21 ?_ rfl (by as_aux_lemma => kernel_rfl) (fun _ _ _ h => h) HSS.out (by rfl) ?_ ?_
 rotate_left
 ·intro w hSw;go_simp;try with_reducible rfl
 simp only [Act.put,zz1,zz2,zz3,zz4,zz5,zz6]
 refine wL 22 ?_ rfl (by as_aux_lemma => kernel_rfl) (fun _ _ _ h => h) HSS.out (by rfl) ?_ ?_
 rotate_left
 ·intro w hSw;go_simp;try with_reducible rfl
 simp only [Act.put,zz1,zz2,zz3,zz4,zz5,zz6]
 refine wL 23 ?_ rfl (by as_aux_lemma => kernel_rfl) (fun _ _ _ h => h) HSS.out (by rfl) ?_ ?_
 rotate_left
 ·intro w hSw;go_simp;try with_reducible rfl
 simp only [Act.put,zz1,zz2,zz3,zz4,zz5,zz6]
 refine wL 24 ?_ rfl (by as_aux_lemma => kernel_rfl) (fun _ _ _ h => h) HSS.out (by rfl) ?_ ?_
 rotate_left
 ·intro w hSw;go_simp;try with_reducible rfl
 simp only [Act.put,zz1,zz2,zz3,zz4,zz5,zz6]
 refine wL 25 ?_ rfl (by as_aux_lemma => kernel_rfl) (fun _ _ _ h => h) HSS.out (by rfl) ?_ ?_
 rotate_left
 ·intro w hSw;go_simp;try with_reducible rfl
 simp only [Act.put,zz1,zz2,zz3,zz4,zz5,zz6]
 refine wL 26 ?_ rfl (by as_aux_lemma => kernel_rfl) (fun _ _ _ h => h) HSS.out (by rfl) ?_ ?_
 rotate_left
 ·intro w hSw;go_simp;try with_reducible rfl
 simp only [Act.put,zz1,zz2,zz3,zz4,zz5,zz6]
 refine wL 27 ?_ rfl (by as_aux_lemma => kernel_rfl) (fun _ _ _ h => h) HSS.out (by rfl) ?_ ?_
 rotate_left
 ·intro w hSw;go_simp;try with_reducible rfl
 simp only [Act.put,zz1,zz2,zz3,zz4,zz5,zz6]
 refine wL 28 ?_ rfl (by as_aux_lemma => kernel_rfl) (fun _ _ _ h => h) HSS.out (by rfl) ?_ ?_
 rotate_left
 ·intro w hSw;go_simp;try with_reducible rfl
 simp only [Act.put,zz1,zz2,zz3,zz4,zz5,zz6]
 refine wL 29 ?_ rfl (by as_aux_lemma => kernel_rfl) (fun _ _ _ h => h) HSS.out (by rfl) ?_ ?_
 rotate_left
 ·intro w hSw;go_simp;try with_reducible rfl
 simp only [Act.put,zz1,zz2,zz3,zz4,zz5,zz6]
 refine wL 30 ?_ rfl (by as_aux_lemma => kernel_rfl) (fun _ _ _ h => h) HSS.out (by rfl) ?_ ?_
 rotate_left
 ·intro w hSw;go_simp;try with_reducible rfl
 simp only [Act.put,zz1,zz2,zz3,zz4,zz5,zz6]
 refine wL 31 ?_ rfl (by as_aux_lemma => kernel_rfl) (fun _ _ _ h => h) HSS.out (by rfl) ?_ ?_
 rotate_left
 ·intro w hSw;go_simp;try with_reducible rfl
 simp only [Act.put,zz1,zz2,zz3,zz4,zz5,zz6]
 refine wL 32 ?_ rfl (by as_aux_lemma => kernel_rfl) (fun _ _ _ h => h) HSS.out (by rfl) ?_ ?_
 rotate_left
 ·intro w hSw;go_simp;try with_reducible rfl
 simp only [Act.put,zz1,zz2,zz3,zz4,zz5,zz6]
 refine wL 33 ?_ rfl (by as_aux_lemma => kernel_rfl) (fun _ _ _ h => h) HSS.out (by rfl) ?_ ?_
 rotate_left
 ·intro w hSw;go_simp;try with_reducible rfl
 simp only [Act.put,zz1,zz2,zz3,zz4,zz5,zz6]
 refine wL 34 ?_ rfl (by as_aux_lemma => kernel_rfl) (fun _ _ _ h => h) HSS.out (by rfl) ?_ ?_
 rotate_left
 ·intro w hSw;have n0:=hSw.cellSome HB0.out (by simp);go_simp;try with_reducible rfl
 simp only [Act.put,zz1,zz2,zz3,zz4,zz5,zz6]
 refine wL 35 ?_ rfl (by as_aux_lemma => kernel_rfl) (fun _ _ _ h => h) HSS.out (by rfl) ?_ ?_
 rotate_left
 ·intro w hSw;go_simp;try with_reducible rfl
 simp only [Act.put,zz1,zz2,zz3,zz4,zz5,zz6]
 refine wL 36 ?_ rfl (by as_aux_lemma => kernel_rfl) (fun _ _ _ h => h) HSS.out (by rfl) ?_ ?_
 rotate_left
 ·intro w hSw;go_simp;try with_reducible rfl
 simp only [Act.put,zz1,zz2,zz3,zz4,zz5,zz6]
 refine wL 37 ?_ rfl (by as_aux_lemma => kernel_rfl) (fun _ _ _ h => h) HSS.out (by rfl) ?_ ?_
 rotate_left
 ·intro w hSw;go_simp;try with_reducible rfl
 simp only [Act.put,zz1,zz2,zz3,zz4,zz5,zz6]
 refine wL 38 ?_ rfl (by as_aux_lemma => kernel_rfl) (fun _ _ _ h => h) HSS.out (by rfl) ?_ ?_
 rotate_left
 ·intro w hSw;go_simp;try with_reducible rfl
 simp only [Act.put,zz1,zz2,zz3,zz4,zz5,zz6]
 refine wL 39 ?_ rfl (by as_aux_lemma => kernel_rfl) (fun _ _ _ h => h) HSS.out (by rfl) ?_ ?_
 rotate_left
 ·intro w hSw;go_simp;try with_reducible rfl
 simp only [Act.put,zz1,zz2,zz3,zz4,zz5,zz6]
 refine wL 40 ?_ rfl (by as_aux_lemma => kernel_rfl) (fun _ _ _ h => h) HSS.out (by rfl) ?_ ?_
 rotate_left
 ·intro w hSw;go_simp;try with_reducible rfl
 simp only [Act.put,zz1,zz2,zz3,zz4,zz5,zz6]
 refine wL 41 ?_ rfl (by as_aux_lemma => kernel_rfl) (fun _ _ _ h => h) HSS.out (by rfl) ?_ ?_
 rotate_left
 ·intro w hSw;have n0:=hSw.cellSome HB2.out (by simp);go_simp;try with_reducible rfl
 simp only [Act.put,zz1,zz2,zz3,zz4,zz5,zz6]
 refine wL 42 ?_ rfl (by as_aux_lemma => kernel_rfl) (fun _ _ _ h => h) HSS.out (by rfl) ?_ ?_
 rotate_left
 ·intro w hSw;go_simp;try with_reducible rfl
 simp only [Act.put,zz1,zz2,zz3,zz4,zz5,zz6]
 refine wL 43 ?_ rfl (by as_aux_lemma => kernel_rfl) (fun _ _ _ h => h) HSS.out (by rfl) ?_ ?_
 rotate_left
 ·intro w hSw;go_simp;try with_reducible rfl
 simp only [Act.put,zz1,zz2,zz3,zz4,zz5,zz6]
 refine wL 44 ?_ rfl (by as_aux_lemma => kernel_rfl) (fun _ _ _ h => h) HSS.out (by rfl) ?_ ?_
 rotate_left
 ·intro w hSw;go_simp;try with_reducible rfl
 simp only [Act.put,zz1,zz2,zz3,zz4,zz5,zz6]
 refine wL 45 ?_ rfl (by as_aux_lemma => kernel_rfl) (fun _ _ _ h => h) HSS.out (by rfl) ?_ ?_
 rotate_left
 ·intro w hSw;go_simp;try with_reducible rfl
 simp only [Act.put,zz1,zz2,zz3,zz4,zz5,zz6]
 refine wL 46 ?_ rfl (by as_aux_lemma => kernel_rfl) (fun _ _ _ h => h) HSS.out (by rfl) ?_ ?_
 rotate_left
 ·intro w hSw;go_simp;try with_reducible rfl
 simp only [Act.put,zz1,zz2,zz3,zz4,zz5,zz6]
 refine wL 47 ?_ rfl (by as_aux_lemma => kernel_rfl) (fun _ _ _ h => h) HSS.out (by rfl) ?_ ?_
 rotate_left
 ·intro w hSw;have n0:=hSw.cellSome HB1.out (by simp);go_simp;try with_reducible rfl
 simp only [Act.put,zz1,zz2,zz3,zz4,zz5,zz6]
 refine wL 48 ?_ rfl (by as_aux_lemma => kernel_rfl) (fun _ _ _ h => h) HSS.out (by rfl) ?_ ?_
 rotate_left
 ·intro w hSw;go_simp;try with_reducible rfl
 simp only [Act.put,zz1,zz2,zz3,zz4,zz5,zz6]
 refine wL 49 ?_ rfl (by as_aux_lemma => kernel_rfl) (fun _ _ _ h => h) HSS.out (by rfl) ?_ ?_
 rotate_left
 ·intro w hSw;go_simp;try with_reducible rfl
 simp only [Act.put,zz1,zz2,zz3,zz4,zz5,zz6]
 refine wL 50 ?_ rfl (by as_aux_lemma => kernel_rfl) (fun _ _ _ h => h) HSS.out (by rfl) ?_ ?_
 rotate_left
 ·intro w hSw;have n0:=hSw.cellSome HC0.out (by simp);go_simp;try with_reducible rfl
 simp only [Act.put,zz1,zz2,zz3,zz4,zz5,zz6]
 refine wpAnyT_one (i:=51) (by as_aux_lemma => kernel_rfl) rfl (fun K hK => ?_)
 rw [if_pos (by rfl)]
 go_simp
 refine (RSame_any HVB.out HV0.out (by decide) (by decide)).mono ?_
 rintro e wk51 ⟨rfl,hF⟩
 rw [show (ba14 == ba14) = true from by decide]
 have HSS:=Hd (HSS.out.trans hF)
 have HVB:=Hd (Sl.keep HVB.out hF);have HV0:=Hd (Sl.keep HV0.out hF);have HPW:=Hd (HPW.out.keep hF);have HF:=Hd (HF.out.trans hF)
 have HVH:=Hd (Sl.keep HVH.out hF)
 clear hF
 go_simp
 refine hK.out _ _ (fun _ => HSS.out) ?_
 clear hK K
 simp only [Act.put,zz1,zz2,zz3,zz4,zz5,zz6]
 refine wL 52 ?_ rfl (by as_aux_lemma => kernel_rfl) (fun _ _ _ h => h) HSS.out (by rfl) ?_ ?_
 rotate_left
 ·intro w hSw;go_simp;try with_reducible rfl
 simp only [Act.put,zz1,zz2,zz3,zz4,zz5,zz6]
 refine wL 53 ?_ rfl (by as_aux_lemma => kernel_rfl) (fun _ _ _ h => h) HSS.out (by rfl) ?_ ?_
 rotate_left
 ·intro w hSw;go_simp;try with_reducible rfl
 simp only [Act.put,zz1,zz2,zz3,zz4,zz5,zz6]
 refine wL 54 ?_ rfl (by as_aux_lemma => kernel_rfl) (fun _ _ _ h => h) HSS.out (by rfl) ?_ ?_
 rotate_left
 ·intro w hSw;go_simp;try with_reducible rfl
 simp only [Act.put,zz1,zz2,zz3,zz4,zz5,zz6]
 refine wL 55 ?_ rfl (by as_aux_lemma => kernel_rfl) (fun _ _ _ h => h) HSS.out (by rfl) ?_ ?_
 rotate_left
 ·intro w hSw;go_simp;try with_reducible rfl
 simp only [Act.put,zz1,zz2,zz3,zz4,zz5,zz6]
 refine wL 56 ?_ rfl (by as_aux_lemma => kernel_rfl) (fun _ _ _ h => h) HSS.out (by rfl) ?_ ?_
 rotate_left
 ·intro w hSw;go_simp;try with_reducible rfl
 simp only [Act.put,zz1,zz2,zz3,zz4,zz5,zz6]
 refine wL 57 ?_ rfl (by as_aux_lemma => kernel_rfl) (fun _ _ _ h => h) HSS.out (by rfl) ?_ ?_
 rotate_left
 ·intro w hSw;go_simp;try with_reducible rfl
 simp only [Act.put,zz1,zz2,zz3,zz4,zz5,zz6]
 refine wL 58 ?_ rfl (by as_aux_lemma => kernel_rfl) (fun _ _ _ h => h) HSS.out (by rfl) ?_ ?_
 rotate_left
 ·intro w hSw;go_simp;try with_reducible rfl
 simp only [Act.put,zz1,zz2,zz3,zz4,zz5,zz6]
 refine wL 59 ?_ rfl (by as_aux_lemma => kernel_rfl) (fun _ _ _ h => h) HSS.out (by rfl) ?_ ?_
 rotate_left
 ·intro w hSw;go_simp;try with_reducible rfl
 simp only [Act.put,zz1,zz2,zz3,zz4,zz5,zz6]
 refine wL 60 ?_ rfl (by as_aux_lemma => kernel_rfl) (fun _ _ _ h => h) HSS.out (by rfl) ?_ ?_
 rotate_left
 ·intro w hSw;go_simp;try with_reducible rfl
 simp only [Act.put,zz1,zz2,zz3,zz4,zz5,zz6]
 refine wL 61 ?_ rfl (by as_aux_lemma => kernel_rfl) (fun _ _ _ h => h) HSS.out (by rfl) ?_ ?_
 rotate_left
 ·intro w hSw;go_simp;try with_reducible rfl
 simp only [Act.put,zz1,zz2,zz3,zz4,zz5,zz6]
 refine wL 62 ?_ rfl (by as_aux_lemma => kernel_rfl) (fun _ _ _ h => h) HSS.out (by rfl) ?_ ?_
 rotate_left
 ·intro w hSw;go_simp;try with_reducible rfl
 simp only [Act.put,zz1,zz2,zz3,zz4,zz5,zz6]
 refine wL 63 ?_ rfl (by as_aux_lemma => kernel_rfl) (fun _ _ _ h => h) HSS.out (by rfl) ?_ ?_
 rotate_left
 ·intro w hSw;go_simp;try with_reducible rfl
 simp only [Act.put,zz1,zz2,zz3,zz4,zz5,zz6]
 refine wL 64 ?_ rfl (by as_aux_lemma => kernel_rfl) (fun _ _ _ h => h) HSS.out (by rfl) ?_ ?_
 rotate_left
 ·intro w hSw;go_simp;try with_reducible rfl
 simp only [Act.put,zz1,zz2,zz3,zz4,zz5,zz6]
 refine wL 65 ?_ rfl (by as_aux_lemma => kernel_rfl) (fun _ _ _ h => h) HSS.out (by rfl) ?_ ?_
 rotate_left
 ·intro w hSw;go_simp;try with_reducible rfl
 simp only [Act.put,zz1,zz2,zz3,zz4,zz5,zz6]
 refine wL 66 ?_ rfl (by as_aux_lemma => kernel_rfl) (fun _ _ _ h => h) HSS.out (by rfl) ?_ ?_
 rotate_left
 ·intro w hSw;go_simp;try with_reducible rfl
 simp only [Act.put,zz1,zz2,zz3,zz4,zz5,zz6]
 refine wL 67 ?_ rfl (by as_aux_lemma => kernel_rfl) (fun _ _ _ h => h) HSS.out (by rfl) ?_ ?_
 rotate_left
 ·intro w hSw;go_simp;try with_reducible rfl
 simp only [Act.put,zz1,zz2,zz3,zz4,zz5,zz6]
 refine wL 68 ?_ rfl (by as_aux_lemma => kernel_rfl) (fun _ _ _ h => h) HSS.out (by rfl) ?_ ?_
 rotate_left
 ·intro w hSw;go_simp;try with_reducible rfl
 simp only [Act.put,zz1,zz2,zz3,zz4,zz5,zz6]
 refine wL 69 ?_ rfl (by as_aux_lemma => kernel_rfl) (fun _ _ _ h => h) HSS.out (by rfl) ?_ ?_
 rotate_left
 ·intro w hSw;go_simp;try with_reducible rfl
 simp only [Act.put,zz1,zz2,zz3,zz4,zz5,zz6]
 refine wL 70 ?_ rfl (by as_aux_lemma => kernel_rfl) (fun _ _ _ h => h) HSS.out (by rfl) ?_ ?_
 rotate_left
 ·intro w hSw;go_simp;try with_reducible rfl
 simp only [Act.put,zz1,zz2,zz3,zz4,zz5,zz6]
 refine wL 71 ?_ rfl (by as_aux_lemma => kernel_rfl) (fun _ _ _ h => h) HSS.out (by rfl) ?_ ?_
 rotate_left
 ·intro w hSw;go_simp;try with_reducible rfl
 simp only [Act.put,zz1,zz2,zz3,zz4,zz5,zz6]
 refine wL 72 ?_ rfl (by as_aux_lemma => kernel_rfl) (fun _ _ _ h => h) HSS.out (by rfl) ?_ ?_
 rotate_left
 ·intro w hSw;have n0:=hSw.cellSome HC0.out (by simp);go_simp;try with_reducible rfl
 simp only [Act.put,zz1,zz2,zz3,zz4,zz5,zz6]
 refine wpAnyT_one (i:=73) (by as_aux_lemma => kernel_rfl) rfl (fun K hK => ?_)
 rw [if_pos (by rfl)]
 go_simp
 refine (RSame_any HVH.out HV0.out (by decide) (by decide)).mono ?_
 rintro e wk73 ⟨rfl,hF⟩
 simp only [Option.getD_some]
 rw [show (ba14 == ba14) = true from by decide]
 have HSS:=Hd (HSS.out.trans hF)
 have HVB:=Hd (Sl.keep HVB.out hF);have HV0:=Hd (Sl.keep HV0.out hF);have HPW:=Hd (HPW.out.keep hF);have HF:=Hd (HF.out.trans hF)
 have HVH:=Hd (Sl.keep HVH.out hF)
 clear hF
 go_simp
 refine hK.out _ _ (fun _ => HSS.out) ?_
 clear hK K
 simp only [Act.put,zz1,zz2,zz3,zz4,zz5,zz6]
 refine wL 74 ?_ rfl (by as_aux_lemma => kernel_rfl) (fun _ _ _ h => h) HSS.out (by rfl) ?_ ?_
 rotate_left
 ·intro w hSw;go_simp;try with_reducible rfl
 simp only [Act.put,zz1,zz2,zz3,zz4,zz5,zz6]
 refine wL 75 ?_ rfl (by as_aux_lemma => kernel_rfl) (fun _ _ _ h => h) HSS.out (by rfl) ?_ ?_
 rotate_left
 ·intro w hSw;go_simp;try with_reducible rfl
 simp only [Act.put,zz1,zz2,zz3,zz4,zz5,zz6]
 refine wL 76 ?_ rfl (by as_aux_lemma => kernel_rfl) (fun _ _ _ h => h) HSS.out (by rfl) ?_ ?_
 rotate_left
 ·intro w hSw;go_simp;try with_reducible rfl
 simp only [Act.put,zz1,zz2,zz3,zz4,zz5,zz6]
 refine wpAnyT_one (i:=77) (by as_aux_lemma => kernel_rfl) rfl (fun K hK => ?_)
 rw [if_pos (by rfl)]
 go_simp
 obtain ⟨vrr,Brr,Drr,hBrr,hOrr,hMrr,-⟩:=HPW.out.ex
 refine (pkLen_any hBrr hMrr).mono ?_
 rw [m16h]
 rintro e wk77 ⟨rfl,hF⟩
 clear hBrr hOrr hMrr
 have HSS:=Hd (HSS.out.trans hF)
 have HVB:=Hd (Sl.keep HVB.out hF);have HV0:=Hd (Sl.keep HV0.out hF);have HPW:=Hd (HPW.out.keep hF);have HF:=Hd (HF.out.trans hF)
 have HVH:=Hd (Sl.keep HVH.out hF)
 clear hF
 go_simp
 refine hK.out _ _ (fun _ => HSS.out) ?_
 clear hK K
 simp only [Act.put,zz1,zz2,zz3,zz4,zz5,zz6]
 refine wL 78 ?_ rfl (by as_aux_lemma => kernel_rfl) (fun _ _ _ h => h) HSS.out (by rfl) ?_ ?_
 rotate_left
 ·intro w hSw;go_simp;try with_reducible rfl
 simp only [Act.put,zz1,zz2,zz3,zz4,zz5,zz6]
 refine wL 79 ?_ rfl (by as_aux_lemma => kernel_rfl) (fun _ _ _ h => h) HSS.out (by rfl) ?_ ?_
 rotate_left
 ·intro w hSw;go_simp;try with_reducible rfl
 simp only [Act.put,zz1,zz2,zz3,zz4,zz5,zz6]
 refine wL 80 ?_ rfl (by as_aux_lemma => kernel_rfl) (fun _ _ _ h => h) HSS.out (by rfl) ?_ ?_
 rotate_left
 ·intro w hSw;go_simp;try with_reducible rfl
 simp only [Act.put,zz1,zz2,zz3,zz4,zz5,zz6]
 refine wL 81 ?_ rfl (by as_aux_lemma => kernel_rfl) (fun _ _ _ h => h) HSS.out (by rfl) ?_ ?_
 rotate_left
 ·intro w hSw;go_simp;try with_reducible rfl
 simp only [Act.put,zz1,zz2,zz3,zz4,zz5,zz6]
 refine wpAnyT_one (i:=82) (by as_aux_lemma => kernel_rfl) rfl (fun K hK => ?_)
 rw [if_pos (by rfl)]
 go_simp
 obtain ⟨vrr,Brr,Drr,hBrr,hOrr,hMrr,-⟩:=HPW.out.ex
 refine (pkRepairs_any hBrr hOrr).mono ?_
 rw [show hs5.length = 0 from by have h9:=congrArg List.length HPP.out.rep;rw [List.length_map,m16i] at h9;exact h9.symm]
 rintro e wk82 ⟨rfl,hF⟩
 clear hBrr hOrr hMrr
 have HSS:=Hd (HSS.out.trans hF)
 have HVB:=Hd (Sl.keep HVB.out hF);have HV0:=Hd (Sl.keep HV0.out hF);have HPW:=Hd (HPW.out.keep hF);have HF:=Hd (HF.out.trans hF)
 have HVH:=Hd (Sl.keep HVH.out hF)
 clear hF
 go_simp
 refine hK.out _ _ (fun _ => HSS.out) ?_
 clear hK K
 simp only [Act.put,zz1,zz2,zz3,zz4,zz5,zz6]
 refine wL 83 ?_ rfl (by as_aux_lemma => kernel_rfl) (fun _ _ _ h => h) HSS.out (by rfl) ?_ ?_
 rotate_left
 ·intro w hSw;go_simp;try with_reducible rfl
 simp only [Act.put,zz1,zz2,zz3,zz4,zz5,zz6]
 refine wL 84 ?_ rfl (by as_aux_lemma => kernel_rfl) (fun _ _ _ h => h) HSS.out (by rfl) ?_ ?_
 rotate_left
 ·intro w hSw;go_simp;try with_reducible rfl
 simp only [Act.put,zz1,zz2,zz3,zz4,zz5,zz6]
 refine wL 85 ?_ rfl (by as_aux_lemma => kernel_rfl) (fun _ _ _ h => h) HSS.out (by rfl) ?_ ?_
 rotate_left
 ·intro w hSw;go_simp;try with_reducible rfl
 simp only [Act.put,zz1,zz2,zz3,zz4,zz5,zz6]
 refine wL 86 ?_ rfl (by as_aux_lemma => kernel_rfl) (fun _ _ _ h => h) HSS.out (by rfl) ?_ ?_
 rotate_left
 ·intro w hSw;go_simp;try with_reducible rfl
 simp only [Act.put,zz1,zz2,zz3,zz4,zz5,zz6]
 refine wL 87 ?_ rfl (by as_aux_lemma => kernel_rfl) (fun _ _ _ h => h) HSS.out (by rfl) ?_ ?_
 rotate_left
 ·intro w hSw;go_simp;try with_reducible rfl
 simp only [Act.put,zz1,zz2,zz3,zz4,zz5,zz6]
 refine wL 88 ?_ rfl (by as_aux_lemma => kernel_rfl) (fun _ _ _ h => h) HSS.out (by rfl) ?_ ?_
 rotate_left
 ·intro w hSw;go_simp;try with_reducible rfl
 simp only [Act.put,zz1,zz2,zz3,zz4,zz5,zz6]
 refine wL 89 ?_ rfl (by as_aux_lemma => kernel_rfl) (fun _ _ _ h => h) HSS.out (by rfl) ?_ ?_
 rotate_left
 ·intro w hSw;go_simp;try with_reducible rfl
 simp only [Act.put,zz1,zz2,zz3,zz4,zz5,zz6]
 refine wL 90 ?_ rfl (by as_aux_lemma => kernel_rfl) (fun _ _ _ h => h) HSS.out (by rfl) ?_ ?_
 rotate_left
 ·intro w hSw;go_simp;try with_reducible rfl
 simp only [Act.put,zz1,zz2,zz3,zz4,zz5,zz6]
 refine wL 91 ?_ rfl (by as_aux_lemma => kernel_rfl) (fun _ _ _ h => h) HSS.out (by rfl) ?_ ?_
 rotate_left
 ·intro w hSw;go_simp;try with_reducible rfl
 simp only [Act.put,zz1,zz2,zz3,zz4,zz5,zz6]
 refine wL 92 ?_ rfl (by as_aux_lemma => kernel_rfl) (fun _ _ _ h => h) HSS.out (by rfl) ?_ ?_
 rotate_left
 ·intro w hSw;go_simp;try with_reducible rfl
 simp only [Act.put,zz1,zz2,zz3,zz4,zz5,zz6]
 refine wpAnyT_done (by as_aux_lemma => kernel_rfl) ?_ _
 clear HSS
 go_wp2_with fail
 go_ret
 exact ⟨rfl,HF.out⟩
end Go.Proofs.YtcngfbjmpemehaaGreat
