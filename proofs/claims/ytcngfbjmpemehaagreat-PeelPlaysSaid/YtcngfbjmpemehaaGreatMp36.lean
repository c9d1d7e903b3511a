import Derived.Test.YtcngfbjmpemehaaGreatMp35
import Derived.Test.YtcngfbjmpemehaaGreatMp30
set_option maxRecDepth 100000
set_option maxHeartbeats 16000000
open List renaming getElem_toArray → zz1, getElem_cons_zero → zz2, getElem_cons_succ → zz3, setIfInBounds_toArray → zz4, set_cons_zero → zz5, set_cons_succ → zz6, getElem?_toArray → zz7, getElem?_cons_succ → zz8, getElem?_cons_zero → zz9
open Go.Lib renaming hid → Hd
/- The document's packets,lost,first of layer 16 (printed by gen_dc2.py). -/
namespace Go.Proofs.YtcngfbjmpemehaaGreat
open Go.RowKit

theorem bytes_lit {w : World} {g : Nat} {t : TypeId} {v : Value} {b : List UInt8} (hB : Box w g t #[v]) (hv : Bytes w v b) : SlEls 1 BytesR w (.slice (some ⟨g,0,none⟩) 1 1) [b] (liveOf v).toList:=by
 refine ⟨[v],_,1,rfl,by simp,by unfold maxLen;omega,(fun e => by cases e),⟨_,[],_,[],by simp,by simp,⟨v,rfl,hv,rfl⟩,rfl,rfl⟩,?_⟩
 rintro p hp -
 simp only [Option.some.injEq] at hp
 subst hp
 exact ⟨rfl,hB.lt,fun i x hx => by rw [Nat.zero_add];rw [hB.cell,← Array.getElem?_toList];exact hx⟩
theorem filterMap_take {d : PkD} {ns : List UInt16} {i : Nat} {s : UInt16} (h : ns[i]? = some s) : (ns.take (i + 1)).filterMap d.has = (ns.take i).filterMap d.has ++ (d.has s).toList:=by
 rw [List.take_add_one,h,List.filterMap_append]
 cases hd : d.has s <;> simp [hd]
theorem r16packets_any {w : World} {P : Nat → Prop} {vm vr : Value} {d : PkD} (h : DocV w P vm vr d) (hb : ∀ h,d.hi = some h → 40000 ≤ h ∧ h ≤ 4611686018427300000) (hl : d.med.length ≤ 1000) (r : Rep_) (a : Option Addr) (n c : Nat) (hv : Bytes w (.slice a n c) r.bt.body) :
  Calls Tryz.prog 39 #[.agg (dcc d vm vr),.agg (rpc r (.slice a n c))] w fun e w' => ∃ v,e = .returned v ∧ BRows w' v (d.pks r) ∧ Fr [] w w':=by
 obtain ⟨am,cm,ar,cr,rfl,rfl⟩:=h.shape
 obtain ⟨w1,e1,hF1,hX1,hR1,hs1⟩:=two_new w (dcc d (.slice am d.med.length cm) (.slice ar d.rep.length cr)) 32 (rpc r (.slice a n c)) 38
 have HH : Hid (DocV w1 (fun b => b < w.heap.size) (.slice am d.med.length cm) (.slice ar d.rep.length cr) d):=Hd ((h.imp (P':=fun b => b < w.heap.size) (fun b hb _ => hb)).keep hF1)
 have HX:=Hd hX1;have HR:=Hd hR1;have HV:=Hd (Sl.keep hv hF1);have HF:=Hd hF1;have E1:=Hd e1;have HI:=Hd hb;have HML:=Hd hl;have HZ1:=Hd hs1
 clear h hX1 hR1 hF1 e1 hs1 hb hv
 go_enter Tryz.func39,Tryz.ntmps39
 go_upto_region 1 with fail
 rw [E1.out]
 clear E1
 obtain ⟨w2,e2,hF2,hB2,hs2⟩:=one_new w1 #[] 34
 have E2:=Hd e2
 have HO : Hid (OwnEls 1 BytesR w2 w1.heap.size 34 (.slice (some ⟨w1.heap.size,0,none⟩) 0 0) [] []):=Hd (by rw [← e2];exact OwnEls.made w1 w1.heap.size 34 (Nat.le_refl _))
 have HH:=Hd (HH.out.keep hF2);have HX:=Hd (HX.out.keep hF2);have HR:=Hd (HR.out.keep hF2);have HV:=Hd (Sl.keep HV.out hF2);have HF:=Hd (HF.out.trans hF2)
 have HB0 : Hid (w1.heap.size < w2.heap.size):=Hd (by omega)
 have HQ0 : Hid (w.heap.size + 1 < w1.heap.size):=Hd (by have:=HZ1.out;omega)
 clear e2 hF2 hB2 hs2
 go_upto_region 2 with fail
 rw [E2.out]
 clear E2
 generalize hq : w.heap.size = q at *
 generalize hB0 : w1.heap.size = B0 at *
 have HQE:=Hd hq
 clear hq hB0
 go_wp2_with (refine wpList_load_row_w rfl 38 (.tmp 3) rfl (q + 1) rfl 38 _ _ HR.out Tryz.underlying38 rfl (by kernel_rfl) ?_)
 refine (r11Repair_any (r:=r) ⟨_,rfl,HV.out⟩).mono ?_
 rintro e w3 ⟨vn,rfl,hn,hF⟩
 obtain ⟨an,cn,rfl⟩ : ∃ a c,vn = .slice a (seqsOf r.base r.m).length c:=by
  have:=hn.sl.shape
  simpa using this
 have HNS:=Hd hn.sl
 have HNB : Hid (∀ b,blockOf (.slice an (seqsOf r.base r.m).length cn) = some b → B0 < b ∧ b < w3.heap.size):=Hd (fun b hb => by have h1:=hn.block b hb;have h2:=HB0.out;omega)
 have HH:=Hd (HH.out.keep hF);have HX:=Hd (HX.out.keep hF);have HO:=Hd (HO.out.keep Rep.bytes hF);have HF:=Hd (HF.out.trans hF);have HFL : Hid (Fr [] w3 w3):=Hd (Fr.refl _ _)
 have HNL : Hid ((seqsOf r.base r.m).length ≤ 128):=Hd (by unfold seqsOf;rw [List.length_map];exact Msk.list_len _)
 have HPK : Hid (d.pks r = (seqsOf r.base r.m).filterMap d.has):=Hd rfl
 have HNB0 : Hid (B0 ≤ w3.heap.size):=Hd (by have h1:=hF.size;have h2:=HB0.out;omega)
 have HF3Q : Hid (q < w3.heap.size):=Hd (by have h1:=HQ0.out;have h2:=hF.size;have h3:=HB0.out;omega)
 clear hn hF HR HV
 generalize seqsOf r.base r.m = ns at *
 go_upto_region 4 with fail
 have hnl:=HNL.out
 go_loopw [5,7] (fun ov iv wr => ∃ (i : Nat) (Bo : List Nat),i ≤ ns.length ∧ iv = .int .i64 i ∧ OwnEls 1 BytesR wr B0 34 ov ((ns.take i).filterMap d.has) Bo ∧ (∀ b,blockOf ov = some b → b = B0 ∨ w3.heap.size ≤ b) ∧ Fr [B0] w3 wr) (fun _ iv _ => ns.length - (Go.RowKit.intOf iv).toNat)
 case atStart => exact ⟨0,[],Nat.zero_le _,rfl,HO.out,(fun b hb => by simp [blockOf] at hb;exact .inl hb.symm),Fr.refl _ _⟩
 case round =>
  clear HO
  obtain ⟨i,Bo,hi,rfl,hO,hvo,hF⟩:=hrel
  obtain ⟨ao,co,eo⟩:=hO.shape
  have HLE : Hid (((ns.take i).filterMap d.has).length ≤ 128):=Hd (by
   have h1:=List.length_filterMap_le d.has (ns.take i)
   rw [List.length_take] at h1
   omega)
  have HO:=Hd hO;have HVO:=Hd hvo
  have HH:=Hd (HH.out.fr hF (fun b hb hm => by rw [List.mem_singleton] at hm;have:=HQ0.out;omega))
  have HX:=Hd (HX.out.fr hF (by have:=HQ0.out;simp;omega))
  have HNS:=Hd (Sl.frL HNS.out hF (fun b hb hm => by rw [List.mem_singleton] at hm;have:=(HNB.out b (live_block hb)).1;omega))
  have HF:=Hd (HF.out.step hF (fun b hm => by rw [List.mem_singleton] at hm;exact .inr (by have:=HQ0.out;have:=HQE.out;omega)))
  have HF3:=Hd hF
  have HFL : Hid (Fr [] wr wr):=Hd (Fr.refl _ _)
  clear hO hvo hF
  generalize hacc : (ns.take i).filterMap d.has = acc at *
  have HACC:=Hd hacc
  clear hacc
  subst eo
  by_cases hlt : i < ns.length
  ·have HY : Hid (ns[i]? = some ns[i]):=Hd (List.getElem?_eq_getElem hlt)
   generalize ns[i] = s at *
   have HT : Hid ((ns.take (i + 1)).filterMap d.has = acc ++ (d.has s).toList):=Hd (by rw [filterMap_take HY.out,HACC.out])
   go_upto_region 6 with fail
   refine wp_region_T (fun w' => Fr [] wr.drew w') [] 11 #[false,false,false,false,false,false,false,false,false,false,false] (by kernel_rfl) rfl rfl ?_
   try simp only [List.append_eq,List.cons_append,List.nil_append]
   have hF:=(Fr.refl [] wr).drew
   have HH:=Hd (HH.out.keep hF);have HX:=Hd (HX.out.keep hF);have HNS:=Hd (Sl.keep HNS.out hF);have HF:=Hd (HF.out.trans hF);have HFL:=Hd (HFL.out.trans hF)
   have HO:=Hd (HO.out.keep Rep.bytes hF)
   clear hF
   have HSS : Hid (Fr [] wr.drew wr.drew):=Hd (Fr.refl _ _)
   generalize wr.drew = wd at *
   have HC:=Hd (HNS.out.at_ (k:=i) (by simpa using hlt))
   obtain ⟨bn,on,ea,-,hcl⟩:=HC.out
   subst ea
   have HCL:=Hd (hcl i (W16 s) (by rw [List.getElem?_map,HY.out];rfl))
   clear hcl HC
   refine wL 0 ?_ rfl (by kernel_rfl) (fun _ _ _ h => h) HSS.out (by rfl) ?_ ?_
   rotate_left
   ·intro w' hSw;refine run_load_row 32 (.tmp 2) ?_ q ?_ 32 _ _ (HX.out.keep hSw) Tryz.underlying32 rfl (by kernel_rfl) <;> rfl
   simp only [Act.put,zz1,zz2,zz3,zz4,zz5,zz6]
   refine wL 1 ?_ rfl (by kernel_rfl) (fun _ _ _ h => h) HSS.out (by rfl) ?_ ?_
   rotate_left
   ·intro w hSw;have n0:=hSw.cellSome HCL.out (by simp);unfold W16 at n0;go_simp;try with_reducible rfl
   simp only [Act.put,zz1,zz2,zz3,zz4,zz5,zz6]
   refine wL 2 ?_ rfl (by kernel_rfl) (fun _ _ _ h => h) HSS.out (by rfl) ?_ ?_
   rotate_left
   ·intro w hSw;have n0:=hSw.cellSome HCL.out (by simp);unfold W16 at n0;go_simp;try with_reducible rfl
   simp only [Act.put,zz1,zz2,zz3,zz4,zz5,zz6]
   refine wL 3 ?_ rfl (by kernel_rfl) (fun _ _ _ h => h) HSS.out (by rfl) ?_ ?_
   rotate_left
   ·intro w hSw;have n0:=hSw.cellSome HCL.out (by simp);unfold W16 at n0;go_simp;try with_reducible rfl
   simp only [Act.put,zz1,zz2,zz3,zz4,zz5,zz6]
   refine wL 4 ?_ rfl (by kernel_rfl) (fun _ _ _ h => h) HSS.out (by rfl) ?_ ?_
   rotate_left
   ·intro w hSw;have n0:=hSw.cellSome HCL.out (by simp);unfold W16 at n0;go_simp;try with_reducible rfl
   simp only [Act.put,zz1,zz2,zz3,zz4,zz5,zz6]
   refine wpAnyT_one (i:=5) (by kernel_rfl) rfl (fun K hK => ?_)
   rw [if_pos (by rfl)]
   go_simp
   refine (r16Has_any HH.out HI.out HML.out s).mono ?_
   rintro e wq ⟨v,rfl,hv,hlv,hF⟩
   obtain ⟨a3,n3,c3,rfl⟩:=Sl.isSlice hv
   have HV:=Hd hv;have HLV:=Hd hlv
   have HSS:=Hd (HSS.out.trans hF)
   have HH:=Hd (HH.out.keep hF);have HX:=Hd (HX.out.keep hF);have HNS:=Hd (Sl.keep HNS.out hF);have HF:=Hd (HF.out.trans hF);have HFL:=Hd (HFL.out.trans hF)
   have HO:=Hd (HO.out.keep Rep.bytes hF)
   clear hF hv hlv
   go_simp
   refine hK.out _ _ (fun _ => HSS.out) ?_
   clear hK K
   simp only [Act.put,zz1,zz2,zz3,zz4,zz5,zz6]
   refine wL 6 ?_ rfl (by kernel_rfl) (fun _ _ _ h => h) HSS.out (by rfl) ?_ ?_
   rotate_left
   ·intro w hSw;go_simp;try with_reducible rfl
   simp only [Act.put,zz1,zz2,zz3,zz4,zz5,zz6]
   refine wL 7 ?_ rfl (by kernel_rfl) (fun _ _ _ h => h) HSS.out (by rfl) ?_ ?_
   rotate_left
   ·intro w hSw;go_simp;try with_reducible rfl
   simp only [Act.put,zz1,zz2,zz3,zz4,zz5,zz6]
   refine wL 8 ?_ rfl (by kernel_rfl) (fun _ _ _ h => h) HSS.out (by rfl) ?_ ?_
   rotate_left
   ·intro w hSw;go_simp;try with_reducible rfl
   simp only [Act.put,zz1,zz2,zz3,zz4,zz5,zz6]
   refine wL 9 ?_ rfl (by kernel_rfl) (fun _ _ _ h => h) HSS.out (by rfl) ?_ ?_
   rotate_left
   ·intro w hSw;go_simp;try with_reducible rfl
   simp only [Act.put,zz1,zz2,zz3,zz4,zz5,zz6]
   refine wL 10 ?_ rfl (by kernel_rfl) (fun _ _ _ h => h) HSS.out (by rfl) ?_ ?_
   rotate_left
   ·intro w hSw;go_simp;try with_reducible rfl
   simp only [Act.put,zz1,zz2,zz3,zz4,zz5,zz6]
   refine wpAnyT_done (by kernel_rfl) ?_ _
   clear HSS HCL
   cases hhs : d.has s with
   | none =>
    have HHN:=Hd hhs
    clear hhs
    simp only [Option.isSome_none]
    go_wp2_with fail
    go_roundw
    case rel => refine ⟨i + 1,Bo,by omega,?_,by rw [HT.out,HHN.out];simpa using HO.out,HVO.out,HF3.out.quiet HFL.out⟩;go_num
    case measure => simp [Go.RowKit.intOf];omega
   | some l =>
    have HHN:=Hd hhs
    have HV : Hid (Bytes wq (.slice a3 n3 c3) l):=Hd (by have:=HV.out;rw [hhs] at this;exact this)
    clear hhs
    simp only [Option.isSome_some]
    obtain ⟨wb,eb,hFb,hBb,-⟩:=one_new wq #[.slice a3 n3 c3] 34
    have EB:=Hd eb
    have HOb:=Hd (HO.out.keep Rep.bytes hFb);have HSb:=Hd (bytes_lit hBb (Sl.keep HV.out hFb));have HFb:=Hd hFb
    have HDJ : Hid (∀ b,blockOf (.slice ao acc.length co) = some b → b ∉ (liveOf (.slice a3 n3 c3)).toList):=Hd (fun b hb hm => by
     have h1:=HLV.out b (mem_toList.1 hm)
     have h2:=HVO.out b hb
     have h3:=HQ0.out
     have h4:=HF3Q.out
     omega)
    have HL1 : Hid (acc.length + 1 ≤ maxLen):=Hd (by have:=HLE.out;unfold maxLen;omega)
    have HL2 : Hid ((acc.length + 1) * 24 ≤ 140737488355328):=Hd (by have:=HLE.out;omega)
    have HBb : Hid (B0 ≤ wb.heap.size):=Hd (by have h1:=hFb.size;have h2:=HFL.out.size;have h3:=HF3.out.size;have h4:=HNB0.out;omega)
    have HSZ : Hid (w3.heap.size ≤ wb.heap.size):=Hd (by have h1:=hFb.size;have h2:=HFL.out.size;have h3:=HF3.out.size;omega)
    clear eb hFb hBb
    go_upto_region 5 with (at_builtin;(rw [EB.out]);go_loud (refine wpList_append_elsN Rep.bytes (by decide) rfl (.tmp 29) (.tmp 31) 60 rfl B0 34 (.slice none 0 0) 24 Tryz.underlying60 info_u8s rfl (.slice ao acc.length co) acc Bo rfl HOb.out (some ⟨wq.heap.size,0,none⟩) 1 1 rfl [l] (liveOf (.slice a3 n3 c3)).toList HSb.out HDJ.out HL1.out HL2.out HBb.out ?_;intro v9 w9 hown9 hfr9 hv9;have HO9:=Hd hown9;have HF9:=Hd hfr9;have HV9:=Hd hv9;clear hown9 hfr9 hv9))
    go_wp2_with fail
    go_roundw
    case rel =>
     refine ⟨i + 1,_,by omega,?_,by rw [HT.out,HHN.out];exact HO9.out,fun b hb => ?_,((HF3.out.quiet HFL.out).quiet HFb.out).step HF9.out (fun b hb => ?_)⟩
     ·go_num
     ·rcases HV9.out b hb with h1 | h1
      ·exact HVO.out b h1
      ·exact .inr (by have:=HSZ.out;omega)
     ·rcases HVO.out b (mem_toList.1 hb) with h1 | h1
      ·exact .inl (by simp [h1])
      ·exact .inr h1
    case measure => simp [Go.RowKit.intOf];omega
  ·obtain rfl : i = ns.length:=by omega
   go_wp2_with fail
   go_ret
   refine ⟨_,rfl,?_,HF.out⟩
   have h1:=HACC.out
   rw [List.take_length] at h1
   rw [HPK.out,h1]
   exact HO.out.sl.rows
theorem r16lost_any {w : World} {P : Nat → Prop} {vm vr : Value} {d : PkD} (h : DocV w P vm vr d) (hb : ∀ h,d.hi = some h → 40000 ≤ h ∧ h ≤ 4611686018427300000) (hl : d.med.length ≤ 1000) (hw : d.w ≤ 64) (r : Rep_) (a : Option Addr) (n c : Nat) (hv : Bytes w (.slice a n c) r.bt.body) :
  Calls Tryz.prog 37 #[.agg (dcc d vm vr),.agg (rpc r (.slice a n c))] w fun e w' => e = .returned (.bool (d.lost r)) ∧ Fr [] w w':=by
 obtain ⟨am,cm,ar,cr,rfl,rfl⟩:=h.shape
 obtain ⟨w1,e1,hF1,hX1,hR1,hs1⟩:=two_new w (dcc d (.slice am d.med.length cm) (.slice ar d.rep.length cr)) 32 (rpc r (.slice a n c)) 38
 have HH:=Hd (h.keep hF1)
 have HX:=Hd hX1;have HR:=Hd hR1;have HV:=Hd (Sl.keep hv hF1);have HF:=Hd hF1;have E1:=Hd e1;have HI:=Hd hb;have HML:=Hd hl;have HW:=Hd hw
 clear h hX1 hR1 hF1 e1 hs1 hb hv hw
 go_enter Tryz.func37,Tryz.ntmps37
 go_upto_region 1 with fail
 rw [E1.out]
 clear E1
 generalize hq : w.heap.size = q at *
 clear hq
 go_wp2_with (refine wpList_load_row_w rfl 38 (.tmp 3) rfl (q + 1) rfl 38 _ _ HR.out Tryz.underlying38 rfl (by kernel_rfl) ?_)
 refine (r11Repair_any (r:=r) ⟨_,rfl,HV.out⟩).mono ?_
 rintro e w3 ⟨vn,rfl,hn,hF⟩
 obtain ⟨an,cn,rfl⟩ : ∃ a c,vn = .slice a (seqsOf r.base r.m).length c:=by
  have:=hn.sl.shape
  simpa using this
 have HNS:=Hd hn.sl
 have HH:=Hd (HH.out.keep hF);have HX:=Hd (HX.out.keep hF);have HF:=Hd (HF.out.trans hF)
 have HNL : Hid ((seqsOf r.base r.m).length ≤ 128):=Hd (by unfold seqsOf;rw [List.length_map];exact Msk.list_len _)
 have HPK : Hid (d.lost r = (seqsOf r.base r.m).any fun s => (d.has s).isNone && d.old (d.peek s)):=Hd rfl
 clear hn hF HR HV
 generalize seqsOf r.base r.m = ns at *
 go_upto_region 3 with fail
 have hnl:=HNL.out
 go_loopw [6] (fun iv wr => ∃ i : Nat,i ≤ ns.length ∧ iv = .int .i64 i ∧ (∀ s ∈ ns.take i,((d.has s).isNone && d.old (d.peek s)) = false) ∧ Fr [] w3 wr) (fun iv _ => ns.length - (Go.RowKit.intOf iv).toNat)
 case atStart => exact ⟨0,Nat.zero_le _,rfl,by simp,Fr.refl _ _⟩
 case round =>
  obtain ⟨i,hi,rfl,hno,hF⟩:=hrel
  have HNO:=Hd hno
  have HH:=Hd (HH.out.keep hF);have HX:=Hd (HX.out.keep hF);have HNS:=Hd (Sl.keep HNS.out hF);have HF:=Hd (HF.out.trans hF);have HFL:=Hd hF
  clear hno hF
  by_cases hlt : i < ns.length
  ·have HY : Hid (ns[i]? = some ns[i]):=Hd (List.getElem?_eq_getElem hlt)
   generalize ns[i] = s at *
   have HT : Hid (ns.take (i + 1) = ns.take i ++ [s]):=Hd (by rw [List.take_add_one,HY.out];rfl)
   go_upto_region 5 with fail
   refine wp_region_T (fun w' => Fr [] wr.drew w') [] 11 #[false,false,false,false,false,false,false,false,false,false,false] (by kernel_rfl) rfl rfl ?_
   try simp only [List.append_eq,List.cons_append,List.nil_append]
   have hF:=(Fr.refl [] wr).drew
   have HH:=Hd (HH.out.keep hF);have HX:=Hd (HX.out.keep hF);have HNS:=Hd (Sl.keep HNS.out hF);have HF:=Hd (HF.out.trans hF);have HFL:=Hd (HFL.out.trans hF)
   clear hF
   have HSS : Hid (Fr [] wr.drew wr.drew):=Hd (Fr.refl _ _)
   generalize wr.drew = wd at *
   have HC:=Hd (HNS.out.at_ (k:=i) (by simpa using hlt))
   obtain ⟨bn,on,ea,-,hcl⟩:=HC.out
   subst ea
   have HCL:=Hd (hcl i (W16 s) (by rw [List.getElem?_map,HY.out];rfl))
   clear hcl HC
   refine wL 0 ?_ rfl (by kernel_rfl) (fun _ _ _ h => h) HSS.out (by rfl) ?_ ?_
   rotate_left
   ·intro w' hSw;refine run_load_row 32 (.tmp 2) ?_ q ?_ 32 _ _ (HX.out.keep hSw) Tryz.underlying32 rfl (by kernel_rfl) <;> rfl
   simp only [Act.put,zz1,zz2,zz3,zz4,zz5,zz6]
   refine wL 1 ?_ rfl (by kernel_rfl) (fun _ _ _ h => h) HSS.out (by rfl) ?_ ?_
   rotate_left
   ·intro w hSw;have n0:=hSw.cellSome HCL.out (by simp);unfold W16 at n0;go_simp;try with_reducible rfl
   simp only [Act.put,zz1,zz2,zz3,zz4,zz5,zz6]
   refine wL 2 ?_ rfl (by kernel_rfl) (fun _ _ _ h => h) HSS.out (by rfl) ?_ ?_
   rotate_left
   ·intro w hSw;have n0:=hSw.cellSome HCL.out (by simp);unfold W16 at n0;go_simp;try with_reducible rfl
   simp only [Act.put,zz1,zz2,zz3,zz4,zz5,zz6]
   refine wL 3 ?_ rfl (by kernel_rfl) (fun _ _ _ h => h) HSS.out (by rfl) ?_ ?_
   rotate_left
   ·intro w hSw;have n0:=hSw.cellSome HCL.out (by simp);unfold W16 at n0;go_simp;try with_reducible rfl
   simp only [Act.put,zz1,zz2,zz3,zz4,zz5,zz6]
   refine wL 4 ?_ rfl (by kernel_rfl) (fun _ _ _ h => h) HSS.out (by rfl) ?_ ?_
   rotate_left
   ·intro w hSw;have n0:=hSw.cellSome HCL.out (by simp);unfold W16 at n0;go_simp;try with_reducible rfl
   simp only [Act.put,zz1,zz2,zz3,zz4,zz5,zz6]
   refine wpAnyT_one (i:=5) (by kernel_rfl) rfl (fun K hK => ?_)
   rw [if_pos (by rfl)]
   go_simp
   refine (r16Has_any HH.out HI.out HML.out s).mono ?_
   rintro e wq ⟨v,rfl,hv,hlv,hF⟩
   obtain ⟨a3,n3,c3,rfl⟩:=Sl.isSlice hv
   have HV:=Hd hv;have HLV:=Hd hlv
   have HSS:=Hd (HSS.out.trans hF)
   have HH:=Hd (HH.out.keep hF);have HX:=Hd (HX.out.keep hF);have HNS:=Hd (Sl.keep HNS.out hF);have HF:=Hd (HF.out.trans hF);have HFL:=Hd (HFL.out.trans hF)
   clear hF hv hlv
   go_simp
   refine hK.out _ _ (fun _ => HSS.out) ?_
   clear hK K
   simp only [Act.put,zz1,zz2,zz3,zz4,zz5,zz6]
   refine wL 6 ?_ rfl (by kernel_rfl) (fun _ _ _ h => h) HSS.out (by rfl) ?_ ?_
   rotate_left
   ·intro w hSw;go_simp;try with_reducible rfl
   simp only [Act.put,zz1,zz2,zz3,zz4,zz5,zz6]
   refine wL 7 ?_ rfl (by kernel_rfl) (fun _ _ _ h => h) HSS.out (by rfl) ?_ ?_
   rotate_left
   ·intro w hSw;go_simp;try with_reducible rfl
   simp only [Act.put,zz1,zz2,zz3,zz4,zz5,zz6]
   refine wL 8 ?_ rfl (by kernel_rfl) (fun _ _ _ h => h) HSS.out (by rfl) ?_ ?_
   rotate_left
   ·intro w hSw;go_simp;try with_reducible rfl
   simp only [Act.put,zz1,zz2,zz3,zz4,zz5,zz6]
   refine wL 9 ?_ rfl (by kernel_rfl) (fun _ _ _ h => h) HSS.out (by rfl) ?_ ?_
   rotate_left
   ·intro w hSw;go_simp;try with_reducible rfl
   simp only [Act.put,zz1,zz2,zz3,zz4,zz5,zz6]
   refine wL 10 ?_ rfl (by kernel_rfl) (fun _ _ _ h => h) HSS.out (by rfl) ?_ ?_
   rotate_left
   ·intro w hSw;go_simp;try with_reducible rfl
   simp only [Act.put,zz1,zz2,zz3,zz4,zz5,zz6]
   refine wpAnyT_done (by kernel_rfl) ?_ _
   clear HSS HCL
   have HNX : Hid (∀ tb,((d.has s).isNone && d.old (d.peek s)) = tb → tb = false → ∀ x ∈ ns.take (i + 1),((d.has x).isNone && d.old (d.peek x)) = false):=Hd (fun tb h1 h2 x hx => by
    rw [HT.out] at hx
    rcases List.mem_append.1 hx with hx | hx
    ·exact HNO.out x hx
    ·rw [List.mem_singleton] at hx
     subst hx
     rw [h1,h2])
   cases hhs : d.has s with
   | some l =>
    have HHN:=Hd hhs
    clear hhs
    simp only [Option.isSome_some]
    go_upto_region 6 with fail
    refine wp_region_T (fun w' => Fr [] wq.drew w') [] 12 #[false,false,false,false,false,false,false,false,false,false,false,false] (by kernel_rfl) rfl rfl ?_
    try simp only [List.append_eq,List.cons_append,List.nil_append]
    have hF:=(Fr.refl [] wq).drew
    have HH:=Hd (HH.out.keep hF);have HX:=Hd (HX.out.keep hF);have HNS:=Hd (Sl.keep HNS.out hF);have HF:=Hd (HF.out.trans hF);have HFL:=Hd (HFL.out.trans hF)
    clear hF
    have HSS : Hid (Fr [] wq.drew wq.drew):=Hd (Fr.refl _ _)
    generalize wq.drew = we at *
    refine wL 0 ?_ rfl (by kernel_rfl) (fun _ _ _ h => h) HSS.out (by rfl) ?_ ?_
    rotate_left
    ·intro w hSw;go_simp;try with_reducible rfl
    simp only [Act.put,zz1,zz2,zz3,zz4,zz5,zz6]
    refine wL 1 ?_ rfl (by kernel_rfl) (fun _ _ _ h => h) HSS.out (by rfl) ?_ ?_
    rotate_left
    ·intro w hSw;go_simp;try with_reducible rfl
    simp only [Act.put,zz1,zz2,zz3,zz4,zz5,zz6]
    refine wL 2 ?_ rfl (by kernel_rfl) (fun _ _ _ h => h) HSS.out (by rfl) ?_ ?_
    rotate_left
    ·intro w hSw;go_simp;try with_reducible rfl
    simp only [Act.put,zz1,zz2,zz3,zz4,zz5,zz6]
    refine wpAnyT_skip (i:=3) rfl (by kernel_rfl) (by kernel_rfl) (by kernel_rfl) (by kernel_rfl) (by kernel_rfl) (fun _ _ _ h => h) HSS.out (by rfl) ?_
    simp only [Act.put,zz1,zz2,zz3,zz4,zz5,zz6]
    refine wpAnyT_skip (i:=4) rfl (by kernel_rfl) (by kernel_rfl) (by kernel_rfl) (by kernel_rfl) (by kernel_rfl) (fun _ _ _ h => h) HSS.out (by rfl) ?_
    simp only [Act.put,zz1,zz2,zz3,zz4,zz5,zz6]
    refine wpAnyT_skip (i:=5) rfl (by kernel_rfl) (by kernel_rfl) (by kernel_rfl) (by kernel_rfl) (by kernel_rfl) (fun _ _ _ h => h) HSS.out (by rfl) ?_
    simp only [Act.put,zz1,zz2,zz3,zz4,zz5,zz6]
    refine wpAnyT_skip (i:=6) rfl (by kernel_rfl) (by kernel_rfl) (by kernel_rfl) (by kernel_rfl) (by kernel_rfl) (fun _ _ _ h => h) HSS.out (by rfl) ?_
    simp only [Act.put,zz1,zz2,zz3,zz4,zz5,zz6]
    refine wpAnyT_skip (i:=7) rfl (by kernel_rfl) (by kernel_rfl) (by kernel_rfl) (by kernel_rfl) (by kernel_rfl) (fun _ _ _ h => h) HSS.out (by rfl) ?_
    simp only [Act.put,zz1,zz2,zz3,zz4,zz5,zz6]
    refine wpAnyT_skip (i:=8) rfl (by kernel_rfl) (by kernel_rfl) (by kernel_rfl) (by kernel_rfl) (by kernel_rfl) (fun _ _ _ h => h) HSS.out (by rfl) ?_
    simp only [Act.put,zz1,zz2,zz3,zz4,zz5,zz6]
    refine wpAnyT_skip (i:=9) rfl (by kernel_rfl) (by kernel_rfl) (by kernel_rfl) (by kernel_rfl) (by kernel_rfl) (fun _ _ _ h => h) HSS.out (by rfl) ?_
    simp only [Act.put,zz1,zz2,zz3,zz4,zz5,zz6]
    refine wpAnyT_skip (i:=10) rfl (by kernel_rfl) (by kernel_rfl) (by kernel_rfl) (by kernel_rfl) (by kernel_rfl) (fun _ _ _ h => h) HSS.out (by rfl) ?_
    simp only [Act.put,zz1,zz2,zz3,zz4,zz5,zz6]
    refine wL 11 ?_ rfl (by kernel_rfl) (fun _ _ _ h => h) HSS.out (by rfl) ?_ ?_
    rotate_left
    ·intro w hSw;go_simp;try with_reducible rfl
    simp only [Act.put,zz1,zz2,zz3,zz4,zz5,zz6]
    refine wpAnyT_done (by kernel_rfl) ?_ _
    clear HSS
    go_wp2_with fail
    go_roundw
    case rel => refine ⟨i + 1,by omega,?_,HNX.out _ rfl (by rw [HHN.out];rfl),HFL.out⟩;go_num
    case measure => simp [Go.RowKit.intOf];omega
   | none =>
    have HHN:=Hd hhs
    clear hhs
    simp only [Option.isSome_none]
    go_upto_region 6 with fail
    refine wp_region_T (fun w' => Fr [] wq.drew w') [] 12 #[false,false,false,false,false,false,false,false,false,false,false,false] (by kernel_rfl) rfl rfl ?_
    try simp only [List.append_eq,List.cons_append,List.nil_append]
    have hF:=(Fr.refl [] wq).drew
    have HH:=Hd (HH.out.keep hF);have HX:=Hd (HX.out.keep hF);have HNS:=Hd (Sl.keep HNS.out hF);have HF:=Hd (HF.out.trans hF);have HFL:=Hd (HFL.out.trans hF)
    clear hF
    have HSS : Hid (Fr [] wq.drew wq.drew):=Hd (Fr.refl _ _)
    generalize wq.drew = we at *
    have HC:=Hd (HNS.out.at_ (k:=i) (by simpa using hlt))
    obtain ⟨bn,on,ea,-,hcl⟩:=HC.out
    cases ea
    have HCL:=Hd (hcl i (W16 s) (by rw [List.getElem?_map,HY.out];rfl))
    clear hcl HC
    refine wL 0 ?_ rfl (by kernel_rfl) (fun _ _ _ h => h) HSS.out (by rfl) ?_ ?_
    rotate_left
    ·intro w hSw;have n0:=hSw.cellSome HCL.out (by simp);unfold W16 at n0;go_simp;try with_reducible rfl
    simp only [Act.put,zz1,zz2,zz3,zz4,zz5,zz6]
    refine wL 1 ?_ rfl (by kernel_rfl) (fun _ _ _ h => h) HSS.out (by rfl) ?_ ?_
    rotate_left
    ·intro w hSw;have n0:=hSw.cellSome HCL.out (by simp);unfold W16 at n0;go_simp;try with_reducible rfl
    simp only [Act.put,zz1,zz2,zz3,zz4,zz5,zz6]
    refine wL 2 ?_ rfl (by kernel_rfl) (fun _ _ _ h => h) HSS.out (by rfl) ?_ ?_
    rotate_left
    ·intro w hSw;have n0:=hSw.cellSome HCL.out (by simp);unfold W16 at n0;go_simp;try with_reducible rfl
    simp only [Act.put,zz1,zz2,zz3,zz4,zz5,zz6]
    refine wL 3 ?_ rfl (by kernel_rfl) (fun _ _ _ h => h) HSS.out (by rfl) ?_ ?_
    rotate_left
    ·intro w' hSw;refine run_load_row 32 (.tmp 2) ?_ q ?_ 32 _ _ (HX.out.keep hSw) Tryz.underlying32 rfl (by kernel_rfl) <;> rfl
    simp only [Act.put,zz1,zz2,zz3,zz4,zz5,zz6]
    refine wL 4 ?_ rfl (by kernel_rfl) (fun _ _ _ h => h) HSS.out (by rfl) ?_ ?_
    rotate_left
    ·intro w' hSw;refine run_load_row 32 (.tmp 2) ?_ q ?_ 32 _ _ (HX.out.keep hSw) Tryz.underlying32 rfl (by kernel_rfl) <;> rfl
    simp only [Act.put,zz1,zz2,zz3,zz4,zz5,zz6]
    refine wL 5 ?_ rfl (by kernel_rfl) (fun _ _ _ h => h) HSS.out (by rfl) ?_ ?_
    rotate_left
    ·intro w hSw;have n0:=hSw.cellSome HCL.out (by simp);unfold W16 at n0;go_simp;try with_reducible rfl
    simp only [Act.put,zz1,zz2,zz3,zz4,zz5,zz6]
    refine wL 6 ?_ rfl (by kernel_rfl) (fun _ _ _ h => h) HSS.out (by rfl) ?_ ?_
    rotate_left
    ·intro w hSw;have n0:=hSw.cellSome HCL.out (by simp);unfold W16 at n0;go_simp;try with_reducible rfl
    simp only [Act.put,zz1,zz2,zz3,zz4,zz5,zz6]
    refine wL 7 ?_ rfl (by kernel_rfl) (fun _ _ _ h => h) HSS.out (by rfl) ?_ ?_
    rotate_left
    ·intro w hSw;have n0:=hSw.cellSome HCL.out (by simp);unfold W16 at n0;go_simp;try with_reducible rfl
    simp only [Act.put,zz1,zz2,zz3,zz4,zz5,zz6]
    refine wL 8 ?_ rfl (by kernel_rfl) (fun _ _ _ h => h) HSS.out (by rfl) ?_ ?_
    rotate_left
    ·intro w hSw;have n0:=hSw.cellSome HCL.out (by simp);unfold W16 at n0;go_simp;try with_reducible rfl
    simp only [Act.put,zz1,zz2,zz3,zz4,zz5,zz6]
    refine wpAnyT_one (i:=9) (by kernel_rfl) rfl (fun K hK => ?_)
    rw [if_pos (by rfl)]
    go_simp
    refine (r16Peek_any HI.out am ar _ cm _ cr s).mono ?_
    rintro e wq9 ⟨rfl,hF⟩
    have HSS:=Hd (HSS.out.trans hF)
    have HH:=Hd (HH.out.keep hF);have HX:=Hd (HX.out.keep hF);have HNS:=Hd (Sl.keep HNS.out hF);have HF:=Hd (HF.out.trans hF);have HFL:=Hd (HFL.out.trans hF)
    clear hF
    go_simp
    refine hK.out _ _ (fun _ => HSS.out) ?_
    clear hK K
    simp only [Act.put,zz1,zz2,zz3,zz4,zz5,zz6]
    refine wpAnyT_one (i:=10) (by kernel_rfl) rfl (fun K hK => ?_)
    rw [if_pos (by rfl)]
    go_simp
    refine (r16old_any HI.out HW.out am ar _ cm _ cr (d.peek s)).mono ?_
    rintro e wq10 ⟨rfl,hF⟩
    have HSS:=Hd (HSS.out.trans hF)
    have HH:=Hd (HH.out.keep hF);have HX:=Hd (HX.out.keep hF);have HNS:=Hd (Sl.keep HNS.out hF);have HF:=Hd (HF.out.trans hF);have HFL:=Hd (HFL.out.trans hF)
    clear hF
    go_simp
    refine hK.out _ _ (fun _ => HSS.out) ?_
    clear hK K
    simp only [Act.put,zz1,zz2,zz3,zz4,zz5,zz6]
    refine wL 11 ?_ rfl (by kernel_rfl) (fun _ _ _ h => h) HSS.out (by rfl) ?_ ?_
    rotate_left
    ·intro w hSw;go_simp;try with_reducible rfl
    simp only [Act.put,zz1,zz2,zz3,zz4,zz5,zz6]
    refine wpAnyT_done (by kernel_rfl) ?_ _
    clear HSS
    obtain ⟨ob,hob⟩ : ∃ ob,d.old (d.peek s) = ob:=⟨_,rfl⟩
    have HOB:=Hd hob
    have HNX : Hid (ob = false → ∀ x ∈ ns.take (i + 1),((d.has x).isNone && d.old (d.peek x)) = false):=Hd (fun e => HNX.out _ rfl (by rw [hob,e,HHN.out];rfl))
    rw [hob]
    clear hob
    cases ob
    ·go_wp2_with fail
     go_roundw
     case rel => refine ⟨i + 1,by omega,?_,HNX.out rfl,HFL.out⟩;go_num
     case measure => simp [Go.RowKit.intOf];omega
    ·have HNX2 : Hid (((d.has s).isNone && d.old (d.peek s)) = true):=Hd (by rw [HHN.out,HOB.out];rfl)
     go_wp2_with fail
     go_ret
     refine ⟨?_,HF.out⟩
     have h1 : d.lost r = true:=by rw [HPK.out];exact List.any_eq_true.2 ⟨s,List.mem_of_getElem? HY.out,HNX2.out⟩
     rw [h1]
     rfl
  ·obtain rfl : i = ns.length:=by omega
   go_wp2_with fail
   go_ret
   refine ⟨?_,HF.out⟩
   have h1 : d.lost r = false:=by
    rw [HPK.out]
    have h2:=HNO.out
    rw [List.take_length] at h2
    exact List.any_eq_false.2 (fun x hx => by rw [h2 x hx];simp)
   rw [h1]
   rfl
end Go.Proofs.YtcngfbjmpemehaaGreat

/- The document's first,put of layer 16 (printed by gen_dc3.py). -/
namespace Go.Proofs.YtcngfbjmpemehaaGreat
open Go.RowKit

theorem info_one : (Tryz.prog.info? 112).map (fun i => (i.zero,i.size,i.bytes)) = some (some (.agg #[.int .i64 0,.int .u16 0,.slice none 0 0]),3,40):=by kernel_rfl
theorem info_rep : (Tryz.prog.info? 38).map (fun i => (i.zero,i.size,i.bytes)) = some (some (.agg #[.int .u8 0,.int .u8 0,.int .u8 0,.int .u8 0,.int .u8 0,.int .u8 0,.int .u8 0,.int .u8 0,.int .u16 0,.int .u64 0,.int .u64 0,.slice none 0 0]),12,56):=by kernel_rfl
theorem r16first_any {w : World} {d : PkD} (hb : ∀ h,d.hi = some h → 40000 ≤ h ∧ h ≤ 4611686018427300000) (am ar : Option Addr) (nm cm nr cr : Nat) {r : Rep_} (hnz : ¬(r.m.hi = 0 ∧ r.m.lo = 0)) {a : Option Addr} {n c : Nat} (hv : Bytes w (.slice a n c) r.bt.body) :
  Calls Tryz.prog 40 #[.agg (dcc d (.slice am nm cm) (.slice ar nr cr)),.agg (rpc r (.slice a n c))] w fun e w' => e = .returned (.int .i64 (d.first r)) ∧ Fr [] w w':=by
 obtain ⟨w1,e1,hF1,hX1,hR1,hs1⟩:=two_new w (dcc d (.slice am nm cm) (.slice ar nr cr)) 32 (rpc r (.slice a n c)) 38
 have HX:=Hd hX1;have HR:=Hd hR1;have HV:=Hd (Sl.keep hv hF1);have HF:=Hd hF1;have E1:=Hd e1;have HI:=Hd hb
 have hne : seqsOf r.base r.m ≠ []:=by
  have hz : r.m ≠ Msk.zero:=fun e => hnz (by rw [e];exact ⟨rfl,rfl⟩)
  obtain ⟨i,h1,-,h2⟩:=Msk.first_some hz
  unfold seqsOf
  rw [h2]
  simp
 obtain ⟨s,ss,hss⟩:=List.exists_cons_of_ne_nil hne
 have HPS : Hid (0 < (seqsOf r.base r.m).length):=Hd (by rw [hss];simp)
 have HS0 : Hid (((seqsOf r.base r.m).map W16)[0]? = some (W16 s)):=Hd (by rw [hss];rfl)
 have HE : Hid (d.first r = d.peek s):=Hd (by unfold PkD.first;rw [hss];rfl)
 clear hX1 hR1 hF1 e1 hs1 hb hv hnz hne hss
 go_enter Tryz.func40,Tryz.ntmps40
 go_upto_region 1 with fail
 rw [E1.out]
 clear E1
 generalize w.heap.size = q at *
 refine wp_region_T (fun w' => Fr [] w1.drew w') [] 7 #[false,false,false,false,false,false,false] (by kernel_rfl) rfl rfl ?_
 try simp only [List.append_eq,List.cons_append,List.nil_append]
 have hF:=(Fr.refl [] w1).drew
 have HX:=Hd (HX.out.keep hF);have HR:=Hd (HR.out.keep hF);have HV:=Hd (Sl.keep HV.out hF);have HF:=Hd (HF.out.trans hF)
 clear hF
 have HSS : Hid (Fr [] w1.drew w1.drew):=Hd (Fr.refl _ _)
 generalize w1.drew = wd at *
 refine wL 0 ?_ rfl (by kernel_rfl) (fun _ _ _ h => h) HSS.out (by rfl) ?_ ?_
 rotate_left
 ·intro w' hSw;refine run_load_row 32 (.tmp 2) ?_ q ?_ 32 _ _ (HX.out.keep hSw) Tryz.underlying32 rfl (by kernel_rfl) <;> rfl
 simp only [Act.put,zz1,zz2,zz3,zz4,zz5,zz6]
 refine wL 1 ?_ rfl (by kernel_rfl) (fun _ _ _ h => h) HSS.out (by rfl) ?_ ?_
 rotate_left
 ·intro w' hSw;refine run_load_row 38 (.tmp 3) ?_ (q + 1) ?_ 38 _ _ (HR.out.keep hSw) Tryz.underlying38 rfl (by kernel_rfl) <;> rfl
 simp only [Act.put,zz1,zz2,zz3,zz4,zz5,zz6]
 refine wpAnyT_one (i:=2) (by kernel_rfl) rfl (fun K hK => ?_)
 rw [if_pos (by rfl)]
 go_simp
 refine (r11Repair_any (r:=r) ⟨_,rfl,HV.out⟩).mono ?_
 rintro e w3 ⟨vn,rfl,hn,hF⟩
 obtain ⟨an,cn,rfl⟩ : ∃ a c,vn = .slice a (seqsOf r.base r.m).length c:=by
  have:=hn.sl.shape
  simpa using this
 obtain ⟨bn,on,ea,-,hcl⟩:=hn.sl.at_ (k:=0) (by simpa using HPS.out)
 subst ea
 have HCL : Hid (w3.cell? ⟨bn,on,none⟩ = some (.int .u16 (s.toNat : Nat))):=Hd (by have:=hcl 0 (W16 s) HS0.out;simpa [W16] using this)
 have HSS:=Hd (HSS.out.trans hF)
 have HX:=Hd (HX.out.keep hF);have HR:=Hd (HR.out.keep hF);have HV:=Hd (Sl.keep HV.out hF);have HF:=Hd (HF.out.trans hF)
 clear hn hF hcl
 go_simp
 refine hK.out _ _ (fun _ => HSS.out) ?_
 clear hK K
 simp only [Act.put,zz1,zz2,zz3,zz4,zz5,zz6]
 refine wpAnyT_one (i:=3) (by kernel_rfl) rfl (fun K hK => ?_)
 rw [if_pos (by rfl)]
 have hps:=HPS.out
 go_simp
 refine hK.out _ _ (fun _ => HSS.out) ?_
 clear hK K
 simp only [Act.put,zz1,zz2,zz3,zz4,zz5,zz6]
 refine wpAnyT_one (i:=4) (by kernel_rfl) rfl (fun K hK => ?_)
 rw [if_pos (by rfl)]
 have n0:=HCL.out
 go_simp
 refine hK.out _ _ (fun _ => HSS.out) ?_
 clear hK K
 simp only [Act.put,zz1,zz2,zz3,zz4,zz5,zz6]
 refine wpAnyT_one (i:=5) (by kernel_rfl) rfl (fun K hK => ?_)
 rw [if_pos (by rfl)]
 go_simp
 refine (r16Peek_any HI.out am ar nm cm nr cr s).mono ?_
 rintro e w4 ⟨rfl,hF⟩
 have HSS:=Hd (HSS.out.trans hF);have HF:=Hd (HF.out.trans hF)
 clear hF
 go_simp
 refine hK.out _ _ (fun _ => HSS.out) ?_
 clear hK K
 simp only [Act.put,zz1,zz2,zz3,zz4,zz5,zz6]
 refine wL 6 ?_ rfl (by kernel_rfl) (fun _ _ _ h => h) HSS.out (by rfl) ?_ ?_
 rotate_left
 ·intro w hSw;go_simp;try with_reducible rfl
 simp only [Act.put,zz1,zz2,zz3,zz4,zz5,zz6]
 refine wpAnyT_done (by kernel_rfl) ?_ _
 go_wp2_with fail
 go_ret
 exact ⟨by rw [HE.out];rfl,HF.out⟩
theorem one_lit {w : World} {g : Nat} {t : TypeId} {o : PkO} {v : Value} (hB : Box w g t #[.int .i64 o.n,.int .u16 (o.s.toNat : Nat),v]) (hv : Bytes w v o.b) : SlEls 3 OneR w (.slice (some ⟨g,0,none⟩) 1 1) [o] (liveOf v).toList:=by
 refine ⟨[.int .i64 o.n,.int .u16 (o.s.toNat : Nat),v],_,1,rfl,by simp,by unfold maxLen;omega,(fun e => by cases e),⟨_,[],_,[],by simp,by simp,⟨v,rfl,hv,rfl⟩,rfl,rfl⟩,?_⟩
 rintro p hp -
 simp only [Option.some.injEq] at hp
 subst hp
 exact ⟨rfl,hB.lt,fun i x hx => by rw [Nat.zero_add];rw [hB.cell,← Array.getElem?_toList];exact hx⟩
theorem rep_lit {w : World} {g : Nat} {t : TypeId} {r : Rep_} {v : Value} (hB : Box w g t (rpc r v)) (hv : Bytes w v r.bt.body) : SlEls 12 RpR w (.slice (some ⟨g,0,none⟩) 1 1) [r] (liveOf v).toList:=by
 refine ⟨(rpc r v).toList,_,1,rfl,by simp,by unfold maxLen;omega,(fun e => by cases e),⟨_,[],_,[],by simp,by simp,⟨v,rfl,hv,rfl⟩,rfl,rfl⟩,?_⟩
 rintro p hp -
 simp only [Option.some.injEq] at hp
 subst hp
 exact ⟨rfl,hB.lt,fun i x hx => by rw [Nat.zero_add];rw [hB.cell,← Array.getElem?_toList];exact hx⟩
theorem rng3 {w : World} {b o : Nat} {x0 x1 x2 : Value} (h0 : w.cell? ⟨b,o,none⟩ = some x0) (h1 : w.cell? ⟨b,o + 1,none⟩ = some x1) (h2 : w.cell? ⟨b,o + 2,none⟩ = some x2) : w.rangeAt b o [x0,x1,x2]:=fun j u hj => by
 match j,hj with
 | 0,hj => cases hj;exact h0
 | 1,hj => cases hj;exact h1
 | 2,hj => cases hj;exact h2
 | j + 3,hj => cases hj
theorem filter_take {α : Type} {p : α → Bool} {xs : List α} {i : Nat} {y : α} (h : xs[i]? = some y) : (xs.take (i + 1)).filter p = (xs.take i).filter p ++ (if p y then [y] else []):=by
 rw [List.take_add_one,h,List.filter_append]
 cases hp : p y <;> simp [hp]
theorem dcc_note (d : PkD) (s : UInt16) (vm vr : Value) : dcc (d.note (d.peek s)) vm vr = #[.int .u32 (d.ss.toNat : Nat),.int .i64 (d.w : Nat),.int .i64 (d.r : Nat),.int .i64 (match d.hi with | none => d.peek s | some h => max h (d.peek s)),vm,vr]:=by
 unfold dcc PkD.note
 rfl
theorem r16put_any {w : World} {P Pv : Nat → Prop} {vm vr : Value} {d : PkD} (h : DocV w P vm vr d) (hb : ∀ h,d.hi = some h → 40000 ≤ h ∧ h ≤ 4611686018427300000) (hl : d.med.length ≤ 900) (hlr : d.rep.length ≤ 900) (hw : d.w ≤ 64) (s : UInt16) (hbe : ∀ h,(d.note (d.peek s)).hi = some h → 40000 ≤ h ∧ h ≤ 4611686018427300000) (hold : (d.note (d.peek s)).old (d.peek s) = false) {v : Value} {b : List UInt8} (hv : Bytes w v b) (hpv : ∀ y,liveOf v = some y → Pv y) :
  Calls Tryz.prog 35 #[.agg (dcc d vm vr),.int .u16 (s.toNat : Nat),v] w fun e w' => ∃ vd,e = .returned vd ∧ (∃ vm' vr',vd = .agg (dcc (d.put s b) vm' vr') ∧ DocV w' (fun z => P z ∨ Pv z ∨ w.heap.size ≤ z) vm' vr' (d.put s b)) ∧ Fr [] w w':=by
 obtain ⟨am,cm,ar,cr,rfl,rfl⟩:=h.shape
 obtain ⟨av,nv,cv,rfl⟩:=Sl.isSlice hv
 obtain ⟨w1,e1,hF1,hX1,hR1,hs1⟩:=two_new w (dcc d (.slice am d.med.length cm) (.slice ar d.rep.length cr)) 32 #[.int .u32 0,.int .i64 0,.int .i64 0,.int .i64 0,.slice none 0 0,.slice none 0 0] 32
 have HH : Hid (DocV w1 (fun z => P z ∧ z < w.heap.size) (.slice am d.med.length cm) (.slice ar d.rep.length cr) d):=Hd ((h.imp (P':=fun z => P z ∧ z < w.heap.size) (fun z hz hp => ⟨hp,hz⟩)).keep hF1)
 have HX:=Hd hX1;have HG6:=Hd hR1;have HVB:=Hd (Sl.keep hv hF1);have HF:=Hd hF1;have E1:=Hd e1;have HI:=Hd hb;have HIE:=Hd hbe;have HML:=Hd hl;have HRL:=Hd hlr;have HW:=Hd hw;have HOLD:=Hd hold;have HPV : Hid (∀ y,liveOf (.slice av nv cv) = some y → Pv y ∧ y < w.heap.size):=Hd (fun y hy => ⟨hpv y hy,Sl.lt hv y hy⟩)
 have HZ1:=Hd hs1
 clear h hX1 hR1 hF1 e1 hs1 hb hbe hv hpv hw hold
 go_enter Tryz.func35,Tryz.ntmps35
 go_upto_region 1 with fail
 rw [E1.out]
 clear E1
 generalize hq : w.heap.size = q at *
 have HQE:=Hd hq
 clear hq
 go_wp2_with (refine wpList_load_row_w rfl 32 (.tmp 3) rfl q rfl 32 _ _ HX.out Tryz.underlying32 rfl (by kernel_rfl) ?_)
 refine (r16Peek_any HI.out am ar _ cm _ cr s).mono ?_
 rintro e w2 ⟨rfl,hF⟩
 have HH:=Hd (HH.out.keep hF);have HX:=Hd (HX.out.keep hF);have HG6:=Hd (HG6.out.keep hF);have HVB:=Hd (Sl.keep HVB.out hF);have HF:=Hd (HF.out.trans hF);have HZ2 : Hid (q + 2 ≤ w2.heap.size):=Hd (by have h1:=HZ1.out;have h2:=hF.size;omega)
 clear hF
 obtain ⟨n,hn⟩ : ∃ n,d.peek s = n:=⟨_,rfl⟩
 have HNE:=Hd hn
 rw [hn]
 obtain ⟨e0,he0⟩ : ∃ e0,d.note (d.peek s) = e0:=⟨_,rfl⟩
 have HE0:=Hd he0
 rw [he0] at HIE HOLD
 rw [hn] at HOLD
 have HD0 : Hid (dcc e0 (.slice am d.med.length cm) (.slice ar d.rep.length cr) = #[.int .u32 (d.ss.toNat : Nat),.int .i64 (d.w : Nat),.int .i64 (d.r : Nat),.int .i64 (match d.hi with | none => n | some h => max h n),.slice am d.med.length cm,.slice ar d.rep.length cr]):=Hd (by rw [← he0,dcc_note,hn])
 have HNP : Hid (4294967296 ≤ n ∨ ∃ h,d.hi = some h):=Hd (by
  cases hh : d.hi with
  | none =>
   left
   rw [← hn]
   unfold PkD.peek
   rw [hh]
   show (4294967296 : Int) ≤ 4294967296 + (s.toNat : Int)
   omega
  | some h => exact .inr ⟨h,rfl⟩)
 have HWE : Hid (e0.w ≤ 64):=Hd (by rw [← he0];exact HW.out)
 clear he0 hn
 have x3:=HX.out.cell 3
 have f3:=HX.out.free 3
 simp only [dcc,zz7,zz8,zz9] at x3
 go_upto_if 18 with fail
 go_cut [] (fun wx => Box wx q 32 (dcc e0 (.slice am d.med.length cm) (.slice ar d.rep.length cr)) ∧ Fr [q] w2 wx)
 case first =>
  obtain ⟨w3,e3,hF3,hB3,hs3⟩:=set_new HX.out 3 (.int .i64 n)
  have E3:=Hd e3;have HF3:=Hd hF3;have HB3:=Hd hB3
  clear e3 hF3 hB3 hs3
  by_cases hgt : d.hi.getD (-1) < n
  ·have t1 : decide (d.hi.getD (-1) < n) = true:=decide_eq_true hgt
   have t2 : decide (n > d.hi.getD (-1)) = true:=t1
   have HMX : Hid ((match d.hi with | none => n | some h => max h n) = n):=Hd (by
    cases hh : d.hi with
    | none => rfl
    | some h => rw [hh] at hgt;have h1 : h < n:=hgt;show max h n = n;omega)
   go_upto_region 3 with fail
   go_wp2_with fail
   go_meet
   rw [E3.out]
   exact ⟨by rw [HD0.out,HMX.out];exact HB3.out,HF3.out⟩
  ·have t1 : decide (d.hi.getD (-1) < n) = false:=decide_eq_false hgt
   have t2 : decide (n > d.hi.getD (-1)) = false:=t1
   have HMX : Hid ((match d.hi with | none => n | some h => max h n) = d.hi.getD (-1)):=Hd (by
    cases hh : d.hi with
    | none => rw [hh] at hgt;have h1 : ¬ (-1 : Int) < n:=hgt;rcases HNP.out with h2 | ⟨k,h2⟩;(· omega);(· rw [hh] at h2;cases h2)
    | some h => rw [hh] at hgt;have h1 : ¬ h < n:=hgt;show max h n = h;omega)
   go_wp2_with fail
   go_meet
   exact ⟨by rw [HD0.out,HMX.out];exact HX.out,Fr.refl _ _⟩
 case rest =>
  obtain ⟨hB,hF⟩:=hcut
  have HX:=Hd hB
  have HH:=Hd (HH.out.fr hF (fun z hz hm => by rw [List.mem_singleton] at hm;have:=hz.2;omega))
  have HG6:=Hd (HG6.out.fr hF (by simp))
  have HVB:=Hd (Sl.frL HVB.out hF (fun z hz hm => by rw [List.mem_singleton] at hm;have:=(HPV.out z hz).2;have:=HQE.out;omega))
  have HZC : Hid (q + 2 ≤ wc.heap.size):=Hd (Nat.le_trans HZ2.out hF.size)
  have HF : Hid (Fr [] w wc):=Hd (HF.out.step hF (fun z hz => by rw [List.mem_singleton] at hz;exact .inr (by have:=HQE.out;omega)))
  clear hB hF x3 f3
  have HPV : Hid (∀ y,liveOf (.slice av nv cv) = some y → Pv y ∧ y < q):=Hd (fun y hy => by have h1:=HPV.out y hy;have h2:=HQE.out;exact ⟨h1.1,by omega⟩)
  obtain ⟨w4,e4,hF4,hB4,hs4⟩:=one_new wc #[] 112
  have E4:=Hd e4
  have HO : Hid (OwnEls 3 OneR w4 wc.heap.size 112 (.slice (some ⟨wc.heap.size,0,none⟩) 0 0) [] []):=Hd (by rw [← e4];exact OwnEls.made wc wc.heap.size 112 (Nat.le_refl _))
  have HX:=Hd (HX.out.keep hF4);have HH:=Hd (HH.out.keep hF4);have HG6:=Hd (HG6.out.keep hF4);have HVB:=Hd (Sl.keep HVB.out hF4);have HF:=Hd (HF.out.trans hF4)
  have HZ4 : Hid (wc.heap.size < w4.heap.size):=Hd (by omega)
  clear e4 hF4 hB4 hs4
  go_upto_region 5 with fail
  rw [E4.out]
  clear E4
  generalize hB0 : wc.heap.size = B0 at *
  clear hB0
  have hml:=HML.out
  go_upto_region 6 with fail
  go_loopw [8,9] (fun ov iv wr => ∃ (i : Nat) (Bo : List Nat),i ≤ d.med.length ∧ iv = .int .i64 i ∧ OwnEls 3 OneR wr B0 112 ov ((d.med.take i).filter fun o => !e0.old o.n) Bo ∧ (∀ z ∈ Bo,P z ∧ z < q) ∧ (∀ z,blockOf ov = some z → z = B0 ∨ w4.heap.size ≤ z) ∧ Fr [B0] w4 wr) (fun _ iv _ => d.med.length - (Go.RowKit.intOf iv).toNat)
  case atStart => exact ⟨0,[],Nat.zero_le _,rfl,HO.out,by simp,(fun z hz => by simp [blockOf] at hz;exact .inl hz.symm),Fr.refl _ _⟩
  case round =>
   clear HO
   obtain ⟨i,Bo,hi,rfl,hO,hBo,hvo,hF⟩:=hrel
   obtain ⟨ao,co,eo⟩:=hO.shape
   have HLE : Hid (((d.med.take i).filter fun o => !e0.old o.n).length ≤ 900):=Hd (by
    have h1:=List.length_filter_le (fun o : PkO => !e0.old o.n) (d.med.take i)
    rw [List.length_take] at h1
    omega)
   have HO:=Hd hO;have HVO:=Hd hvo;have HBO:=Hd hBo
   have HH:=Hd (HH.out.fr hF (fun z hz hm => by rw [List.mem_singleton] at hm;have:=hz.2;have:=HZC.out;omega))
   have HX:=Hd (HX.out.fr hF (by have:=HZC.out;simp;omega))
   have HG6:=Hd (HG6.out.fr hF (by have:=HZC.out;simp;omega))
   have HVB:=Hd (Sl.frL HVB.out hF (fun z hz hm => by rw [List.mem_singleton] at hm;have:=(HPV.out z hz).2;have:=HZC.out;omega))
   have HFL:=Hd hF
   clear hO hvo hBo hF
   generalize hacc : (d.med.take i).filter (fun o => !e0.old o.n) = acc at *
   have HACC:=Hd hacc
   clear hacc
   subst eo
   have x4:=HX.out.cell 4
   simp only [dcc,zz7,zz8,zz9] at x4
   by_cases hlt : i < d.med.length
   ·go_upto_region 8 with fail
    clear x4
    refine wp_region_T (fun w' => Fr [] wr.drew w') [] 9 #[false,false,false,false,false,false,false,false,false] (by kernel_rfl) rfl rfl ?_
    try simp only [List.append_eq,List.cons_append,List.nil_append]
    have hF:=(Fr.refl [] wr).drew
    have HH:=Hd (HH.out.keep hF);have HX:=Hd (HX.out.keep hF);have HO:=Hd (HO.out.keep Rep.oneP hF);have HVB:=Hd (Sl.keep HVB.out hF);have HG6:=Hd (HG6.out.keep hF);have HFL:=Hd (HFL.out.quiet hF)
    clear hF
    have HSS : Hid (Fr [] wr.drew wr.drew):=Hd (Fr.refl _ _)
    generalize wr.drew = wd at *
    obtain ⟨Bm,Br,hm,-,hBm,-⟩:=HH.out
    obtain ⟨b,o,c,y,B1,ea,-,hy,hR,hB1,hrg⟩:=hm.at_ Rep.oneP hlt
    subst ea
    obtain ⟨a3,n3,c3,d0,d1,d2,hby,hlv⟩:=oneR_cells hR hrg
    have D0:=Hd d0;have D1:=Hd d1;have D2:=Hd d2
    have HY:=Hd hy;have HBY:=Hd hby;have HLV : Hid (∀ z,liveOf (.slice a3 n3 c3) = some z → P z ∧ z < q):=Hd (fun z hz => hBm z (hB1 z (hlv z hz)))
    have X4 : Hid (wd.cell? ⟨q,4,none⟩ = some (.slice (some ⟨b,o,none⟩) d.med.length cm)):=Hd (by rw [HX.out.cell];rfl)
    clear hm hBm hy hR hB1 hrg hby hlv d0 d1 d2
    refine wL 0 ?_ rfl (by kernel_rfl) (fun _ _ _ h => h) HSS.out (by rfl) ?_ ?_
    rotate_left
    ·intro w' hSw;refine run_load_row 32 (.tmp 3) ?_ q ?_ 32 _ _ (HX.out.keep hSw) Tryz.underlying32 rfl (by kernel_rfl) <;> rfl
    simp only [Act.put,zz1,zz2,zz3,zz4,zz5,zz6]
    refine wL 1 ?_ rfl (by kernel_rfl) (fun _ _ _ h => h) HSS.out (by rfl) ?_ ?_
    rotate_left
    ·intro w hSw;have n0:=hSw.cellSome X4.out (by simp);have n1:=hSw.cellSome D0.out (by simp);go_simp;try with_reducible rfl
    simp only [Act.put,zz1,zz2,zz3,zz4,zz5,zz6]
    refine wL 2 ?_ rfl (by kernel_rfl) (fun _ _ _ h => h) HSS.out (by rfl) ?_ ?_
    rotate_left
    ·intro w hSw;have n0:=hSw.cellSome X4.out (by simp);have n1:=hSw.cellSome D0.out (by simp);go_simp;try with_reducible rfl
    simp only [Act.put,zz1,zz2,zz3,zz4,zz5,zz6]
    refine wL 3 ?_ rfl (by kernel_rfl) (fun _ _ _ h => h) HSS.out (by rfl) ?_ ?_
    rotate_left
    ·intro w hSw;have n0:=hSw.cellSome X4.out (by simp);have n1:=hSw.cellSome D0.out (by simp);go_simp;try with_reducible rfl
    simp only [Act.put,zz1,zz2,zz3,zz4,zz5,zz6]
    refine wL 4 ?_ rfl (by kernel_rfl) (fun _ _ _ h => h) HSS.out (by rfl) ?_ ?_
    rotate_left
    ·intro w hSw;have n0:=hSw.cellSome X4.out (by simp);have n1:=hSw.cellSome D0.out (by simp);go_simp;try with_reducible rfl
    simp only [Act.put,zz1,zz2,zz3,zz4,zz5,zz6]
    refine wL 5 ?_ rfl (by kernel_rfl) (fun _ _ _ h => h) HSS.out (by rfl) ?_ ?_
    rotate_left
    ·intro w hSw;have n0:=hSw.cellSome X4.out (by simp);have n1:=hSw.cellSome D0.out (by simp);go_simp;try with_reducible rfl
    simp only [Act.put,zz1,zz2,zz3,zz4,zz5,zz6]
    refine wL 6 ?_ rfl (by kernel_rfl) (fun _ _ _ h => h) HSS.out (by rfl) ?_ ?_
    rotate_left
    ·intro w hSw;have n0:=hSw.cellSome X4.out (by simp);have n1:=hSw.cellSome D0.out (by simp);go_simp;try with_reducible rfl
    simp only [Act.put,zz1,zz2,zz3,zz4,zz5,zz6]
    refine wpAnyT_one (i:=7) (by kernel_rfl) rfl (fun K hK => ?_)
    rw [if_pos (by rfl)]
    go_simp
    refine (r16old_any HIE.out HWE.out (some ⟨b,o,none⟩) ar _ cm _ cr y.n).mono ?_
    rintro e wq ⟨rfl,hF⟩
    have HSS:=Hd (HSS.out.trans hF);have D0:=Hd (hF.cellSome D0.out (by simp));have D1:=Hd (hF.cellSome D1.out (by simp));have D2:=Hd (hF.cellSome D2.out (by simp));have HBY:=Hd (Sl.keep HBY.out hF)
    have HH:=Hd (HH.out.keep hF);have HX:=Hd (HX.out.keep hF);have HO:=Hd (HO.out.keep Rep.oneP hF);have HVB:=Hd (Sl.keep HVB.out hF);have HG6:=Hd (HG6.out.keep hF);have HFL:=Hd (HFL.out.quiet hF)
    clear hF
    go_simp
    refine hK.out _ _ (fun _ => HSS.out) ?_
    clear hK K
    simp only [Act.put,zz1,zz2,zz3,zz4,zz5,zz6]
    refine wL 8 ?_ rfl (by kernel_rfl) (fun _ _ _ h => h) HSS.out (by rfl) ?_ ?_
    rotate_left
    ·intro w hSw;go_simp;try with_reducible rfl
    simp only [Act.put,zz1,zz2,zz3,zz4,zz5,zz6]
    refine wpAnyT_done (by kernel_rfl) ?_ _
    clear HSS X4
    have HT : Hid ((d.med.take (i + 1)).filter (fun o => !e0.old o.n) = acc ++ (if !e0.old y.n then [y] else [])):=Hd (by rw [filter_take HY.out,HACC.out])
    cases ho : e0.old y.n
    rotate_left
    ·have HOD:=Hd ho
     clear ho
     go_wp2_with fail
     go_roundw
     case rel => refine ⟨i + 1,Bo,by omega,?_,by rw [HT.out,HOD.out];simpa using HO.out,HBO.out,HVO.out,HFL.out⟩;go_num
     case measure => simp [Go.RowKit.intOf];omega
    ·have HOD:=Hd ho
     clear ho
     have HRG:=Hd (rng3 D0.out D1.out D2.out)
     have x4:=HX.out.cell 4
     simp only [dcc,zz7,zz8,zz9] at x4
     obtain ⟨wb,eb,hFb,hBb,-⟩:=one_new wq #[.int .i64 y.n,.int .u16 (y.s.toNat : Nat),.slice a3 n3 c3] 112
     have EB:=Hd eb
     have HOb:=Hd (HO.out.keep Rep.oneP hFb);have HSb:=Hd (one_lit hBb (Sl.keep HBY.out hFb));have HFb:=Hd hFb
     have HDJ : Hid (∀ z,blockOf (.slice ao acc.length co) = some z → z ∉ (liveOf (.slice a3 n3 c3)).toList):=Hd (fun z hz hm => by
      have h1:=(HLV.out z (mem_toList.1 hm)).2
      have h2:=HVO.out z hz
      have h3:=HZC.out
      have h4:=HZ4.out
      omega)
     have HL1 : Hid (acc.length + 1 ≤ maxLen):=Hd (by have:=HLE.out;unfold maxLen;omega)
     have HL2 : Hid ((acc.length + 1) * 40 ≤ 140737488355328):=Hd (by have:=HLE.out;omega)
     have HSZ : Hid (w4.heap.size ≤ wb.heap.size):=Hd (Nat.le_trans HFL.out.size hFb.size)
     have HBb : Hid (B0 ≤ wb.heap.size):=Hd (by have h1:=HSZ.out;have h2:=HZ4.out;omega)
     clear eb hFb hBb
     go_upto_region 7 with (first | (refine wpList_load_midA rfl 112 (.tmp 42) rfl b (o + i * 3) rfl #[.int .i64 y.n,.int .u16 (y.s.toNat : Nat),.slice a3 n3 c3] _ HRG.out Tryz.underlying112 rfl (by kernel_rfl) ?_) | (at_builtin;(rw [EB.out]);go_loud (refine wpList_append_elsN Rep.oneP (by decide) rfl (.tmp 38) (.tmp 44) 29 rfl B0 112 (.agg #[.int .i64 0,.int .u16 0,.slice none 0 0]) 40 Tryz.underlying29 info_one rfl (.slice ao acc.length co) acc Bo rfl HOb.out (some ⟨wq.heap.size,0,none⟩) 1 1 rfl [y] (liveOf (.slice a3 n3 c3)).toList HSb.out HDJ.out HL1.out HL2.out HBb.out ?_;intro v9 w9 hown9 hfr9 hv9;have HO9:=Hd hown9;have HF9:=Hd hfr9;have HV9:=Hd hv9;clear hown9 hfr9 hv9)))
     go_wp2_with fail
     go_roundw
     case rel =>
      refine ⟨i + 1,_,by omega,?_,by rw [HT.out,HOD.out];exact HO9.out,fun z hz => ?_,fun z hz => ?_,(HFL.out.quiet HFb.out).step HF9.out (fun z hz => ?_)⟩
      ·go_num
      ·rcases List.mem_append.1 hz with hz | hz
       ·exact HBO.out z hz
       ·exact HLV.out z (mem_toList.1 hz)
      ·rcases HV9.out z hz with h1 | h1
       ·exact HVO.out z h1
       ·exact .inr (by have:=HSZ.out;omega)
      ·rcases HVO.out z (mem_toList.1 hz) with h1 | h1
       ·exact .inl (by simp [h1])
       ·exact .inr h1
     case measure => simp [Go.RowKit.intOf];omega
   ·obtain rfl : i = d.med.length:=by omega
    have HACC : Hid (d.med.filter (fun o => !e0.old o.n) = acc):=Hd (by have:=HACC.out;rw [List.take_length] at this;exact this)
    have HF:=Hd (HF.out.step HFL.out (fun z hz => by rw [List.mem_singleton] at hz;exact .inr (by have:=HZC.out;have:=HQE.out;omega)))
    have HADD : Hid (d.add s b = { e0 with med:=acc ++ [⟨n,s,b⟩] }):=Hd (by
     unfold PkD.add
     rw [HE0.out,HNE.out,← HACC.out])
    obtain ⟨wb,eb,hFb,hBb,-⟩:=one_new wr #[.int .i64 n,.int .u16 (s.toNat : Nat),.slice av nv cv] 112
    have EB:=Hd eb
    have HOb:=Hd (HO.out.keep Rep.oneP hFb);have HSb:=Hd (one_lit (o:=⟨n,s,b⟩) hBb (Sl.keep HVB.out hFb));have HFb:=Hd hFb
    have HDJ : Hid (∀ z,blockOf (.slice ao acc.length co) = some z → z ∉ (liveOf (.slice av nv cv)).toList):=Hd (fun z hz hm => by
     have h1:=(HPV.out z (mem_toList.1 hm)).2
     have h2:=HVO.out z hz
     have h3:=HZC.out
     have h4:=HZ4.out
     omega)
    have HL1 : Hid (acc.length + 1 ≤ maxLen):=Hd (by have:=HLE.out;unfold maxLen;omega)
    have HL2 : Hid ((acc.length + 1) * 40 ≤ 140737488355328):=Hd (by have:=HLE.out;omega)
    have HSZ : Hid (w4.heap.size ≤ wb.heap.size):=Hd (Nat.le_trans HFL.out.size hFb.size)
    have HBb : Hid (B0 ≤ wb.heap.size):=Hd (by have h1:=HSZ.out;have h2:=HZ4.out;omega)
    have HLL : Hid ((acc ++ [(⟨n,s,b⟩ : PkO)]).length = acc.length + 1):=Hd (by simp)
    have HXb:=Hd (HX.out.keep hFb)
    go_upto_region 10 with fail
    clear eb hFb hBb x4
    go_upto_region 11 with (at_builtin;(rw [EB.out]);go_loud (refine wpList_append_elsN Rep.oneP (by decide) rfl (.tmp 46) (.tmp 51) 29 rfl B0 112 (.agg #[.int .i64 0,.int .u16 0,.slice none 0 0]) 40 Tryz.underlying29 info_one rfl (.slice ao acc.length co) acc Bo rfl HOb.out (some ⟨wr.heap.size,0,none⟩) 1 1 rfl [⟨n,s,b⟩] (liveOf (.slice av nv cv)).toList HSb.out HDJ.out HL1.out HL2.out HBb.out ?_;intro v9 w9 hown9 hfr9 hv9;obtain ⟨a9,c9,ev9⟩:=hown9.shape;rw [HLL.out] at ev9;subst ev9;have HX9:=Hd (HXb.out.fr hfr9 (fun hm => by have h1:=HVO.out _ (mem_toList.1 hm);have h2:=HZC.out;have h3:=HZ4.out;omega));have x4:=HX9.out.cell 4;have f4:=HX9.out.free 4;simp only [dcc,zz7,zz8,zz9] at x4;obtain ⟨w10,e10,hF10,hB10,hs10⟩:=set_new HX9.out 4 (.slice a9 (acc.length + 1) c9);have HO9:=Hd hown9;have HF9:=Hd hfr9;have HV9:=Hd hv9;have E10:=Hd e10;have HF10:=Hd hF10;have HB10:=Hd hB10;clear hown9 hfr9 hv9 e10 hF10 hB10 hs10))
    rw [E10.out]
    clear E10 x4 f4
    obtain ⟨d1,hd1⟩ : ∃ d1,d.add s b = d1:=⟨_,rfl⟩
    have HD1:=Hd hd1
    rw [hd1] at HADD
    have HX : Hid (Box w10 q 32 (dcc d1 (.slice a9 (acc.length + 1) c9) (.slice ar d.rep.length cr))):=Hd (by rw [HADD.out];exact HB10.out)
    have HVQ : Hid (∀ z ∈ (blockOf (.slice ao acc.length co)).toList,q + 2 ≤ z):=Hd (fun z hz => by
     have h1:=HVO.out z (mem_toList.1 hz)
     have h2:=HZC.out
     have h3:=HZ4.out
     omega)
    have HDR : Hid (d1.rep = d.rep ∧ d1.hi = e0.hi ∧ d1.w = d.w ∧ d1.med = acc ++ [⟨n,s,b⟩]):=Hd (by
     have h1:=HADD.out
     have h2:=HE0.out
     refine ⟨?_,?_,?_,?_⟩
     ·rw [h1,← h2];rfl
     ·rw [h1]
     ·rw [h1,← h2];rfl
     ·rw [h1])
    have HH:=Hd (((HH.out.keep HFb.out).fr HF9.out (fun z hz hm => by have:=HVQ.out z hm;have:=hz.2;omega)).fr HF10.out (fun z hz hm => by rw [List.mem_singleton] at hm;have:=hz.2;omega))
    have HG6:=Hd (((HG6.out.keep HFb.out).fr HF9.out (fun hm => by have:=HVQ.out _ hm;omega)).fr HF10.out (by simp))
    have HF : Hid (Fr [] w w10):=Hd (((HF.out.quiet HFb.out).step HF9.out (fun z hz => .inr (by have:=HVQ.out z hz;have:=HQE.out;omega))).step HF10.out (fun z hz => by rw [List.mem_singleton] at hz;exact .inr (by have:=HQE.out;omega)))
    have HDOC : Hid (DocV w10 (fun z => (P z ∨ Pv z) ∧ z < q ∨ q + 2 ≤ z) (.slice a9 (acc.length + 1) c9) (.slice ar d.rep.length cr) d1):=Hd (by
     obtain ⟨Bm,Br,h1,h2,h3,h4,h5,h6⟩:=HH.out
     have hb9 : ∀ z,blockOf (.slice a9 (acc.length + 1) c9) = some z → q + 2 ≤ z:=fun z hz => by
      rcases HV9.out z hz with k | k
      ·exact HVQ.out z (mem_toList.2 k)
      ·have k1:=HSZ.out
       have k2:=HZ4.out
       have k3:=HZC.out
       omega
     have ho:=(HO9.out.fr Rep.oneP HF10.out (fun z hz hm => by
      rw [List.mem_singleton] at hm
      rcases List.mem_append.1 hz with hz | hz
      ·have:=(HBO.out z hz).2;omega
      ·have:=(HPV.out z (mem_toList.1 hz)).2;omega) (fun z hz hm => by
      rw [List.mem_singleton] at hm
      have:=hb9 z hz
      omega)).sl
     refine ⟨_,Br,by rw [HDR.out.2.2.2];exact ho,by rw [HDR.out.1];exact h2,fun z hz => ?_,fun z hz => .inl ⟨.inl (h4 z hz).1,(h4 z hz).2⟩,fun z hz => .inr (by have:=hb9 z (live_block hz);omega),fun z hz => .inl ⟨.inl (h6 z hz).1,(h6 z hz).2⟩⟩
     rcases List.mem_append.1 hz with hz | hz
     ·exact .inl ⟨.inl (HBO.out z hz).1,(HBO.out z hz).2⟩
     ·exact .inl ⟨.inr (HPV.out z (mem_toList.1 hz)).1,(HPV.out z (mem_toList.1 hz)).2⟩)
    have HZX : Hid (q + 2 ≤ w10.heap.size):=Hd (by
     have h1:=HG6.out.lt
     omega)
    have HI1 : Hid (∀ h,d1.hi = some h → 40000 ≤ h ∧ h ≤ 4611686018427300000):=Hd (by rw [HDR.out.2.1];exact HIE.out)
    have HW1 : Hid (d1.w ≤ 64):=Hd (by rw [HDR.out.2.2.1];exact HW.out)
    have HM1 : Hid (d1.med.length ≤ 1000):=Hd (by rw [HDR.out.2.2.2];have h1:=HLE.out;simp;omega)
    have HDR1:=Hd HDR.out.1
    clear HFb HF9 HV9 HF10 HB10 HXb HX9 HO9 HO HH HVB HFL HDJ HSb HOb HL1 HL2 HSZ HBb HLL
    generalize (.slice a9 (acc.length + 1) c9 : Value) = vm1 at *
    obtain ⟨am1,nm1,cm1,rfl⟩ : ∃ a n c,vm1 = .slice a n c:=by
     obtain ⟨am',cm',-,-,h1,-⟩:=HDOC.out.shape
     exact ⟨_,_,_,h1⟩
    obtain ⟨w11,e11,hF11,hB11,hs11⟩:=one_new w10 #[] 38
    have E11:=Hd e11
    have HO : Hid (OwnEls 12 RpR w11 w10.heap.size 38 (.slice (some ⟨w10.heap.size,0,none⟩) 0 0) [] []):=Hd (by rw [← e11];exact OwnEls.made w10 w10.heap.size 38 (Nat.le_refl _))
    have HH : Hid (DocV w11 (fun z => ((P z ∨ Pv z) ∧ z < q ∨ q + 2 ≤ z) ∧ z < w10.heap.size) (.slice am1 nm1 cm1) (.slice ar d.rep.length cr) d1):=Hd ((HDOC.out.imp (P':=fun z => ((P z ∨ Pv z) ∧ z < q ∨ q + 2 ≤ z) ∧ z < w10.heap.size) (fun z hz hp => ⟨hp,hz⟩)).keep hF11)
    have HX:=Hd (HX.out.keep hF11);have HG6:=Hd (HG6.out.keep hF11);have HF:=Hd (HF.out.trans hF11)
    have HZ11 : Hid (w10.heap.size < w11.heap.size):=Hd (by omega)
    clear e11 hF11 hB11 hs11 HDOC
    go_upto_region 12 with fail
    rw [E11.out]
    clear E11
    generalize hB1 : w10.heap.size = B1' at *
    clear hB1
    have hrl:=HRL.out
    go_upto_region 13 with fail
    go_loopw [10,11] (fun ov iv wr => ∃ (i : Nat) (Bo : List Nat),i ≤ d.rep.length ∧ iv = .int .i64 i ∧ OwnEls 12 RpR wr B1' 38 ov ((d.rep.take i).filter fun x => !d1.lost x) Bo ∧ (∀ z ∈ Bo,((P z ∨ Pv z) ∧ z < q ∨ q + 2 ≤ z) ∧ z < B1') ∧ (∀ z,blockOf ov = some z → z = B1' ∨ w11.heap.size ≤ z) ∧ Fr [B1'] w11 wr) (fun _ iv _ => d.rep.length - (Go.RowKit.intOf iv).toNat)
    case atStart => exact ⟨0,[],Nat.zero_le _,rfl,HO.out,by simp,(fun z hz => by simp [blockOf] at hz;exact .inl hz.symm),Fr.refl _ _⟩
    case round =>
     clear HO
     obtain ⟨i,Bo,hi,rfl,hO,hBo,hvo,hF⟩:=hrel
     obtain ⟨ao,co,eo⟩:=hO.shape
     have HLE : Hid (((d.rep.take i).filter fun x => !d1.lost x).length ≤ 900):=Hd (by
      have h1:=List.length_filter_le (fun x : Rep_ => !d1.lost x) (d.rep.take i)
      rw [List.length_take] at h1
      omega)
     have HO:=Hd hO;have HVO:=Hd hvo;have HBO:=Hd hBo
     have HH:=Hd (HH.out.fr hF (fun z hz hm => by rw [List.mem_singleton] at hm;have:=hz.2;omega))
     have HX:=Hd (HX.out.fr hF (by have:=HZX.out;simp;omega))
     have HG6:=Hd (HG6.out.fr hF (by have:=HZX.out;simp;omega))
     have HFL:=Hd hF
     clear hO hvo hBo hF
     generalize hacc : (d.rep.take i).filter (fun x => !d1.lost x) = acc at *
     have HACC:=Hd hacc
     clear hacc
     subst eo
     have x5:=HX.out.cell 5
     simp only [dcc,zz7,zz8,zz9] at x5
     by_cases hlt : i < d.rep.length
     ·go_upto_region 15 with fail
      clear x5
      refine wp_region_T (fun w' => Fr [] wr.drew w') [] 8 #[false,false,false,false,false,false,false,false] (by kernel_rfl) rfl rfl ?_
      try simp only [List.append_eq,List.cons_append,List.nil_append]
      have hF:=(Fr.refl [] wr).drew
      have HH:=Hd (HH.out.keep hF);have HX:=Hd (HX.out.keep hF);have HO:=Hd (HO.out.keep Rep.rp hF);have HG6:=Hd (HG6.out.keep hF);have HFL:=Hd (HFL.out.quiet hF)
      clear hF
      have HSS : Hid (Fr [] wr.drew wr.drew):=Hd (Fr.refl _ _)
      generalize wr.drew = wd at *
      obtain ⟨Bm,Br,-,hm,-,hBm,-⟩:=HH.out
      rw [HDR1.out] at hm
      obtain ⟨b',o,c,y,B1,ea,-,hy,hR,hB1,hrg⟩:=hm.at_ Rep.rp hlt
      subst ea
      obtain ⟨vb3,rfl,hby,rfl⟩:=hR
      obtain ⟨a3,n3,c3,rfl⟩:=Sl.isSlice hby
      have HRG:=Hd hrg
      have HY:=Hd hy;have HBY:=Hd hby;have HLV : Hid (∀ z,liveOf (.slice a3 n3 c3) = some z → ((P z ∨ Pv z) ∧ z < q ∨ q + 2 ≤ z) ∧ z < B1'):=Hd (fun z hz => hBm z (hB1 z (mem_toList.2 hz)))
      have X5 : Hid (wd.cell? ⟨q,5,none⟩ = some (.slice (some ⟨b',o,none⟩) d.rep.length cr)):=Hd (by rw [HX.out.cell];rfl)
      clear hm hBm hy hB1 hrg hby
      refine wL 0 ?_ rfl (by kernel_rfl) (fun _ _ _ h => h) HSS.out (by rfl) ?_ ?_
      rotate_left
      ·intro w' hSw;refine run_load_row 32 (.tmp 3) ?_ q ?_ 32 _ _ (HX.out.keep hSw) Tryz.underlying32 rfl (by kernel_rfl) <;> rfl
      simp only [Act.put,zz1,zz2,zz3,zz4,zz5,zz6]
      refine wL 1 ?_ rfl (by kernel_rfl) (fun _ _ _ h => h) HSS.out (by rfl) ?_ ?_
      rotate_left
      ·intro w hSw;have n0:=hSw.cellSome X5.out (by simp);go_simp;try with_reducible rfl
      simp only [Act.put,zz1,zz2,zz3,zz4,zz5,zz6]
      refine wL 2 ?_ rfl (by kernel_rfl) (fun _ _ _ h => h) HSS.out (by rfl) ?_ ?_
      rotate_left
      ·intro w hSw;have n0:=hSw.cellSome X5.out (by simp);go_simp;try with_reducible rfl
      simp only [Act.put,zz1,zz2,zz3,zz4,zz5,zz6]
      refine wL 3 ?_ rfl (by kernel_rfl) (fun _ _ _ h => h) HSS.out (by rfl) ?_ ?_
      rotate_left
      ·intro w hSw;have n0:=hSw.cellSome X5.out (by simp);go_simp;try with_reducible rfl
      simp only [Act.put,zz1,zz2,zz3,zz4,zz5,zz6]
      refine wL 4 ?_ rfl (by kernel_rfl) (fun _ _ _ h => h) HSS.out (by rfl) ?_ ?_
      rotate_left
      ·intro w hSw;have n0:=hSw.cellSome X5.out (by simp);go_simp;try with_reducible rfl
      simp only [Act.put,zz1,zz2,zz3,zz4,zz5,zz6]
      refine wL 5 ?_ rfl (by kernel_rfl) (fun _ _ _ h => h) HSS.out (by rfl) ?_ ?_
      rotate_left
      ·intro w' hSw;refine run_load_mid_ask 38 (.tmp 66) ?_ b' (o + i * 12) ?_ (rpc y (.slice a3 n3 c3)) _ (fr_rngB hSw HRG.out (by simp)) Tryz.underlying38 rfl (by kernel_rfl) <;> rfl
      simp only [Act.put,zz1,zz2,zz3,zz4,zz5,zz6]
      refine wpAnyT_one (i:=6) (by kernel_rfl) rfl (fun K hK => ?_)
      rw [if_pos (by rfl)]
      go_simp
      refine (r16lost_any HH.out HI1.out HM1.out HW1.out y a3 n3 c3 HBY.out).mono ?_
      rintro e wq ⟨rfl,hF⟩
      have HSS:=Hd (HSS.out.trans hF);have HRG:=Hd (fr_rngB hF HRG.out (by simp));have HBY:=Hd (Sl.keep HBY.out hF)
      have HH:=Hd (HH.out.keep hF);have HX:=Hd (HX.out.keep hF);have HO:=Hd (HO.out.keep Rep.rp hF);have HG6:=Hd (HG6.out.keep hF);have HFL:=Hd (HFL.out.quiet hF)
      clear hF
      go_simp
      refine hK.out _ _ (fun _ => HSS.out) ?_
      clear hK K
      simp only [Act.put,zz1,zz2,zz3,zz4,zz5,zz6]
      refine wL 7 ?_ rfl (by kernel_rfl) (fun _ _ _ h => h) HSS.out (by rfl) ?_ ?_
      rotate_left
      ·intro w hSw;go_simp;try with_reducible rfl
      simp only [Act.put,zz1,zz2,zz3,zz4,zz5,zz6]
      refine wpAnyT_done (by kernel_rfl) ?_ _
      clear HSS X5
      have HT : Hid ((d.rep.take (i + 1)).filter (fun x => !d1.lost x) = acc ++ (if !d1.lost y then [y] else [])):=Hd (by rw [filter_take HY.out,HACC.out])
      cases ho : d1.lost y
      rotate_left
      ·have HOD:=Hd ho
       clear ho
       go_wp2_with fail
       go_roundw
       case rel => refine ⟨i + 1,Bo,by omega,?_,by rw [HT.out,HOD.out];simpa using HO.out,HBO.out,HVO.out,HFL.out⟩;go_num
       case measure => simp [Go.RowKit.intOf];omega
      ·have HOD:=Hd ho
       clear ho
       have x5:=HX.out.cell 5
       simp only [dcc,zz7,zz8,zz9] at x5
       obtain ⟨wb,eb,hFb,hBb,-⟩:=one_new wq (rpc y (.slice a3 n3 c3)) 38
       have EB:=Hd eb
       have HOb:=Hd (HO.out.keep Rep.rp hFb);have HSb:=Hd (rep_lit hBb (Sl.keep HBY.out hFb));have HFb:=Hd hFb
       have HDJ : Hid (∀ z,blockOf (.slice ao acc.length co) = some z → z ∉ (liveOf (.slice a3 n3 c3)).toList):=Hd (fun z hz hm => by
        have h1:=(HLV.out z (mem_toList.1 hm)).2
        have h2:=HVO.out z hz
        have h4:=HZ11.out
        omega)
       have HL1 : Hid (acc.length + 1 ≤ maxLen):=Hd (by have:=HLE.out;unfold maxLen;omega)
       have HL2 : Hid ((acc.length + 1) * 56 ≤ 140737488355328):=Hd (by have:=HLE.out;omega)
       have HSZ : Hid (w11.heap.size ≤ wb.heap.size):=Hd (Nat.le_trans HFL.out.size hFb.size)
       have HBb : Hid (B1' ≤ wb.heap.size):=Hd (by have h1:=HSZ.out;have h2:=HZ11.out;omega)
       clear eb hFb hBb
       go_upto_region 14 with (first | (refine wpList_load_midA rfl 38 (.tmp 74) rfl b' (o + i * 12) rfl (rpc y (.slice a3 n3 c3)) _ HRG.out Tryz.underlying38 rfl (by kernel_rfl) ?_) | (at_builtin;(rw [EB.out]);go_loud (refine wpList_append_elsN Rep.rp (by decide) rfl (.tmp 70) (.tmp 76) 30 rfl B1' 38 (.agg #[.int .u8 0,.int .u8 0,.int .u8 0,.int .u8 0,.int .u8 0,.int .u8 0,.int .u8 0,.int .u8 0,.int .u16 0,.int .u64 0,.int .u64 0,.slice none 0 0]) 56 Tryz.underlying30 info_rep rfl (.slice ao acc.length co) acc Bo rfl HOb.out (some ⟨wq.heap.size,0,none⟩) 1 1 rfl [y] (liveOf (.slice a3 n3 c3)).toList HSb.out HDJ.out HL1.out HL2.out HBb.out ?_;intro v9 w9 hown9 hfr9 hv9;have HO9:=Hd hown9;have HF9:=Hd hfr9;have HV9:=Hd hv9;clear hown9 hfr9 hv9)))
       go_wp2_with fail
       go_roundw
       case rel =>
        refine ⟨i + 1,_,by omega,?_,by rw [HT.out,HOD.out];exact HO9.out,fun z hz => ?_,fun z hz => ?_,(HFL.out.quiet HFb.out).step HF9.out (fun z hz => ?_)⟩
        ·go_num
        ·rcases List.mem_append.1 hz with hz | hz
         ·exact HBO.out z hz
         ·exact HLV.out z (mem_toList.1 hz)
        ·rcases HV9.out z hz with h1 | h1
         ·exact HVO.out z h1
         ·exact .inr (by have:=HSZ.out;omega)
        ·rcases HVO.out z (mem_toList.1 hz) with h1 | h1
         ·exact .inl (by simp [h1])
         ·exact .inr h1
       case measure => simp [Go.RowKit.intOf];omega
     ·obtain rfl : i = d.rep.length:=by omega
      have HACC : Hid (d.rep.filter (fun x => !d1.lost x) = acc):=Hd (by have:=HACC.out;rw [List.take_length] at this;exact this)
      have HF:=Hd (HF.out.step HFL.out (fun z hz => by rw [List.mem_singleton] at hz;exact .inr (by have:=HZX.out;have:=HQE.out;omega)))
      have HPUT : Hid (d.put s b = { d1 with rep:=acc }):=Hd (by
       unfold PkD.put PkD.keepR
       rw [HD1.out,← HACC.out])
      go_upto_region 17 with fail
      clear x5
      have x5:=HX.out.cell 5
      have f5:=HX.out.free 5
      simp only [dcc,zz7,zz8,zz9] at x5
      obtain ⟨w12,e12,hF12,hB12,hs12⟩:=set_new HX.out 5 (.slice ao acc.length co)
      have E12:=Hd e12;have HF12:=Hd hF12;have HB12 : Hid (Box w12 q 32 (dcc (d.put s b) (.slice am1 nm1 cm1) (.slice ao acc.length co))):=Hd (by rw [HPUT.out];exact hB12)
      have HG6:=Hd (HG6.out.fr hF12 (by simp))
      clear e12 hF12 hB12 hs12
      go_upto_region 18 with fail
      rw [E12.out]
      clear E12 x5 f5
      go_wp2_with (first | (refine wpList_load_row_w rfl 32 (.tmp 3) rfl q rfl 32 _ _ HB12.out Tryz.underlying32 rfl (by kernel_rfl) ?_) | (refine wpList_store_row rfl 32 (.tmp 6) (.tmp 80) rfl (q + 1) rfl _ (dcc (d.put s b) (.slice am1 nm1 cm1) (.slice ao acc.length co)) rfl 32 HG6.out (by kernel_rfl) rfl (oD _ _ _ _ _ _ _) ?_;intro w13 hY hG;have HY13:=Hd hY;have HG13:=Hd hG;clear hY hG))
      refine bodyPost_ret (results_cell_row rfl _ _ (q + 1) 32 _ (0,0) _ rfl HY13.out Tryz.underlying32 rfl (by kernel_rfl)) rfl ⟨_,rfl,⟨_,_,rfl,?_⟩,(HF.out.step HF12.out (fun z hz => by rw [List.mem_singleton] at hz;exact .inr (by have:=HQE.out;omega))).step HG13.out (fun z hz => by rw [List.mem_singleton] at hz;exact .inr (by have:=HQE.out;omega))⟩
      have hHQ:=HQE.out
      have hvb : ∀ z,blockOf (.slice ao acc.length co) = some z → q + 2 ≤ z:=fun z hz => by
       have h1:=HVO.out z hz
       have h2:=HZX.out
       have h3:=HZ11.out
       omega
      have hsz : w.heap.size = q:=hHQ
      obtain ⟨Bm,Br,h1,-,h3,-,h5,-⟩:=HH.out
      have hx12:=HF12.out
      have hx13:=HG13.out
      refine ⟨Bm,Bo,?_,?_,fun z hz => ?_,fun z hz => ?_,fun z hz => ?_,fun z hz => ?_⟩
      ·rw [HPUT.out]
       exact (h1.fr Rep.oneP hx12 (fun z hz hm => by rw [List.mem_singleton] at hm;have:=h3 z hz;omega) (fun z hz hm => by rw [List.mem_singleton] at hm;have:=h5 z hz;omega)).fr Rep.oneP hx13 (fun z hz hm => by rw [List.mem_singleton] at hm;have:=h3 z hz;omega) (fun z hz hm => by rw [List.mem_singleton] at hm;have:=h5 z hz;omega)
      ·rw [HPUT.out]
       exact ((HO.out.fr Rep.rp hx12 (fun z hz hm => by rw [List.mem_singleton] at hm;have:=HBO.out z hz;omega) (fun z hz hm => by rw [List.mem_singleton] at hm;have:=hvb z hz;omega)).fr Rep.rp hx13 (fun z hz hm => by rw [List.mem_singleton] at hm;have:=HBO.out z hz;omega) (fun z hz hm => by rw [List.mem_singleton] at hm;have:=hvb z hz;omega)).sl
      ·rcases (h3 z hz).1 with ⟨k | k,-⟩ | k
       ·exact .inl k
       ·exact .inr (.inl k)
       ·exact .inr (.inr (by omega))
      ·rcases (HBO.out z hz).1 with ⟨k | k,-⟩ | k
       ·exact .inl k
       ·exact .inr (.inl k)
       ·exact .inr (.inr (by omega))
      ·rcases (h5 z hz).1 with ⟨k | k,-⟩ | k
       ·exact .inl k
       ·exact .inr (.inl k)
       ·exact .inr (.inr (by omega))
      ·have:=hvb z (live_block hz)
       exact .inr (.inr (by omega))
end Go.Proofs.YtcngfbjmpemehaaGreat
