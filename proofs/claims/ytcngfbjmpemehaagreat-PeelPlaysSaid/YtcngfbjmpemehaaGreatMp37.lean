import Derived.BigQuiet
import Derived.Test.YtcngfbjmpemehaaGreatMp35
import Derived.Test.YtcngfbjmpemehaaGreatMp15
import Derived.Test.YtcngfbjmpemehaaGreatMp23
set_option maxRecDepth 100000
set_option maxHeartbeats 16000000
open List renaming getElem_toArray → zz1, getElem_cons_zero → zz2, getElem_cons_succ → zz3, setIfInBounds_toArray → zz4, set_cons_zero → zz5, set_cons_succ → zz6, getElem?_toArray → zz7, getElem?_cons_succ → zz8, getElem?_cons_zero → zz9
open Go.Lib renaming hid → Hd
/- The walks of peel's round and tell (printed by gen_pk12.py). -/
namespace Go.Proofs.YtcngfbjmpemehaaGreat
open Go.RowKit Go.Maps

theorem info_got : (Tryz.prog.info? 52).map (fun i => (i.zero,i.size,i.bytes)) = some (some (.agg #[.int .u16 0,.slice none 0 0,.bool false]),3,40):=by kernel_rfl
theorem PkW.growS {w w' : World} {base : Nat} {own no new S : List Nat} {g mb : Nat} {d : PkD} {hs : List (Rep_ × Int)} {turn : Int} (h : PkW w base own no g mb d hs turn) (hf : Fr S w w') (h1 : ∀ s ∈ S,s ∉ own) (h2 : ∀ s ∈ S,s ∈ no ∨ s < base) (hn : ∀ b ∈ new,w.heap.size ≤ b ∧ b < w'.heap.size) : PkW w' base own (new ++ no) g mb d hs turn:=by
 obtain ⟨⟨vr,B,D,hB,hO,hM,hv,hBB⟩,q1,q2,q3,q4,q5,q6⟩:=h
 have hBl : ∀ b ∈ B,b < w.heap.size:=hO.lt Rep.held
 refine ⟨⟨vr,B,D,hB.fr hf (fun hm => h1 _ hm q2),hO.fr Rep.held hf (fun b hb hm => ?_) (fun b hb hm => h1 _ hm (hv b hb).1),(hM.more (no':=new ++ no) (fun y hy => ?_)).fr hf (fun hm => h1 _ hm q3) (fun s hs => (h2 s hs).imp (fun x => List.mem_append_right _ x) id),hv,fun b hb => ⟨(hBB b hb).1,fun hm => ?_⟩⟩,fun b hb => List.mem_append_right _ (q1 b hb),q2,q3,q4,Nat.le_trans q5 hf.size,fun b hb => ?_⟩
 ·rcases h2 b hm with h3 | h3
  ·exact (hBB b hb).2 h3
  ·have:=(hBB b hb).1;omega
 ·rcases List.mem_append.1 hy with hy | hy
  ·exact .inr (.inl (hn y hy).1)
  ·exact .inl hy
 ·have:=hBl b hb
  rcases List.mem_append.1 hm with hm | hm
  ·have:=(hn b hm).1;omega
  ·exact (hBB b hb).2 hm
 ·rcases List.mem_append.1 hb with hb | hb
  ·exact (hn b hb).2
  ·exact Nat.lt_of_lt_of_le (q6 b hb) hf.size
def RSt (w : World) (Q base : Nat) (own no : List Nat) (g mb N : Nat) (turn : Int) (d : PkD) (hs : List (Rep_ × Int)) (outs : List (UInt16 × List UInt8)) (vo : Value) (wr : World) : Prop :=
 ∃ Bo no',PkP d hs turn N ∧ PkW wr base own no' g mb d hs turn ∧ OwnEls 3 GotR wr Q 52 vo (outs.map toldT) Bo ∧ (∀ b ∈ Bo,w.heap.size ≤ b ∧ b ∈ no') ∧ (∀ b,blockOf vo = some b → b ∈ no') ∧ (∀ b ∈ no,b ∈ no') ∧ Fr own w wr ∧ Q ≤ wr.heap.size ∧ w.heap.size ≤ Q
theorem RSt.next {w wr w3 w4 : World} {Q base : Nat} {own no no2 : List Nat} {g mb N : Nat} {turn : Int} {d2 : PkD} {hs2 : List (Rep_ × Int)} {outs more : List (UInt16 × List UInt8)} {vo vo' : Value} {Bo Ba no3 : List Nat} 
  (hlt : ∀ b ∈ own,b < w.heap.size) (hQ : w.heap.size ≤ Q) (hQr : Q ≤ wr.heap.size) (hno : ∀ b ∈ no,b ∈ no2) (hFw : Fr own w wr) (hBo : ∀ b ∈ Bo,w.heap.size ≤ b ∧ b ∈ no2) (hvo : ∀ b,blockOf vo = some b → Q ≤ b ∧ b ∈ no2)
  (hp : PkP d2 hs2 turn N) (hW : PkW w3 base own no3 g mb d2 hs2 turn) (hBa : ∀ b ∈ Ba,wr.heap.size ≤ b ∧ b ∈ no3) (hn3 : ∀ b ∈ no2,b ∈ no3) (hF3 : Fr own wr w3)
  (hO : OwnEls 3 GotR w4 Q 52 vo' ((outs.map toldT) ++ more.map toldT) (Bo ++ Ba)) (hF4 : Fr (blockOf vo).toList w3 w4) (hv' : ∀ b,blockOf vo' = some b → blockOf vo = some b ∨ w3.heap.size ≤ b) :
  RSt w Q base own no g mb N turn d2 hs2 (outs ++ more) vo' w4:=by
 have hnew : ∀ b ∈ (blockOf vo').toList.filter (fun b => decide (w3.heap.size ≤ b)),w3.heap.size ≤ b ∧ b < w4.heap.size:=fun b hb => by
  obtain ⟨h1,h2⟩:=List.mem_filter.1 hb
  exact ⟨by simpa using h2,(hO.block b (mem_toList.1 h1)).2⟩
 have hW4:=hW.growS hF4 (fun s hs hm => by
  have h1:=(hvo s (mem_toList.1 hs)).1
  have h2:=hlt s hm
  omega) (fun s hs => .inl (hn3 _ (hvo s (mem_toList.1 hs)).2)) hnew
 refine ⟨Bo ++ Ba,_,hp,hW4,by rw [List.map_append];exact hO,fun b hb => ?_,fun b hb => ?_,fun b hb => List.mem_append_right _ (hn3 b (hno b hb)),?_,?_,hQ⟩
 ·rcases List.mem_append.1 hb with hb | hb
  ·exact ⟨(hBo b hb).1,List.mem_append_right _ (hn3 b (hBo b hb).2)⟩
  ·exact ⟨by have:=(hBa b hb).1;omega,List.mem_append_right _ (hBa b hb).2⟩
 ·rcases hv' b hb with h1 | h1
  ·exact List.mem_append_right _ (hn3 b (hvo b h1).2)
  ·exact List.mem_append_left _ (List.mem_filter.2 ⟨mem_toList.2 hb,by simpa using h1⟩)
 ·exact (hFw.trans hF3).step hF4 (fun x hx => .inr (by have:=(hvo x (mem_toList.1 hx)).1;omega))
 ·exact Nat.le_trans hQr (Nat.le_trans hF3.size hF4.size)
theorem RSt.keep {w wr w' : World} {Q base : Nat} {own no : List Nat} {g mb N : Nat} {turn : Int} {d : PkD} {hs : List (Rep_ × Int)} {outs : List (UInt16 × List UInt8)} {vo : Value} (h : RSt w Q base own no g mb N turn d hs outs vo wr) (hf : Fr [] wr w') : RSt w Q base own no g mb N turn d hs outs vo w':=by
 obtain ⟨Bo,no',h1,h2,h3,h4,h5,h6,h7,h8,h9⟩:=h
 exact ⟨Bo,no',h1,h2.keep hf,h3.keep Rep.got hf,h4,h5,h6,h7.quiet hf,Nat.le_trans h8 hf.size,h9⟩
theorem pkRound_any {w : World} {base : Nat} {own no : List Nat} {g mb N : Nat} {d : PkD} {hs : List (Rep_ × Int)} {turn : Int} (h : PkW w base own no g mb d hs turn) (hp : PkP d hs turn N) (hN : N < 1000000) :
  Calls Tryz.prog 84 #[.pointer (some ⟨g,0,none⟩)] w fun e w' => ∃ v,e = .returned v ∧ (∃ hs' Q,RSt w Q base own no g mb N turn d.round.1 hs' d.round.2 v w'):=by
 have HP:=Hd hp;have HH:=Hd h
 obtain ⟨vr,B,D,hB,hO,hM,hv,hBB⟩:=h.ex
 obtain ⟨a,c,rfl⟩:=hO.shape
 have x6:=hB.cell 6
 simp only [pkc,zz7,zz8,zz9] at x6
 have HS:=Hd hO.sl
 have HBB:=Hd hBB
 have HL : Hid (hs.length ≤ 1000):=Hd (by have:=hp.len;have:=hp.r;omega)
 have HNL : Hid (∀ b ∈ no,b < w.heap.size):=Hd h.lt
 clear h hp hB hO hM hv hBB
 go_enter Tryz.func84,Tryz.ntmps84
 go_wp2_with fail
 refine (cloneHeld_any HS.out HL.out).mono ?_
 rintro e w1 ⟨v1,rfl,h1,hF⟩
 obtain ⟨a1,c1,rfl⟩:=h1.shape
 have HC:=Hd h1;have HF:=Hd hF
 have HRS : Hid (RSt w1 w1.heap.size base own no g mb N turn d hs [] (.slice none 0 0) w1):=Hd ⟨[],no,HP.out,HH.out.keep hF,OwnEls.nil _ _ _,by simp,(fun b hb => by cases hb),fun b hb => hb,Fr.refl _ _,Nat.le_refl _,Nat.le_refl _⟩
 have HRI:=Hd (RInvP.start d hs)
 have hln:=HL.out
 have HNL : Hid (∀ b ∈ no,b < w1.heap.size):=Hd (fun b hb => Nat.lt_of_lt_of_le (HNL.out b hb) hF.size)
 have HCB : Hid (∀ b,blockOf (.slice a1 hs.length c1) = some b → w.heap.size ≤ b ∧ b ∉ own):=Hd (fun b hb => ⟨(h1.block b hb).1,fun hm => by
  have h2:=(h1.block b hb).1
  have h3:=HH.out.lt b (HH.out.sub b hm)
  omega⟩)
 have HND : Hid ((hs.map Prod.snd).Nodup):=Hd HP.out.nodup
 clear h1 hF x6 HS
 go_upto_region 3 with fail
 generalize hQ : w1.heap.size = Q at *
 have HQE:=Hd hQ
 clear hQ
 go_loopw [3,12] (fun ov iv wr => ∃ (i : Nat) (d' : PkD) (hs' : List (Rep_ × Int)) (outs : List (UInt16 × List UInt8)),iv = .int .i64 i ∧ i ≤ hs.length ∧ outs.length ≤ i ∧ RInvP d hs i d' hs' outs ∧ RSt w1 Q base own no g mb N turn d' hs' outs ov wr) (fun _ iv _ => hs.length - (Go.RowKit.intOf iv).toNat)
 case atStart => exact ⟨0,d,hs,[],rfl,Nat.zero_le _,Nat.zero_le _,HRI.out,HRS.out⟩
 case round =>
  clear HRI HRS
  obtain ⟨i,d',hs',outs,rfl,hi,hoi,hri,hrs⟩:=hrel
  have HRI:=Hd hri;have HRS:=Hd hrs
  clear hri hrs
  obtain ⟨Bo,no2,hp2,hW2,hO2,hBo,hvo,hno,hFw,hQr,hQ⟩:=HRS.out
  obtain ⟨ao,co,rfl⟩:=hO2.shape
  rw [List.length_map] at hO2 hvo HRS
  rw [List.length_map]
  have HP2:=Hd hp2;have HW2:=Hd hW2;have HO2:=Hd hO2;have HBO:=Hd hBo;have HVO : Hid (∀ b,blockOf (.slice ao outs.length co) = some b → Q ≤ b ∧ b ∈ no2):=Hd (fun b hb => ⟨(hO2.block b hb).1,hvo b hb⟩);have HNO:=Hd hno;have HFW:=Hd hFw;have HQR:=Hd hQr
  clear hp2 hW2 hO2 hBo hvo hno hFw hQr hQ
  by_cases hlt : i < hs.length
  ·have HSW : Hid (SlEls 13 HdR wr (.slice a1 hs.length c1) hs B):=Hd (SlEls.fr Rep.held HC.out.sl HFW.out (fun b hb hm => (HBB.out b hb).2 (HH.out.sub b hm)) (fun b hb => (HCB.out b (live_block hb)).2))
   obtain ⟨b,o,ca,y,B1,ea,hsz,hy,hR,hB1,hrg⟩:=HSW.out.ca (i:=i) hlt
   subst ea
   obtain ⟨a3,n3,c3,rfl,hby,-⟩:=hR.lit
   have HRG:=Hd hrg;have HY:=Hd hy;have HBY:=Hd hby
   clear hsz hR hB1 hrg hy hby
   go_upto_region 5 with (first | (refine wpList_load_midA rfl 144 (.tmp 14) rfl b (o + i * 13) rfl (hdc y (.slice a3 n3 c3)) _ HRG.out Tryz.underlying144 rfl (by kernel_rfl) ?_) | (refine wpList_store_row rfl 144 (.tmp 5) (.tmp 15) rfl wr.heap.size rfl #[.int .u8 0,.int .u8 0,.int .u8 0,.int .u8 0,.int .u8 0,.int .u8 0,.int .u8 0,.int .u8 0,.int .u16 0,.int .u64 0,.int .u64 0,.slice none 0 0,.int .i64 0] (hdc y (.slice a3 n3 c3)) rfl 144 (Box.new wr 144 #[.int .u8 0,.int .u8 0,.int .u8 0,.int .u8 0,.int .u8 0,.int .u8 0,.int .u8 0,.int .u8 0,.int .u16 0,.int .u64 0,.int .u64 0,.slice none 0 0,.int .i64 0]) (by kernel_rfl) rfl (by simp [Value.oneCell']) ?_;intro w3 hY hG;have hFn:=((Fr.refl [] wr).alloc _).step hG (by simp);have HFn:=Hd hFn;have HYB:=Hd hY;clear hG hFn hY))
   generalize hX : wr.heap.size = X at *
   have HXE:=Hd hX
   clear hX
   have HW2:=Hd (HW2.out.keep HFn.out);have HO2:=Hd (HO2.out.keep Rep.got HFn.out);have HFW:=Hd (HFW.out.quiet HFn.out);have HBY:=Hd (Sl.keep HBY.out HFn.out);have HRS:=Hd (HRS.out.keep HFn.out)
   have HQR : Hid (Q ≤ w3.heap.size):=Hd (by have:=HQR.out;have:=HFn.out.size;have:=HXE.out;omega)
   have HL2 : Hid (hs'.length ≤ 1000):=Hd (by have:=HP2.out.len;have:=HP2.out.r;omega)
   have x12:=HYB.out.cell 12
   simp only [hdc,zz7,zz8,zz9] at x12
   clear HFn HRG HSW
   go_wp2_with fail
   refine (pkGone_any HW2.out HL2.out y.2).mono ?_
   rintro e w4 ⟨rfl,hF⟩
   have HW2:=Hd (HW2.out.keep hF);have HO2:=Hd (HO2.out.keep Rep.got hF);have HFW:=Hd (HFW.out.quiet hF);have HBY:=Hd (Sl.keep HBY.out hF);have HRS:=Hd (HRS.out.keep hF);have HYB:=Hd (HYB.out.keep hF)
   have HQR : Hid (Q ≤ w4.heap.size):=Hd (Nat.le_trans HQR.out hF.size)
   clear hF x12
   cases hg : (hs'.any fun x => x.2 == y.2)
   ·have HRI:=Hd (HRI.out.gone HY.out hg)
    clear hg
    go_wp2_with fail
    go_roundw
    case rel => exact ⟨i + 1,d',hs',outs,by go_num,by omega,by omega,HRI.out,HRS.out⟩
    case measure => simp [Go.RowKit.intOf];omega
   ·obtain ⟨hym,more,hml,hme,hri⟩:=HRI.out.ask HND.out HY.out hg
    have HYM:=Hd hym;have HME:=Hd hme;have HRI:=Hd hri
    clear hg hym hme hri
    go_upto_region 6 with fail
    clear HRS
    go_wp2_with (first | (refine wpList_load_row_w rfl 144 (.tmp 5) rfl X rfl 144 _ _ HYB.out Tryz.underlying144 rfl (by kernel_rfl) ?_))
    refine (pkAsk_any HW2.out HP2.out hN HYM.out HBY.out).mono ?_
    rintro e w5 ⟨va,rfl,⟨Ba,no3,hW3,hSa,hBa,hva,hn3⟩,hp3,hF⟩
    rw [HME.out] at hSa
    obtain ⟨aa,caa,rfl⟩:=hSa.shape
    rw [List.length_map] at hSa hva
    rw [List.length_map]
    have HO5:=Hd (HO2.out.fr Rep.got hF (fun b hb hm => by
     have h1:=(HBO.out b hb).1
     have h2:=HNL.out b (HH.out.sub b hm)
     have h3:=HQE.out
     omega) (fun b hb hm => by
     have h1:=(HVO.out b hb).1
     have h2:=HNL.out b (HH.out.sub b hm)
     omega))
    have HSA:=Hd hSa
    have HDJ : Hid (∀ b,blockOf (.slice ao outs.length co) = some b → b ∉ Ba):=Hd (fun b hb hm => by
     have h1:=(HO2.out.block b hb).2
     have h2:=(hBa b hm).1
     omega)
    have HL1 : Hid ((outs.map toldT).length + more.length ≤ maxLen):=Hd (by rw [List.length_map];unfold maxLen;omega)
    have HL3 : Hid (((outs.map toldT).length + more.length) * 40 ≤ 140737488355328):=Hd (by rw [List.length_map];omega)
    have HQ5 : Hid (Q ≤ w5.heap.size):=Hd (Nat.le_trans HQR.out hF.size)
    have HLT1 : Hid (∀ b ∈ own,b < w1.heap.size):=Hd (fun b hb => by have:=HNL.out b (HH.out.sub b hb);have:=HQE.out;omega)
    have HW3:=Hd hW3;have HBA:=Hd hBa;have HN3:=Hd hn3;have HP3:=Hd hp3;have HF3:=Hd hF
    have HO5 : Hid (OwnEls 3 GotR w5 Q 52 (.slice ao outs.length co) (outs.map toldT) Bo):=HO5
    clear hSa hBa hva hn3 hp3 hF hW3
    go_upto_region 7 with (at_builtin;go_loud (refine wpList_append_elsN Rep.got (by decide) rfl (.tmp 21) (.tmp 24) 41 rfl Q 52 (.agg #[.int .u16 0,.slice none 0 0,.bool false]) 40 Tryz.underlying41 info_got rfl (.slice ao outs.length co) (outs.map toldT) Bo rfl HO5.out aa more.length caa rfl (more.map toldT) Ba HSA.out HDJ.out HL1.out HL3.out HQ5.out ?_;intro v6 w6 hown6 hfr6 hv6;have HRS6:=Hd (RSt.next HLT1.out (Nat.le_of_eq HQE.out) HQR.out HNO.out HFW.out HBO.out HVO.out HP3.out HW3.out HBA.out HN3.out HF3.out hown6 hfr6 hv6);clear hown6 hfr6 hv6))
    go_wp2_with fail
    go_roundw
    case rel => exact ⟨i + 1,_,_,outs ++ more,by go_num,by omega,by rw [List.length_append];omega,HRI.out,HRS6.out⟩
    case measure => simp [Go.RowKit.intOf];omega
  ·obtain rfl : i = hs.length:=by omega
   have HR:=Hd (HRI.out.done HP2.out.rep HP.out.rep)
   go_wp2_with fail
   go_ret
   rw [HR.out]
   obtain ⟨Bo,no3,k1,k2,k3,k4,k5,k6,k7,k8,k9⟩:=HRS.out
   exact ⟨_,rfl,hs',Q,Bo,no3,k1,k2,k3,fun b hb => ⟨by have:=(k4 b hb).1;have:=HF.out.size;omega,(k4 b hb).2⟩,k5,k6,HF.out.any.trans k7,k8,by have:=HF.out.size;have:=HQE.out;omega⟩
end Go.Proofs.YtcngfbjmpemehaaGreat

/- The walk of peel's tell (printed by gen_pk13.py). -/
namespace Go.Proofs.YtcngfbjmpemehaaGreat
open Go.RowKit Go.Maps

def lenOf : Option Value → Nat
 | some (.slice _ n _) => n
 | _ => 0
theorem PkW.len6 {w : World} {base : Nat} {own no : List Nat} {g mb : Nat} {d : PkD} {hs : List (Rep_ × Int)} {turn : Int} (h : PkW w base own no g mb d hs turn) : lenOf (w.cell? ⟨g,6,none⟩) = hs.length:=by
 obtain ⟨vr,B,D,hB,hO,-⟩:=h.ex
 obtain ⟨a,c,rfl⟩:=hO.shape
 rw [hB.cell]
 rfl
theorem RSt.len6 {w wr : World} {Q base : Nat} {own no : List Nat} {g mb N : Nat} {turn : Int} {d : PkD} {hs : List (Rep_ × Int)} {outs : List (UInt16 × List UInt8)} {vo : Value} (h : RSt w Q base own no g mb N turn d hs outs vo wr) : lenOf (wr.cell? ⟨g,6,none⟩) = hs.length:=by
 obtain ⟨Bo,no',h1,h2,-⟩:=h
 exact h2.len6
theorem pkTell_any {w : World} {base : Nat} {own no : List Nat} {g mb N : Nat} {d : PkD} {hs : List (Rep_ × Int)} {turn : Int} (h : PkW w base own no g mb d hs turn) (hp : PkP d hs turn N) (hN : N < 1000000) :
  Calls Tryz.prog 59 #[.pointer (some ⟨g,0,none⟩)] w fun e w' => ∃ v,e = .returned v ∧ (∃ hs',RSt w w.heap.size base own no g mb N turn d.tell.1 hs' d.tell.2 v w'):=by
 have HRS : Hid (RSt w w.heap.size base own no g mb N turn d hs [] (.slice none 0 0) w):=Hd ⟨[],no,hp,h,OwnEls.nil _ _ _,by simp,(fun b hb => by cases hb),fun b hb => hb,Fr.refl _ _,Nat.le_refl _,Nat.le_refl _⟩
 have HL : Hid (hs.length ≤ 1000):=Hd (by have:=hp.len;have:=hp.r;omega)
 have HLT1 : Hid (∀ b ∈ own,b < w.heap.size):=Hd (fun b hb => h.lt b (h.sub b hb))
 have HTE : Hid (tellR d [] = d.tell):=Hd rfl
 clear h hp
 go_enter Tryz.func59,Tryz.ntmps59
 go_upto_region 2 with fail
 go_loopw [3] (fun ov wr => ∃ (d' : PkD) (hs' : List (Rep_ × Int)) (outs : List (UInt16 × List UInt8)),tellR d' outs = d.tell ∧ outs.length + hs'.length ≤ hs.length ∧ RSt w w.heap.size base own no g mb N turn d' hs' outs ov wr) (fun _ wr => lenOf (wr.cell? ⟨g,6,none⟩))
 case atStart => exact ⟨d,hs,[],HTE.out,by simp,HRS.out⟩
 case round =>
  clear HRS
  obtain ⟨d',hs',outs,hte,hol,hrs⟩:=hrel
  have HTE:=Hd hte;have HRS:=Hd hrs;have HOL:=Hd hol
  clear hte hrs hol
  obtain ⟨Bo,no2,hp2,hW2,hO2,hBo,hvo,hno,hFw,hQr,hQ⟩:=HRS.out
  obtain ⟨ao,co,rfl⟩:=hO2.shape
  rw [List.length_map] at hO2 hvo HRS
  rw [List.length_map]
  have HM:=Hd HRS.out.len6
  have HP2:=Hd hp2;have HW2:=Hd hW2;have HO2:=Hd hO2;have HBO:=Hd hBo;have HVO : Hid (∀ b,blockOf (.slice ao outs.length co) = some b → w.heap.size ≤ b ∧ b ∈ no2):=Hd (fun b hb => ⟨(hO2.block b hb).1,hvo b hb⟩);have HNO:=Hd hno;have HFW:=Hd hFw;have HQR:=Hd hQr
  clear hp2 hW2 hO2 hBo hvo hno hFw hQr hQ
  go_wp2_with fail
  refine (pkRound_any HW2.out HP2.out hN).mono ?_
  rintro e w5 ⟨va,rfl,hs3,Q3,Ba,no3,hp3,hW3,hSa,hBa,hva,hn3,hF,hQ3,hwQ⟩
  obtain ⟨aa,caa,rfl⟩:=hSa.shape
  rw [List.length_map] at hSa hva
  rw [List.length_map]
  have HRL : Hid (hs3.length + d'.round.2.length ≤ hs'.length):=Hd (by
   have h1:=round_len d'
   rw [hp3.rep,HP2.out.rep,List.length_map,List.length_map] at h1
   exact h1)
  have HSA:=Hd hSa.sl;have HW3:=Hd hW3;have HBA:=Hd hBa;have HN3:=Hd hn3;have HP3:=Hd hp3;have HF3:=Hd hF
  have HO5:=Hd (HO2.out.fr Rep.got hF (fun b hb hm => by
   have h1:=(HBO.out b hb).1
   have h2:=HLT1.out b hm
   omega) (fun b hb hm => by
   have h1:=(HVO.out b hb).1
   have h2:=HLT1.out b hm
   omega))
  have HDJ : Hid (∀ b,blockOf (.slice ao outs.length co) = some b → b ∉ Ba):=Hd (fun b hb hm => by
   have h1:=(HO2.out.block b hb).2
   have h2:=(hBa b hm).1
   omega)
  have HQ5 : Hid (w.heap.size ≤ w5.heap.size):=Hd (Nat.le_trans HQR.out hF.size)
  have HRQ : Hid (RSt w w.heap.size base own no g mb N turn d'.round.1 hs3 outs (.slice ao outs.length co) w5):=Hd ⟨Bo,no3,hp3,hW3,HO5.out,fun b hb => ⟨(HBO.out b hb).1,hn3 b (HBO.out b hb).2⟩,fun b hb => hn3 b (HVO.out b hb).2,fun b hb => hn3 b (HNO.out b hb),HFW.out.trans hF,HQ5.out,Nat.le_refl _⟩
  clear hp3 hW3 hSa hBa hva hn3 hF hQ3 hwQ
  by_cases hm : d'.round.2 = []
  ·have HST:=Hd (tellR_stop (out:=outs) hm)
   have hml : d'.round.2.length = 0:=by rw [hm];rfl
   have HE : Hid (d.tell = (d'.round.1,outs)):=Hd (by rw [← HTE.out,HST.out])
   clear hm HST
   rw [hml]
   clear hml
   go_wp2_with fail
   go_ret
   rw [HE.out]
   exact ⟨_,rfl,hs3,HRQ.out⟩
  ·have HST:=Hd (tellR_more (out:=outs) hm)
   have hpos : 0 < d'.round.2.length:=List.length_pos_iff.2 hm
   clear hm HRQ
   generalize d'.round.2 = more at *
   generalize d'.round.1 = d3 at *
   have HL1 : Hid ((outs.map toldT).length + more.length ≤ maxLen):=Hd (by rw [List.length_map];have:=HL.out;have:=HRL.out;have:=HOL.out;unfold maxLen;omega)
   have HL3 : Hid (((outs.map toldT).length + more.length) * 40 ≤ 140737488355328):=Hd (by rw [List.length_map];have:=HL.out;have:=HRL.out;have:=HOL.out;omega)
   have hnz : (((more.length : Nat) : Int) == 0) = false:=beq_eq_false_iff_ne.2 (by omega)
   go_wp2_with (at_builtin;go_loud (refine wpList_append_elsN Rep.got (by decide) rfl (.tmp 11) (.tmp 12) 41 rfl w.heap.size 52 (.agg #[.int .u16 0,.slice none 0 0,.bool false]) 40 Tryz.underlying41 info_got rfl (.slice ao outs.length co) (outs.map toldT) Bo rfl HO5.out aa more.length caa rfl (more.map toldT) Ba HSA.out HDJ.out HL1.out HL3.out HQ5.out ?_;intro v6 w6 hown6 hfr6 hv6;have HRS6:=Hd (RSt.next HLT1.out (Nat.le_refl _) HQR.out HNO.out HFW.out HBO.out HVO.out HP3.out HW3.out HBA.out HN3.out HF3.out hown6 hfr6 hv6);clear hown6 hfr6 hv6))
   go_roundw
   case rel => exact ⟨d3,hs3,outs ++ more,by rw [← HST.out];exact HTE.out,by rw [List.length_append];have:=HRL.out;have:=HOL.out;omega,HRS6.out⟩
   case measure => rw [HRS6.out.len6,HM.out];have:=HRL.out;omega
end Go.Proofs.YtcngfbjmpemehaaGreat

/- The walk of peel's Media (printed by gen_pk14.py). -/
namespace Go.Proofs.YtcngfbjmpemehaaGreat
open Go.RowKit Go.Maps

theorem step_append_elsN {α : Type} {k : Nat} {R : World → List Value → α → List Nat → Prop} {P : Program} {w : World} {ops : Array Oper} {o : Oper} {a : Act} {K : Act → World → Prop} {Q : Exit → Act → World → Prop} {E : Prop} (hR : Rep k R) (hk : 0 < k) (hgd : o.guard = none) (s x : Operand) (t : TypeId)
  (ho : o.op = .call { callee:=.builtin .append,args:=#[s,x],argTypes:=#[t,t] })
  (base : Nat) (e : TypeId) (z : Value) (bytes : Nat) (ht : P.underlying t = some (.slice e)) (hi : (P.info? e).map (fun i => (i.zero,i.size,i.bytes)) = some (some z,k,bytes)) (hz : z.cells.size = k)
  (v : Value) (ys : List α) (B : List Nat) (hs : a.eval s = v) (hown : OwnEls k R w base e v ys B)
  (ad : Option Addr) (n cp : Nat) (hx : a.eval x = .slice ad n cp) (zs : List α) (B2 : List Nat) (hzs : SlEls k R w (.slice ad n cp) zs B2) (hdis : ∀ b,blockOf v = some b → b ∉ B2)
  (h63 : ys.length + n ≤ maxLen) (hbytes : (ys.length + n) * bytes ≤ 140737488355328) (hbase : base ≤ w.heap.size)
  (h : ∀ v' w',OwnEls k R w' base e v' (ys ++ zs) (B ++ B2) → Fr (blockOf v).toList w w' → (∀ b,blockOf v' = some b → blockOf v = some b ∨ w.heap.size ≤ b) → K (a.put o.dst v') w') : if Region.wanted o (yielded ops a.tmps) = true then Oper.wp P o a w K Q else E:=by
 obtain ⟨i,hi1,hi2,hi3,hi4⟩:=info_parts hi
 obtain ⟨cells,h1,h2,h3⟩:=hown
 obtain ⟨c2,a2,cap2,g1,g2,g3,g4,g5,g6⟩:=hzs
 simp only [Value.slice.injEq] at g1
 obtain ⟨rfl,rfl,rfl⟩:=g1
 cases ad with
 | none =>
  obtain rfl:=g4 rfl
  have hn : zs = []:=List.eq_nil_of_length_eq_zero (by omega)
  subst hn
  obtain ⟨rfl,rfl⟩:=g5
  rw [if_pos (by simp [Region.wanted,hgd])]
  have hrun:=run_append_owned_none (P:=P) (w:=w) base t o.type e i k ht hi1 v _ cells h1
  have hx2 : a.eval x = .slice none 0 0:=hx
  unfold Oper.wp
  simp [execOp,ho,resolve,invoke,builtin,hs,hx2,hrun,Result.andThen]
  exact h v w ⟨cells,by simpa using h1,by simpa using h2,by simpa using h3⟩ (Fr.refl _ _) (fun b hb => .inl hb)
 | some p =>
  refine step_append_fr hgd s x t ho base e z k bytes ht hi hz hk v ys.length cells hs h1 p zs.length cp c2 hx (g5.len hR) (fun j u hj => ?_) (g5.one hR) h63 hbytes hbase ?_
  ·have hl:=g5.len hR
   have hj2:=(List.getElem?_eq_some_iff.1 hj).1
   have hpos : 0 < zs.length:=by
    rcases Nat.eq_zero_or_pos zs.length with h0 | h0
    ·rw [h0] at hl;omega
    ·exact h0
   obtain ⟨q1,q2,q3⟩:=g6 p rfl (by omega)
   obtain ⟨pb,po,ps⟩:=p
   simp only at q1
   subst q1
   rw [Addr.add_mid]
   exact q3 j u hj
  ·intro v' w' q1 q2 q3 q4
   refine h v' w' ⟨cells ++ c2,by simpa using q1,Els.append (h2.fr hR q2 (fun b hb hm => h3 b (by simpa using hm) hb)) (g5.fr hR q2 (fun b hb hm => hdis b (by simpa using hm) hb)),?_⟩ q2 q3
   intro b hb hm
   rcases q3 b hb with hv | hn
   ·rcases List.mem_append.1 hm with hm | hm
    ·exact h3 b hv hm
    ·exact hdis b hv hm
   ·rcases List.mem_append.1 hm with hm | hm
    ·have:=h2.lt hR b hm;omega
    ·have:=g5.lt hR b hm;omega
theorem got_end {w w3 w4 : World} {base q gq : Nat} {own no no4 : List Nat} {g mb : Nat} {d : PkD} {hs : List (Rep_ × Int)} {turn : Int} {out : List (UInt16 × List UInt8 × Bool)} {v' : Value} {Bo : List Nat} (hlt : ∀ b ∈ own,b < w.heap.size) (hW : PkW w3 base own no4 g mb d hs turn) (hF3 : Fr own w w3)
  (hO : OwnEls 3 GotR w4 q 52 v' out Bo) (hF4 : Fr [gq] w3 w4) (hgq : w.heap.size ≤ gq ∧ gq ∈ no4) (hv' : ∀ b,blockOf v' = some b → b = gq ∨ w3.heap.size ≤ b) (hBo : ∀ b ∈ Bo,w.heap.size ≤ b ∧ b ∈ no4) (hno : ∀ b ∈ no,b ∈ no4) :
  GotPost w base own no g mb d hs turn out v' w4 ∧ Fr own w w4:=by
 have hnew : ∀ b ∈ (blockOf v').toList.filter (fun b => decide (w3.heap.size ≤ b)),w3.heap.size ≤ b ∧ b < w4.heap.size:=fun b hb => by
  obtain ⟨h1,h2⟩:=List.mem_filter.1 hb
  exact ⟨by simpa using h2,(hO.block b (mem_toList.1 h1)).2⟩
 have hW4:=hW.growS hF4 (fun s hs hm => by
  rw [List.mem_singleton] at hs
  have h2:=hlt s hm
  omega) (fun s hs => by
  rw [List.mem_singleton] at hs
  exact .inl (hs ▸ hgq.2)) hnew
 refine ⟨⟨Bo,_,hW4,hO.sl,fun b hb => ⟨(hBo b hb).1,List.mem_append_right _ (hBo b hb).2⟩,fun b hb => ?_,fun b hb => List.mem_append_right _ (hno b hb)⟩,hF3.step hF4 (fun x hx => ?_)⟩
 ·rcases hv' b (live_block hb) with h1 | h1
  ·exact ⟨by omega,List.mem_append_right _ (h1 ▸ hgq.2)⟩
  ·exact ⟨by have:=hF3.size;omega,List.mem_append_left _ (List.mem_filter.2 ⟨mem_toList.2 (live_block hb),by simpa using h1⟩)⟩
 ·rw [List.mem_singleton] at hx
  exact .inr (by omega)
theorem got_own {w : World} {base g : Nat} {s : UInt16} {v : Value} {b : List UInt8} {t : Bool} (hB : Box w g 52 #[.int .u16 (s.toNat : Nat),v,.bool t]) (hv : OwnB w 0 v b) (hg : blockOf v ≠ some g) (hb : base ≤ g) : OwnEls 3 GotR w base 52 (.slice (some ⟨g,0,none⟩) 1 1) [(s,b,t)] (blockOf v).toList:=by
 refine ⟨[.int .u16 (s.toNat : Nat),v,.bool t],⟨by simp,.inr ⟨g,1,_,rfl,hb,hB,by simp,by unfold maxLen;omega,by simp,by simp⟩⟩,⟨_,[],_,[],by simp,by simp,⟨v,rfl,hv,rfl⟩,rfl,rfl⟩,fun x hx hm => ?_⟩
 simp [blockOf] at hx
 subst hx
 exact hg (mem_toList.1 hm)
theorem pkMedia_any {w : World} {base : Nat} {own no : List Nat} {g mb N : Nat} {d : PkD} {hs : List (Rep_ × Int)} {turn : Int} (h : PkW w base own no g mb d hs turn) (hp : PkP d hs turn N) (hN : N + 1 < 1000000) {v : Value} {b : List UInt8} (hv : Bytes w v b) (hvo : ∀ y,liveOf v = some y → y ∉ own) (hbl : b.length ≤ 1000000) :
  Calls Tryz.prog 30 #[.pointer (some ⟨g,0,none⟩),v] w fun e w' => ∃ v',e = .returned (.tuple #[v',.int .i64 (d.media b).2.2]) ∧ (∃ hs',GotPost w base own no g mb (d.media b).1 hs' turn (d.media b).2.1 v' w' ∧ PkP (d.media b).1 hs' turn (N + 1) ∧ Fr own w w'):=by
 obtain ⟨av,nv,cv,rfl⟩:=Sl.isSlice hv
 have HV:=Hd hv;have HH:=Hd h;have HP:=Hd hp;have HVO:=Hd hvo
 have HI:=Hd (hp.bd (by omega));have HW:=Hd hp.w
 have HNL : Hid (∀ y ∈ no,y < w.heap.size):=Hd h.lt
 have HSUB:=Hd h.sub;have HLOW:=Hd h.low
 clear hv h hp hvo
 go_enter Tryz.func30,Tryz.ntmps30
 go_wp2_with fail
 refine (Parse_any HV.out).mono ?_
 rintro e w1 (⟨vp,p,hpk,rfl,hVp,hF⟩ | ⟨k2,hpk,rfl,hF⟩)
 rotate_left
 ·have hk2 : (k2 != 0) = true:=by simpa using parseR_err hpk
  have HM : Hid (d.media b = (d,[],k2)):=Hd (by unfold PkD.media;rw [hpk])
  have HH:=Hd (HH.out.keep hF);have HF:=Hd hF
  clear hF hpk
  unfold pz
  go_upto_region 2 with (refine wpList_store_row rfl 93 (.tmp 6) (.tmp 13) rfl w1.heap.size rfl _ _ rfl 93 (Box.new w1 93 #[.bool false,.int .i64 0,.int .u16 0,.int .u32 0,.int .u32 0,.slice none 0 0,.bool false,.int .u16 0,.slice none 0 0,.slice none 0 0,.slice none 0 0]) (by kernel_rfl) rfl (oneCell_pz) ?_;intro w2 hY hG;have hFn:=((Fr.refl [] w1).alloc _).step hG (by simp);have HFn:=Hd hFn;have HY:=Hd hY;clear hG hFn hY)
  have HH:=Hd (HH.out.keep HFn.out);have HF:=Hd (HF.out.trans HFn.out)
  clear HFn HY
  go_wp2_with fail
  go_ret2
  rw [HM.out]
  exact ⟨_,rfl,hs,⟨[],no,HH.out,SlEls.nil _,by simp,(fun b hb => by cases hb),fun b hb => hb⟩,HP.out.mono (by omega),HF.out.any⟩
 obtain ⟨q1,k1,q2,k2,q3,k3,q4,k4,rfl,-,-,-,-⟩:=hVp.open_
 have HPK:=Hd hpk
 have HH:=Hd (HH.out.keep hF);have HF:=Hd hF;have HV:=Hd (Sl.keep HV.out hF);have HGP : Hid (w.heap.size ≤ w1.heap.size):=Hd hF.size
 have HMD : Hid (d.media b = if p.ssrc ≠ d.ss then (d,[],61) else if d.old (d.peek p.seq) then (d,[],50) else if (d.has p.seq).isSome then (d,[],5) else ((d.put p.seq b).tell.1,(p.seq,b,false) :: (d.put p.seq b).tell.2.map (fun x => (x.1,x.2,true)),0)):=Hd (by unfold PkD.media;rw [hpk])
 clear hpk hF hVp
 go_upto_region 2 with (refine wpList_store_row rfl 93 (.tmp 6) (.tmp 13) rfl w1.heap.size rfl _ _ rfl 93 (Box.new w1 93 #[.bool false,.int .i64 0,.int .u16 0,.int .u32 0,.int .u32 0,.slice none 0 0,.bool false,.int .u16 0,.slice none 0 0,.slice none 0 0,.slice none 0 0]) (by kernel_rfl) rfl (oneCell_pc _ _ _ _ _ _ _ _ _ _ _ ⟨_,_,_,rfl⟩ ⟨_,_,_,rfl⟩ ⟨_,_,_,rfl⟩ ⟨_,_,_,rfl⟩) ?_;intro w2 hY hG;have hFn:=((Fr.refl [] w1).alloc _).step hG (by simp);have HFn:=Hd hFn;have HY:=Hd hY;clear hG hFn hY)
 have HH:=Hd (HH.out.keep HFn.out);have HF:=Hd (HF.out.trans HFn.out);have HV:=Hd (Sl.keep HV.out HFn.out)
 generalize hgp : w1.heap.size = gp at *
 clear HFn hgp
 have HPB:=HY
 clear HY
 obtain ⟨p0,p1,p2,p3,p4,p5,p6,p7,p8,p9,p10⟩:=HPB.out.pcells
 go_upto_region 4 with fail
 obtain ⟨vr,B,D,hB,-,hM,-⟩:=HH.out.ex
 have HT:=Hd (pkThere_any hB hM HI.out p.seq)
 have HB:=Hd hB
 clear hB hM
 go_wp2_with fail
 refine HT.out.mono ?_
 rintro e w3 ⟨v3,rfl,h3,-,hF⟩
 obtain ⟨a3,n3,c3,rfl⟩:=Sl.isSlice h3
 have HH:=Hd (HH.out.keep hF);have HF:=Hd (HF.out.trans hF);have HV:=Hd (Sl.keep HV.out hF);have HPB:=Hd (HPB.out.keep hF);have HB:=Hd (HB.out.keep hF)
 clear h3 hF HT p0 p1 p2 p3 p4 p5 p6 p7 p8 p9 p10
 obtain ⟨p0,p1,p2,p3,p4,p5,p6,p7,p8,p9,p10⟩:=HPB.out.pcells
 have y0:=HB.out.cell 0
 simp only [pkc,zz7,zz9] at y0
 clear p0 p1 p3 p5 p6 p7 p8 p9 p10
 go_upto_region 5 with fail
 by_cases hss : p.ssrc = d.ss
 rotate_left
 ·have hne : ((((p.ssrc.toNat : Nat) : Int) != ((d.ss.toNat : Nat) : Int)) : Bool) = true:=by rw [u32_bne];simpa using hss
  have HM:=Hd (HMD.out.trans (if_pos hss))
  clear hss
  refine wp_region_T (fun w' => Fr [] w3.drew w') [] 8 #[false,false,false,false,false,false,false,false] (by kernel_rfl) rfl rfl ?_
  try simp only [List.append_eq,List.cons_append,List.nil_append]
  have hF:=(Fr.refl [] w3).drew
  have HH:=Hd (HH.out.keep hF)
  have HF:=Hd (HF.out.trans hF)
  have HV:=Hd (Sl.keep HV.out hF)
  have HPB:=Hd (HPB.out.keep hF)
  have HB:=Hd (HB.out.keep hF)
  clear hF
  have HSS : Hid (Fr [] w3.drew w3.drew):=Hd (Fr.refl _ _)
  generalize w3.drew = wd at *
  refine wL 0 ?_ rfl (by kernel_rfl) (fun _ _ _ h => h) HSS.out (by rfl) ?_ ?_
  rotate_left
  ·intro w hSw;have n0:=hSw.cellSome (show wd.cell? ⟨gp,4,none⟩ = some (.int .u32 (p.ssrc.toNat : Nat)) by rw [HPB.out.cell];rfl) (by simp);have n1:=hSw.cellSome (show wd.cell? ⟨g,0,none⟩ = some (.int .u32 (d.ss.toNat : Nat)) by rw [HB.out.cell];rfl) (by simp);go_simp;try with_reducible rfl
  simp only [Act.put,zz1,zz2,zz3,zz4,zz5,zz6]
  refine wL 1 ?_ rfl (by kernel_rfl) (fun _ _ _ h => h) HSS.out (by rfl) ?_ ?_
  rotate_left
  ·intro w hSw;have n0:=hSw.cellSome (show wd.cell? ⟨gp,4,none⟩ = some (.int .u32 (p.ssrc.toNat : Nat)) by rw [HPB.out.cell];rfl) (by simp);have n1:=hSw.cellSome (show wd.cell? ⟨g,0,none⟩ = some (.int .u32 (d.ss.toNat : Nat)) by rw [HB.out.cell];rfl) (by simp);go_simp;try with_reducible rfl
  simp only [Act.put,zz1,zz2,zz3,zz4,zz5,zz6]
  refine wL 2 ?_ rfl (by kernel_rfl) (fun _ _ _ h => h) HSS.out (by rfl) ?_ ?_
  rotate_left
  ·intro w hSw;have n0:=hSw.cellSome (show wd.cell? ⟨gp,4,none⟩ = some (.int .u32 (p.ssrc.toNat : Nat)) by rw [HPB.out.cell];rfl) (by simp);have n1:=hSw.cellSome (show wd.cell? ⟨g,0,none⟩ = some (.int .u32 (d.ss.toNat : Nat)) by rw [HB.out.cell];rfl) (by simp);go_simp;try with_reducible rfl
  simp only [Act.put,zz1,zz2,zz3,zz4,zz5,zz6]
  refine wL 3 ?_ rfl (by kernel_rfl) (fun _ _ _ h => h) HSS.out (by rfl) ?_ ?_
  rotate_left
  ·intro w hSw;have n0:=hSw.cellSome (show wd.cell? ⟨gp,4,none⟩ = some (.int .u32 (p.ssrc.toNat : Nat)) by rw [HPB.out.cell];rfl) (by simp);have n1:=hSw.cellSome (show wd.cell? ⟨g,0,none⟩ = some (.int .u32 (d.ss.toNat : Nat)) by rw [HB.out.cell];rfl) (by simp);go_simp;try with_reducible rfl
  simp only [Act.put,zz1,zz2,zz3,zz4,zz5,zz6]
  refine wL 4 ?_ rfl (by kernel_rfl) (fun _ _ _ h => h) HSS.out (by rfl) ?_ ?_
  rotate_left
  ·intro w hSw;have n0:=hSw.cellSome (show wd.cell? ⟨gp,4,none⟩ = some (.int .u32 (p.ssrc.toNat : Nat)) by rw [HPB.out.cell];rfl) (by simp);have n1:=hSw.cellSome (show wd.cell? ⟨g,0,none⟩ = some (.int .u32 (d.ss.toNat : Nat)) by rw [HB.out.cell];rfl) (by simp);go_simp;try with_reducible rfl
  simp only [Act.put,zz1,zz2,zz3,zz4,zz5,zz6]
  refine wL 5 ?_ rfl (by kernel_rfl) (fun _ _ _ h => h) HSS.out (by rfl) ?_ ?_
  rotate_left
  ·intro w hSw;have n0:=hSw.cellSome (show wd.cell? ⟨gp,4,none⟩ = some (.int .u32 (p.ssrc.toNat : Nat)) by rw [HPB.out.cell];rfl) (by simp);have n1:=hSw.cellSome (show wd.cell? ⟨g,0,none⟩ = some (.int .u32 (d.ss.toNat : Nat)) by rw [HB.out.cell];rfl) (by simp);go_simp;try with_reducible rfl
  simp only [Act.put,zz1,zz2,zz3,zz4,zz5,zz6]
  refine wL 6 ?_ rfl (by kernel_rfl) (fun _ _ _ h => h) HSS.out (by rfl) ?_ ?_
  rotate_left
  ·intro w hSw;have n0:=hSw.cellSome (show wd.cell? ⟨gp,4,none⟩ = some (.int .u32 (p.ssrc.toNat : Nat)) by rw [HPB.out.cell];rfl) (by simp);have n1:=hSw.cellSome (show wd.cell? ⟨g,0,none⟩ = some (.int .u32 (d.ss.toNat : Nat)) by rw [HB.out.cell];rfl) (by simp);go_simp;try with_reducible rfl
  simp only [Act.put,zz1,zz2,zz3,zz4,zz5,zz6]
  refine wL 7 ?_ rfl (by kernel_rfl) (fun _ _ _ h => h) HSS.out (by rfl) ?_ ?_
  rotate_left
  ·intro w hSw;have n0:=hSw.cellSome (show wd.cell? ⟨gp,4,none⟩ = some (.int .u32 (p.ssrc.toNat : Nat)) by rw [HPB.out.cell];rfl) (by simp);have n1:=hSw.cellSome (show wd.cell? ⟨g,0,none⟩ = some (.int .u32 (d.ss.toNat : Nat)) by rw [HB.out.cell];rfl) (by simp);go_simp;try with_reducible rfl
  simp only [Act.put,zz1,zz2,zz3,zz4,zz5,zz6]
  refine wpAnyT_done (by kernel_rfl) ?_ _
  clear y0 p2 p4
  go_wp2_with fail
  go_ret2
  rw [HM.out]
  exact ⟨_,rfl,hs,⟨[],no,HH.out,SlEls.nil _,by simp,(fun b hb => by cases hb),fun b hb => hb⟩,HP.out.mono (by omega),HF.out.any.quiet HSS.out⟩
 have hne : ((((p.ssrc.toNat : Nat) : Int) != ((d.ss.toNat : Nat) : Int)) : Bool) = false:=by rw [u32_bne];simpa using hss
 have HMD:=Hd (HMD.out.trans (if_neg (by simpa using hss)))
 have HSSR:=Hd hss
 clear hss
 refine wp_region_T (fun w' => Fr [] w3.drew w') [] 8 #[false,false,false,false,false,false,false,false] (by kernel_rfl) rfl rfl ?_
 try simp only [List.append_eq,List.cons_append,List.nil_append]
 have hF:=(Fr.refl [] w3).drew
 have HH:=Hd (HH.out.keep hF)
 have HF:=Hd (HF.out.trans hF)
 have HV:=Hd (Sl.keep HV.out hF)
 have HPB:=Hd (HPB.out.keep hF)
 have HB:=Hd (HB.out.keep hF)
 clear hF
 have HSS : Hid (Fr [] w3.drew w3.drew):=Hd (Fr.refl _ _)
 generalize w3.drew = wd at *
 refine wL 0 ?_ rfl (by kernel_rfl) (fun _ _ _ h => h) HSS.out (by rfl) ?_ ?_
 rotate_left
 ·intro w hSw;have n0:=hSw.cellSome (show wd.cell? ⟨gp,4,none⟩ = some (.int .u32 (p.ssrc.toNat : Nat)) by rw [HPB.out.cell];rfl) (by simp);have n1:=hSw.cellSome (show wd.cell? ⟨g,0,none⟩ = some (.int .u32 (d.ss.toNat : Nat)) by rw [HB.out.cell];rfl) (by simp);go_simp;try with_reducible rfl
 simp only [Act.put,zz1,zz2,zz3,zz4,zz5,zz6]
 refine wL 1 ?_ rfl (by kernel_rfl) (fun _ _ _ h => h) HSS.out (by rfl) ?_ ?_
 rotate_left
 ·intro w hSw;have n0:=hSw.cellSome (show wd.cell? ⟨gp,4,none⟩ = some (.int .u32 (p.ssrc.toNat : Nat)) by rw [HPB.out.cell];rfl) (by simp);have n1:=hSw.cellSome (show wd.cell? ⟨g,0,none⟩ = some (.int .u32 (d.ss.toNat : Nat)) by rw [HB.out.cell];rfl) (by simp);go_simp;try with_reducible rfl
 simp only [Act.put,zz1,zz2,zz3,zz4,zz5,zz6]
 refine wL 2 ?_ rfl (by kernel_rfl) (fun _ _ _ h => h) HSS.out (by rfl) ?_ ?_
 rotate_left
 ·intro w hSw;have n0:=hSw.cellSome (show wd.cell? ⟨gp,4,none⟩ = some (.int .u32 (p.ssrc.toNat : Nat)) by rw [HPB.out.cell];rfl) (by simp);have n1:=hSw.cellSome (show wd.cell? ⟨g,0,none⟩ = some (.int .u32 (d.ss.toNat : Nat)) by rw [HB.out.cell];rfl) (by simp);go_simp;try with_reducible rfl
 simp only [Act.put,zz1,zz2,zz3,zz4,zz5,zz6]
 refine wL 3 ?_ rfl (by kernel_rfl) (fun _ _ _ h => h) HSS.out (by rfl) ?_ ?_
 rotate_left
 ·intro w hSw;have n0:=hSw.cellSome (show wd.cell? ⟨gp,4,none⟩ = some (.int .u32 (p.ssrc.toNat : Nat)) by rw [HPB.out.cell];rfl) (by simp);have n1:=hSw.cellSome (show wd.cell? ⟨g,0,none⟩ = some (.int .u32 (d.ss.toNat : Nat)) by rw [HB.out.cell];rfl) (by simp);go_simp;try with_reducible rfl
 simp only [Act.put,zz1,zz2,zz3,zz4,zz5,zz6]
 refine wL 4 ?_ rfl (by kernel_rfl) (fun _ _ _ h => h) HSS.out (by rfl) ?_ ?_
 rotate_left
 ·intro w hSw;have n0:=hSw.cellSome (show wd.cell? ⟨gp,4,none⟩ = some (.int .u32 (p.ssrc.toNat : Nat)) by rw [HPB.out.cell];rfl) (by simp);have n1:=hSw.cellSome (show wd.cell? ⟨g,0,none⟩ = some (.int .u32 (d.ss.toNat : Nat)) by rw [HB.out.cell];rfl) (by simp);go_simp;try with_reducible rfl
 simp only [Act.put,zz1,zz2,zz3,zz4,zz5,zz6]
 refine wL 5 ?_ rfl (by kernel_rfl) (fun _ _ _ h => h) HSS.out (by rfl) ?_ ?_
 rotate_left
 ·intro w hSw;have n0:=hSw.cellSome (show wd.cell? ⟨gp,4,none⟩ = some (.int .u32 (p.ssrc.toNat : Nat)) by rw [HPB.out.cell];rfl) (by simp);have n1:=hSw.cellSome (show wd.cell? ⟨g,0,none⟩ = some (.int .u32 (d.ss.toNat : Nat)) by rw [HB.out.cell];rfl) (by simp);go_simp;try with_reducible rfl
 simp only [Act.put,zz1,zz2,zz3,zz4,zz5,zz6]
 refine wL 6 ?_ rfl (by kernel_rfl) (fun _ _ _ h => h) HSS.out (by rfl) ?_ ?_
 rotate_left
 ·intro w hSw;have n0:=hSw.cellSome (show wd.cell? ⟨gp,4,none⟩ = some (.int .u32 (p.ssrc.toNat : Nat)) by rw [HPB.out.cell];rfl) (by simp);have n1:=hSw.cellSome (show wd.cell? ⟨g,0,none⟩ = some (.int .u32 (d.ss.toNat : Nat)) by rw [HB.out.cell];rfl) (by simp);go_simp;try with_reducible rfl
 simp only [Act.put,zz1,zz2,zz3,zz4,zz5,zz6]
 refine wL 7 ?_ rfl (by kernel_rfl) (fun _ _ _ h => h) HSS.out (by rfl) ?_ ?_
 rotate_left
 ·intro w hSw;have n0:=hSw.cellSome (show wd.cell? ⟨gp,4,none⟩ = some (.int .u32 (p.ssrc.toNat : Nat)) by rw [HPB.out.cell];rfl) (by simp);have n1:=hSw.cellSome (show wd.cell? ⟨g,0,none⟩ = some (.int .u32 (d.ss.toNat : Nat)) by rw [HB.out.cell];rfl) (by simp);go_simp;try with_reducible rfl
 simp only [Act.put,zz1,zz2,zz3,zz4,zz5,zz6]
 refine wpAnyT_done (by kernel_rfl) ?_ _
 clear y0 p2 p4
 have HF:=Hd (HF.out.quiet HSS.out)
 clear HSS hne
 go_upto_region 7 with fail
 refine wp_region_T (fun w' => Fr [] wd.drew w') [] 9 #[false,false,false,false,false,false,false,false,false] (by kernel_rfl) rfl rfl ?_
 try simp only [List.append_eq,List.cons_append,List.nil_append]
 have hF:=(Fr.refl [] wd).drew
 have HH:=Hd (HH.out.keep hF)
 have HF:=Hd (HF.out.trans hF)
 have HV:=Hd (Sl.keep HV.out hF)
 have HPB:=Hd (HPB.out.keep hF)
 have HB:=Hd (HB.out.keep hF)
 clear hF
 have HSS : Hid (Fr [] wd.drew wd.drew):=Hd (Fr.refl _ _)
 generalize wd.drew = we at *
 refine wL 0 ?_ rfl (by kernel_rfl) (fun _ _ _ h => h) HSS.out (by rfl) ?_ ?_
 rotate_left
 ·intro w hSw;have n0:=hSw.cellSome (show we.cell? ⟨gp,2,none⟩ = some (.int .u16 (p.seq.toNat : Nat)) by rw [HPB.out.cell];rfl) (by simp);go_simp;try with_reducible rfl
 simp only [Act.put,zz1,zz2,zz3,zz4,zz5,zz6]
 refine wL 1 ?_ rfl (by kernel_rfl) (fun _ _ _ h => h) HSS.out (by rfl) ?_ ?_
 rotate_left
 ·intro w hSw;have n0:=hSw.cellSome (show we.cell? ⟨gp,2,none⟩ = some (.int .u16 (p.seq.toNat : Nat)) by rw [HPB.out.cell];rfl) (by simp);go_simp;try with_reducible rfl
 simp only [Act.put,zz1,zz2,zz3,zz4,zz5,zz6]
 refine wL 2 ?_ rfl (by kernel_rfl) (fun _ _ _ h => h) HSS.out (by rfl) ?_ ?_
 rotate_left
 ·intro w hSw;have n0:=hSw.cellSome (show we.cell? ⟨gp,2,none⟩ = some (.int .u16 (p.seq.toNat : Nat)) by rw [HPB.out.cell];rfl) (by simp);go_simp;try with_reducible rfl
 simp only [Act.put,zz1,zz2,zz3,zz4,zz5,zz6]
 refine wL 3 ?_ rfl (by kernel_rfl) (fun _ _ _ h => h) HSS.out (by rfl) ?_ ?_
 rotate_left
 ·intro w hSw;have n0:=hSw.cellSome (show we.cell? ⟨gp,2,none⟩ = some (.int .u16 (p.seq.toNat : Nat)) by rw [HPB.out.cell];rfl) (by simp);go_simp;try with_reducible rfl
 simp only [Act.put,zz1,zz2,zz3,zz4,zz5,zz6]
 refine wL 4 ?_ rfl (by kernel_rfl) (fun _ _ _ h => h) HSS.out (by rfl) ?_ ?_
 rotate_left
 ·intro w hSw;have n0:=hSw.cellSome (show we.cell? ⟨gp,2,none⟩ = some (.int .u16 (p.seq.toNat : Nat)) by rw [HPB.out.cell];rfl) (by simp);go_simp;try with_reducible rfl
 simp only [Act.put,zz1,zz2,zz3,zz4,zz5,zz6]
 refine wL 5 ?_ rfl (by kernel_rfl) (fun _ _ _ h => h) HSS.out (by rfl) ?_ ?_
 rotate_left
 ·intro w hSw;have n0:=hSw.cellSome (show we.cell? ⟨gp,2,none⟩ = some (.int .u16 (p.seq.toNat : Nat)) by rw [HPB.out.cell];rfl) (by simp);go_simp;try with_reducible rfl
 simp only [Act.put,zz1,zz2,zz3,zz4,zz5,zz6]
 refine wpAnyT_one (i:=6) (by kernel_rfl) rfl (fun K hK => ?_)
 rw [if_pos (by rfl)]
 go_simp
 refine (widePeek_any (w:=we) (g:=g) (o:=3) (hi:=d.hi) ⟨by rw [HB.out.cell];rfl,by rw [HB.out.cell];rfl⟩ HI.out p.seq).mono ?_
 rintro e wq6 ⟨rfl,hF⟩
 have HSS:=Hd (HSS.out.trans hF);have HH:=Hd (HH.out.keep hF);have HF:=Hd (HF.out.trans hF);have HV:=Hd (Sl.keep HV.out hF);have HPB:=Hd (HPB.out.keep hF);have HB:=Hd (HB.out.keep hF)
 clear hF
 go_simp
 refine hK.out _ _ (fun _ => HSS.out) ?_
 clear hK K
 simp only [Act.put,zz1,zz2,zz3,zz4,zz5,zz6]
 refine wpAnyT_one (i:=7) (by kernel_rfl) rfl (fun K hK => ?_)
 rw [if_pos (by rfl)]
 go_simp
 refine (pkOld_any HB.out HI.out HW.out (peekW d.hi p.seq)).mono ?_
 rintro e wq7 ⟨rfl,hF⟩
 have HSS:=Hd (HSS.out.trans hF);have HH:=Hd (HH.out.keep hF);have HF:=Hd (HF.out.trans hF);have HV:=Hd (Sl.keep HV.out hF);have HPB:=Hd (HPB.out.keep hF);have HB:=Hd (HB.out.keep hF)
 clear hF
 go_simp
 refine hK.out _ _ (fun _ => HSS.out) ?_
 clear hK K
 simp only [Act.put,zz1,zz2,zz3,zz4,zz5,zz6]
 refine wL 8 ?_ rfl (by kernel_rfl) (fun _ _ _ h => h) HSS.out (by rfl) ?_ ?_
 rotate_left
 ·intro w hSw;go_simp;try with_reducible rfl
 simp only [Act.put,zz1,zz2,zz3,zz4,zz5,zz6]
 refine wpAnyT_done (by kernel_rfl) ?_ _
 clear HSS
 have HNO0 : Hid ((d.has p.seq).isSome = false → d.has p.seq = none):=Hd (fun e => by simpa using e)
 generalize hob : d.old (peekW d.hi p.seq) = ob at *
 have HOB : Hid (d.old (d.peek p.seq) = ob):=Hd hob
 generalize (d.has p.seq).isSome = hb at *
 clear hob
 cases ob
 rotate_left
 ·have HM:=Hd (HMD.out.trans (if_pos HOB.out))
  go_wp2_with fail
  go_ret2
  rw [HM.out]
  exact ⟨_,rfl,hs,⟨[],no,HH.out,SlEls.nil _,by simp,(fun b hb => by cases hb),fun b hb => hb⟩,HP.out.mono (by omega),HF.out.any⟩
 have HMD:=Hd (HMD.out.trans (if_neg (by rw [HOB.out];simp)))
 have HOLD : Hid (d.old (d.peek p.seq) = false):=HOB
 cases hb
 rotate_left
 ·have HM:=Hd (HMD.out.trans (if_pos rfl))
  go_wp2_with fail
  go_ret2
  rw [HM.out]
  exact ⟨_,rfl,hs,⟨[],no,HH.out,SlEls.nil _,by simp,(fun b hb => by cases hb),fun b hb => hb⟩,HP.out.mono (by omega),HF.out.any⟩
 have HMD:=Hd (HMD.out.trans (if_neg (by simp)))
 have HNO : Hid (d.has p.seq = none):=Hd (HNO0.out rfl)
 clear HNO0 HOB
 have HPK2 : Hid (isPk d.ss p.seq b):=Hd ⟨p,HPK.out,rfl,HSSR.out⟩
 have HPU:=Hd (HP.out.put HPK2.out hbl HOLD.out HNO.out)
 go_upto_region 11 with fail
 refine wp_region_T (fun w' => Fr [] wq7.drew w') [5] 6 #[false,false,false,false,false,false] (by kernel_rfl) rfl rfl ?_
 try simp only [List.append_eq,List.cons_append,List.nil_append]
 have hF:=(Fr.refl [] wq7).drew
 have HH:=Hd (HH.out.keep hF)
 have HF:=Hd (HF.out.trans hF)
 have HV:=Hd (Sl.keep HV.out hF)
 have HPB:=Hd (HPB.out.keep hF)
 have HB:=Hd (HB.out.keep hF)
 clear hF
 have HSS : Hid (Fr [] wq7.drew wq7.drew):=Hd (Fr.refl _ _)
 generalize wq7.drew = wx at *
 refine wL 0 ?_ rfl (by kernel_rfl) (fun _ _ _ h => h) HSS.out (by rfl) ?_ ?_
 rotate_left
 ·intro w hSw;have n0:=hSw.cellSome (show wx.cell? ⟨gp,2,none⟩ = some (.int .u16 (p.seq.toNat : Nat)) by rw [HPB.out.cell];rfl) (by simp);go_simp;try with_reducible rfl
 simp only [Act.put,zz1,zz2,zz3,zz4,zz5,zz6]
 refine wL 1 ?_ rfl (by kernel_rfl) (fun _ _ _ h => h) HSS.out (by rfl) ?_ ?_
 rotate_left
 ·intro w hSw;have n0:=hSw.cellSome (show wx.cell? ⟨gp,2,none⟩ = some (.int .u16 (p.seq.toNat : Nat)) by rw [HPB.out.cell];rfl) (by simp);go_simp;try with_reducible rfl
 simp only [Act.put,zz1,zz2,zz3,zz4,zz5,zz6]
 refine wL 2 ?_ rfl (by kernel_rfl) (fun _ _ _ h => h) HSS.out (by rfl) ?_ ?_
 rotate_left
 ·intro w hSw;have n0:=hSw.cellSome (show wx.cell? ⟨gp,2,none⟩ = some (.int .u16 (p.seq.toNat : Nat)) by rw [HPB.out.cell];rfl) (by simp);go_simp;try with_reducible rfl
 simp only [Act.put,zz1,zz2,zz3,zz4,zz5,zz6]
 refine wL 3 ?_ rfl (by kernel_rfl) (fun _ _ _ h => h) HSS.out (by rfl) ?_ ?_
 rotate_left
 ·intro w hSw;have n0:=hSw.cellSome (show wx.cell? ⟨gp,2,none⟩ = some (.int .u16 (p.seq.toNat : Nat)) by rw [HPB.out.cell];rfl) (by simp);go_simp;try with_reducible rfl
 simp only [Act.put,zz1,zz2,zz3,zz4,zz5,zz6]
 refine wpAnyT_one (i:=4) (by kernel_rfl) rfl (fun K hK => ?_)
 rw [if_pos (by rfl)]
 go_simp
 refine (bytesClone_any HV.out (by omega)).mono ?_
 rintro e wc ⟨vc,rfl,hc,hF⟩
 obtain ⟨ac,nc,cc,rfl⟩:=hc.isSlice
 have HC:=Hd hc;have HXS:=Hd HF.out.size
 have HSS:=Hd (HSS.out.trans hF);have HH:=Hd (HH.out.keep hF);have HF:=Hd (HF.out.trans hF);have HV:=Hd (Sl.keep HV.out hF);have HPB:=Hd (HPB.out.keep hF)
 clear hF hc HB
 go_simp
 refine hK.out _ _ (fun _ => HSS.out) ?_
 clear hK K
 simp only [Act.put,zz1,zz2,zz3,zz4,zz5,zz6]
 refine wpAnyT_one (i:=5) (by kernel_rfl) rfl (fun K hK => ?_)
 rw [if_pos (by rfl)]
 go_simp
 refine (pkPut_any HH.out HP.out (by omega) p.seq HC.out.bytes (fun y hy => ?_) HOLD.out HNO.out).mono ?_
 ·have h1:=(HC.out.block y (live_block hy)).1
  have h2:=HXS.out
  have h3:=HLOW.out
  exact ⟨by omega,fun hm => by have:=HNL.out y hm;omega⟩
 rintro e wp ⟨rfl,hH,hF⟩
 have HH2:=Hd hH;have HV:=Hd (Sl.frL HV.out hF (fun y hy => HVO.out y hy));have HPB:=Hd (HPB.out.fr hF (fun hm => by have:=HNL.out _ (HSUB.out _ hm);have:=HGP.out;omega));have HF:=Hd (HF.out.any.trans hF)
 clear hF hH HH HC HXS HSS
 go_simp
 refine hK.out _ _ (fun _ => by rename_i h;exact absurd (by simp) h) ?_
 clear hK K
 simp only [Act.put,zz1,zz2,zz3,zz4,zz5,zz6]
 refine wpAnyT_done (by kernel_rfl) ?_ _
 generalize (hs.filter fun y => !(d.add p.seq b).lost y.1) = hs2 at *
 generalize hd2 : d.put p.seq b = d2 at *
 clear hd2 HP HI HW HOLD HNO HPK HPK2
 go_upto_region 12 with fail
 refine wp_region_T (fun w' => w'.cell? ⟨gp,2,none⟩ = some (.int .u16 (p.seq.toNat : Nat))) [8,9,10] 11 #[false,false,false,false,false,false,false,false,false,false,false] (by kernel_rfl) rfl rfl ?_
 try simp only [List.append_eq,List.cons_append,List.nil_append]
 have hF:=(Fr.refl [] wp).drew
 have HH2:=Hd (HH2.out.keep hF);have HV:=Hd (Sl.keep HV.out hF);have HPB:=Hd (HPB.out.keep hF);have HF:=Hd (HF.out.quiet hF)
 clear hF
 generalize wp.drew = wy at *
 have HSS : Hid (wy.cell? ⟨gp,2,none⟩ = some (.int .u16 (p.seq.toNat : Nat))):=Hd (by rw [HPB.out.cell];rfl)
 refine wL 0 ?_ rfl (by kernel_rfl) (fun _ _ _ h => h) HSS.out (by rfl) ?_ ?_
 rotate_left
 ·intro w hSw;have n0:=hSw;go_simp;try with_reducible rfl
 simp only [Act.put,zz1,zz2,zz3,zz4,zz5,zz6]
 refine wL 1 ?_ rfl (by kernel_rfl) (fun _ _ _ h => h) HSS.out (by rfl) ?_ ?_
 rotate_left
 ·intro w hSw;have n0:=hSw;go_simp;try with_reducible rfl
 simp only [Act.put,zz1,zz2,zz3,zz4,zz5,zz6]
 refine wL 2 ?_ rfl (by kernel_rfl) (fun _ _ _ h => h) HSS.out (by rfl) ?_ ?_
 rotate_left
 ·intro w hSw;have n0:=hSw;go_simp;try with_reducible rfl
 simp only [Act.put,zz1,zz2,zz3,zz4,zz5,zz6]
 refine wL 6 ?_ rfl (by kernel_rfl) (fun _ _ _ h => h) HSS.out (by rfl) ?_ ?_
 rotate_left
 ·intro w hSw;have n0:=hSw;go_simp;try with_reducible rfl
 simp only [Act.put,zz1,zz2,zz3,zz4,zz5,zz6]
 refine wpAnyT_one (i:=3) (by kernel_rfl) rfl (fun K hK => ?_)
 rw [if_pos (by rfl)]
 go_simp
 refine (bytesClone_any HV.out (by omega)).mono ?_
 rintro e wc ⟨vc,rfl,hc,hF⟩
 obtain ⟨ac,nc,cc,rfl⟩:=hc.isSlice
 have HC:=Hd (hc.mono HF.out.size)
 have HH2:=Hd (HH2.out.grow hF (new:=(blockOf (.slice ac nc cc)).toList) (fun y hy => hc.block y (mem_toList.1 hy)))
 have HF:=Hd (HF.out.quiet hF);have HPB:=Hd (HPB.out.keep hF)
 have HSS : Hid (wc.cell? ⟨gp,2,none⟩ = some (.int .u16 (p.seq.toNat : Nat))):=Hd (by rw [HPB.out.cell];rfl)
 clear hF hc HV
 go_simp
 refine hK.out _ _ (fun _ => HSS.out) ?_
 clear hK K
 simp only [Act.put,zz1,zz2,zz3,zz4,zz5,zz6]
 refine wL 4 ?_ rfl (by kernel_rfl) (fun _ _ _ h => h) HSS.out (by rfl) ?_ ?_
 rotate_left
 ·intro w hSw;have n0:=hSw;go_simp;try with_reducible rfl
 simp only [Act.put,zz1,zz2,zz3,zz4,zz5,zz6]
 refine wpAnyT_two (i:=5) (j:=7) (by kernel_rfl) rfl rfl (fun K hK => ?_) (fun K hK => ?_)
 ·rw [if_pos (by rfl)]
  obtain ⟨wb,eb,hF,hBb,-⟩:=one_new wc #[.int .u16 (p.seq.toNat : Nat),.slice ac nc cc,.bool false] 52
  have EB:=Hd eb;have HGB:=Hd hBb
  have HGQ : Hid (w.heap.size ≤ wc.heap.size):=Hd HF.out.size
  have HGQL : Hid (wc.heap.size < wb.heap.size):=Hd hBb.lt
  have HCN : Hid (blockOf (.slice ac nc cc) ≠ some wc.heap.size):=Hd (fun e => by have:=(HC.out.block _ e).2;omega)
  have HH2:=Hd (HH2.out.grow hF (new:=[wc.heap.size]) (fun y hy => by rw [List.mem_singleton] at hy;subst hy;exact ⟨Nat.le_refl _,hBb.lt⟩))
  have HC:=Hd (HC.out.keep hF);have HF:=Hd (HF.out.quiet hF);have HPB:=Hd (HPB.out.keep hF)
  have HSS : Hid (wb.cell? ⟨gp,2,none⟩ = some (.int .u16 (p.seq.toNat : Nat))):=Hd (by rw [HPB.out.cell];rfl)
  clear hF hBb eb
  go_simp
  simp only [EB.out]
  refine hK.out _ _ (fun _ => HSS.out) ?_
  clear hK K
  simp only [Act.put,zz1,zz2,zz3,zz4,zz5,zz6]
  clear EB
  generalize wc.heap.size = gq at *
  refine wpAnyT_one (i:=7) (by kernel_rfl) rfl (fun K hK => ?_)
  rw [if_pos (by rfl)]
  go_simp
  refine (pkTell_any HH2.out HPU.out (by omega)).mono ?_
  rintro e wt ⟨vt,rfl,hs3,Bt,no3,hp3,hW3,hO3,hBt,hvt,hn3,hF,-,-⟩
  obtain ⟨at_,ct,rfl⟩:=hO3.shape
  rw [List.length_map] at hO3 hvt
  rw [List.length_map]
  have HP3:=Hd hp3;have HH3:=Hd hW3;have HO3:=Hd hO3.sl;have HBT:=Hd hBt;have HN3:=Hd hn3
  have HBTL : Hid (∀ y ∈ Bt,y < wt.heap.size):=Hd (hO3.lt Rep.got)
  have HBW : Hid (w.heap.size ≤ wb.heap.size):=Hd HF.out.size
  have HOB : Hid (∀ y ∈ own,y < w.heap.size):=Hd (fun y hy => HNL.out y (HSUB.out y hy))
  have HC:=Hd (HC.out.fr hF (fun y hy hm => by have:=(HC.out.block y hy).1;have:=HOB.out y hm;omega))
  have HPB:=Hd (HPB.out.fr hF (fun hm => by have:=HOB.out _ hm;have:=HGP.out;omega))
  have HGB:=Hd (HGB.out.fr hF (fun hm => by have:=HOB.out _ hm;have:=HGQ.out;omega))
  have HF:=Hd (HF.out.trans hF)
  have HSS : Hid (wt.cell? ⟨gp,2,none⟩ = some (.int .u16 (p.seq.toNat : Nat))):=Hd (by rw [HPB.out.cell];rfl)
  clear hp3 hW3 hO3 hBt hvt hn3 hF
  go_simp
  refine hK.out _ _ (fun _ => HSS.out) ?_
  clear hK K
  simp only [Act.put,zz1,zz2,zz3,zz4,zz5,zz6]
  refine wpAnyT_one (i:=8) (by kernel_rfl) rfl (fun K hK => ?_)
  have HGO:=Hd (got_own (base:=w.heap.size) HGB.out (HC.out.mono (Nat.zero_le _)) HCN.out HGQ.out)
  have HDJ : Hid (∀ y,blockOf (.slice (some ⟨gq,0,none⟩) 1 1) = some y → y ∉ Bt):=Hd (fun y hy hm => by
   simp [blockOf] at hy
   subst hy
   have h1:=(HBT.out _ hm).1
   have h2:=HGQL.out
   omega)
  have HTL : Hid (d2.tell.2.length ≤ 1000):=Hd (by have h1:=tell_len d2;have h2:=HPU.out.len;have h3:=HPU.out.r;rw [HPU.out.rep,List.length_map] at h1;omega)
  have hw0:=HF.out.size
  refine step_append_elsN Rep.got (by decide) rfl (.tmp 55) (.tmp 57) 41 rfl w.heap.size 52 (.agg #[.int .u16 0,.slice none 0 0,.bool false]) 40 Tryz.underlying41 info_got rfl (.slice (some ⟨gq,0,none⟩) 1 1) [(p.seq,b,false)] _ rfl HGO.out at_ d2.tell.2.length ct rfl (d2.tell.2.map toldT) Bt HO3.out HDJ.out (by have:=HTL.out;unfold maxLen;simp;omega) (by have:=HTL.out;simp;omega) hw0 ?_
  intro v9 w9 hown9 hfr9 hv9
  obtain ⟨hGP9,hF9⟩:=got_end (no:=no) (gq:=gq) (fun y hy => HNL.out y (HSUB.out y hy)) HH3.out HF.out hown9 hfr9 ⟨HGQ.out,HN3.out _ (List.mem_append_left _ (List.mem_singleton_self _))⟩ (fun y hy => (hv9 y hy).imp (fun e => by simp [blockOf] at e;exact e.symm) id) (fun y hy => by
   rcases List.mem_append.1 hy with hy | hy
   ·exact ⟨(HC.out.block y (mem_toList.1 hy)).1,HN3.out _ (List.mem_append_right _ (List.mem_append_left _ hy))⟩
   ·exact ⟨by have:=(HBT.out y hy).1;have:=HBW.out;omega,(HBT.out y hy).2⟩) (fun y hy => HN3.out _ (List.mem_append_right _ (List.mem_append_right _ hy)))
  obtain ⟨a9,c9,ev9⟩:=hown9.shape
  have el9 : ([(p.seq,b,false)] ++ d2.tell.2.map toldT).length = d2.tell.2.length + 1:=by simp
  rw [el9] at ev9
  subst ev9
  clear el9
  have HG9:=Hd hGP9;have HF9:=Hd hF9
  clear hGP9 hF9 hown9 hfr9 hv9 hw0
  refine hK.out _ _ (fun _ => by rename_i h;exact absurd (by simp) h) ?_
  clear hK K
  simp only [Act.put,zz1,zz2,zz3,zz4,zz5,zz6]
  refine wpAnyT_one (i:=9) (by kernel_rfl) rfl (fun K hK => ?_)
  rw [if_pos (by rfl)]
  go_simp
  refine hK.out _ _ (fun _ => by rename_i h;exact absurd (by simp) h) ?_
  clear hK K
  simp only [Act.put,zz1,zz2,zz3,zz4,zz5,zz6]
  refine wpAnyT_one (i:=10) (by kernel_rfl) rfl (fun K hK => ?_)
  rw [if_pos (by rfl)]
  go_simp
  refine hK.out _ _ (fun _ => by rename_i h;exact absurd (by simp) h) ?_
  clear hK K
  simp only [Act.put,zz1,zz2,zz3,zz4,zz5,zz6]
  refine wpAnyT_done (by kernel_rfl) ?_ _
  go_wp2_with fail
  go_ret2
  rw [HMD.out]
  exact ⟨_,rfl,hs3,HG9.out,HP3.out,HF9.out⟩
 ·rw [if_pos (by rfl)]
  go_simp
  refine (pkTell_any HH2.out HPU.out (by omega)).mono ?_
  rintro e wt ⟨vt,rfl,hs3,Bt,no3,hp3,hW3,hO3,hBt,hvt,hn3,hF,-,-⟩
  obtain ⟨at_,ct,rfl⟩:=hO3.shape
  rw [List.length_map] at hO3 hvt
  rw [List.length_map]
  have HP3:=Hd hp3;have HH3:=Hd hW3;have HO3:=Hd hO3.sl;have HBT:=Hd hBt;have HN3:=Hd hn3
  have HBTL : Hid (∀ y ∈ Bt,y < wt.heap.size):=Hd (hO3.lt Rep.got)
  have HBW : Hid (w.heap.size ≤ wc.heap.size):=Hd HF.out.size
  have HOB : Hid (∀ y ∈ own,y < w.heap.size):=Hd (fun y hy => HNL.out y (HSUB.out y hy))
  have HC:=Hd (HC.out.fr hF (fun y hy hm => by have:=(HC.out.block y hy).1;have:=HOB.out y hm;omega))
  have HPB:=Hd (HPB.out.fr hF (fun hm => by have:=HOB.out _ hm;have:=HGP.out;omega))
  have HF:=Hd (HF.out.trans hF)
  have HSS : Hid (wt.cell? ⟨gp,2,none⟩ = some (.int .u16 (p.seq.toNat : Nat))):=Hd (by rw [HPB.out.cell];rfl)
  clear hp3 hW3 hO3 hBt hvt hn3 hF
  go_simp
  refine hK.out _ _ (fun _ => HSS.out) ?_
  clear hK K
  simp only [Act.put,zz1,zz2,zz3,zz4,zz5,zz6]
  refine wpAnyT_one (i:=5) (by kernel_rfl) rfl (fun K hK => ?_)
  rw [if_pos (by rfl)]
  obtain ⟨wb,eb,hF,hBb,-⟩:=one_new wt #[.int .u16 (p.seq.toNat : Nat),.slice ac nc cc,.bool false] 52
  have EB:=Hd eb;have HGB:=Hd hBb
  have HGQ : Hid (w.heap.size ≤ wt.heap.size):=Hd HF.out.size
  have HGQL : Hid (wt.heap.size < wb.heap.size):=Hd hBb.lt
  have HCN : Hid (blockOf (.slice ac nc cc) ≠ some wt.heap.size):=Hd (fun e => by have:=(HC.out.block _ e).2;omega)
  have HH3:=Hd (HH3.out.grow hF (new:=[wt.heap.size]) (fun y hy => by rw [List.mem_singleton] at hy;subst hy;exact ⟨Nat.le_refl _,hBb.lt⟩));have HO3:=Hd (HO3.out.keep Rep.got hF)
  have HC:=Hd (HC.out.keep hF);have HF:=Hd (HF.out.quiet hF);have HPB:=Hd (HPB.out.keep hF)
  have HSS : Hid (wb.cell? ⟨gp,2,none⟩ = some (.int .u16 (p.seq.toNat : Nat))):=Hd (by rw [HPB.out.cell];rfl)
  clear hF hBb eb
  go_simp
  simp only [EB.out]
  refine hK.out _ _ (fun _ => HSS.out) ?_
  clear hK K
  simp only [Act.put,zz1,zz2,zz3,zz4,zz5,zz6]
  clear EB
  generalize wt.heap.size = gq at *
  refine wpAnyT_one (i:=8) (by kernel_rfl) rfl (fun K hK => ?_)
  have HGO:=Hd (got_own (base:=w.heap.size) HGB.out (HC.out.mono (Nat.zero_le _)) HCN.out HGQ.out)
  have HDJ : Hid (∀ y,blockOf (.slice (some ⟨gq,0,none⟩) 1 1) = some y → y ∉ Bt):=Hd (fun y hy hm => by
   simp [blockOf] at hy
   subst hy
   have h1:=(HBT.out _ hm).1
   have h2:=HBTL.out _ hm
   omega)
  have HTL : Hid (d2.tell.2.length ≤ 1000):=Hd (by have h1:=tell_len d2;have h2:=HPU.out.len;have h3:=HPU.out.r;rw [HPU.out.rep,List.length_map] at h1;omega)
  have hw0:=HF.out.size
  refine step_append_elsN Rep.got (by decide) rfl (.tmp 55) (.tmp 57) 41 rfl w.heap.size 52 (.agg #[.int .u16 0,.slice none 0 0,.bool false]) 40 Tryz.underlying41 info_got rfl (.slice (some ⟨gq,0,none⟩) 1 1) [(p.seq,b,false)] _ rfl HGO.out at_ d2.tell.2.length ct rfl (d2.tell.2.map toldT) Bt HO3.out HDJ.out (by have:=HTL.out;unfold maxLen;simp;omega) (by have:=HTL.out;simp;omega) hw0 ?_
  intro v9 w9 hown9 hfr9 hv9
  obtain ⟨hGP9,hF9⟩:=got_end (no:=no) (gq:=gq) (fun y hy => HNL.out y (HSUB.out y hy)) HH3.out HF.out hown9 hfr9 ⟨HGQ.out,List.mem_append_left _ (List.mem_singleton_self _)⟩ (fun y hy => (hv9 y hy).imp (fun e => by simp [blockOf] at e;exact e.symm) id) (fun y hy => by
   rcases List.mem_append.1 hy with hy | hy
   ·exact ⟨(HC.out.block y (mem_toList.1 hy)).1,List.mem_append_right _ (HN3.out _ ((List.mem_append_left _ hy)))⟩
   ·exact ⟨by have:=(HBT.out y hy).1;have:=HBW.out;omega,List.mem_append_right _ (HBT.out y hy).2⟩) (fun y hy => List.mem_append_right _ (HN3.out _ ((List.mem_append_right _ hy))))
  obtain ⟨a9,c9,ev9⟩:=hown9.shape
  have el9 : ([(p.seq,b,false)] ++ d2.tell.2.map toldT).length = d2.tell.2.length + 1:=by simp
  rw [el9] at ev9
  subst ev9
  clear el9
  have HG9:=Hd hGP9;have HF9:=Hd hF9
  clear hGP9 hF9 hown9 hfr9 hv9 hw0
  refine hK.out _ _ (fun _ => by rename_i h;exact absurd (by simp) h) ?_
  clear hK K
  simp only [Act.put,zz1,zz2,zz3,zz4,zz5,zz6]
  refine wpAnyT_one (i:=9) (by kernel_rfl) rfl (fun K hK => ?_)
  rw [if_pos (by rfl)]
  go_simp
  refine hK.out _ _ (fun _ => by rename_i h;exact absurd (by simp) h) ?_
  clear hK K
  simp only [Act.put,zz1,zz2,zz3,zz4,zz5,zz6]
  refine wpAnyT_one (i:=10) (by kernel_rfl) rfl (fun K hK => ?_)
  rw [if_pos (by rfl)]
  go_simp
  refine hK.out _ _ (fun _ => by rename_i h;exact absurd (by simp) h) ?_
  clear hK K
  simp only [Act.put,zz1,zz2,zz3,zz4,zz5,zz6]
  refine wpAnyT_done (by kernel_rfl) ?_ _
  go_wp2_with fail
  go_ret2
  rw [HMD.out]
  exact ⟨_,rfl,hs3,HG9.out,HP3.out,HF9.out⟩
end Go.Proofs.YtcngfbjmpemehaaGreat

/- The walks of peel's first,of room's closure and of slices.MinFunc of held repairs (printed by gen_pk15.py). -/
namespace Go.Proofs.YtcngfbjmpemehaaGreat
open Go.RowKit Go.Maps

theorem first_eq {d : PkD} {r : Rep_} (h : ¬(r.m.hi = 0 ∧ r.m.lo = 0)) : d.first r = peekW d.hi (add16 r.base r.m.first):=by
 have hz : r.m ≠ Msk.zero:=fun e => h (by rw [e];exact ⟨rfl,rfl⟩)
 obtain ⟨i,h1,-,h2⟩:=Msk.first_some hz
 unfold PkD.first PkD.peek seqsOf
 rw [h2,h1]
 rfl
theorem pkFirst_any {w : World} {g mb : Nat} {d : PkD} {vr : Value} {turn : Int} (hB : Box w g 90 (pkc d mb vr turn)) (hb : ∀ h,d.hi = some h → 40000 ≤ h ∧ h ≤ 4611686018427300000) {r : Rep_} (hnz : ¬(r.m.hi = 0 ∧ r.m.lo = 0)) (a : Option Addr) (n c : Nat) :
  Calls Tryz.prog 91 #[.pointer (some ⟨g,0,none⟩),.agg (rpc r (.slice a n c))] w fun e w' => e = .returned (.int .i64 (d.first r)) ∧ Fr [] w w':=by
 obtain ⟨w1,e1,hF1,hX1,hs1⟩:=one_new w (rpc r (.slice a n c)) 38
 have HB:=Hd (hB.keep hF1);have HX:=Hd hX1;have HF:=Hd hF1;have E1:=Hd e1;have HI:=Hd hb
 have HE:=Hd (first_eq (d:=d) hnz)
 clear hB hX1 hF1 e1 hs1 hb hnz
 go_enter Tryz.func91,Tryz.ntmps91
 go_upto_region 1 with fail
 rw [E1.out]
 clear E1
 generalize w.heap.size = q at *
 refine wp_region_T (fun w' => Fr [] w1.drew w') [] 14 #[false,false,false,false,false,false,false,false,false,false,false,false,false,false] (by kernel_rfl) rfl rfl ?_
 try simp only [List.append_eq,List.cons_append,List.nil_append]
 have hF:=(Fr.refl [] w1).drew
 have HB:=Hd (HB.out.keep hF)
 have HX:=Hd (HX.out.keep hF)
 have HF:=Hd (HF.out.trans hF)
 clear hF
 have HSS : Hid (Fr [] w1.drew w1.drew):=Hd (Fr.refl _ _)
 generalize w1.drew = wd at *
 refine wL 0 ?_ rfl (by kernel_rfl) (fun _ _ _ h => h) HSS.out (by rfl) ?_ ?_
 rotate_left
 ·intro w hSw;have n0:=hSw.cellSome (show wd.cell? ⟨q,8,none⟩ = some (.int .u16 (r.base.toNat : Nat)) by rw [HX.out.cell];rfl) (by simp);have n1:=hSw.cellSome (show wd.cell? ⟨q,9,none⟩ = some (.int .u64 (r.m.hi.toNat : Nat)) by rw [HX.out.cell];rfl) (by simp);have n2:=hSw.cellSome (show wd.cell? ⟨q,10,none⟩ = some (.int .u64 (r.m.lo.toNat : Nat)) by rw [HX.out.cell];rfl) (by simp);go_simp;try with_reducible rfl
 simp only [Act.put,zz1,zz2,zz3,zz4,zz5,zz6]
 refine wL 1 ?_ rfl (by kernel_rfl) (fun _ _ _ h => h) HSS.out (by rfl) ?_ ?_
 rotate_left
 ·intro w hSw;have n0:=hSw.cellSome (show wd.cell? ⟨q,8,none⟩ = some (.int .u16 (r.base.toNat : Nat)) by rw [HX.out.cell];rfl) (by simp);have n1:=hSw.cellSome (show wd.cell? ⟨q,9,none⟩ = some (.int .u64 (r.m.hi.toNat : Nat)) by rw [HX.out.cell];rfl) (by simp);have n2:=hSw.cellSome (show wd.cell? ⟨q,10,none⟩ = some (.int .u64 (r.m.lo.toNat : Nat)) by rw [HX.out.cell];rfl) (by simp);go_simp;try with_reducible rfl
 simp only [Act.put,zz1,zz2,zz3,zz4,zz5,zz6]
 refine wL 2 ?_ rfl (by kernel_rfl) (fun _ _ _ h => h) HSS.out (by rfl) ?_ ?_
 rotate_left
 ·intro w hSw;have n0:=hSw.cellSome (show wd.cell? ⟨q,8,none⟩ = some (.int .u16 (r.base.toNat : Nat)) by rw [HX.out.cell];rfl) (by simp);have n1:=hSw.cellSome (show wd.cell? ⟨q,9,none⟩ = some (.int .u64 (r.m.hi.toNat : Nat)) by rw [HX.out.cell];rfl) (by simp);have n2:=hSw.cellSome (show wd.cell? ⟨q,10,none⟩ = some (.int .u64 (r.m.lo.toNat : Nat)) by rw [HX.out.cell];rfl) (by simp);go_simp;try with_reducible rfl
 simp only [Act.put,zz1,zz2,zz3,zz4,zz5,zz6]
 refine wL 3 ?_ rfl (by kernel_rfl) (fun _ _ _ h => h) HSS.out (by rfl) ?_ ?_
 rotate_left
 ·intro w hSw;have n0:=hSw.cellSome (show wd.cell? ⟨q,8,none⟩ = some (.int .u16 (r.base.toNat : Nat)) by rw [HX.out.cell];rfl) (by simp);have n1:=hSw.cellSome (show wd.cell? ⟨q,9,none⟩ = some (.int .u64 (r.m.hi.toNat : Nat)) by rw [HX.out.cell];rfl) (by simp);have n2:=hSw.cellSome (show wd.cell? ⟨q,10,none⟩ = some (.int .u64 (r.m.lo.toNat : Nat)) by rw [HX.out.cell];rfl) (by simp);go_simp;try with_reducible rfl
 simp only [Act.put,zz1,zz2,zz3,zz4,zz5,zz6]
 refine wL 4 ?_ rfl (by kernel_rfl) (fun _ _ _ h => h) HSS.out (by rfl) ?_ ?_
 rotate_left
 ·intro w hSw;have n0:=hSw.cellSome (show wd.cell? ⟨q,8,none⟩ = some (.int .u16 (r.base.toNat : Nat)) by rw [HX.out.cell];rfl) (by simp);have n1:=hSw.cellSome (show wd.cell? ⟨q,9,none⟩ = some (.int .u64 (r.m.hi.toNat : Nat)) by rw [HX.out.cell];rfl) (by simp);have n2:=hSw.cellSome (show wd.cell? ⟨q,10,none⟩ = some (.int .u64 (r.m.lo.toNat : Nat)) by rw [HX.out.cell];rfl) (by simp);go_simp;try with_reducible rfl
 simp only [Act.put,zz1,zz2,zz3,zz4,zz5,zz6]
 refine wL 5 ?_ rfl (by kernel_rfl) (fun _ _ _ h => h) HSS.out (by rfl) ?_ ?_
 rotate_left
 ·intro w hSw;have n0:=hSw.cellSome (show wd.cell? ⟨q,8,none⟩ = some (.int .u16 (r.base.toNat : Nat)) by rw [HX.out.cell];rfl) (by simp);have n1:=hSw.cellSome (show wd.cell? ⟨q,9,none⟩ = some (.int .u64 (r.m.hi.toNat : Nat)) by rw [HX.out.cell];rfl) (by simp);have n2:=hSw.cellSome (show wd.cell? ⟨q,10,none⟩ = some (.int .u64 (r.m.lo.toNat : Nat)) by rw [HX.out.cell];rfl) (by simp);go_simp;try with_reducible rfl
 simp only [Act.put,zz1,zz2,zz3,zz4,zz5,zz6]
 refine wL 6 ?_ rfl (by kernel_rfl) (fun _ _ _ h => h) HSS.out (by rfl) ?_ ?_
 rotate_left
 ·intro w hSw;have n0:=hSw.cellSome (show wd.cell? ⟨q,8,none⟩ = some (.int .u16 (r.base.toNat : Nat)) by rw [HX.out.cell];rfl) (by simp);have n1:=hSw.cellSome (show wd.cell? ⟨q,9,none⟩ = some (.int .u64 (r.m.hi.toNat : Nat)) by rw [HX.out.cell];rfl) (by simp);have n2:=hSw.cellSome (show wd.cell? ⟨q,10,none⟩ = some (.int .u64 (r.m.lo.toNat : Nat)) by rw [HX.out.cell];rfl) (by simp);go_simp;try with_reducible rfl
 simp only [Act.put,zz1,zz2,zz3,zz4,zz5,zz6]
 refine wL 7 ?_ rfl (by kernel_rfl) (fun _ _ _ h => h) HSS.out (by rfl) ?_ ?_
 rotate_left
 ·intro w hSw;have n0:=hSw.cellSome (show wd.cell? ⟨q,8,none⟩ = some (.int .u16 (r.base.toNat : Nat)) by rw [HX.out.cell];rfl) (by simp);have n1:=hSw.cellSome (show wd.cell? ⟨q,9,none⟩ = some (.int .u64 (r.m.hi.toNat : Nat)) by rw [HX.out.cell];rfl) (by simp);have n2:=hSw.cellSome (show wd.cell? ⟨q,10,none⟩ = some (.int .u64 (r.m.lo.toNat : Nat)) by rw [HX.out.cell];rfl) (by simp);go_simp;try with_reducible rfl
 simp only [Act.put,zz1,zz2,zz3,zz4,zz5,zz6]
 refine wL 8 ?_ rfl (by kernel_rfl) (fun _ _ _ h => h) HSS.out (by rfl) ?_ ?_
 rotate_left
 ·intro w hSw;have n0:=hSw.cellSome (show wd.cell? ⟨q,8,none⟩ = some (.int .u16 (r.base.toNat : Nat)) by rw [HX.out.cell];rfl) (by simp);have n1:=hSw.cellSome (show wd.cell? ⟨q,9,none⟩ = some (.int .u64 (r.m.hi.toNat : Nat)) by rw [HX.out.cell];rfl) (by simp);have n2:=hSw.cellSome (show wd.cell? ⟨q,10,none⟩ = some (.int .u64 (r.m.lo.toNat : Nat)) by rw [HX.out.cell];rfl) (by simp);go_simp;try with_reducible rfl
 simp only [Act.put,zz1,zz2,zz3,zz4,zz5,zz6]
 refine wL 9 ?_ rfl (by kernel_rfl) (fun _ _ _ h => h) HSS.out (by rfl) ?_ ?_
 rotate_left
 ·intro w hSw;have n0:=hSw.cellSome (show wd.cell? ⟨q,8,none⟩ = some (.int .u16 (r.base.toNat : Nat)) by rw [HX.out.cell];rfl) (by simp);have n1:=hSw.cellSome (show wd.cell? ⟨q,9,none⟩ = some (.int .u64 (r.m.hi.toNat : Nat)) by rw [HX.out.cell];rfl) (by simp);have n2:=hSw.cellSome (show wd.cell? ⟨q,10,none⟩ = some (.int .u64 (r.m.lo.toNat : Nat)) by rw [HX.out.cell];rfl) (by simp);go_simp;try with_reducible rfl
 simp only [Act.put,zz1,zz2,zz3,zz4,zz5,zz6]
 refine wpAnyT_one (i:=10) (by kernel_rfl) rfl (fun K hK => ?_)
 rw [if_pos (by rfl)]
 go_simp
 refine (mFirst_any r.m wd).mono ?_
 rintro e wq10 ⟨rfl,hF⟩
 have HSS:=Hd (HSS.out.trans hF);have HB:=Hd (HB.out.keep hF);have HF:=Hd (HF.out.trans hF)
 clear hF
 go_simp
 refine hK.out _ _ (fun _ => HSS.out) ?_
 clear hK K
 simp only [Act.put,zz1,zz2,zz3,zz4,zz5,zz6]
 refine wpAnyT_one (i:=11) (by kernel_rfl) rfl (fun K hK => ?_)
 rw [if_pos (by rfl)]
 go_simp
 refine (serAdd_any r.base r.m.first wq10).mono ?_
 rintro e wz ⟨rfl,rfl⟩
 go_simp
 refine hK.out _ _ (fun _ => HSS.out) ?_
 clear hK K
 simp only [Act.put,zz1,zz2,zz3,zz4,zz5,zz6]
 refine wpAnyT_one (i:=12) (by kernel_rfl) rfl (fun K hK => ?_)
 rw [if_pos (by rfl)]
 go_simp
 refine (widePeek_any (w:=wq10) (g:=g) (o:=3) (hi:=d.hi) ⟨by rw [HB.out.cell];rfl,by rw [HB.out.cell];rfl⟩ HI.out (add16 r.base r.m.first)).mono ?_
 rintro e wq12 ⟨rfl,hF⟩
 have HSS:=Hd (HSS.out.trans hF);have HB:=Hd (HB.out.keep hF);have HF:=Hd (HF.out.trans hF)
 clear hF
 go_simp
 refine hK.out _ _ (fun _ => HSS.out) ?_
 clear hK K
 simp only [Act.put,zz1,zz2,zz3,zz4,zz5,zz6]
 refine wL 13 ?_ rfl (by kernel_rfl) (fun _ _ _ h => h) HSS.out (by rfl) ?_ ?_
 rotate_left
 ·intro w hSw;go_simp;try with_reducible rfl
 simp only [Act.put,zz1,zz2,zz3,zz4,zz5,zz6]
 refine wpAnyT_done (by kernel_rfl) ?_ _
 go_wp2_with fail
 go_ret
 exact ⟨by rw [HE.out];rfl,HF.out⟩
theorem first_bd {d : PkD} {r : Rep_} (hb : ∀ h,d.hi = some h → 40000 ≤ h ∧ h ≤ 4611686018427300000) : 0 ≤ d.first r ∧ d.first r ≤ 4611686018427400000:=by
 unfold PkD.first PkD.peek
 generalize (seqsOf r.base r.m).headD 0 = s
 have hs:=s.toNat_lt
 cases hh : d.hi with
 | none => show 0 ≤ (4294967296 : Int) + (s.toNat : Int) ∧ (4294967296 : Int) + (s.toNat : Int) ≤ _;omega
 | some h =>
  have h1:=hb h hh
  have h2:=peekW_some (h:=h) (q:=s)
  omega
theorem pkRoom1_any {w : World} {g mb : Nat} {d : PkD} {vr : Value} {turn : Int} (hB : Box w g 90 (pkc d mb vr turn)) (hb : ∀ h,d.hi = some h → 40000 ≤ h ∧ h ≤ 4611686018427300000) {x : Nat} (hx : Box w x 27 #[.pointer (some ⟨g,0,none⟩)]) {ya yb : Rep_ × Int} (hna : ¬(ya.1.m.hi = 0 ∧ ya.1.m.lo = 0)) (hnb : ¬(yb.1.m.hi = 0 ∧ yb.1.m.lo = 0)) (a1 a2 : Option Addr) (n1 c1 n2 c2 : Nat) :
  Calls Tryz.prog 90 #[.agg (hdc ya (.slice a1 n1 c1)),.agg (hdc yb (.slice a2 n2 c2)),.pointer (some ⟨x,0,none⟩)] w fun e w' => e = .returned (.int .i64 (d.first ya.1 - d.first yb.1)) ∧ Fr [] w w':=by
 obtain ⟨w1,e1,hF1,hA1,hC1,hs1⟩:=two_new w (hdc ya (.slice a1 n1 c1)) 144 (hdc yb (.slice a2 n2 c2)) 144
 have HB:=Hd (hB.keep hF1);have HX:=Hd (hx.keep hF1);have HA:=Hd hA1;have HC:=Hd hC1;have HF:=Hd hF1;have E1:=Hd e1;have HI:=Hd hb;have HNA:=Hd hna;have HNC:=Hd hnb
 have b1:=first_bd (r:=ya.1) hb;have b2:=first_bd (r:=yb.1) hb
 have hwr : IntKind.i64.wrap (d.first ya.1 - d.first yb.1) = d.first ya.1 - d.first yb.1:=IntWalk.i64_in _ (by omega)
 clear hB hx hA1 hC1 hF1 e1 hs1 hb hna hnb b1 b2
 go_enter Tryz.func90,Tryz.ntmps90
 go_upto_region 1 with fail
 rw [E1.out]
 clear E1
 generalize w.heap.size = q at *
 refine wp_region_T (fun w' => Fr [] w1.drew w') [] 10 #[false,false,false,false,false,false,false,false,false,false] (by kernel_rfl) rfl rfl ?_
 try simp only [List.append_eq,List.cons_append,List.nil_append]
 have hF:=(Fr.refl [] w1).drew
 have HB:=Hd (HB.out.keep hF)
 have HX:=Hd (HX.out.keep hF)
 have HA:=Hd (HA.out.keep hF)
 have HC:=Hd (HC.out.keep hF)
 have HF:=Hd (HF.out.trans hF)
 clear hF
 have HSS : Hid (Fr [] w1.drew w1.drew):=Hd (Fr.refl _ _)
 generalize w1.drew = wd at *
 have HRA:=Hd (held_range HA.out);have HRC:=Hd (held_range HC.out)
 have HX0 : Hid (wd.cell? ⟨x,0,none⟩ = some (.pointer (some ⟨g,0,none⟩))):=Hd (by rw [HX.out.cell];rfl)
 refine wL 0 ?_ rfl (by kernel_rfl) (fun _ _ _ h => h) HSS.out (by rfl) ?_ ?_
 rotate_left
 ·intro w hSw;have n0:=hSw.cellSome HX0.out (by simp);go_simp;try with_reducible rfl
 simp only [Act.put,zz1,zz2,zz3,zz4,zz5,zz6]
 refine wL 1 ?_ rfl (by kernel_rfl) (fun _ _ _ h => h) HSS.out (by rfl) ?_ ?_
 rotate_left
 ·intro w hSw;have n0:=hSw.cellSome HX0.out (by simp);go_simp;try with_reducible rfl
 simp only [Act.put,zz1,zz2,zz3,zz4,zz5,zz6]
 refine wL 2 ?_ rfl (by kernel_rfl) (fun _ _ _ h => h) HSS.out (by rfl) ?_ ?_
 rotate_left
 ·intro w' hSw;refine run_load_mid_ask 38 (.tmp 7) ?_ q 0 ?_ (rpc ya.1 (.slice a1 n1 c1)) _ (fr_rngB hSw HRA.out (by simp)) Tryz.underlying38 rfl (by kernel_rfl) <;> rfl
 simp only [Act.put,zz1,zz2,zz3,zz4,zz5,zz6]
 refine wL 4 ?_ rfl (by kernel_rfl) (fun _ _ _ h => h) HSS.out (by rfl) ?_ ?_
 rotate_left
 ·intro w hSw;have n0:=hSw.cellSome HX0.out (by simp);go_simp;try with_reducible rfl
 simp only [Act.put,zz1,zz2,zz3,zz4,zz5,zz6]
 refine wL 5 ?_ rfl (by kernel_rfl) (fun _ _ _ h => h) HSS.out (by rfl) ?_ ?_
 rotate_left
 ·intro w hSw;have n0:=hSw.cellSome HX0.out (by simp);go_simp;try with_reducible rfl
 simp only [Act.put,zz1,zz2,zz3,zz4,zz5,zz6]
 refine wL 6 ?_ rfl (by kernel_rfl) (fun _ _ _ h => h) HSS.out (by rfl) ?_ ?_
 rotate_left
 ·intro w' hSw;refine run_load_mid_ask 38 (.tmp 11) ?_ (q + 1) 0 ?_ (rpc yb.1 (.slice a2 n2 c2)) _ (fr_rngB hSw HRC.out (by simp)) Tryz.underlying38 rfl (by kernel_rfl) <;> rfl
 simp only [Act.put,zz1,zz2,zz3,zz4,zz5,zz6]
 refine wpAnyT_one (i:=3) (by kernel_rfl) rfl (fun K hK => ?_)
 rw [if_pos (by rfl)]
 go_simp
 refine (pkFirst_any HB.out HI.out HNA.out a1 n1 c1).mono ?_
 rintro e wq3 ⟨rfl,hF⟩
 have HSS:=Hd (HSS.out.trans hF);have HB:=Hd (HB.out.keep hF);have HF:=Hd (HF.out.trans hF)
 clear hF
 go_simp
 refine hK.out _ _ (fun _ => HSS.out) ?_
 clear hK K
 simp only [Act.put,zz1,zz2,zz3,zz4,zz5,zz6]
 refine wpAnyT_one (i:=7) (by kernel_rfl) rfl (fun K hK => ?_)
 rw [if_pos (by rfl)]
 go_simp
 refine (pkFirst_any HB.out HI.out HNC.out a2 n2 c2).mono ?_
 rintro e wq7 ⟨rfl,hF⟩
 have HSS:=Hd (HSS.out.trans hF);have HB:=Hd (HB.out.keep hF);have HF:=Hd (HF.out.trans hF)
 clear hF
 go_simp
 refine hK.out _ _ (fun _ => HSS.out) ?_
 clear hK K
 simp only [Act.put,zz1,zz2,zz3,zz4,zz5,zz6]
 refine wL 8 ?_ rfl (by kernel_rfl) (fun _ _ _ h => h) HSS.out (by rfl) ?_ ?_
 rotate_left
 ·intro w hSw;go_simp;try with_reducible rfl
 simp only [Act.put,zz1,zz2,zz3,zz4,zz5,zz6]
 refine wL 9 ?_ rfl (by kernel_rfl) (fun _ _ _ h => h) HSS.out (by rfl) ?_ ?_
 rotate_left
 ·intro w hSw;go_simp;try with_reducible rfl
 simp only [Act.put,zz1,zz2,zz3,zz4,zz5,zz6]
 refine wpAnyT_done (by kernel_rfl) ?_ _
 go_wp2_with fail
 go_ret
 exact ⟨rfl,HF.out⟩
end Go.Proofs.YtcngfbjmpemehaaGreat
