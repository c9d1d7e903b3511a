import Derived.Test.YtcngfbjmpemehaaGreatMp30
import Derived.Test.YtcngfbjmpemehaaGreatMp31
import Derived.Test.YtcngfbjmpemehaaGreatMp25
import Derived.Test.YtcngfbjmpemehaaGreatMp14
import Derived.Test.YtcngfbjmpemehaaGreatMp26
import Derived.Test.YtcngfbjmpemehaaGreatMp32
set_option maxRecDepth 100000
set_option maxHeartbeats 16000000
open List renaming getElem_toArray → zz1, getElem_cons_zero → zz2, getElem_cons_succ → zz3, setIfInBounds_toArray → zz4, set_cons_zero → zz5, set_cons_succ → zz6, getElem?_toArray → zz7, getElem?_cons_succ → zz8, getElem?_cons_zero → zz9
open Go.Lib renaming hid → Hd
/- The walk of confluxref14.Rest (printed by gen_r14.py). -/
namespace Go.Proofs.YtcngfbjmpemehaaGreat
open Go.RowKit

theorem find_isNo {ls : List (List UInt8)} {n : UInt16} {l : List UInt8} (h : findL ls n = some l) : ∃ p,parseR l = .ok p ∧ p.seq = n:=by
 have h1:=List.find?_some h
 unfold isNo at h1
 split at h1
 ·rename_i p hp
  exact ⟨p,hp,by simpa using h1⟩
 ·cases h1
theorem lookB_find {ls : List (List UInt8)} {n : UInt16} {ss : UInt32} {l : List UInt8} {p : Pkt} (h : findL ls n = some l) (hp : parseR l = .ok p) : lookB (findL ls) ss n = if p.ssrc = ss then some (imp l) else none:=by
 obtain ⟨q,hq,hs⟩:=find_isNo h
 rw [hp] at hq
 cases hq
 unfold lookB
 rw [h]
 simp only [hp]
 by_cases e : p.ssrc = ss
 ·rw [if_pos e,if_pos ⟨hs,e⟩]
 ·rw [if_neg e,if_neg fun k => e k.2]
theorem head_mod (h : UInt8) : (((h.toNat : Nat) : Int)).tmod 64 = (((h &&& 63).toNat : Nat) : Int):=by
 have h1 : ∀ n < 256,(UInt8.ofNat n &&& 63).toNat = n % 64:=by decide +kernel
 have h2:=h1 h.toNat h.toNat_lt
 rw [UInt8.ofNat_toNat] at h2
 rw [h2,Int.tmod_eq_emod_of_nonneg (Int.natCast_nonneg _)]
 rfl
structure RInv (w W : World) (g6 g : Nat) (nv mv vh vb : Value) (ns : List UInt16) (s : Bt × List UInt16) : Prop where
 box : Box W g 105 #[vh,vb]
 hd : Bytes W vh s.1.head
 bd : Bytes W vb s.1.body
 own : OwnV W w.heap.size 24 W16 mv s.2
 nums : Sl W nv (ns.map W16)
 g0 : w.heap.size ≤ g
 mg : ∀ b,blockOf mv = some b → b ≠ g
 xg : ∀ b,liveOf vh = some b ∨ liveOf vb = some b → b ≠ g ∧ b ≠ g6 ∧ ∀ c,blockOf mv = some c → b ≠ c
 ng : ∀ b,liveOf nv = some b → b ≠ g ∧ ∀ c,blockOf mv = some c → b ≠ c
 fr : Fr [] w W
section
variable {w W W' : World} {g6 g : Nat} {nv mv mv' vh vb vh' vb' : Value} {ns : List UInt16} {s : Bt × List UInt16}
theorem RInv.keep (h : RInv w W g6 g nv mv vh vb ns s) (hf : Fr [] W W') : RInv w W' g6 g nv mv vh vb ns s :=
 ⟨h.box.keep hf,Sl.keep h.hd hf,Sl.keep h.bd hf,h.own.keep hf,Sl.keep h.nums hf,h.g0,h.mg,h.xg,h.ng,h.fr.trans hf⟩
theorem RInv.push (h : RInv w W g6 g nv mv vh vb ns s) {n : UInt16} (ho : OwnV W' w.heap.size 24 W16 mv' (s.2 ++ [n])) (hf : Fr (blockOf mv).toList W W') (hb : ∀ b,blockOf mv' = some b → blockOf mv = some b ∨ W.heap.size ≤ b) :
  RInv w W' g6 g nv mv' vh vb ns (s.1,s.2 ++ [n]):=by
 have hgl:=h.box.lt
 refine ⟨h.box.fr hf (fun hm => h.mg g (mem_toList.1 hm) rfl),Sl.frL h.hd hf (fun b hb' hm => (h.xg b (.inl hb')).2.2 b (mem_toList.1 hm) rfl),Sl.frL h.bd hf (fun b hb' hm => (h.xg b (.inr hb')).2.2 b (mem_toList.1 hm) rfl),ho,
  Sl.frL h.nums hf (fun b hb' hm => (h.ng b hb').2 b (mem_toList.1 hm) rfl),h.g0,fun b hb' => ?_,fun b hx => ⟨(h.xg b hx).1,(h.xg b hx).2.1,fun c hc => ?_⟩,fun b hx => ⟨(h.ng b hx).1,fun c hc => ?_⟩,h.fr.step hf (fun b hm => .inr (h.own.block b (mem_toList.1 hm)).1)⟩
 ·rcases hb b hb' with h1 | h1
  ·exact h.mg b h1
  ·omega
 ·rcases hb c hc with h1 | h1
  ·exact (h.xg b hx).2.2 c h1
  ·have : b < W.heap.size:=by
    rcases hx with hx | hx
    ·exact Sl.lt h.hd b hx
    ·exact Sl.lt h.bd b hx
   omega
 ·rcases hb c hc with h1 | h1
  ·exact (h.ng b hx).2 c h1
  ·have:=Sl.lt h.nums b hx
   omega
theorem RInv.put (h : RInv w W g6 g nv mv vh vb ns s) {x : Bt} (hx : Box W' g 105 #[vh',vb']) (h1 : Bytes W vh' x.head) (h2 : Bytes W vb' x.body) (hn : ∀ b,liveOf vh' = some b ∨ liveOf vb' = some b → b ≠ g ∧ b ≠ g6 ∧ ∀ c,blockOf mv = some c → b ≠ c) (hf : Fr [g] W W') :
  RInv w W' g6 g nv mv vh' vb' ns (x,s.2):=by
 refine ⟨hx,Sl.frL h1 hf (fun b hb hm => (hn b (.inl hb)).1 (by simpa using hm)),Sl.frL h2 hf (fun b hb hm => (hn b (.inr hb)).1 (by simpa using hm)),Own.fr h.own hf (fun b hb hm => h.mg b hb (by simpa using hm)),
  Sl.frL h.nums hf (fun b hb hm => (h.ng b hb).1 (by simpa using hm)),h.g0,h.mg,hn,h.ng,h.fr.step hf (fun b hm => .inr (by have:=h.g0;simp at hm;omega))⟩
end
def RestV (w' : World) (e : Ending) (s : Bt × List UInt16) : Prop:=∃ vh vb mv,e = .returned (.tuple #[.agg #[vh,vb],mv]) ∧ Bytes w' vh s.1.head ∧ Bytes w' vb s.1.body ∧ Sl w' mv (s.2.map W16)
theorem r14Rest_any {w : World} {v vp : Value} {r : Rep_} {ls : List (List UInt8)} (h : RpV w v r) (hs : r.bt.body.length ≤ 1099511627776) (ss : UInt32) (hl : BRows w vp ls) :
  Calls Tryz.prog 38 #[v,.int .u32 (ss.toNat : Nat),vp] w fun e w' => RestV w' e (restL (findL ls) ss r) ∧ Fr [] w w':=by
 obtain ⟨vb,rfl,hbd⟩:=h
 obtain ⟨ab,cb,rfl⟩:=Sl.shape hbd
 rw [List.length_map] at hbd ⊢
 obtain ⟨av,cv,rfl⟩:=hl.shape
 obtain ⟨w1,e1,hF,hB1,hB2,hs1⟩:=two_new w (rpc r (.slice ab r.bt.body.length cb)) 38 #[.slice none 0 0,.slice none 0 0] 105
 have HLB : Hid (∀ b,liveOf (.slice ab r.bt.body.length cb) = some b → b < w.heap.size):=Hd (fun b hb => Sl.lt hbd b hb)
 have HL0:=Hd hl;have HL:=Hd (hl.keep hF);have HBD:=Hd (Sl.keep hbd hF);have HF:=Hd hF;have HR:=Hd hB1;have H6:=Hd hB2;have E1:=Hd e1;have HS1:=Hd hs1
 clear hl hbd hF hB1 hB2 hs1 e1
 have x0:=HR.out.cell 0;have x1:=HR.out.cell 1;have x2:=HR.out.cell 2;have x3:=HR.out.cell 3;have x4:=HR.out.cell 4;have x5:=HR.out.cell 5;have x6:=HR.out.cell 6;have x7:=HR.out.cell 7;have x11:=HR.out.cell 11
 simp only [rpc,zz7,zz8,zz9] at x0 x1 x2 x3 x4 x5 x6 x7 x11
 obtain ⟨z,hz⟩ : ∃ z : Nat,z = (r.bt.h0 &&& 63).toNat:=⟨_,rfl⟩
 have hmod : (((r.bt.h0.toNat : Nat) : Int)).tmod 64 = ((z : Nat) : Int):=by rw [hz];exact head_mod _
 obtain ⟨w2,e2,hF2,hB3,hs2⟩:=one_new w1 #[.int .u8 (z : Int),.int .u8 (r.bt.h1.toNat : Nat),.int .u8 (r.bt.h2.toNat : Nat),.int .u8 (r.bt.h3.toNat : Nat),.int .u8 (r.bt.h4.toNat : Nat),.int .u8 (r.bt.h5.toNat : Nat),.int .u8 (r.bt.h6.toNat : Nat),.int .u8 (r.bt.h7.toNat : Nat)] 5
 have HH : Hid (Bytes w2 (.slice (some ⟨w1.heap.size,0,none⟩) 8 8) r.bt.cut.head):=Hd (box_sl (off:=0) (cap:=8) hB3 (r.bt.cut.head.map B8) (by intro i y hy;rw [hz];simpa [Bt.head,Bt.cut,B8] using hy) (by simp [Bt.head]) (by unfold maxLen;omega))
 have E2:=Hd e2;have HS2:=Hd hs2
 have HL:=Hd (HL.out.keep hF2);have HBD:=Hd (Sl.keep HBD.out hF2);have HF:=Hd (HF.out.trans hF2);have HR:=Hd (HR.out.keep hF2);have H6:=Hd (H6.out.keep hF2)
 have y11:=HR.out.cell 11
 simp only [rpc,zz7,zz8,zz9] at y11
 rw [← e2] at y11
 clear hF2 hB3 e2 hs2 hz
 go_enter Tryz.func38,Tryz.ntmps38
 go_upto_region 1 with fail
 rw [E1.out]
 clear E1
 generalize hg3 : w.heap.size = g3 at *
 have HG3:=Hd hg3
 clear hg3
 go_upto_region 2 with fail
 obtain ⟨w3,e3,hF,hB3,hs3⟩:=one_new w2 #[.slice (some ⟨w1.heap.size,0,none⟩) 8 8,.slice ab r.bt.body.length cb] 105
 rw [E2.out,e3]
 have H8 : Hid (Box w3 w2.heap.size 105 #[.slice (some ⟨w1.heap.size,0,none⟩) 8 8,.slice ab r.bt.body.length cb]):=Hd hB3
 have HL:=Hd (HL.out.keep hF);have HBD:=Hd (Sl.keep HBD.out hF);have HF2:=Hd hF;have HR:=Hd (HR.out.keep hF);have HH:=Hd (Sl.keep HH.out hF)
 clear hF e3 hB3 hs3 E2 x0 x1 x2 x3 x4 x5 x6 x7 x11 y11 hmod
 obtain ⟨g8,hg8⟩ : ∃ g8,w2.heap.size = g8:=⟨_,rfl⟩
 have HG8:=Hd hg8
 rw [hg8] at H8
 rw [show w1.heap.size + 1 = g8 by rw [← hg8,HS2.out]]
 clear hg8
 go_wp2_with (refine wpList_load_row_w rfl 38 (.tmp 3) rfl g3 rfl 38 _ _ HR.out Tryz.underlying38 rfl (by kernel_rfl) ?_)
 refine (r11Repair_any (r:=r) ⟨_,rfl,HBD.out⟩).mono ?_
 rintro e w4 ⟨v4,rfl,hO,hF⟩
 obtain ⟨a9,c9,rfl⟩:=hO.shape
 have HNS:=Hd hO.sl
 have HNB : Hid (∀ b,blockOf (.slice a9 (seqsOf r.base r.m).length c9) = some b → g8 < b ∧ b < w4.heap.size):=Hd (fun b hb => by have h1:=hO.block b hb;have h2:=H8.out.lt;omega)
 have HL:=Hd (HL.out.keep hF);have HBD:=Hd (Sl.keep HBD.out hF);have HF2:=Hd (HF2.out.trans hF);have HR:=Hd (HR.out.keep hF);have H8:=Hd (H8.out.keep hF);have HH:=Hd (Sl.keep HH.out hF)
 have Q4 : Hid (g8 < w4.heap.size):=Hd H8.out.lt
 have HNL : Hid ((seqsOf r.base r.m).length ≤ 128):=Hd (by unfold seqsOf;rw [List.length_map];exact r.m.list_len)
 clear hO hF
 have HRL : Hid (restL (findL ls) ss r = (seqsOf r.base r.m).foldl (restStep (findL ls) ss) (r.bt.cut,[])):=Hd rfl
 generalize seqsOf r.base r.m = ns at *
 have hn128 : ns.length ≤ 128:=HNL.out
 obtain ⟨w5,e5,hF,hB5,hs5⟩:=one_new w4 #[] 24
 have HM : Hid (OwnV w5 w2.heap.size 24 W16 (.slice (some ⟨w4.heap.size,0,none⟩) 0 0) []):=Hd (by subst e5;exact OwnV.made w4 w2.heap.size _ _ HF2.out.size)
 have E5:=Hd e5
 have HNS:=Hd (Sl.keep HNS.out hF)
 have HL:=Hd (HL.out.keep hF);have HBD:=Hd (Sl.keep HBD.out hF);have HF2:=Hd (HF2.out.trans hF);have HR:=Hd (HR.out.keep hF);have H8:=Hd (H8.out.keep hF);have HH:=Hd (Sl.keep HH.out hF)
 clear e5 hF hB5 hs5
 go_upto_region 4 with fail
 try rw [E5.out]
 clear E5
 have HI : Hid (RInv w2 w5 (g3 + 1) g8 (.slice a9 ns.length c9) (.slice (some ⟨w4.heap.size,0,none⟩) 0 0) (.slice (some ⟨w1.heap.size,0,none⟩) 8 8) (.slice ab r.bt.body.length cb) ns (r.bt.cut,[])):=Hd (by
  have q1:=HG8.out;have q2:=HS1.out;have q3:=HS2.out;have q4:=HG3.out;have q5:=H8.out.lt
  have q6 : g8 < w4.heap.size:=by have h1:=Q4.out;omega
  refine ⟨H8.out,HH.out,HBD.out,HM.out,HNS.out,by omega,fun b hb => ?_,fun b hb => ?_,fun b hb => ⟨?_,fun c hc => ?_⟩,HF2.out⟩
  ·simp [blockOf] at hb;omega
  ·rcases hb with hb | hb
   ·simp [liveOf] at hb
    exact ⟨by omega,by omega,fun c hc => by simp [blockOf] at hc;omega⟩
   ·have h1:=HLB.out b hb
    exact ⟨by omega,by omega,fun c hc => by simp [blockOf] at hc;omega⟩
  ·have:=HNB.out b (live_block hb);omega
  ·have:=HNB.out b (live_block hb);simp [blockOf] at hc;omega)
 have HH6:=H6
 clear HH HM HNB HNS H8 HBD HR HL
 go_upto_region 5 with fail
 go_loopw [10,11] (fun mv iv wr => ∃ (j : Nat) (vh vb : Value),j ≤ ns.length ∧ iv = .int .i64 j ∧ RInv w2 wr (g3 + 1) g8 (.slice a9 ns.length c9) mv vh vb ns ((ns.take j).foldl (restStep (findL ls) ss) (r.bt.cut,[]))) (fun _ iv _ => ns.length - (intOf iv).toNat)
 case atStart => exact ⟨0,_,_,Nat.zero_le _,rfl,HI.out⟩
 case round =>
  clear HI
  obtain ⟨j,vh,vb,hj,rfl,hI⟩:=hrel
  obtain ⟨am,nm,cm,rfl⟩:=hI.own.isSlice
  have HI:=Hd hI
  clear hI
  by_cases hlt : j < ns.length
  ·have HT : Hid ((ns.take (j + 1)).foldl (restStep (findL ls) ss) (r.bt.cut,[]) = restStep (findL ls) ss ((ns.take j).foldl (restStep (findL ls) ss) (r.bt.cut,[])) ns[j]):=Hd (by rw [List.take_succ_eq_append_getElem hlt,List.foldl_append];rfl)
   have HSZ : Hid (((ns.take j).foldl (restStep (findL ls) ss) (r.bt.cut,[])).1.body.length ≤ 1099511627776):=Hd (rest_small _ _ hs (by omega))
   have HML : Hid (((ns.take j).foldl (restStep (findL ls) ss) (r.bt.cut,[])).2.length ≤ 1099511627776):=Hd (by have h1:=rest_miss (K:=findL ls) (ss:=ss) (ns.take j) (r.bt.cut,[]);rw [List.length_take] at h1;have h2:=HNL.out;simp only [List.length_nil] at h1;omega)
   generalize (ns.take j).foldl (restStep (findL ls) ss) (r.bt.cut,[]) = s at *
   obtain ⟨bp,op,ea,-,-⟩:=Sl.at_ HI.out.nums hlt
   subst ea
   have HJ : Hid (∀ W,Sl W (.slice (some ⟨bp,op,none⟩) ns.length c9) (ns.map W16) → W.cell? ⟨bp,op + j,none⟩ = some (.int .u16 (ns[j].toNat : Nat))):=Hd (fun W hW => by
    obtain ⟨b',o',e,-,hc⟩:=Sl.at_ hW hlt
    cases e
    exact hc j (W16 ns[j]) (by rw [List.getElem?_map,List.getElem?_eq_getElem hlt];rfl))
   generalize ns[j] = n at *
   have e2:=HJ.out _ HI.out.nums
   go_wp2_with fail
   clear e2
   refine (r14Find_any (HL0.out.keep (HF.out.trans HI.out.fr)) n).mono ?_
   rintro e w6 ⟨v6,rfl,hb,hF⟩
   have HI:=Hd (HI.out.keep hF)
   obtain ⟨a6,n6,c6,rfl⟩:=Sl.isSlice hb
   have HX:=Hd hb
   clear hb hF
   cases hfk : findL ls n with
   | none =>
    rw [hfk] at HX
    simp only [Option.getD_none] at HX
    have HLK : Hid (restStep (findL ls) ss s n = (s.1,s.2 ++ [n])):=Hd (by unfold restStep lookB;rw [hfk])
    simp only [Option.isSome_none]
    clear hfk
    go_wp2_with fail
    refine (R5Parse_any HX.out).mono ?_
    rintro e w7 (⟨vp',p,hp,-,-,-⟩ | ⟨k2,hp,rfl,hF⟩)
    ·exact absurd (parse_len hp).1 (by simp)
    have HI:=Hd (HI.out.keep hF)
    clear hp hF
    unfold pz
    go_upto_region 9 with (refine wpList_store_row rfl 93 (.tmp 14) (.tmp 68) rfl w7.heap.size rfl _ _ rfl 93 (Box.new w7 93 #[.bool false,.int .i64 0,.int .u16 0,.int .u32 0,.int .u32 0,.slice none 0 0,.bool false,.int .u16 0,.slice none 0 0,.slice none 0 0,.slice none 0 0]) (by kernel_rfl) rfl (oneCell_pz) ?_;intro w8 hY hG;have hFn:=((Fr.refl [] w7).alloc _).step hG (by simp);have HFn:=Hd hFn;have HY:=Hd hY;clear hG hFn hY)
    have HI:=Hd (HI.out.keep HFn.out)
    clear HFn HY
    generalize w7.heap.size = gp at *
    have e2:=HJ.out _ HI.out.nums
    go_upto_region 10 with fail
    have HO:=Hd HI.out.own
    have HLO:=HML
    have HFQ:=Hd HI.out.fr
    have A0 : Hid ((w8.alloc (.cells #[Value.int .u16 (n.toNat : Nat)] 24)).ownsRow w2.heap.size 24 1 (.slice am nm cm) (s.2).length ((s.2).map W16)):=Hd (Own.keep HO.out ((Fr.refl [] w8).alloc _))
    have A1 : Hid ((s.2).length + [Value.int .u16 (n.toNat : Nat)].length ≤ maxLen):=Hd (by have:=HLO.out;unfold maxLen;simp only [List.length_singleton];omega)
    have A2 : Hid (((s.2).length + [Value.int .u16 (n.toNat : Nat)].length) * 2 ≤ 140737488355328):=Hd (by have:=HLO.out;simp only [List.length_singleton];omega)
    have A3 : Hid (Sl (w8.alloc (.cells #[Value.int .u16 (n.toNat : Nat)] 24)) (.slice (some ⟨w8.heap.size,0,none⟩) 1 1) [Value.int .u16 (n.toNat : Nat)]):=Hd (Sl.one w8 _ _)
    have A4 : Hid (w2.heap.size ≤ (w8.alloc (.cells #[Value.int .u16 (n.toNat : Nat)] 24)).heap.size):=Hd (by have:=HFQ.out.size;simp;omega)
    go_wp2_with (at_builtin;refine wpList_append_slf rfl (.tmp 78) (.tmp 83) 66 rfl w2.heap.size 24 (.int .u16 0) 2 Tryz.underlying66 info_u16 rfl (.slice am nm cm) (s.2).length ((s.2).map W16) rfl A0.out (.slice (some ⟨w8.heap.size,0,none⟩) 1 1) [Value.int .u16 (n.toNat : Nat)] rfl A3.out (by simp [Value.oneCell']) A1.out A2.out A4.out ?_;intro v3 w9x ho hg hfr;have HO3:=Hd ho;have HG:=Hd hg;have HBL:=Hd hfr;clear ho hg hfr)
    have HN : Hid (OwnV w9x w2.heap.size 24 W16 v3 (s.2 ++ [n])):=Hd (by
     have:=HO3.out
     unfold OwnV
     rw [List.map_append,List.length_append]
     exact this)
    have HF3 : Hid (Fr [] w2 w9x):=Hd ((HFQ.out.alloc _).step HG.out (fun x hx => .inr (HO.out.block x (by simpa using hx)).1))
    have HI2 : Hid (RInv w2 w9x (g3 + 1) g8 (.slice (some ⟨bp,op,none⟩) ns.length c9) v3 vh vb ns (s.1,s.2 ++ [n])):=Hd ((HI.out.keep ((Fr.refl [] w8).alloc _)).push HN.out HG.out HBL.out)
    clear e2
    go_wp2_with fail
    exact ⟨⟨j + 1,_,_,by omega,by go_num,by rw [HT.out,HLK.out];exact HI2.out⟩,by simp [intOf];omega⟩
   | some l =>
    rw [hfk] at HX
    simp only [Option.getD_some] at HX
    obtain ⟨p,hp,hps⟩:=find_isNo hfk
    have HLB2:=Hd (lookB_find (ss:=ss) hfk hp)
    have HP:=Hd hp
    simp only [Option.isSome_some]
    clear hfk hps hp
    go_wp2_with fail
    refine (R5Parse_any HX.out).mono ?_
    rintro e w7 (⟨vp',p',hp,rfl,hVp,hF⟩ | ⟨k2,hp,-,-⟩)
    rotate_left
    ·rw [HP.out] at hp;cases hp
    obtain rfl : p = p':=by rw [HP.out] at hp;cases hp;rfl
    obtain ⟨q1,k1,q2,k2,q3,k3,q4,k4,rfl,-,-,-,-⟩:=hVp.open_
    have HI:=Hd (HI.out.keep hF);have HX:=Hd (Sl.keep HX.out hF)
    clear hp hF hVp
    go_upto_region 9 with (refine wpList_store_row rfl 93 (.tmp 14) (.tmp 68) rfl w7.heap.size rfl _ _ rfl 93 (Box.new w7 93 #[.bool false,.int .i64 0,.int .u16 0,.int .u32 0,.int .u32 0,.slice none 0 0,.bool false,.int .u16 0,.slice none 0 0,.slice none 0 0,.slice none 0 0]) (by kernel_rfl) rfl (oneCell_pc _ _ _ _ _ _ _ _ _ _ _ ⟨_,_,_,rfl⟩ ⟨_,_,_,rfl⟩ ⟨_,_,_,rfl⟩ ⟨_,_,_,rfl⟩) ?_;intro w8 hY hG;have hFn:=((Fr.refl [] w7).alloc _).step hG (by simp);have HFn:=Hd hFn;have HY:=Hd hY;clear hG hFn hY)
    have HI:=Hd (HI.out.keep HFn.out);have HX:=Hd (Sl.keep HX.out HFn.out)
    have HPB:=HY
    clear HFn HY
    generalize hgp : w7.heap.size = gp at *
    clear hgp
    obtain ⟨p0,p1,p2,p3,p4,p5,p6,p7,p8,p9,p10⟩:=HPB.out.pcells
    by_cases hss : p.ssrc = ss
    ·have t1 : (((p.ssrc.toNat : Nat) : Int) != ((ss.toNat : Nat) : Int)) = false:=by rw [u32_bne,hss];simp
     have HLK : Hid (restStep (findL ls) ss s n = (s.1.add (imp l),s.2)):=Hd (by unfold restStep;rw [HLB2.out,if_pos hss])
     clear hss HLB2
     go_upto_region 11 with fail
     clear p0 p1 p2 p3 p4 p5 p6 p7 p8 p9 p10 t1
     go_wp2_with fail
     refine (r12Of_any HX.out).mono ?_
     rintro e w9 (⟨v9,p',hp,rfl,hO,hF⟩ | ⟨v9,k2,hp,-,-,-⟩)
     rotate_left
     ·rw [HP.out] at hp;cases hp
     obtain ⟨yh,ch,yb,cb2,rfl,hyh,hyb⟩:=hO.open_
     have HI:=Hd (HI.out.keep hF);have HYH:=Hd hyh;have HYB:=Hd hyb
     clear hp hF hO hyh hyb
     go_upto_region 12 with (refine wpList_store_row rfl 105 (.tmp 16) (.tmp 88) rfl w9.heap.size rfl _ _ rfl 105 (Box.new w9 105 #[.slice none 0 0,.slice none 0 0]) (by kernel_rfl) rfl (by simp [Value.oneCell']) ?_;intro w10 hY hG;have hFn:=((Fr.refl [] w9).alloc _).step hG (by simp);have HFn:=Hd hFn;have HY:=Hd hY;clear hG hFn hY)
     have HI:=Hd (HI.out.keep HFn.out);have HYH:=Hd (Sl.keep HYH.out HFn.out);have HYB:=Hd (Sl.keep HYB.out HFn.out)
     have H16:=HY
     clear HFn HY
     generalize hg16 : w9.heap.size = g16 at *
     clear hg16
     have HBX:=Hd HI.out.box
     have HIL : Hid ((imp l).body.length ≤ 1099511627776):=Hd (by have:=(parse_len HP.out).2;show (l.drop 12).length ≤ _;rw [List.length_drop];omega)
     go_wp2_with (first | (refine wpList_load_row_w rfl 105 (.tmp 8) rfl g8 rfl 105 _ _ HBX.out Tryz.underlying105 rfl (by kernel_rfl) ?_) | (refine wpList_load_row_w rfl 105 (.tmp 16) rfl g16 rfl 105 _ _ H16.out Tryz.underlying105 rfl (by kernel_rfl) ?_))
     refine (r12Add_own ⟨_,_,rfl,HI.out.hd,HI.out.bd⟩ ⟨_,_,rfl,HYH.out,HYB.out⟩ (by simp [Bt.head]) (by simp [Bt.head]) HSZ.out HIL.out).mono ?_
     rintro e w11 ⟨zh,zb,rfl,hzh,hzb,hF⟩
     have HN : Hid (∀ b,liveOf zh = some b ∨ liveOf zb = some b → b ≠ g8 ∧ b ≠ g3 + 1 ∧ ∀ c,blockOf (.slice am nm cm) = some c → b ≠ c):=Hd (fun b hb => by
      have h1 : w10.heap.size ≤ b:=by
       rcases hb with hb | hb
       ·exact (hzh.block b (live_block hb)).1
       ·exact (hzb.block b (live_block hb)).1
      have h2:=HI.out.box.lt
      have h3:=HI.out.g0
      have q1:=HG8.out;have q2:=HS1.out;have q3:=HS2.out;have q4:=HG3.out
      exact ⟨by omega,by omega,fun c hc => by have:=(HI.out.own.block c hc).2;omega⟩)
     have HI:=Hd (HI.out.keep hF)
     have HZH : Hid (Bytes w11 zh (s.1.add (imp l)).head):=Hd (by rw [Bt.head_add];exact hzh.bytes)
     have HZB : Hid (Bytes w11 zb (s.1.add (imp l)).body):=Hd hzb.bytes
     obtain ⟨ah,nh,ch2,rfl⟩:=Sl.isSlice HZH.out
     obtain ⟨ab2,nb2,cb3,rfl⟩:=Sl.isSlice HZB.out
     have HBX:=Hd HI.out.box
     clear hzh hzb hF
     go_wp2_with (refine wpList_store_row rfl 105 (.tmp 8) (.tmp 92) rfl g8 rfl _ _ rfl 105 (HBX.out) (by kernel_rfl) rfl (by simp [Value.oneCell']) ?_;intro w12 hY hG;have HY:=Hd hY;have HGn:=Hd hG;clear hY hG)
     have HI2 : Hid (RInv w2 w12 (g3 + 1) g8 (.slice (some ⟨bp,op,none⟩) ns.length c9) (.slice am nm cm) (.slice ah nh ch2) (.slice ab2 nb2 cb3) ns (s.1.add (imp l),s.2)):=Hd (HI.out.put HY.out HZH.out HZB.out HN.out HGn.out)
     exact ⟨⟨j + 1,_,_,by omega,by go_num,by rw [HT.out,HLK.out];exact HI2.out⟩,by simp [intOf];omega⟩
    ·have t1 : (((p.ssrc.toNat : Nat) : Int) != ((ss.toNat : Nat) : Int)) = true:=by rw [u32_bne];simpa using hss
     have HLK : Hid (restStep (findL ls) ss s n = (s.1,s.2 ++ [n])):=Hd (by unfold restStep;rw [HLB2.out,if_neg hss])
     clear hss HLB2
     have e2:=HJ.out _ HI.out.nums
     go_upto_region 10 with fail
     clear p0 p1 p2 p3 p4 p5 p6 p7 p8 p9 p10 t1
     have HO:=Hd HI.out.own
     have HLO:=HML
     have HFQ:=Hd HI.out.fr
     have A0 : Hid ((w8.alloc (.cells #[Value.int .u16 (n.toNat : Nat)] 24)).ownsRow w2.heap.size 24 1 (.slice am nm cm) (s.2).length ((s.2).map W16)):=Hd (Own.keep HO.out ((Fr.refl [] w8).alloc _))
     have A1 : Hid ((s.2).length + [Value.int .u16 (n.toNat : Nat)].length ≤ maxLen):=Hd (by have:=HLO.out;unfold maxLen;simp only [List.length_singleton];omega)
     have A2 : Hid (((s.2).length + [Value.int .u16 (n.toNat : Nat)].length) * 2 ≤ 140737488355328):=Hd (by have:=HLO.out;simp only [List.length_singleton];omega)
     have A3 : Hid (Sl (w8.alloc (.cells #[Value.int .u16 (n.toNat : Nat)] 24)) (.slice (some ⟨w8.heap.size,0,none⟩) 1 1) [Value.int .u16 (n.toNat : Nat)]):=Hd (Sl.one w8 _ _)
     have A4 : Hid (w2.heap.size ≤ (w8.alloc (.cells #[Value.int .u16 (n.toNat : Nat)] 24)).heap.size):=Hd (by have:=HFQ.out.size;simp;omega)
     go_wp2_with (at_builtin;refine wpList_append_slf rfl (.tmp 78) (.tmp 83) 66 rfl w2.heap.size 24 (.int .u16 0) 2 Tryz.underlying66 info_u16 rfl (.slice am nm cm) (s.2).length ((s.2).map W16) rfl A0.out (.slice (some ⟨w8.heap.size,0,none⟩) 1 1) [Value.int .u16 (n.toNat : Nat)] rfl A3.out (by simp [Value.oneCell']) A1.out A2.out A4.out ?_;intro v3 w9x ho hg hfr;have HO3:=Hd ho;have HG:=Hd hg;have HBL:=Hd hfr;clear ho hg hfr)
     have HN : Hid (OwnV w9x w2.heap.size 24 W16 v3 (s.2 ++ [n])):=Hd (by
      have:=HO3.out
      unfold OwnV
      rw [List.map_append,List.length_append]
      exact this)
     have HF3 : Hid (Fr [] w2 w9x):=Hd ((HFQ.out.alloc _).step HG.out (fun x hx => .inr (HO.out.block x (by simpa using hx)).1))
     have HI2 : Hid (RInv w2 w9x (g3 + 1) g8 (.slice (some ⟨bp,op,none⟩) ns.length c9) v3 vh vb ns (s.1,s.2 ++ [n])):=Hd ((HI.out.keep ((Fr.refl [] w8).alloc _)).push HN.out HG.out HBL.out)
     clear e2
     go_wp2_with fail
     exact ⟨⟨j + 1,_,_,by omega,by go_num,by rw [HT.out,HLK.out];exact HI2.out⟩,by simp [intOf];omega⟩
  ·obtain rfl : j = ns.length:=by omega
   rw [List.take_length,← HRL.out] at HI
   have HBX:=Hd HI.out.box
   have H6:=Hd (H6.out.keep HI.out.fr)
   obtain ⟨ah,nh,ch,rfl⟩:=Sl.isSlice HI.out.hd
   obtain ⟨abb,nb2,cb2,rfl⟩:=Sl.isSlice HI.out.bd
   go_wp2_with (first | (refine wpList_load_row_w rfl 105 (.tmp 8) rfl g8 rfl 105 _ _ HBX.out Tryz.underlying105 rfl (by kernel_rfl) ?_) | (refine wpList_store_row rfl 105 (.tmp 6) (.tmp 93) rfl (g3 + 1) rfl _ _ rfl 105 (H6.out) (by kernel_rfl) rfl (by simp [Value.oneCell']) ?_;intro w12 hY hG;have HY:=Hd hY;have HGn:=Hd hG;clear hY hG))
   have q1:=HG8.out;have q2:=HS1.out;have q3:=HS2.out;have q4:=HG3.out
   refine bodyPost_ret (results_row_1 rfl _ _ (g3 + 1) 105 _ _ rfl HY.out Tryz.underlying105 rfl (by kernel_rfl)) rfl ⟨⟨_,_,_,rfl,?_,?_,?_⟩,(HF.out.trans HI.out.fr).step HGn.out (fun x hx => .inr (by simp at hx;omega))⟩
   ·exact Sl.frL HI.out.hd HGn.out (fun b hb hm => (HI.out.xg b (.inl hb)).2.1 (by simpa using hm))
   ·exact Sl.frL HI.out.bd HGn.out (fun b hb hm => (HI.out.xg b (.inr hb)).2.1 (by simpa using hm))
   ·exact Sl.frL HI.out.own.sl HGn.out (fun b hb hm => by have h1:=(HI.out.own.block b (live_block hb)).1;simp at hm;omega)
end Go.Proofs.YtcngfbjmpemehaaGreat

/- The walks of confluxref14.One and Check (printed by gen_r14b.py). -/
namespace Go.Proofs.YtcngfbjmpemehaaGreat
open Go.RowKit

end Go.Proofs.YtcngfbjmpemehaaGreat

/- The walk of confluxref14.One,and where its bytes lie (printed by make_own.py from XR14b). -/
namespace Go.Proofs.YtcngfbjmpemehaaGreat
open Go.RowKit

theorem r14One_own {w : World} {v vp : Value} {r : Rep_} {ls : List (List UInt8)} (h : RpV w v r) (hs : r.bt.body.length ≤ 1099511627776) (ss : UInt32) (hl : BRows w vp ls) :
  Calls Tryz.prog 66 #[v,.int .u32 (ss.toNat : Nat),vp] w fun e w' => ∃ v',e = .returned (.tuple #[.int .u16 ((oneL (findL ls) ss r).1.toNat : Nat),v',.int .i64 (oneL (findL ls) ss r).2.2]) ∧ Bytes w' v' (oneL (findL ls) ss r).2.1 ∧ (∀ y,liveOf v' = some y → w.heap.size ≤ y) ∧ Fr [] w w':=by
 obtain ⟨vb,rfl,hb⟩:=h
 obtain ⟨a,n,c,rfl⟩:=Sl.isSlice hb
 obtain ⟨w1,e1,hF1,hB1,hs1⟩:=one_new w (rpc r (.slice a n c)) 38
 have HF:=Hd hF1;have HR:=Hd hB1;have E1:=Hd e1;have HL:=Hd (hl.keep hF1);have HBD:=Hd (Sl.keep hb hF1)
 obtain ⟨av,cv,rfl⟩:=hl.shape
 clear hF1 hB1 e1 hs1 hb hl
 go_enter Tryz.func66,Tryz.ntmps66
 go_upto_region 1 with fail
 rw [E1.out]
 clear E1
 have x9:=HR.out.cell 9;have x10:=HR.out.cell 10
 simp only [rpc,zz7,zz8,zz9] at x9 x10
 by_cases hz : r.m.hi = 0 ∧ r.m.lo = 0
 ·have t1 : (((r.m.hi.toNat : Nat) : Int) == 0) = true:=by rw [bv_beq0,hz.1];rfl
  have t2 : (((r.m.lo.toNat : Nat) : Int) == 0) = true:=by rw [bv_beq0,hz.2];rfl
  have HO : Hid (oneL (findL ls) ss r = (0,[],30)):=Hd (by unfold oneL;rw [if_pos hz])
  clear hz
  go_wp2_with fail
  exact bodyPost_ret (res_tmp3 rfl _ _ _) rfl ⟨.slice none 0 0,by rw [HO.out];rfl,by rw [HO.out];exact Sl.nil _,(fun y hy => by cases hy),HF.out⟩
 have HOL : Hid (∀ x ms,restL (findL ls) ss r = (x,ms) → oneL (findL ls) ss r = oneF ss x ms):=Hd (fun x ms e => oneL_ne hz e)
 have hor : (((r.m.hi.toNat : Nat) : Int) == 0) = false ∨ (((r.m.hi.toNat : Nat) : Int) == 0) = true ∧ (((r.m.lo.toNat : Nat) : Int) == 0) = false:=by
  rw [bv_beq0,bv_beq0]
  by_cases h1 : r.m.hi = 0
  ·right
   exact ⟨by simpa using h1,by simpa using fun h2 => hz ⟨h1,h2⟩⟩
  ·left
   simpa using h1
 have HOR:=Hd hor
 clear hz hor
 rcases HOR.out with t1 | ⟨t1,t2⟩
 ·go_upto_region 3 with fail
  clear t1 x9 x10
  go_wp2_with (refine wpList_load_row_w rfl 38 (.tmp 3) rfl w.heap.size rfl 38 _ _ HR.out Tryz.underlying38 rfl (by kernel_rfl) ?_)
  refine (r14Rest_any (r:=r) ⟨_,rfl,HBD.out⟩ hs ss HL.out).mono ?_
  rintro e w2 ⟨⟨vh,vx,vm,rfl,hh,hx,hm⟩,hF⟩
  have hxs:=restL_small (K:=findL ls) (ss:=ss) (r:=r) hs
  have HXS:=Hd hxs
  obtain ⟨x,ms,hRE⟩ : ∃ x ms,restL (findL ls) ss r = (x,ms):=⟨_,_,rfl⟩
  rw [hRE] at hh hx hm HXS
  clear hxs
  obtain ⟨ah,nh,ch,rfl⟩:=Sl.isSlice hh
  obtain ⟨ax,nx,cx,rfl⟩:=Sl.isSlice hx
  obtain ⟨am,cm,rfl⟩ : ∃ a c,vm = .slice a ms.length c:=by
   have:=Sl.shape hm
   simpa using this
  have HH:=Hd hh;have HX:=Hd hx;have HM:=Hd hm;have HRE:=Hd hRE
  have HF:=Hd (HF.out.trans hF)
  clear hF hh hx hm hRE HBD HL HR
  go_upto_region 4 with (refine wpList_store_row rfl 105 (.tmp 9) (.tmp 26) rfl w2.heap.size rfl _ _ rfl 105 (Box.new w2 105 #[.slice none 0 0,.slice none 0 0]) (by kernel_rfl) rfl (by simp [Value.oneCell']) ?_;intro w3 hY hG;have hFn:=((Fr.refl [] w2).alloc _).step hG (by simp);have HFn:=Hd hFn;have HY:=Hd hY;clear hG hFn hY)
  have hF:=HFn.out
  have HF:=Hd (HF.out.trans hF)
  have HH:=Hd (Sl.keep HH.out hF);have HX:=Hd (Sl.keep HX.out hF);have HM:=Hd (Sl.keep HM.out hF)
  have HBX:=HY
  clear hF HFn HY
  generalize hgx : w2.heap.size = gx at *
  clear hgx
  cases ms with
  | nil =>
   have HO : Hid (oneL (findL ls) ss r = (0,[],40)):=Hd ((HOL.out _ _ HRE.out).trans rfl)
   simp only [List.length_nil] at HM ⊢
   go_wp2_with fail
   exact bodyPost_ret (res_tmp3 rfl _ _ _) rfl ⟨.slice none 0 0,by rw [HO.out];rfl,by rw [HO.out];exact Sl.nil _,(fun y hy => by cases hy),HF.out⟩
  | cons n rest =>
   cases rest with
   | cons m rest =>
    have HO : Hid (oneL (findL ls) ss r = (0,[],41)):=Hd ((HOL.out _ _ HRE.out).trans rfl)
    simp only [List.length_cons] at HM ⊢
    go_wp2_with fail
    exact bodyPost_ret (res_tmp3 rfl _ _ _) rfl ⟨.slice none 0 0,by rw [HO.out];rfl,by rw [HO.out];exact Sl.nil _,(fun y hy => by cases hy),HF.out⟩
   | nil =>
    obtain ⟨b,o,ea,-,hc⟩:=Sl.at_ HM.out (k:=0) (by simp)
    subst ea
    have HC : Hid (w3.cell? ⟨b,o,none⟩ = some (.int .u16 (n.toNat : Nat))):=Hd (by have:=hc 0 _ rfl;simpa [W16] using this)
    clear hc
    simp only [List.length_cons,List.length_nil,Nat.zero_add] at HM ⊢
    cases hpk : x.pack n ss with
    | ok l0 =>
     have HO : Hid (oneL (findL ls) ss r = (n,l0,0)):=Hd ((HOL.out _ _ HRE.out).trans (oneF_ok hpk))
     have HPK:=Hd hpk
     clear hpk
     go_upto_region 8 with fail
     refine wp_region_T (fun w' => Fr [] w3.drew w') [] 11 #[false,false,false,false,false,false,false,false,false,false,false] (by kernel_rfl) rfl rfl ?_
     try simp only [List.append_eq,List.cons_append,List.nil_append]
     have hF:=(Fr.refl [] w3).drew
     have HF:=Hd (HF.out.trans hF)
     have HH:=Hd (Sl.keep HH.out hF)
     have HX:=Hd (Sl.keep HX.out hF)
     have HM:=Hd (Sl.keep HM.out hF)
     have HBX:=Hd (HBX.out.keep hF)
     have HC:=Hd (hF.cellSome HC.out (by simp))
     clear hF
     have HSS : Hid (Fr [] w3.drew w3.drew):=Hd (Fr.refl _ _)
     generalize w3.drew = wd at *
     refine wL 0 ?_ rfl (by kernel_rfl) (fun _ _ _ h => h) HSS.out (by rfl) ?_ ?_
     rotate_left
     ·intro w' hSw;refine run_load_row 105 (.tmp 9) ?_ gx ?_ 105 _ _ (HBX.out.keep hSw) Tryz.underlying105 rfl (by kernel_rfl) <;> rfl
     simp only [Act.put,zz1,zz2,zz3,zz4,zz5,zz6]
     refine wL 1 ?_ rfl (by kernel_rfl) (fun _ _ _ h => h) HSS.out (by rfl) ?_ ?_
     rotate_left
     ·intro w hSw;go_simp;try with_reducible rfl
     simp only [Act.put,zz1,zz2,zz3,zz4,zz5,zz6]
     refine wL 2 ?_ rfl (by kernel_rfl) (fun _ _ _ h => h) HSS.out (by rfl) ?_ ?_
     rotate_left
     ·intro w hSw;go_simp;try with_reducible rfl
     simp only [Act.put,zz1,zz2,zz3,zz4,zz5,zz6]
     refine wL 3 ?_ rfl (by kernel_rfl) (fun _ _ _ h => h) HSS.out (by rfl) ?_ ?_
     rotate_left
     ·intro w hSw;have n0:=hSw.cellSome HC.out (by simp);go_simp;try with_reducible rfl
     simp only [Act.put,zz1,zz2,zz3,zz4,zz5,zz6]
     refine wL 4 ?_ rfl (by kernel_rfl) (fun _ _ _ h => h) HSS.out (by rfl) ?_ ?_
     rotate_left
     ·intro w hSw;go_simp;try with_reducible rfl
     simp only [Act.put,zz1,zz2,zz3,zz4,zz5,zz6]
     refine wpAnyT_one (i:=5) (by kernel_rfl) rfl (fun K hK => ?_)
     rw [if_pos (by rfl)]
     go_simp
     refine (r12Packet_own (x:=x) ⟨_,_,rfl,Sl.keep HH.out HSS.out,Sl.keep HX.out HSS.out⟩ HXS.out n ss).mono ?_
     rintro e w5 (⟨l,v5,hp2,rfl,hO,hL,hF⟩ | ⟨hp2,rfl,hF⟩)
     rotate_left
     ·rw [HPK.out] at hp2;cases hp2
     obtain rfl : l0 = l:=by rw [HPK.out] at hp2;cases hp2;rfl
     have HL9 : Hid (∀ y,liveOf v5 = some y → w.heap.size ≤ y):=Hd (fun y hy => Nat.le_trans (Nat.le_trans HF.out.size HSS.out.size) (hL y hy))
     obtain ⟨a9,n9,c9,rfl⟩:=Sl.isSlice hO
     have HO9:=Hd hO
     have HSS:=Hd (HSS.out.trans hF)
     clear hp2 hO hF
     go_simp
     refine hK.out _ _ (fun _ => HSS.out) ?_
     clear hK K
     simp only [Act.put,zz1,zz2,zz3,zz4,zz5,zz6]
     refine wL 6 ?_ rfl (by kernel_rfl) (fun _ _ _ h => h) HSS.out (by rfl) ?_ ?_
     rotate_left
     ·intro w hSw;go_simp;try with_reducible rfl
     simp only [Act.put,zz1,zz2,zz3,zz4,zz5,zz6]
     refine wL 7 ?_ rfl (by kernel_rfl) (fun _ _ _ h => h) HSS.out (by rfl) ?_ ?_
     rotate_left
     ·intro w hSw;go_simp;try with_reducible rfl
     simp only [Act.put,zz1,zz2,zz3,zz4,zz5,zz6]
     refine wL 8 ?_ rfl (by kernel_rfl) (fun _ _ _ h => h) HSS.out (by rfl) ?_ ?_
     rotate_left
     ·intro w hSw;go_simp;try with_reducible rfl
     simp only [Act.put,zz1,zz2,zz3,zz4,zz5,zz6]
     refine wL 9 ?_ rfl (by kernel_rfl) (fun _ _ _ h => h) HSS.out (by rfl) ?_ ?_
     rotate_left
     ·intro w hSw;go_simp;try with_reducible rfl
     simp only [Act.put,zz1,zz2,zz3,zz4,zz5,zz6]
     refine wL 10 ?_ rfl (by kernel_rfl) (fun _ _ _ h => h) HSS.out (by rfl) ?_ ?_
     rotate_left
     ·intro w hSw;go_simp;try with_reducible rfl
     simp only [Act.put,zz1,zz2,zz3,zz4,zz5,zz6]
     refine wpAnyT_done (by kernel_rfl) ?_ _
     have hF:=HSS.out
     have HF:=Hd (HF.out.trans hF)
     have HH:=Hd (Sl.keep HH.out hF)
     have HX:=Hd (Sl.keep HX.out hF)
     have HM:=Hd (Sl.keep HM.out hF)
     have HBX:=Hd (HBX.out.keep hF)
     have HC:=Hd (hF.cellSome HC.out (by simp))
     clear hF
     have d0:=HC.out
     go_wp2_with fail
     exact bodyPost_ret (res_tmp3 rfl _ _ _) rfl ⟨.slice a9 n9 c9,by rw [HO.out];rfl,by rw [HO.out];exact HO9.out,HL9.out,HF.out⟩
    | error k0 =>
     have HO : Hid (oneL (findL ls) ss r = (0,[],42)):=Hd ((HOL.out _ _ HRE.out).trans (oneF_err hpk))
     have HPK:=Hd hpk
     clear hpk
     go_upto_region 8 with fail
     refine wp_region_T (fun w' => Fr [] w3.drew w') [] 11 #[false,false,false,false,false,false,false,false,false,false,false] (by kernel_rfl) rfl rfl ?_
     try simp only [List.append_eq,List.cons_append,List.nil_append]
     have hF:=(Fr.refl [] w3).drew
     have HF:=Hd (HF.out.trans hF)
     have HH:=Hd (Sl.keep HH.out hF)
     have HX:=Hd (Sl.keep HX.out hF)
     have HM:=Hd (Sl.keep HM.out hF)
     have HBX:=Hd (HBX.out.keep hF)
     have HC:=Hd (hF.cellSome HC.out (by simp))
     clear hF
     have HSS : Hid (Fr [] w3.drew w3.drew):=Hd (Fr.refl _ _)
     generalize w3.drew = wd at *
     refine wL 0 ?_ rfl (by kernel_rfl) (fun _ _ _ h => h) HSS.out (by rfl) ?_ ?_
     rotate_left
     ·intro w' hSw;refine run_load_row 105 (.tmp 9) ?_ gx ?_ 105 _ _ (HBX.out.keep hSw) Tryz.underlying105 rfl (by kernel_rfl) <;> rfl
     simp only [Act.put,zz1,zz2,zz3,zz4,zz5,zz6]
     refine wL 1 ?_ rfl (by kernel_rfl) (fun _ _ _ h => h) HSS.out (by rfl) ?_ ?_
     rotate_left
     ·intro w hSw;go_simp;try with_reducible rfl
     simp only [Act.put,zz1,zz2,zz3,zz4,zz5,zz6]
     refine wL 2 ?_ rfl (by kernel_rfl) (fun _ _ _ h => h) HSS.out (by rfl) ?_ ?_
     rotate_left
     ·intro w hSw;go_simp;try with_reducible rfl
     simp only [Act.put,zz1,zz2,zz3,zz4,zz5,zz6]
     refine wL 3 ?_ rfl (by kernel_rfl) (fun _ _ _ h => h) HSS.out (by rfl) ?_ ?_
     rotate_left
     ·intro w hSw;have n0:=hSw.cellSome HC.out (by simp);go_simp;try with_reducible rfl
     simp only [Act.put,zz1,zz2,zz3,zz4,zz5,zz6]
     refine wL 4 ?_ rfl (by kernel_rfl) (fun _ _ _ h => h) HSS.out (by rfl) ?_ ?_
     rotate_left
     ·intro w hSw;go_simp;try with_reducible rfl
     simp only [Act.put,zz1,zz2,zz3,zz4,zz5,zz6]
     refine wpAnyT_one (i:=5) (by kernel_rfl) rfl (fun K hK => ?_)
     rw [if_pos (by rfl)]
     go_simp
     refine (r12Packet_own (x:=x) ⟨_,_,rfl,Sl.keep HH.out HSS.out,Sl.keep HX.out HSS.out⟩ HXS.out n ss).mono ?_
     rintro e w5 (⟨l,v5,hp2,rfl,hO,hL,hF⟩ | ⟨hp2,rfl,hF⟩)
     ·rw [HPK.out] at hp2;cases hp2
     have HSS:=Hd (HSS.out.trans hF)
     clear hp2 hF
     go_simp
     refine hK.out _ _ (fun _ => HSS.out) ?_
     clear hK K
     simp only [Act.put,zz1,zz2,zz3,zz4,zz5,zz6]
     refine wL 6 ?_ rfl (by kernel_rfl) (fun _ _ _ h => h) HSS.out (by rfl) ?_ ?_
     rotate_left
     ·intro w hSw;go_simp;try with_reducible rfl
     simp only [Act.put,zz1,zz2,zz3,zz4,zz5,zz6]
     refine wL 7 ?_ rfl (by kernel_rfl) (fun _ _ _ h => h) HSS.out (by rfl) ?_ ?_
     rotate_left
     ·intro w hSw;go_simp;try with_reducible rfl
     simp only [Act.put,zz1,zz2,zz3,zz4,zz5,zz6]
     refine wL 8 ?_ rfl (by kernel_rfl) (fun _ _ _ h => h) HSS.out (by rfl) ?_ ?_
     rotate_left
     ·intro w hSw;go_simp;try with_reducible rfl
     simp only [Act.put,zz1,zz2,zz3,zz4,zz5,zz6]
     refine wL 9 ?_ rfl (by kernel_rfl) (fun _ _ _ h => h) HSS.out (by rfl) ?_ ?_
     rotate_left
     ·intro w hSw;go_simp;try with_reducible rfl
     simp only [Act.put,zz1,zz2,zz3,zz4,zz5,zz6]
     refine wL 10 ?_ rfl (by kernel_rfl) (fun _ _ _ h => h) HSS.out (by rfl) ?_ ?_
     rotate_left
     ·intro w hSw;go_simp;try with_reducible rfl
     simp only [Act.put,zz1,zz2,zz3,zz4,zz5,zz6]
     refine wpAnyT_done (by kernel_rfl) ?_ _
     have hF:=HSS.out
     have HF:=Hd (HF.out.trans hF)
     have HH:=Hd (Sl.keep HH.out hF)
     have HX:=Hd (Sl.keep HX.out hF)
     have HM:=Hd (Sl.keep HM.out hF)
     have HBX:=Hd (HBX.out.keep hF)
     have HC:=Hd (hF.cellSome HC.out (by simp))
     clear hF
     go_wp2_with fail
     exact bodyPost_ret (res_tmp3 rfl _ _ _) rfl ⟨.slice none 0 0,by rw [HO.out];rfl,by rw [HO.out];exact Sl.nil _,(fun y hy => by cases hy),HF.out⟩
 ·go_upto_region 3 with fail
  clear t1 t2 x9 x10
  go_wp2_with (refine wpList_load_row_w rfl 38 (.tmp 3) rfl w.heap.size rfl 38 _ _ HR.out Tryz.underlying38 rfl (by kernel_rfl) ?_)
  refine (r14Rest_any (r:=r) ⟨_,rfl,HBD.out⟩ hs ss HL.out).mono ?_
  rintro e w2 ⟨⟨vh,vx,vm,rfl,hh,hx,hm⟩,hF⟩
  have hxs:=restL_small (K:=findL ls) (ss:=ss) (r:=r) hs
  have HXS:=Hd hxs
  obtain ⟨x,ms,hRE⟩ : ∃ x ms,restL (findL ls) ss r = (x,ms):=⟨_,_,rfl⟩
  rw [hRE] at hh hx hm HXS
  clear hxs
  obtain ⟨ah,nh,ch,rfl⟩:=Sl.isSlice hh
  obtain ⟨ax,nx,cx,rfl⟩:=Sl.isSlice hx
  obtain ⟨am,cm,rfl⟩ : ∃ a c,vm = .slice a ms.length c:=by
   have:=Sl.shape hm
   simpa using this
  have HH:=Hd hh;have HX:=Hd hx;have HM:=Hd hm;have HRE:=Hd hRE
  have HF:=Hd (HF.out.trans hF)
  clear hF hh hx hm hRE HBD HL HR
  go_upto_region 4 with (refine wpList_store_row rfl 105 (.tmp 9) (.tmp 26) rfl w2.heap.size rfl _ _ rfl 105 (Box.new w2 105 #[.slice none 0 0,.slice none 0 0]) (by kernel_rfl) rfl (by simp [Value.oneCell']) ?_;intro w3 hY hG;have hFn:=((Fr.refl [] w2).alloc _).step hG (by simp);have HFn:=Hd hFn;have HY:=Hd hY;clear hG hFn hY)
  have hF:=HFn.out
  have HF:=Hd (HF.out.trans hF)
  have HH:=Hd (Sl.keep HH.out hF);have HX:=Hd (Sl.keep HX.out hF);have HM:=Hd (Sl.keep HM.out hF)
  have HBX:=HY
  clear hF HFn HY
  generalize hgx : w2.heap.size = gx at *
  clear hgx
  cases ms with
  | nil =>
   have HO : Hid (oneL (findL ls) ss r = (0,[],40)):=Hd ((HOL.out _ _ HRE.out).trans rfl)
   simp only [List.length_nil] at HM ⊢
   go_wp2_with fail
   exact bodyPost_ret (res_tmp3 rfl _ _ _) rfl ⟨.slice none 0 0,by rw [HO.out];rfl,by rw [HO.out];exact Sl.nil _,(fun y hy => by cases hy),HF.out⟩
  | cons n rest =>
   cases rest with
   | cons m rest =>
    have HO : Hid (oneL (findL ls) ss r = (0,[],41)):=Hd ((HOL.out _ _ HRE.out).trans rfl)
    simp only [List.length_cons] at HM ⊢
    go_wp2_with fail
    exact bodyPost_ret (res_tmp3 rfl _ _ _) rfl ⟨.slice none 0 0,by rw [HO.out];rfl,by rw [HO.out];exact Sl.nil _,(fun y hy => by cases hy),HF.out⟩
   | nil =>
    obtain ⟨b,o,ea,-,hc⟩:=Sl.at_ HM.out (k:=0) (by simp)
    subst ea
    have HC : Hid (w3.cell? ⟨b,o,none⟩ = some (.int .u16 (n.toNat : Nat))):=Hd (by have:=hc 0 _ rfl;simpa [W16] using this)
    clear hc
    simp only [List.length_cons,List.length_nil,Nat.zero_add] at HM ⊢
    cases hpk : x.pack n ss with
    | ok l0 =>
     have HO : Hid (oneL (findL ls) ss r = (n,l0,0)):=Hd ((HOL.out _ _ HRE.out).trans (oneF_ok hpk))
     have HPK:=Hd hpk
     clear hpk
     go_upto_region 8 with fail
     refine wp_region_T (fun w' => Fr [] w3.drew w') [] 11 #[false,false,false,false,false,false,false,false,false,false,false] (by kernel_rfl) rfl rfl ?_
     try simp only [List.append_eq,List.cons_append,List.nil_append]
     have hF:=(Fr.refl [] w3).drew
     have HF:=Hd (HF.out.trans hF)
     have HH:=Hd (Sl.keep HH.out hF)
     have HX:=Hd (Sl.keep HX.out hF)
     have HM:=Hd (Sl.keep HM.out hF)
     have HBX:=Hd (HBX.out.keep hF)
     have HC:=Hd (hF.cellSome HC.out (by simp))
     clear hF
     have HSS : Hid (Fr [] w3.drew w3.drew):=Hd (Fr.refl _ _)
     generalize w3.drew = wd at *
     refine wL 0 ?_ rfl (by kernel_rfl) (fun _ _ _ h => h) HSS.out (by rfl) ?_ ?_
     rotate_left
     ·intro w' hSw;refine run_load_row 105 (.tmp 9) ?_ gx ?_ 105 _ _ (HBX.out.keep hSw) Tryz.underlying105 rfl (by kernel_rfl) <;> rfl
     simp only [Act.put,zz1,zz2,zz3,zz4,zz5,zz6]
     refine wL 1 ?_ rfl (by kernel_rfl) (fun _ _ _ h => h) HSS.out (by rfl) ?_ ?_
     rotate_left
     ·intro w hSw;go_simp;try with_reducible rfl
     simp only [Act.put,zz1,zz2,zz3,zz4,zz5,zz6]
     refine wL 2 ?_ rfl (by kernel_rfl) (fun _ _ _ h => h) HSS.out (by rfl) ?_ ?_
     rotate_left
     ·intro w hSw;go_simp;try with_reducible rfl
     simp only [Act.put,zz1,zz2,zz3,zz4,zz5,zz6]
     refine wL 3 ?_ rfl (by kernel_rfl) (fun _ _ _ h => h) HSS.out (by rfl) ?_ ?_
     rotate_left
     ·intro w hSw;have n0:=hSw.cellSome HC.out (by simp);go_simp;try with_reducible rfl
     simp only [Act.put,zz1,zz2,zz3,zz4,zz5,zz6]
     refine wL 4 ?_ rfl (by kernel_rfl) (fun _ _ _ h => h) HSS.out (by rfl) ?_ ?_
     rotate_left
     ·intro w hSw;go_simp;try with_reducible rfl
     simp only [Act.put,zz1,zz2,zz3,zz4,zz5,zz6]
     refine wpAnyT_one (i:=5) (by kernel_rfl) rfl (fun K hK => ?_)
     rw [if_pos (by rfl)]
     go_simp
     refine (r12Packet_own (x:=x) ⟨_,_,rfl,Sl.keep HH.out HSS.out,Sl.keep HX.out HSS.out⟩ HXS.out n ss).mono ?_
     rintro e w5 (⟨l,v5,hp2,rfl,hO,hL,hF⟩ | ⟨hp2,rfl,hF⟩)
     rotate_left
     ·rw [HPK.out] at hp2;cases hp2
     obtain rfl : l0 = l:=by rw [HPK.out] at hp2;cases hp2;rfl
     have HL9 : Hid (∀ y,liveOf v5 = some y → w.heap.size ≤ y):=Hd (fun y hy => Nat.le_trans (Nat.le_trans HF.out.size HSS.out.size) (hL y hy))
     obtain ⟨a9,n9,c9,rfl⟩:=Sl.isSlice hO
     have HO9:=Hd hO
     have HSS:=Hd (HSS.out.trans hF)
     clear hp2 hO hF
     go_simp
     refine hK.out _ _ (fun _ => HSS.out) ?_
     clear hK K
     simp only [Act.put,zz1,zz2,zz3,zz4,zz5,zz6]
     refine wL 6 ?_ rfl (by kernel_rfl) (fun _ _ _ h => h) HSS.out (by rfl) ?_ ?_
     rotate_left
     ·intro w hSw;go_simp;try with_reducible rfl
     simp only [Act.put,zz1,zz2,zz3,zz4,zz5,zz6]
     refine wL 7 ?_ rfl (by kernel_rfl) (fun _ _ _ h => h) HSS.out (by rfl) ?_ ?_
     rotate_left
     ·intro w hSw;go_simp;try with_reducible rfl
     simp only [Act.put,zz1,zz2,zz3,zz4,zz5,zz6]
     refine wL 8 ?_ rfl (by kernel_rfl) (fun _ _ _ h => h) HSS.out (by rfl) ?_ ?_
     rotate_left
     ·intro w hSw;go_simp;try with_reducible rfl
     simp only [Act.put,zz1,zz2,zz3,zz4,zz5,zz6]
     refine wL 9 ?_ rfl (by kernel_rfl) (fun _ _ _ h => h) HSS.out (by rfl) ?_ ?_
     rotate_left
     ·intro w hSw;go_simp;try with_reducible rfl
     simp only [Act.put,zz1,zz2,zz3,zz4,zz5,zz6]
     refine wL 10 ?_ rfl (by kernel_rfl) (fun _ _ _ h => h) HSS.out (by rfl) ?_ ?_
     rotate_left
     ·intro w hSw;go_simp;try with_reducible rfl
     simp only [Act.put,zz1,zz2,zz3,zz4,zz5,zz6]
     refine wpAnyT_done (by kernel_rfl) ?_ _
     have hF:=HSS.out
     have HF:=Hd (HF.out.trans hF)
     have HH:=Hd (Sl.keep HH.out hF)
     have HX:=Hd (Sl.keep HX.out hF)
     have HM:=Hd (Sl.keep HM.out hF)
     have HBX:=Hd (HBX.out.keep hF)
     have HC:=Hd (hF.cellSome HC.out (by simp))
     clear hF
     have d0:=HC.out
     go_wp2_with fail
     exact bodyPost_ret (res_tmp3 rfl _ _ _) rfl ⟨.slice a9 n9 c9,by rw [HO.out];rfl,by rw [HO.out];exact HO9.out,HL9.out,HF.out⟩
    | error k0 =>
     have HO : Hid (oneL (findL ls) ss r = (0,[],42)):=Hd ((HOL.out _ _ HRE.out).trans (oneF_err hpk))
     have HPK:=Hd hpk
     clear hpk
     go_upto_region 8 with fail
     refine wp_region_T (fun w' => Fr [] w3.drew w') [] 11 #[false,false,false,false,false,false,false,false,false,false,false] (by kernel_rfl) rfl rfl ?_
     try simp only [List.append_eq,List.cons_append,List.nil_append]
     have hF:=(Fr.refl [] w3).drew
     have HF:=Hd (HF.out.trans hF)
     have HH:=Hd (Sl.keep HH.out hF)
     have HX:=Hd (Sl.keep HX.out hF)
     have HM:=Hd (Sl.keep HM.out hF)
     have HBX:=Hd (HBX.out.keep hF)
     have HC:=Hd (hF.cellSome HC.out (by simp))
     clear hF
     have HSS : Hid (Fr [] w3.drew w3.drew):=Hd (Fr.refl _ _)
     generalize w3.drew = wd at *
     refine wL 0 ?_ rfl (by kernel_rfl) (fun _ _ _ h => h) HSS.out (by rfl) ?_ ?_
     rotate_left
     ·intro w' hSw;refine run_load_row 105 (.tmp 9) ?_ gx ?_ 105 _ _ (HBX.out.keep hSw) Tryz.underlying105 rfl (by kernel_rfl) <;> rfl
     simp only [Act.put,zz1,zz2,zz3,zz4,zz5,zz6]
     refine wL 1 ?_ rfl (by kernel_rfl) (fun _ _ _ h => h) HSS.out (by rfl) ?_ ?_
     rotate_left
     ·intro w hSw;go_simp;try with_reducible rfl
     simp only [Act.put,zz1,zz2,zz3,zz4,zz5,zz6]
     refine wL 2 ?_ rfl (by kernel_rfl) (fun _ _ _ h => h) HSS.out (by rfl) ?_ ?_
     rotate_left
     ·intro w hSw;go_simp;try with_reducible rfl
     simp only [Act.put,zz1,zz2,zz3,zz4,zz5,zz6]
     refine wL 3 ?_ rfl (by kernel_rfl) (fun _ _ _ h => h) HSS.out (by rfl) ?_ ?_
     rotate_left
     ·intro w hSw;have n0:=hSw.cellSome HC.out (by simp);go_simp;try with_reducible rfl
     simp only [Act.put,zz1,zz2,zz3,zz4,zz5,zz6]
     refine wL 4 ?_ rfl (by kernel_rfl) (fun _ _ _ h => h) HSS.out (by rfl) ?_ ?_
     rotate_left
     ·intro w hSw;go_simp;try with_reducible rfl
     simp only [Act.put,zz1,zz2,zz3,zz4,zz5,zz6]
     refine wpAnyT_one (i:=5) (by kernel_rfl) rfl (fun K hK => ?_)
     rw [if_pos (by rfl)]
     go_simp
     refine (r12Packet_own (x:=x) ⟨_,_,rfl,Sl.keep HH.out HSS.out,Sl.keep HX.out HSS.out⟩ HXS.out n ss).mono ?_
     rintro e w5 (⟨l,v5,hp2,rfl,hO,hL,hF⟩ | ⟨hp2,rfl,hF⟩)
     ·rw [HPK.out] at hp2;cases hp2
     have HSS:=Hd (HSS.out.trans hF)
     clear hp2 hF
     go_simp
     refine hK.out _ _ (fun _ => HSS.out) ?_
     clear hK K
     simp only [Act.put,zz1,zz2,zz3,zz4,zz5,zz6]
     refine wL 6 ?_ rfl (by kernel_rfl) (fun _ _ _ h => h) HSS.out (by rfl) ?_ ?_
     rotate_left
     ·intro w hSw;go_simp;try with_reducible rfl
     simp only [Act.put,zz1,zz2,zz3,zz4,zz5,zz6]
     refine wL 7 ?_ rfl (by kernel_rfl) (fun _ _ _ h => h) HSS.out (by rfl) ?_ ?_
     rotate_left
     ·intro w hSw;go_simp;try with_reducible rfl
     simp only [Act.put,zz1,zz2,zz3,zz4,zz5,zz6]
     refine wL 8 ?_ rfl (by kernel_rfl) (fun _ _ _ h => h) HSS.out (by rfl) ?_ ?_
     rotate_left
     ·intro w hSw;go_simp;try with_reducible rfl
     simp only [Act.put,zz1,zz2,zz3,zz4,zz5,zz6]
     refine wL 9 ?_ rfl (by kernel_rfl) (fun _ _ _ h => h) HSS.out (by rfl) ?_ ?_
     rotate_left
     ·intro w hSw;go_simp;try with_reducible rfl
     simp only [Act.put,zz1,zz2,zz3,zz4,zz5,zz6]
     refine wL 10 ?_ rfl (by kernel_rfl) (fun _ _ _ h => h) HSS.out (by rfl) ?_ ?_
     rotate_left
     ·intro w hSw;go_simp;try with_reducible rfl
     simp only [Act.put,zz1,zz2,zz3,zz4,zz5,zz6]
     refine wpAnyT_done (by kernel_rfl) ?_ _
     have hF:=HSS.out
     have HF:=Hd (HF.out.trans hF)
     have HH:=Hd (Sl.keep HH.out hF)
     have HX:=Hd (Sl.keep HX.out hF)
     have HM:=Hd (Sl.keep HM.out hF)
     have HBX:=Hd (HBX.out.keep hF)
     have HC:=Hd (hF.cellSome HC.out (by simp))
     clear hF
     go_wp2_with fail
     exact bodyPost_ret (res_tmp3 rfl _ _ _) rfl ⟨.slice none 0 0,by rw [HO.out];rfl,by rw [HO.out];exact Sl.nil _,(fun y hy => by cases hy),HF.out⟩
end Go.Proofs.YtcngfbjmpemehaaGreat
