import Derived.RangeFuncNested
import Derived.RangeFuncBound
import Derived.RangeFuncCalls
import Derived.RangeFuncLeaves
import Derived.RangeFuncBox
import Derived.Shelf.Abstract
import Derived.Shelf.RegionOpen
import Derived.OwnWalkIn
import Derived.TacticsInMore
import Derived.LoopNIn
import Derived.LoopIn
import Derived.Test.YtcngfbjmpemehaaGreatMp16
import Derived.Test.YtcngfbjmpemehaaGreatMp12
import Derived.Test.YtcngfbjmpemehaaGreatMp15
import Derived.Test.YtcngfbjmpemehaaGreatMp17
set_option maxRecDepth 100000
set_option maxHeartbeats 16000000
open List renaming getElem_toArray → zz1, getElem_cons_zero → zz2, getElem_cons_succ → zz3, setIfInBounds_toArray → zz4, set_cons_zero → zz5, set_cons_succ → zz6, getElem?_toArray → zz7, getElem?_cons_succ → zz8, getElem?_cons_zero → zz9
open Go.Lib renaming hid → Hd
/- The walks of stripe.Fit,Fold,All,Xor,Gap;the iterator slices.Values over rows. -/
namespace Go.Proofs.YtcngfbjmpemehaaGreat
open Go.RowKit Go.Shelf

theorem Fit_any {w : World} {v : Value} {l : List UInt8} (h : Bytes w v l) (hl : l.length ≤ 65536) :
  Calls Tryz.prog 101 #[v,.int .i64 l.length] w fun e w' => ∃ v',e = .returned v' ∧ OwnB w' w.heap.size v' l ∧ Fr [] w w':=by
 obtain ⟨av,cv,rfl⟩:=h.shape
 simp only [List.length_map] at h ⊢
 have H:=Hd h
 clear h
 obtain ⟨iu8,hi1,hi2,hi3,hi4⟩:=info_parts info_u8
 go_enter Tryz.func101,Tryz.ntmps101
 obtain ⟨w1,e1,hF1,hB1,hs1⟩:=one_new w (madeCells #[.int .u8 0] l.length) 5
 rw [madeCells_one] at hB1
 have HB:=Hd hB1;have HF:=Hd hF1;have HI4:=Hd hi4
 have H1:=Hd (H.out.keep hF1)
 clear hB1 hF1 hs1
 go_upto_region 2 with (refine wpList_make_row _ rfl _ _ _ rfl 5 iu8 (.int .u8 0) Tryz.underlying34 hi1 hi2 hi3 rfl .i64 .i64 l.length (by go_num) (by go_num) (by rw [HI4.out];omega) (by omega) ?_)
 try rw [e1]
 clear e1
 go_wp2_with (refine wpList_copy_fr rfl (.tmp 10) (.tmp 11) 34 34 rfl 5 Tryz.underlying34 (by rw [hi1];simp [hi3]) (some ⟨w.heap.size,0,none⟩) l.length l.length rfl (.slice av l.length cv) (l.map B8) rfl H1.out w.heap.size 0 (List.replicate l.length (.int .u8 0)) 5 HB.out (fun _ => rfl) (by simp) (by simp) (oneCell_B8 l) ?_;intro w2 hB2 hF2;have HB2:=Hd hB2;have HF2:=Hd hF2;clear hB2 hF2)
 go_ret
 refine ⟨_,rfl,?_,HF.out.step HF2.out (by simp)⟩
 have:=HB2.out
 rw [show splice (List.replicate l.length (Value.int .u8 0)) 0 (l.map B8) = l.map B8 by simp [splice]] at this
 have h2:=box_own this (Nat.le_refl _) (by unfold maxLen;simp;omega)
 simpa [OwnB] using h2

attribute [local go_sem] Oper.semAt_some

theorem valuesBs1_in {α : Type} (enc : α → Value) (F : Fence) (n : Nat) (h7 : F.fn 158) (hro : F.round = none) (hn : 1 ≤ n) (l Bs n₀ cap : Nat) (av : Option Addr) (zs : List α) (hreach : zs.length ≤ 1099511627776) (J Jx : List α → World → Prop)
  (hY : ∀ pre x W,J pre W → pre.length < zs.length → YieldAt F (n - 1) Tryz.prog l #[enc x] W fun e W' =>
   (e = .returned (.bool true) ∧ J (pre ++ [x]) W' ∧ Below n₀ W W') ∨ (e = .returned (.bool false) ∧ Jx (pre ++ [x]) W'))
  (W : World) (hBs : W.cell? ⟨Bs,0,none⟩ = some (.slice av zs.length cap)) (hc : Sl W (.slice av zs.length cap) (zs.map enc)) (hlow : ∀ b,liveOf (.slice av zs.length cap) = some b → b < n₀) (h0 : J [] W) :
  CallsIn F n Tryz.prog 158 #[.func (.yield l) #[] #[],.pointer (some ⟨Bs,0,none⟩)] W fun e W' => (∃ v,e = .returned v) ∧
   ((∃ ys,ys = zs ∧ J ys W') ∨ (∃ pre,pre <+: zs ∧ Jx pre W')):=by
 have HC:=Hd hc;have HLOW:=Hd hlow
 clear hc hlow
 refine callsIn_of_wp Tryz.func158 rfl h7 ?_ hro
 simp only [Tryz.ntmps158,List.size_toArray,List.length_cons,List.length_nil,Nat.reduceAdd,Nat.reduceSub,Array.replicate_succ,Array.replicate_zero,List.push_toArray,List.append_toArray,List.nil_append,List.cons_append]
 gi_wp2
 gi_loopw [7] (fun i wr => ∃ k : Nat,k ≤ zs.length ∧ i = .int .i64 k ∧ J (zs.take k) wr ∧ Below n₀ W wr)
  (fun i _ => zs.length - (intOf i).toNat)
 case atStart => exact ⟨0,Nat.zero_le _,rfl,h0,Below.refl _ _⟩
 case round =>
  obtain ⟨k,hk,rfl,hJs,hnx⟩:=hrel
  by_cases hlt : k < zs.length
  ·obtain ⟨b,o,ea,hb,hcc⟩:=HC.out.at_ hlt
   subst ea
   have hcx:=hcc k (enc zs[k]) (by rw [List.getElem?_map,List.getElem?_eq_getElem hlt];rfl)
   have hbn : b < n₀:=HLOW.out b (by simp only [liveOf];rw [if_pos (by have:=HC.out.len;omega)])
   have hcx' : wr.cell? ⟨b,o + k,none⟩ = some (enc zs[k]):=(hnx.cell (p:=⟨b,o + k,none⟩) hbn).trans hcx
   have hJ2:=hJs
   obtain ⟨fn,tmps,assign,body,hy,hR⟩:=hY _ zs[k] wr hJs (by rw [List.length_take];omega)
   have HT : Hid (zs.take (k + 1) = zs.take k ++ [zs[k]]):=Hd (List.take_succ_eq_append_getElem hlt)
   clear hcx hcc hb
   generalize zs[k] = x at *
   gi_wp2
   refine hR.mono ?_
   rintro e W3 (⟨rfl,hJ3,hk3⟩ | ⟨rfl,hJx3⟩)
   ·gi_wp2
    go_roundw
    case rel => exact ⟨k + 1,by omega,by simp,by rw [HT.out];exact hJ3,hnx.trans hk3⟩
    case measure => simp [intOf];omega
   ·gi_wp2
    refine bodyPost_ret (results_none rfl _ _ _) rfl ?_
    exact ⟨⟨_,rfl⟩,.inr ⟨_,by rw [← HT.out];exact List.take_prefix _ _,hJx3⟩⟩
  ·obtain rfl : k = zs.length:=by omega
   gi_wp2
   go_end0
   exact ⟨⟨_,rfl⟩,.inl ⟨_,rfl,by rwa [List.take_of_length_le (Nat.le_refl _)] at hJs⟩⟩

theorem valuesBs_any (w : World) (a : Option Addr) (len cap : Nat) :
  Calls Tryz.prog 149 #[.slice a len cap] w fun e w' => e = .returned (.func (.func 158) #[] #[.pointer (some ⟨w.heap.size,0,none⟩)]) ∧ w' = w.alloc (.cells #[.slice a len cap] 60):=by
 go_enter Tryz.func149,Tryz.ntmps149
 go_wp2_with fail
 go_ret
 exact ⟨rfl,rfl⟩

theorem valuesBs_stops {α : Type} (enc : α → Value) (F : Fence) (n : Nat) (h7 : F.fn 158) (hro : F.round = none) (hn : 1 ≤ n) (Bs n₀ : Nat) (sv : Value) (zs : List α) (hreach : zs.length ≤ 1099511627776) (w : World) (hBs : Bs < w.heap.size) (hn₀ : n₀ ≤ w.heap.size)
  (hc : w.cell? ⟨Bs,0,none⟩ = some sv) (hS : Sl w sv (zs.map enc)) (hlow : ∀ b,liveOf sv = some b → b < n₀) :
  SeqStopsK F n Tryz.prog 158 #[.pointer (some ⟨Bs,0,none⟩)] (fun x => #[enc x]) (Below n₀) (fun ys => ys = zs) (fun pre => pre <+: zs) zs.length w:=fun l J Jx W hW _ _ hY h0 => by
 have hc':=(hW.cell (p:=⟨Bs,0,none⟩) hBs).trans hc
 have hS':=hS.keep (Fr.ofBelow hW)
 obtain ⟨av,cv,rfl⟩:=hS.shape
 simp only [List.length_map] at hc' hS' hlow
 exact valuesBs1_in enc F n h7 hro hn l Bs n₀ cv av zs hreach J Jx hY W hc' hS' hlow h0

def RowAt (w : World) : Type:={ x : Value × List UInt8 // Bytes w x.1 x.2 ∧ x.2.length ≤ 1099511627776 }
def foldX (zs : List (List UInt8)) : List UInt8:=zs.foldl xb []
theorem foldX_snoc (zs : List (List UInt8)) (x : List UInt8) : foldX (zs ++ [x]) = xb (foldX zs) x:=by simp [foldX]
theorem foldX_len (zs : List (List UInt8)) (n : Nat) : ∀ z : List UInt8,z.length ≤ n → (∀ x ∈ zs,x.length ≤ n) → (zs.foldl xb z).length ≤ n:=by
 induction zs with
 | nil => intro z h _;exact h
 | cons x zs ih =>
  intro z h hx
  rw [List.foldl_cons]
  refine ih _ ?_ (fun y hy => hx y (by simp [hy]))
  rw [xb_len]
  have:=hx x (by simp)
  omega
theorem Fr.belowOf {S : List Nat} {W W' : World} {n : Nat} (h : Fr S W W') (hS : ∀ g ∈ S,n ≤ g) (hn : n ≤ W.heap.size) : Below n W W' :=
 ⟨h.os,h.tape,h.output,h.size,fun k hk => h.block k (by omega) (fun hm => by have:=hS k hm;omega)⟩
theorem Fr.keepsOthers {S : List Nat} {w w' : World} (h : Fr S w w') (hS : ∀ g ∈ S,∀ o,w.heap[g]? = some o → o.isCells = true) : KeepsOthers w w' :=
 ⟨h.size,fun k o ho hc => by
  refine (h.block k (Array.getElem?_eq_some_iff.1 ho).1 (fun hm => ?_)).trans ho
  have:=hS k hm o ho
  rw [this] at hc
  cases hc⟩

theorem Fr.ofGrown {w w' : World} {row : Option Nat} (h : w.grownBy w' row) : Fr row.toList w w':=(Fr.refl row.toList w).grown h (fun k hk => .inl (by simp [hk]))
theorem OwnB.cells {w : World} {base : Nat} {v : Value} {l : List UInt8} (h : OwnB w base v l) : ∀ b,blockOf v = some b → ∃ c t,w.heap[b]? = some (.cells c t (0,0)):=by
 intro b hb
 rcases h.2 with ⟨rfl,hn⟩ | ⟨g,cap,cur,rfl,hbg,hg,r⟩
 ·cases hb
 ·simp only [blockOf,Option.some.injEq] at hb
  subst hb
  exact ⟨_,_,hg⟩
theorem Sm.other {W W' : World} {row : Option Nat} {S base n : Nat} {v : Value} {l : List UInt8} (h : Sm W S base n v l) (hg : W.grownBy W' row) (hr : ∀ r,row = some r → ∃ o : Obj,W.heap[r]? = some o ∧ o.isCells = false) : Sm W' S base n v l:=by
 have hf:=Fr.ofGrown hg
 refine ⟨h.box.fr hf (fun hm => ?_),h.own.fr hf (fun b hb hm => ?_),h.low,Nat.le_trans h.size hf.size⟩
 ·obtain ⟨o,ho,hc⟩:=hr S (by simpa using hm)
  have hb:=h.box
  unfold Box at hb
  rw [hb] at ho
  cases ho
  cases hc
 ·obtain ⟨o,ho,hc⟩:=hr b (by simpa using hm)
  obtain ⟨c,t,h2⟩:=h.own.cells b hb
  rw [h2] at ho
  cases ho
  cases hc

theorem Fold_any {w : World} {gf : Nat} {lb : Array Value} (zs : List (RowAt w)) (hz : zs.length ≤ 1099511627776) {Sp : List (RowAt w) → Prop}
  (hseq : ∀ w0,Below w.heap.size w w0 → SeqStopsK Fence.wide 5 Tryz.prog gf lb (fun x : RowAt w => #[x.1.1]) (Below w.heap.size) (fun ys => ys = zs) Sp zs.length w0) (eg : ∀ args w,(callFunc gf args).run Tryz.prog w = .ok (.enter gf args) w) :
  Calls Tryz.prog 148 #[.func (.func gf) #[] lb] w fun e w' => ∃ v',e = .returned v' ∧ OwnB w' w.heap.size v' (foldX (zs.map (·.1.2))) ∧ Fr [] w w':=by
 refine (callsIn_wide (n:=6)).1 ?_
 refine callsIn_of_wp_marks Tryz.func148 rfl trivial ?_ rfl
 simp only [Tryz.ntmps148,List.size_toArray,List.length_cons,List.length_nil,Nat.reduceAdd,Nat.reduceSub,Array.replicate_succ,Array.replicate_zero,List.push_toArray,List.append_toArray,List.nil_append,List.cons_append]
 obtain ⟨w1,e1,hF1,hB1,hs1⟩:=one_new w #[.slice none 0 0,.int .i64 0] 248
 have H1 : Hid (Sm w1 w.heap.size (w.heap.size + 1) 0 (.slice none 0 0) []):=Hd ⟨hB1,World.ownsRow_nil _ _ _ _,by omega,by omega⟩
 have HF1:=Hd hF1
 have hW1:=hs1
 clear hB1 hF1 hs1
 gi_wp2
 try rw [e1]
 refine wpIn_rangeFunc_ownG rfl (by omega) (gf:=gf) (lb:=lb) rfl trivial eg
  (hseq w1 HF1.out.below) belowK_t (belowK_b (by omega)) (Below.refl _ _) (fun _ => rfl)
  (fun pre W => (∃ v,Sm W w.heap.size (w.heap.size + 1) pre.length v (foldX (pre.map (·.1.2)))) ∧ Below w.heap.size w W)
  (fun _ _ _ => False)
  (OwnFrom.and (fun s A B row hs hg hr => by obtain ⟨v,h⟩:=hs;exact ⟨v,h.other hg (fun r e => (hr r e).2)⟩) (ownFrom_below (Nat.le_refl _) (by omega)))
  (fun _ _ _ _ _ hs _ _ => hs)
  ⟨⟨_,H1.out⟩,HF1.out.below⟩
  (fun x => { tmps:=#[.func (.func gf) #[] lb,undef,.slice none 0 0,.pointer (some ⟨w.heap.size,0,none⟩),x.1.1,.func (.func gf) #[] lb,x.1.1,undef,undef,undef],defers:=[] }) ?assign ?body ?done ?stop
 case assign =>
  intro l x W K hK
  gi_wp2
  exact hK
 case body =>
  rintro l pre x W ⟨⟨v,hS⟩,hB⟩ hlt
  have hFB:=Fr.ofBelow hB
  have hL : (foldX (pre.map (·.1.2))).length ≤ 1099511627776:=foldX_len _ _ _ (by simp) (by intro y hy;obtain ⟨z,_,rfl⟩:=List.mem_map.1 hy;exact z.2.2)
  have hcall:=CallsIn.inRound l ((callsIn_wide (n:=3)).2 (sumAdd_any hS (x.2.1.keep hFB) x.2.2 hL (by omega) (fun k hk => x.2.1.lt k hk)))
  gi_wp2_with (refine ⟨trivial,?_⟩;gi_at_call 156;refine hcall.mono ?_;rintro e W2 ⟨v',rfl,hS2,hF2,hN2⟩)
  have hcS : ∀ g ∈ w.heap.size :: (blockOf v).toList,∀ o,W.heap[g]? = some o → o.isCells = true:=fun g hg o ho => by
   simp only [List.mem_cons,Option.mem_toList] at hg
   rcases hg with rfl | hg
   ·have hb:=hS.box
    unfold Box at hb
    rw [hb] at ho;cases ho;rfl
   ·obtain ⟨c,t,h2⟩:=hS.own.cells g hg
    rw [h2] at ho;cases ho;rfl
  have hB2 : Below w.heap.size W W2:=hF2.belowOf (fun g hg => by
   simp only [List.mem_cons,Option.mem_toList] at hg
   rcases hg with rfl | hg
   ·exact Nat.le_refl _
   ·have:=hS.own.block g hg;omega) hB.size
  exact ⟨(hF2.keepsOthers hcS).from _,hB2,⟨v',by simpa [foldX_snoc] using hS2⟩,hB.trans hB2⟩
 case done =>
  rintro D ys W hD rfl ⟨⟨v,hS⟩,hB⟩ hK
  have hL : (foldX (ys.map (·.1.2))).length ≤ 1099511627776:=foldX_len _ _ _ (by simp) (by intro y hy;obtain ⟨z,_,rfl⟩:=List.mem_map.1 hy;exact z.2.2)
  have hcall:=(callsIn_wide (n:=5)).2 (sumBytes_any hS hL)
  gi_wp2_with (refine ⟨trivial,?_⟩;gi_at_call 157;refine hcall.mono ?_;rintro e W2 ⟨v',rfl,hO2,hF2⟩)
  have hDl : D < W.heap.size:=(Array.getElem?_eq_some_iff.1 hK).1
  have hK2 : W2.heap[D]? = some (.deferred (some [])):=(hF2.block D hDl (by simp)).trans hK
  refine ⟨by simp,.inl ⟨_,_,rfl,run_takeDeferred hK2,?_⟩⟩
  have hFD : Fr [D] W2 (W2.putObj D (.deferred none)):=Fr.ofGrown (grownBy_putObj' W2 D _)
  refine ⟨_,results_tmp rfl _ _ _,_,rfl,?_,?_⟩
  ·refine (hO2.mono hB.size).fr hFD (fun b hb hm => ?_)
   obtain ⟨c,t,h2⟩:=hO2.cells b hb
   simp at hm
   subst hm
   rw [h2] at hK2
   cases hK2
  ·exact ((Fr.ofBelow hB).trans hF2).step hFD (fun g hg => .inr (by simp at hg;subst hg;omega))
 case stop =>
  rintro D c pre W _ _ h _
  exact h.elim

def rowAt {w : World} {v : Value} {l : List UInt8} (h : Bytes w v l) (hl : l.length ≤ 1099511627776) : RowAt w:=⟨(v,l),h,hl⟩
theorem All_two {w : World} {vs va vb : Value} {a b : List UInt8} (hs : Sl w vs [va,vb]) (ha : Bytes w va a) (hb : Bytes w vb b) (hla : a.length ≤ 1099511627776) (hlb : b.length ≤ 1099511627776) :
  Calls Tryz.prog 133 #[vs] w fun e w' => ∃ v',e = .returned v' ∧ OwnB w' w.heap.size v' (xb a b) ∧ Fr [] w w':=by
 have HS:=Hd hs;have HA:=Hd ha;have HB:=Hd hb
 obtain ⟨av,cv,rfl⟩:=hs.shape
 simp only [List.length_cons,List.length_nil,Nat.zero_add,Nat.reduceAdd] at HS ⊢
 clear hs ha hb
 obtain ⟨w1,e1,hF1,hB1,hs1⟩:=one_new w #[.slice av 2 cv] 60
 have HF1:=Hd hF1;have HB1:=Hd hB1
 have hs1':=hs1
 clear hF1 hB1 hs1
 go_enter Tryz.func133,Tryz.ntmps133
 go_upto_region 1 with (fail)
 go_wp2_with fail
 refine (valuesBs_any w av 2 cv).mono ?_
 rintro e w2 ⟨rfl,rfl⟩
 rw [e1]
 go_wp2_with fail
 have HA1:=HA.out.keep HF1.out;have HB2:=HB.out.keep HF1.out
 have h0:=HB1.out.cell 0
 simp only [zz7,zz9] at h0
 have HLT : ∀ k,liveOf (.slice av 2 cv) = some k → k < w1.heap.size:=fun k hk => Nat.lt_of_lt_of_le (HS.out.lt k hk) HF1.out.size
 refine (Fold_any [rowAt HA1 hla,rowAt HB2 hlb] (by simp) (Sp:=fun pre => pre <+: [rowAt HA1 hla,rowAt HB2 hlb])
  (fun w0 hw0 => valuesBs_stops (fun x : RowAt w1 => x.1.1) Fence.wide 5 trivial rfl (by omega) w.heap.size w1.heap.size (.slice av 2 cv) [rowAt HA1 hla,rowAt HB2 hlb] (by simp) w0 (by have:=hw0.size;omega) hw0.size
   ((hw0.cell (p:=⟨w.heap.size,0,none⟩) (by show w.heap.size < _;omega)).trans h0) ((HS.out.keep HF1.out).keep (Fr.ofBelow hw0)) HLT) (enters_of Tryz.func158 (by kernel_rfl) rfl)).mono ?_
 rintro e w3 ⟨v',rfl,hO,hF⟩
 have H3 : Hid (OwnB w3 w1.heap.size v' (xb a b)):=Hd (by change OwnB w3 _ v' (xb (xb [] a) b) at hO;rwa [xb_nil_left] at hO)
 have HF3:=Hd hF
 clear hO hF e1 h0 HLT
 clear HA1 HB2
 go_wp2_with fail
 go_ret
 refine ⟨_,rfl,?_,HF1.out.trans HF3.out⟩
 exact H3.out.mono HF1.out.size
theorem Xor_any {w : World} {va vb : Value} {a b : List UInt8} (ha : Bytes w va a) (hb : Bytes w vb b) (hla : a.length ≤ 1099511627776) (hlb : b.length ≤ 1099511627776) :
  Calls Tryz.prog 102 #[va,vb] w fun e w' => ∃ v',e = .returned v' ∧ OwnB w' w.heap.size v' (xb a b) ∧ Fr [] w w':=by
 have HA:=Hd ha;have HB:=Hd hb
 obtain ⟨a1,c1,rfl⟩:=ha.shape
 obtain ⟨a2,c2,rfl⟩:=hb.shape
 simp only [List.length_map] at HA HB ⊢
 clear ha hb
 obtain ⟨w1,e1,hF1,hB1,hs1⟩:=one_new w #[.slice a1 a.length c1,.slice a2 b.length c2] 34
 have HF1:=Hd hF1
 have HS : Hid (Sl w1 (.slice (some ⟨w.heap.size,0,none⟩) 2 2) [.slice a1 a.length c1,.slice a2 b.length c2]):=Hd (box_sl (off:=0) (cap:=2) hB1 [.slice a1 a.length c1,.slice a2 b.length c2] (by intro i x hx;simpa using hx) (by simp) (by unfold maxLen;omega))
 clear hF1 hB1 hs1
 go_enter Tryz.func102,Tryz.ntmps102
 go_wp2_with fail
 try rw [e1]
 refine (All_two HS.out (HA.out.keep HF1.out) (HB.out.keep HF1.out) hla hlb).mono ?_
 rintro e w3 ⟨v',rfl,hO,hF⟩
 have H3:=Hd hO;have HF3:=Hd hF
 clear hO hF e1
 go_wp2_with fail
 go_ret
 exact ⟨_,rfl,H3.out.mono HF1.out.size,HF1.out.trans HF3.out⟩
end Go.Proofs.YtcngfbjmpemehaaGreat

/- Steps inside a fence: a struct loaded whole,a struct stored whole. -/
namespace Go.Proofs.YtcngfbjmpemehaaGreat
open Go.RowKit Go.Shelf

theorem wpListIn_load_row {F : Fence} {n : Nat} {P : Program} {ops : Array Oper} {rest : List Oper} {o : Oper} {a : Act} {w : World} {Q : Exit → Act → World → Prop} (hgd : o.guard = none) (ty : TypeId) (x : Operand) (ho : o.op = .load ty x)
  (g : Nat) (hx : a.eval x = .pointer (some ⟨g,0,none⟩)) (t : TypeId) (cs : Array Value) (d : TypeDesc) (hg : Box w g t cs)
  (hu : P.underlying ty = some d) (hd : (match d with | .struct _ | .array _ _ => true | _ => false) = true) (hi : (P.info? ty).map (·.size) = some cs.size)
  (h : wpListIn F n P ops Q rest (a.put o.dst (.agg cs)) w) : wpListIn F n P ops Q (o :: rest) a w:=by
 refine wpListIn_plain hgd fun K hK => ?_
 unfold Oper.wpIn
 refine ⟨by simp [Oper.about,ho],?_⟩
 rw [Oper.semAt_plain F _ _ (by rw [ho];intro c hc';cases hc')]
 unfold execOp
 simp only [ho,hx,Instr.loadAt,Instr.sureAddr,Sem.run_bind,Sem.run_pure,Result.andThen_ok,run_loadVar_row w g t ty cs (0,0) d hg hu hd hi]
 exact hK _ _ h
theorem wpListIn_store_row {F : Fence} {n : Nat} {P : Program} {w : World} {ops : Array Oper} {rest : List Oper} {o : Oper} {a : Act} {Q : Exit → Act → World → Prop} (hgd : o.guard = none) (ty : TypeId) (x y : Operand)
  (ho : o.op = .store ty x y) (g : Nat) (hx : a.eval x = .pointer (some ⟨g,0,none⟩)) (c c' : Array Value) (hy : a.eval y = .agg c') (t : TypeId) (hb : Box w g t c)
  (hi : (P.info? ty).map (·.size) = some c'.size) (hs : c'.size = c.size) (h1 : ∀ u ∈ c'.toList,u.oneCell' = true)
  (h : ∀ w',Box w' g t c' → Fr [g] w w' → wpListIn F n P ops Q rest (a.put o.dst undef) w') : wpListIn F n P ops Q (o :: rest) a w:=by
 refine wpListIn_plain hgd fun K hK => ?_
 have hst:=run_storeCells_at P g 0 t c'.toList 0 c w hb (by simp [hs]) h1
 simp only [Nat.add_zero,List.take_zero,List.nil_append,Nat.zero_add] at hst
 rw [List.drop_of_length_le (by simp [hs]),List.append_nil,Array.toArray_toList] at hst
 cases hq : P.info? ty with
 | none => simp [hq] at hi
 | some i =>
  have hsz : i.size = c'.size:=by simpa [hq] using hi
  unfold Oper.wpIn
  refine ⟨by simp [Oper.about,ho],?_⟩
  rw [Oper.semAt_plain F _ _ (by rw [ho];intro c hc';cases hc')]
  unfold execOp
  simp only [ho,hx,hy]
  simp [Instr.storeAt,Instr.sureAddr,storeVar,Sem.run_bind,sizeOf,typeInfo,hq,hsz,Value.cells,hst]
  exact hK _ _ (h _ (hb.setRow c') (Box.frSetRow w g c'))
theorem wpListIn_load_row_w {F : Fence} {n : Nat} {P : Program} {ops : Array Oper} {rest : List Oper} {o : Oper} {a : Act} {w : World} {Q : Exit → Act → World → Prop} (hw : Region.wanted o (yielded ops a.tmps) = true) (ty : TypeId) (x : Operand) (ho : o.op = .load ty x)
  (g : Nat) (hx : a.eval x = .pointer (some ⟨g,0,none⟩)) (t : TypeId) (cs : Array Value) (d : TypeDesc) (hg : Box w g t cs)
  (hu : P.underlying ty = some d) (hd : (match d with | .struct _ | .array _ _ => true | _ => false) = true) (hi : (P.info? ty).map (·.size) = some cs.size)
  (h : wpListIn F n P ops Q rest (a.put o.dst (.agg cs)) w) : wpListIn F n P ops Q (o :: rest) a w:=by
 unfold wpListIn
 rw [if_pos hw]
 unfold Oper.wpIn
 refine ⟨by simp [Oper.about,ho],?_⟩
 rw [Oper.semAt_plain F _ _ (by rw [ho];intro c hc';cases hc')]
 unfold execOp
 simp only [ho,hx,Instr.loadAt,Instr.sureAddr,Sem.run_bind,Sem.run_pure,Result.andThen_ok,run_loadVar_row w g t ty cs (0,0) d hg hu hd hi]
 exact h
end Go.Proofs.YtcngfbjmpemehaaGreat

/- The walks of imprint.Length,Same,Empty;confluxref12.Same;confluxlaw12.as,like. -/
namespace Go.Proofs.YtcngfbjmpemehaaGreat
open Go.RowKit

def bc (x : Bt) (v : Value) : Array Value:=#[.int .u8 x.h0.toNat,.int .u8 x.h1.toNat,.int .u8 x.h2.toNat,.int .u8 x.h3.toNat,.int .u8 x.h4.toNat,.int .u8 x.h5.toNat,.int .u8 x.h6.toNat,.int .u8 x.h7.toNat,v]
def BtV (w : World) (v : Value) (x : Bt) : Prop:=∃ vb,v = .agg (bc x vb) ∧ Bytes w vb x.body
def BtO (w : World) (base : Nat) (v : Value) (x : Bt) : Prop:=∃ vb,v = .agg (bc x vb) ∧ OwnB w base vb x.body
def RBV (w : World) (v : Value) (h b : List UInt8) : Prop:=∃ vh vb,v = .agg #[vh,vb] ∧ Bytes w vh h ∧ Bytes w vb b
def RBN (w : World) (base : Nat) (v : Value) (h b : List UInt8) : Prop:=∃ vh vb,v = .agg #[vh,vb] ∧ Bytes w vh h ∧ Bytes w vb b ∧ ∀ k,liveOf vh = some k ∨ liveOf vb = some k → base < k
theorem RBN.rbv {w : World} {base : Nat} {v : Value} {h b : List UInt8} (x : RBN w base v h b) : RBV w v h b:=by
 obtain ⟨vh,vb,e,h1,h2,-⟩:=x
 exact ⟨vh,vb,e,h1,h2⟩
theorem BtV.keep {w w' : World} {v : Value} {x : Bt} (h : BtV w v x) (hf : Fr [] w w') : BtV w' v x:=by obtain ⟨vb,e,h⟩:=h;exact ⟨vb,e,Sl.keep h hf⟩
theorem BtV.open_ {w : World} {v : Value} {x : Bt} (h : BtV w v x) : ∃ a c,v = .agg (bc x (.slice a x.body.length c)) ∧ Bytes w (.slice a x.body.length c) x.body:=by
 obtain ⟨vb,rfl,hb⟩:=h
 obtain ⟨a,c,rfl⟩:=hb.shape
 simp only [List.length_map] at hb ⊢
 exact ⟨a,c,rfl,hb⟩
theorem RBV.open_ {w : World} {v : Value} {h b : List UInt8} (hr : RBV w v h b) : ∃ a1 c1 a2 c2,v = .agg #[.slice a1 h.length c1,.slice a2 b.length c2] ∧ Bytes w (.slice a1 h.length c1) h ∧ Bytes w (.slice a2 b.length c2) b:=by
 obtain ⟨vh,vb,rfl,h1,h2⟩:=hr
 obtain ⟨a,c,rfl⟩:=h1.shape
 obtain ⟨a2,c2,rfl⟩:=h2.shape
 simp only [List.length_map] at h1 h2 ⊢
 exact ⟨a,c,a2,c2,rfl,h1,h2⟩
theorem Box.bcells {w : World} {g : Nat} {t : TypeId} {x : Bt} {v : Value} (h : Box w g t (bc x v)) :
  w.cell? ⟨g,0,none⟩ = some (.int .u8 x.h0.toNat) ∧ w.cell? ⟨g,1,none⟩ = some (.int .u8 x.h1.toNat) ∧ w.cell? ⟨g,2,none⟩ = some (.int .u8 x.h2.toNat) ∧ w.cell? ⟨g,3,none⟩ = some (.int .u8 x.h3.toNat) ∧
  w.cell? ⟨g,4,none⟩ = some (.int .u8 x.h4.toNat) ∧ w.cell? ⟨g,5,none⟩ = some (.int .u8 x.h5.toNat) ∧ w.cell? ⟨g,6,none⟩ = some (.int .u8 x.h6.toNat) ∧ w.cell? ⟨g,7,none⟩ = some (.int .u8 x.h7.toNat) ∧ w.cell? ⟨g,8,none⟩ = some v :=
 ⟨h.cell 0,h.cell 1,h.cell 2,h.cell 3,h.cell 4,h.cell 5,h.cell 6,h.cell 7,h.cell 8⟩
theorem Box.headSl {w : World} {g : Nat} {t : TypeId} {x : Bt} {v : Value} (h : Box w g t (bc x v)) : Bytes w (.slice (some ⟨g,0,none⟩) 8 8) x.head :=
 box_sl (off:=0) (cap:=8) h (x.head.map B8) (by
  intro i y hy
  have hl : i < 8:=(List.getElem?_eq_some_iff.1 hy).1
  match i,hl with
  | 0,_ | 1,_ | 2,_ | 3,_ | 4,_ | 5,_ | 6,_ | 7,_ => exact hy) (by simp [Bt.head_len]) (by unfold maxLen;omega)
theorem or_shl8 (a b : Nat) (ha : a < 256) (hb : b < 256) : bits .or .i64 ((a : Int) * 256) (b : Int) = ((a * 256 + b : Nat) : Int):=by
 rw [show ((a : Int) * 256) = ((a * 256 : Nat) : Int) by omega,i64_or_nat _ _ (by omega) (by omega)]
 have:=Nat.two_pow_add_eq_or_of_lt (i:=8) (b:=b) (by omega) a
 rw [show a * 256 = 2 ^ 8 * a by omega,← this]

theorem impLength_any {w : World} {v : Value} {x : Bt} (h : BtV w v x) : Calls Tryz.prog 159 #[v] w fun e w' => e = .returned (.int .i64 x.len) ∧ Fr [] w w':=by
 obtain ⟨a,c,rfl,hb⟩:=h.open_
 obtain ⟨w1,e1,hF1,hB1,hs1⟩:=one_new w (bc x (.slice a x.body.length c)) 127
 have HF1:=Hd hF1
 obtain ⟨x0,x1,x2,x3,x4,x5,x6,x7,x8⟩:=hB1.bcells
 have E1:=Hd e1
 have h6:=x.h6.toNat_lt;have h7:=x.h7.toNat_lt
 have ho:=or_shl8 x.h6.toNat x.h7.toNat h6 h7
 have HL : Hid (x.h6.toNat * 256 + x.h7.toNat = x.len):=Hd rfl
 clear hb hF1 hB1 hs1 e1 h
 go_enter Tryz.func159,Tryz.ntmps159
 go_upto_region 1 with (fail)
 rw [E1.out]
 clear E1
 generalize x.h6.toNat = b6 at *
 generalize x.h7.toNat = b7 at *
 go_wp2_with fail
 go_ret
 refine ⟨ret_int ?_,HF1.out⟩
 rw [← HL.out]
 go_num

end Go.Proofs.YtcngfbjmpemehaaGreat

/- The walks of imprint.Empty,Add;confluxref12.Same,Add;confluxlaw12.as,like (printed by gen_imp2.py). -/
namespace Go.Proofs.YtcngfbjmpemehaaGreat
open Go.RowKit

theorem r12Add_own {w : World} {v1 v2 : Value} {h1 b1 h2 b2 : List UInt8} (hv1 : RBV w v1 h1 b1) (hv2 : RBV w v2 h2 b2) (k1 : h1.length ≤ 1099511627776) (k3 : h2.length ≤ 1099511627776) (k2 : b1.length ≤ 1099511627776) (k4 : b2.length ≤ 1099511627776) :
  Calls Tryz.prog 69 #[v1,v2] w fun e w' => ∃ vh vb,e = .returned (.agg #[vh,vb]) ∧ OwnB w' w.heap.size vh (xb h1 h2) ∧ OwnB w' w.heap.size vb (xb b1 b2) ∧ Fr [] w w':=by
 obtain ⟨a1,c1,a2,c2,rfl,g1,g2⟩:=hv1.open_
 obtain ⟨a3,c3,a4,c4,rfl,g3,g4⟩:=hv2.open_
 obtain ⟨w0,e0,hF0,hB1,hB2,hs0⟩:=two_new w #[.slice a1 h1.length c1,.slice a2 b1.length c2] 105 #[.slice a3 h2.length c3,.slice a4 b2.length c4] 105
 obtain ⟨w1,e1,hF1,hB3,hs1⟩:=one_new w0 #[.slice none 0 0,.slice none 0 0] 105
 rw [hs0] at hB3
 have hF1d:=hF1.drew;have hF01:=hF0.trans hF1d
 have HF:=Hd hF01;have HSS:=Hd (And.intro (hB1.keep hF1d) (hB2.keep hF1d));have HR:=Hd (hB3.keep ((Fr.refl [] w1).drew))
 have G1 : Hid (Bytes w1.drew _ h1):=Hd (Sl.keep g1 hF01);have G2 : Hid (Bytes w1.drew _ b1):=Hd (Sl.keep g2 hF01);have G3 : Hid (Bytes w1.drew _ h2):=Hd (Sl.keep g3 hF01);have G4 : Hid (Bytes w1.drew _ b2):=Hd (Sl.keep g4 hF01)
 have E1:=Hd e1;have E0:=Hd e0
 have hsz : w1.drew.heap.size = w.heap.size + 3:=by show w1.heap.size = _;omega
 clear g1 g2 g3 g4 hF1 hF1d hB1 hB2 hB3 e1 e0 hv1 hv2 hs1 hs0 hF0 hF01
 go_enter Tryz.func69,Tryz.ntmps69
 go_upto_region 1 with (fail)
 rw [E0.out,E1.out]
 clear E1 E0
 refine wp_region_T (fun w' => Box w' w.heap.size 105 #[.slice a1 h1.length c1,.slice a2 b1.length c2] ∧ Box w' (w.heap.size + 1) 105 #[.slice a3 h2.length c3,.slice a4 b2.length c4]) [] 12 #[false,false,false,false,false,false,false,false,false,false,false,false] (by kernel_rfl) rfl rfl ?_
 generalize w1.drew = wd at *
 refine wL 0 ?_ rfl (by kernel_rfl) (fun _ _ _ h => h) HSS.out (by rfl) ?_ ?_
 rotate_left
 ·intro w hSw;have y0:=hSw.1.cell 0;have y1:=hSw.1.cell 1;have z0:=hSw.2.cell 0;have z1:=hSw.2.cell 1;simp only [zz7,zz8,zz9] at y0 y1 z0 z1;go_simp;try with_reducible rfl
 simp only [Act.put,zz1,zz2,zz3,zz4,zz5,zz6]
 refine wL 1 ?_ rfl (by kernel_rfl) (fun _ _ _ h => h) HSS.out (by rfl) ?_ ?_
 rotate_left
 ·intro w hSw;have y0:=hSw.1.cell 0;have y1:=hSw.1.cell 1;have z0:=hSw.2.cell 0;have z1:=hSw.2.cell 1;simp only [zz7,zz8,zz9] at y0 y1 z0 z1;go_simp;try with_reducible rfl
 simp only [Act.put,zz1,zz2,zz3,zz4,zz5,zz6]
 refine wL 2 ?_ rfl (by kernel_rfl) (fun _ _ _ h => h) HSS.out (by rfl) ?_ ?_
 rotate_left
 ·intro w hSw;have y0:=hSw.1.cell 0;have y1:=hSw.1.cell 1;have z0:=hSw.2.cell 0;have z1:=hSw.2.cell 1;simp only [zz7,zz8,zz9] at y0 y1 z0 z1;go_simp;try with_reducible rfl
 simp only [Act.put,zz1,zz2,zz3,zz4,zz5,zz6]
 refine wL 3 ?_ rfl (by kernel_rfl) (fun _ _ _ h => h) HSS.out (by rfl) ?_ ?_
 rotate_left
 ·intro w hSw;have y0:=hSw.1.cell 0;have y1:=hSw.1.cell 1;have z0:=hSw.2.cell 0;have z1:=hSw.2.cell 1;simp only [zz7,zz8,zz9] at y0 y1 z0 z1;go_simp;try with_reducible rfl
 simp only [Act.put,zz1,zz2,zz3,zz4,zz5,zz6]
 refine wL 5 ?_ rfl (by kernel_rfl) (fun _ _ _ h => h) HSS.out (by rfl) ?_ ?_
 rotate_left
 ·intro w hSw;have y0:=hSw.1.cell 0;have y1:=hSw.1.cell 1;have z0:=hSw.2.cell 0;have z1:=hSw.2.cell 1;simp only [zz7,zz8,zz9] at y0 y1 z0 z1;go_simp;try with_reducible rfl
 simp only [Act.put,zz1,zz2,zz3,zz4,zz5,zz6]
 refine wL 6 ?_ rfl (by kernel_rfl) (fun _ _ _ h => h) HSS.out (by rfl) ?_ ?_
 rotate_left
 ·intro w hSw;have y0:=hSw.1.cell 0;have y1:=hSw.1.cell 1;have z0:=hSw.2.cell 0;have z1:=hSw.2.cell 1;simp only [zz7,zz8,zz9] at y0 y1 z0 z1;go_simp;try with_reducible rfl
 simp only [Act.put,zz1,zz2,zz3,zz4,zz5,zz6]
 refine wL 7 ?_ rfl (by kernel_rfl) (fun _ _ _ h => h) HSS.out (by rfl) ?_ ?_
 rotate_left
 ·intro w hSw;have y0:=hSw.1.cell 0;have y1:=hSw.1.cell 1;have z0:=hSw.2.cell 0;have z1:=hSw.2.cell 1;simp only [zz7,zz8,zz9] at y0 y1 z0 z1;go_simp;try with_reducible rfl
 simp only [Act.put,zz1,zz2,zz3,zz4,zz5,zz6]
 refine wL 8 ?_ rfl (by kernel_rfl) (fun _ _ _ h => h) HSS.out (by rfl) ?_ ?_
 rotate_left
 ·intro w hSw;have y0:=hSw.1.cell 0;have y1:=hSw.1.cell 1;have z0:=hSw.2.cell 0;have z1:=hSw.2.cell 1;simp only [zz7,zz8,zz9] at y0 y1 z0 z1;go_simp;try with_reducible rfl
 simp only [Act.put,zz1,zz2,zz3,zz4,zz5,zz6]
 refine wpAnyT_one (i:=4) (by kernel_rfl) rfl (fun K hK => ?_)
 rw [if_pos (by rfl)]
 go_simp
 refine (r04Xor_any G1.out G3.out k1 k3).mono ?_
 rintro e w2 ⟨v2,rfl,hO,hF⟩
 have HO1:=Hd hO
 clear hO
 have HSS:=Hd (And.intro (HSS.out.1.keep hF) (HSS.out.2.keep hF));have HR:=Hd (HR.out.keep hF);have G2:=Hd (Sl.keep G2.out hF);have G4:=Hd (Sl.keep G4.out hF);have hsz2:=hF.size;have HF:=Hd (HF.out.trans hF)
 clear hF
 go_simp
 refine hK.out _ _ (fun _ => HSS.out) ?_
 clear hK K
 simp only [Act.put,zz1,zz2,zz3,zz4,zz5,zz6]
 refine wpAnyT_one (i:=9) (by kernel_rfl) rfl (fun K hK => ?_)
 rw [if_pos (by rfl)]
 go_simp
 refine (r04Xor_any G2.out G4.out k2 k4).mono ?_
 rintro e w3 ⟨v3,rfl,hO,hF⟩
 have HO2:=Hd (hO.mono hsz2)
 clear hO
 have HSS:=Hd (And.intro (HSS.out.1.keep hF) (HSS.out.2.keep hF));have HR:=Hd (HR.out.keep hF);have G2:=Hd (Sl.keep G2.out hF);have G4:=Hd (Sl.keep G4.out hF);have HO1:=Hd (HO1.out.keep hF);have hsz2:=hF.size;have HF:=Hd (HF.out.trans hF)
 clear hF
 obtain ⟨aa,na,ca,rfl⟩:=HO1.out.isSlice
 obtain ⟨ab,nb,cb,rfl⟩:=HO2.out.isSlice
 go_simp
 refine hK.out _ _ (fun _ => HSS.out) ?_
 clear hK K
 simp only [Act.put,zz1,zz2,zz3,zz4,zz5,zz6]
 refine wL 10 ?_ rfl (by kernel_rfl) (fun _ _ _ h => h) HSS.out (by rfl) ?_ ?_
 rotate_left
 ·intro w hSw;have y0:=hSw.1.cell 0;have y1:=hSw.1.cell 1;have z0:=hSw.2.cell 0;have z1:=hSw.2.cell 1;simp only [zz7,zz8,zz9] at y0 y1 z0 z1;go_simp;try with_reducible rfl
 simp only [Act.put,zz1,zz2,zz3,zz4,zz5,zz6]
 refine wpAnyT_one (i:=11) (by kernel_rfl) rfl (fun K hK => ?_)
 refine wp_store_row rfl 105 (.tmp 4) (.tmp 15) rfl (w.heap.size + 2) rfl _ _ rfl 105 HR.out (by kernel_rfl) rfl (by simp [Value.oneCell']) ?_
 intro w4 hY hG
 have HSS:=Hd (And.intro (HSS.out.1.fr hG (by simp)) (HSS.out.2.fr hG (by simp)))
 refine hK.out _ _ (fun _ => HSS.out) ?_
 clear hK K
 simp only [Act.put,zz1,zz2,zz3,zz4,zz5,zz6]
 refine wpAnyT_done (by kernel_rfl) ?_ _
 go_wp2_with fail
 refine bodyPost_ret (results_cell_row rfl _ _ (w.heap.size + 2) 105 _ (0,0) _ rfl hY Tryz.underlying105 rfl (by kernel_rfl)) rfl ⟨_,_,rfl,?_,?_,HF.out.step hG (by simp)⟩
 ·exact (HO1.out.fr hG (fun k hk hm => by have:=HO1.out.block k hk;simp at hm;omega)).mono (by omega)
 ·exact (HO2.out.fr hG (fun k hk hm => by have:=HO2.out.block k hk;simp at hm;omega)).mono (by omega)
end Go.Proofs.YtcngfbjmpemehaaGreat

/- The walks of imprint.Add and Of (printed by gen_imp3.py). -/
namespace Go.Proofs.YtcngfbjmpemehaaGreat
open Go.RowKit

theorem bc_list (x : Bt) (v : Value) : bc x v = (x.head.map B8 ++ [v]).toArray:=rfl
theorem head8 (x : Bt) {l : List UInt8} (h : l = x.head) (v : Value) (y : Bt) (b : List UInt8) (hb : b = y.body) : (splice ((Bt.zero).head.map B8 ++ [v]) 0 (l.map B8)).toArray = bc { x with body:=b } v:=by
 subst h
 simp [splice,bc,Bt.head,B8,Bt.zero]

theorem impAdd_any {w : World} {v1 v2 : Value} {x y : Bt} (h1 : BtV w v1 x) (h2 : BtV w v2 y) (hl1 : x.body.length ≤ 1099511627776) (hl2 : y.body.length ≤ 1099511627776) :
  Calls Tryz.prog 75 #[v1,v2] w fun e w' => ∃ v',e = .returned v' ∧ BtO w' w.heap.size v' (x.add y) ∧ Fr [] w w':=by
 obtain ⟨a,c,rfl,hb⟩:=h1.open_
 obtain ⟨a2,c2,rfl,hb2⟩:=h2.open_
 obtain ⟨w0,e0,hF0,hB1,hB2,hs0⟩:=two_new w (bc x (.slice a x.body.length c)) 127 (bc y (.slice a2 y.body.length c2)) 127
 obtain ⟨w1,e1,hF1,hB3,hs1⟩:=one_new w0 (bc Bt.zero (.slice none 0 0)) 127
 rw [hs0] at hB3
 have hF01:=hF0.trans hF1
 have HF:=Hd hF01;have HB1:=Hd (hB1.keep hF1);have HB2:=Hd (hB2.keep hF1);have HR:=Hd hB3
 have G1:=Hd (Sl.keep hb hF01);have G2:=Hd (Sl.keep hb2 hF01)
 have E0:=Hd e0;have E1:=Hd e1
 have hs1' : w1.heap.size = w.heap.size + 3:=by omega
 obtain ⟨x0,x1,x2,x3,x4,x5,x6,x7,x8⟩:=HB1.out.bcells
 obtain ⟨y0,y1,y2,y3,y4,y5,y6,y7,y8⟩:=HB2.out.bcells
 clear hb hb2 h1 h2 hF0 hB1 hB2 hs0 hF1 hB3 hs1 hF01 e0 e1
 go_enter Tryz.func75,Tryz.ntmps75
 go_upto_region 1 with (fail)
 simp only [bc,Bt.zero] at E1
 rw [E0.out]
 first | rw [E1.out] | (simp only [UInt8.toNat_zero,Int.natCast_zero] at E1;rw [E1.out]) | (have:=E1.out;simp at this;rw [this])
 clear E0 E1
 go_wp2_with fail
 refine (Xor_any G1.out G2.out hl1 hl2).mono ?_
 rintro e w2 ⟨v3,rfl,hO,hF⟩
 obtain ⟨a3,n3,c3,rfl⟩:=hO.isSlice
 obtain rfl:=hO.len
 have HB1:=Hd (HB1.out.keep hF);have HB2:=Hd (HB2.out.keep hF);have HR:=Hd (HR.out.keep hF);have HF:=Hd (HF.out.trans hF)
 have HV0:=Hd hO;have hs2:=hF.size
 clear hO hF x0 x1 x2 x3 x4 x5 x6 x7 x8 y0 y1 y2 y3 y4 y5 y6 y7 y8 G1 G2
 obtain ⟨w3,e3,hF3,hB3,hs3⟩:=one_new w2 (bc Bt.zero (.slice a3 (xb x.body y.body).length c3)) 127
 have hF3d:=hF3.drew
 have HSS:=Hd (And.intro (HB1.out.keep hF3d) (And.intro (HB2.out.keep hF3d) (hB3.keep (Fr.refl [] w3).drew)));have HR:=Hd (HR.out.keep hF3d);have HF:=Hd (HF.out.trans hF3d)
 have HVB : Hid (∀ b,blockOf (.slice a3 (xb x.body y.body).length c3) = some b → w.heap.size + 3 ≤ b ∧ b < w2.heap.size):=Hd (fun b hb => by have:=HV0.out.block b hb;omega)
 have HV:=Hd ((HV0.out.mono (Nat.le_trans (by omega : w.heap.size ≤ w1.heap.size) (Nat.le_refl _))).keep hF3d)
 have E3:=Hd e3
 clear hF3 hB3 e3 hF3d
 go_upto_region 2 with (fail)
 first | rw [E3.out] | (have:=E3.out;simp [bc,Bt.zero] at this;rw [this];clear this)
 clear E3
 refine wp_region_T (fun w' => Box w' w.heap.size 127 (bc x (.slice a x.body.length c)) ∧ Box w' (w.heap.size + 1) 127 (bc y (.slice a2 y.body.length c2)) ∧ Box w' w2.heap.size 127 (bc Bt.zero (.slice a3 (xb x.body y.body).length c3))) [7] 8 #[false,false,false,false,false,false,false,false] (by kernel_rfl) rfl rfl ?_
 generalize w3.drew = wd at *
 refine wL 0 ?_ rfl (by kernel_rfl) (fun _ _ _ h => h) HSS.out (by rfl) ?_ ?_
 rotate_left
 ·intro w hSw;obtain ⟨x0,x1,x2,x3,x4,x5,x6,x7,x8⟩:=hSw.1.bcells;obtain ⟨y0,y1,y2,y3,y4,y5,y6,y7,y8⟩:=hSw.2.1.bcells;go_simp;try with_reducible rfl
 simp only [Act.put,zz1,zz2,zz3,zz4,zz5,zz6]
 refine wL 1 ?_ rfl (by kernel_rfl) (fun _ _ _ h => h) HSS.out (by rfl) ?_ ?_
 rotate_left
 ·intro w hSw;obtain ⟨x0,x1,x2,x3,x4,x5,x6,x7,x8⟩:=hSw.1.bcells;obtain ⟨y0,y1,y2,y3,y4,y5,y6,y7,y8⟩:=hSw.2.1.bcells;go_simp;try with_reducible rfl
 simp only [Act.put,zz1,zz2,zz3,zz4,zz5,zz6]
 refine wL 2 ?_ rfl (by kernel_rfl) (fun _ _ _ h => h) HSS.out (by rfl) ?_ ?_
 rotate_left
 ·intro w hSw;obtain ⟨x0,x1,x2,x3,x4,x5,x6,x7,x8⟩:=hSw.1.bcells;obtain ⟨y0,y1,y2,y3,y4,y5,y6,y7,y8⟩:=hSw.2.1.bcells;go_simp;try with_reducible rfl
 simp only [Act.put,zz1,zz2,zz3,zz4,zz5,zz6]
 refine wL 3 ?_ rfl (by kernel_rfl) (fun _ _ _ h => h) HSS.out (by rfl) ?_ ?_
 rotate_left
 ·intro w hSw;obtain ⟨x0,x1,x2,x3,x4,x5,x6,x7,x8⟩:=hSw.1.bcells;obtain ⟨y0,y1,y2,y3,y4,y5,y6,y7,y8⟩:=hSw.2.1.bcells;go_simp;try with_reducible rfl
 simp only [Act.put,zz1,zz2,zz3,zz4,zz5,zz6]
 refine wL 4 ?_ rfl (by kernel_rfl) (fun _ _ _ h => h) HSS.out (by rfl) ?_ ?_
 rotate_left
 ·intro w hSw;obtain ⟨x0,x1,x2,x3,x4,x5,x6,x7,x8⟩:=hSw.1.bcells;obtain ⟨y0,y1,y2,y3,y4,y5,y6,y7,y8⟩:=hSw.2.1.bcells;go_simp;try with_reducible rfl
 simp only [Act.put,zz1,zz2,zz3,zz4,zz5,zz6]
 refine wL 5 ?_ rfl (by kernel_rfl) (fun _ _ _ h => h) HSS.out (by rfl) ?_ ?_
 rotate_left
 ·intro w hSw;obtain ⟨x0,x1,x2,x3,x4,x5,x6,x7,x8⟩:=hSw.1.bcells;obtain ⟨y0,y1,y2,y3,y4,y5,y6,y7,y8⟩:=hSw.2.1.bcells;go_simp;try with_reducible rfl
 simp only [Act.put,zz1,zz2,zz3,zz4,zz5,zz6]
 refine wpAnyT_one (i:=6) (by kernel_rfl) rfl (fun K hK => ?_)
 rw [if_pos (by rfl)]
 go_simp
 refine (Xor_any HSS.out.1.headSl HSS.out.2.1.headSl (by rw [x.head_len];omega) (by rw [y.head_len];omega)).mono ?_
 rintro e w4 ⟨v4,rfl,hO,hF⟩
 have HX:=Hd hO.bytes
 have HSS:=Hd (And.intro (HSS.out.1.keep hF) (And.intro (HSS.out.2.1.keep hF) (HSS.out.2.2.keep hF)));have HV:=Hd (HV.out.keep hF);have HR:=Hd (HR.out.keep hF);have HF:=Hd (HF.out.trans hF)
 clear hO hF
 go_simp
 refine hK.out _ _ (fun _ => HSS.out) ?_
 clear hK K
 simp only [Act.put,zz1,zz2,zz3,zz4,zz5,zz6]
 refine wpAnyT_one (i:=7) (by kernel_rfl) rfl (fun K hK => ?_)
 rw [if_pos (by rfl)]
 refine wp_copy_fr (.tmp 13) (.tmp 18) 34 34 rfl 5 Tryz.underlying34 (by kernel_rfl) (some ⟨w2.heap.size,0,none⟩) 8 8 rfl v4 ((xb x.head y.head).map B8) rfl HX.out w2.heap.size 0 ((Bt.zero).head.map B8 ++ [.slice a3 (xb x.body y.body).length c3]) 127 (by have:=HSS.out.2.2;rwa [bc_list] at this) (fun _ => rfl) (by rw [List.length_map,xb_len];rfl) (by rw [List.length_append,List.length_map];simp [Bt.head_len]) (oneCell_B8 _) ?_
 intro w5 hY hG
 rw [head8 (x.add y) (x.head_add y).symm _ (x.add y) _ rfl] at hY
 have HV:=Hd (HV.out.fr hG (fun b hb hm => by have h1:=HVB.out b hb;simp at hm;omega))
 have HR:=Hd (HR.out.fr hG (by simp;omega))
 have HF:=Hd (HF.out.step hG (by simp;omega))
 have HY:=Hd hY
 clear hY hG
 refine hK.out _ _ (fun _ => by rename_i h;exact absurd (by simp) h) ?_
 clear hK K
 simp only [Act.put,zz1,zz2,zz3,zz4,zz5,zz6]
 refine wpAnyT_done (by kernel_rfl) ?_ _
 go_upto_region 3 with (fail)
 go_wp2_with (first | (refine wpList_load_row rfl 127 (.tmp 5) rfl w2.heap.size rfl 127 _ _ _ HY.out Tryz.underlying127 rfl (by kernel_rfl) ?_) | (refine wpList_store_row rfl 127 (.tmp 4) (.tmp 20) rfl (w.heap.size + 2) rfl _ _ rfl 127 (HR.out) (by kernel_rfl) rfl (by simp [bc,Value.oneCell']) ?_;intro w6 hY hG;skip))
 refine bodyPost_ret (results_cell_row rfl _ _ (w.heap.size + 2) 127 _ (0,0) _ rfl hY Tryz.underlying127 rfl (by kernel_rfl)) rfl ⟨_,rfl,⟨_,rfl,?_⟩,HF.out.step hG (by simp)⟩
 exact (HV.out.fr hG (fun b hb hm => by have h1:=HVB.out b hb;simp at hm;omega))

theorem u8_and_nat (a b : Nat) (ha : a < 256) (hb : b < 256) : bits .and .u8 (a : Int) (b : Int) = ((a &&& b : Nat) : Int):=by
 have h : a &&& b ≤ a:=Nat.and_le_left
 show IntKind.u8.wrap ((BitVec.ofInt 8 (a : Int) &&& BitVec.ofInt 8 (b : Int)).toNat : Int) = _
 rw [show BitVec.ofInt 8 (a : Int) = BitVec.ofNat 8 a by simp,show BitVec.ofInt 8 (b : Int) = BitVec.ofNat 8 b by simp,BitVec.toNat_and,BitVec.toNat_ofNat,BitVec.toNat_ofNat]
 rw [Nat.mod_eq_of_lt (by omega),Nat.mod_eq_of_lt (by omega),IntKind.wrap_u8]
 omega
theorem u8_and63 (a : UInt8) : bits .and .u8 (a.toNat : Int) 63 = ((a &&& 63).toNat : Int):=by
 have:=u8_and_nat a.toNat 63 a.toNat_lt (by omega)
 rw [UInt8.toNat_and]
 exact this
theorem Bytes.cell {w : World} {b o n c : Nat} {l : List UInt8} (h : Bytes w (.slice (some ⟨b,o,none⟩) n c) l) (i : Nat) (hi : i < l.length) : w.cell? ⟨b,o + i,none⟩ = some (.int .u8 ((l.getD i 0).toNat : Nat)):=by
 have hlen : n = l.length:=by have:=Sl.len h;simpa using this.1
 obtain ⟨b',o',e,_,hc⟩:=Sl.at_ h (k:=i) (by omega)
 cases e
 have:=hc i (B8 l[i]) (by rw [List.getElem?_map,List.getElem?_eq_getElem hi];rfl)
 rw [this,gD,List.getElem?_eq_getElem hi]
 rfl
theorem take4 {l : List UInt8} (h : 8 ≤ l.length) : (l.drop 4).take 4 = [l.getD 4 0,l.getD 5 0,l.getD 6 0,l.getD 7 0]:=by
 refine ext_getD (by simp;omega) fun i => ?_
 rw [gD,List.getElem?_take]
 split
 ·rename_i hi
  rw [List.getElem?_drop,← gD]
  match i,hi with
  | 0,_ | 1,_ | 2,_ | 3,_ => rfl
 ·rename_i hi
  rw [gD,List.getElem?_eq_none_iff.2 (by simp;omega)]
theorem parse_len {l : List UInt8} {p : Pkt} (h : parseR l = .ok p) : 12 ≤ l.length ∧ l.length ≤ 1500:=by
 obtain ⟨h1,h2⟩:=parse_back h
 have:=tail_len h1
 rw [h2] at this
 omega
theorem imp_cells {l : List UInt8} {n : Nat} (hn : l.length = n + 12) (hs : n ≤ 1488) (v : Value) : bc (imp l) v = #[.int .u8 (((l.getD 0 0).toNat &&& 63 : Nat) : Int),.int .u8 ((l.getD 1 0).toNat : Nat),.int .u8 ((l.getD 4 0).toNat : Nat),.int .u8 ((l.getD 5 0).toNat : Nat),.int .u8 ((l.getD 6 0).toNat : Nat),.int .u8 ((l.getD 7 0).toNat : Nat),.int .u8 ((n : Int) / 256),.int .u8 ((n : Int) % 256),v]:=by
 have h1 : (UInt8.ofNat (n / 256)).toNat = n / 256:=by rw [UInt8.toNat_ofNat'];omega
 have h2 : (UInt8.ofNat n).toNat = n % 256:=by rw [UInt8.toNat_ofNat']
 unfold bc imp
 simp only [hn,Nat.add_sub_cancel,h1,h2,UInt8.toNat_and]
 rfl
theorem bc_zero (v : Value) : bc Bt.zero v = #[.int .u8 0,.int .u8 0,.int .u8 0,.int .u8 0,.int .u8 0,.int .u8 0,.int .u8 0,.int .u8 0,v]:=rfl
theorem impOf_any {w : World} {v : Value} {l : List UInt8} (hl : Bytes w v l) :
  Calls Tryz.prog 74 #[v] w fun e w' =>
   (∃ v' p,parseR l = .ok p ∧ e = .returned (.tuple #[v',.int .i64 0]) ∧ BtO w' w.heap.size v' (imp l) ∧ Fr [] w w') ∨
   (∃ k,parseR l = .error k ∧ e = .returned (.tuple #[.agg (bc Bt.zero (.slice none 0 0)),.int .i64 k]) ∧ Fr [] w w'):=by
 obtain ⟨av,cv,rfl⟩:=hl.shape
 simp only [List.length_map] at hl ⊢
 have HL:=Hd hl
 obtain ⟨w1,e1,hF1,hB1,hs1⟩:=one_new w (bc Bt.zero (.slice none 0 0)) 127
 have HF:=Hd hF1;have HR:=Hd hB1
 have E1:=Hd e1
 have hs1':=hs1
 clear hl hF1 hB1 e1 hs1
 go_enter Tryz.func74,Tryz.ntmps74
 go_upto_region 1 with (fail)
 first | rw [E1.out] | (have:=E1.out;simp only [bc_zero] at this;rw [this];clear this)
 clear E1
 go_wp2_with fail
 refine (Parse_any (HL.out.keep HF.out)).mono ?_
 rintro e w2 (⟨vp,p,hp,rfl,hVp,hF⟩ | ⟨k,hp,rfl,hF⟩)
 rotate_left
 ·have HP:=Hd hp
  have hk : (k != 0) = true:=by simpa using parseR_err hp
  have HR:=Hd (HR.out.keep hF);have HF:=Hd (HF.out.trans hF)
  have hs2:=hF.size
  clear hp hF
  unfold pz
  go_upto_region 3 with (refine wpList_store_row rfl 93 (.tmp 4) (.tmp 10) rfl w2.heap.size rfl _ _ rfl 93 (Box.new w2 93 #[.bool false,.int .i64 0,.int .u16 0,.int .u32 0,.int .u32 0,.slice none 0 0,.bool false,.int .u16 0,.slice none 0 0,.slice none 0 0,.slice none 0 0]) (by kernel_rfl) rfl (oneCell_pz) ?_;intro w3 hY hG;have hFn:=((Fr.refl [] w2).alloc _).step hG (by simp);have HFn:=Hd hFn;have HY:=Hd hY;clear hG hFn hY)
  have HR:=Hd (HR.out.keep HFn.out);have HF:=Hd (HF.out.trans HFn.out)
  clear HFn HY
  go_wp2_with (refine wpList_store_row rfl 127 (.tmp 2) (.tmp 14) rfl w.heap.size rfl _ (bc Bt.zero (.slice none 0 0)) rfl 127 HR.out (by kernel_rfl) rfl (by simp [bc,Value.oneCell']) ?_;intro w4 hY hG)
  refine bodyPost_ret (results_row_1 rfl _ _ w.heap.size 127 _ _ rfl hY Tryz.underlying127 rfl (by kernel_rfl)) rfl (.inr ⟨k,HP.out,rfl,HF.out.step hG (by simp)⟩)
 ·have HP:=Hd hp
  obtain ⟨h12,h15⟩:=parse_len hp
  obtain ⟨b,o,ea,hbl,-⟩:=HL.out.at_ (k:=0) (by omega)
  subst ea
  obtain ⟨q1,k1,q2,k2,q3,k3,q4,k4,rfl,-,-,-,-⟩:=hVp.open_
  have HR:=Hd (HR.out.keep hF);have HF:=Hd (HF.out.trans hF)
  have hs2:=hF.size
  clear hp hF hVp
  go_upto_region 4 with (refine wpList_store_row rfl 93 (.tmp 4) (.tmp 10) rfl w2.heap.size rfl _ _ rfl 93 (Box.new w2 93 #[.bool false,.int .i64 0,.int .u16 0,.int .u32 0,.int .u32 0,.slice none 0 0,.bool false,.int .u16 0,.slice none 0 0,.slice none 0 0,.slice none 0 0]) (by kernel_rfl) rfl (oneCell_pc _ _ _ _ _ _ _ _ _ _ _ ⟨_,_,_,rfl⟩ ⟨_,_,_,rfl⟩ ⟨_,_,_,rfl⟩ ⟨_,_,_,rfl⟩) ?_;intro w3 hY hG;have hFn:=((Fr.refl [] w2).alloc _).step hG (by simp);have HFn:=Hd hFn;have HY:=Hd hY;clear hG hFn hY)
  have HR:=Hd (HR.out.keep HFn.out);have HF:=Hd (HF.out.trans HFn.out)
  have hs3:=HFn.out.size
  clear HFn HY
  obtain ⟨n,hn⟩ : ∃ n,l.length = n + 12:=⟨l.length - 12,by omega⟩
  have HN:=Hd hn
  have HB:=Hd (HL.out.keep HF.out)
  obtain ⟨hcl,-⟩ : n + 12 ≤ cv ∧ True:=by have:=Sl.len HL.out;rw [hn] at this;exact ⟨this.2.1,trivial⟩
  rw [hn] at HL HB ⊢
  obtain ⟨qP,hqP⟩ : ∃ q,(if cv = 12 then some (⟨b,o,none⟩ : Addr) else some ⟨b,o + 12,none⟩) = q:=⟨_,rfl⟩
  have HD : Hid (Bytes w3 (.slice qP n (cv - 12)) (l.drop 12)):=Hd (by
   have:=Sl.sub HB.out 12 n (by omega)
   simp only [Option.map_some,addr_add] at this
   rw [hqP] at this
   unfold Bytes
   rwa [← List.map_drop,List.take_of_length_le (by simp;omega)] at this)
  have HDL : Hid ((l.drop 12).length = n):=Hd (by simp;omega)
  have hcv : 12 ≤ cv:=by omega
  have hn15 : n ≤ 1488:=by omega
  have hT4:=take4 (l:=l) (by omega)
  obtain ⟨d0,hd0⟩ : ∃ d,l.getD 0 0 = d:=⟨_,rfl⟩
  obtain ⟨d1,hd1⟩ : ∃ d,l.getD 1 0 = d:=⟨_,rfl⟩
  obtain ⟨d4,hd4⟩ : ∃ d,l.getD 4 0 = d:=⟨_,rfl⟩
  obtain ⟨d5,hd5⟩ : ∃ d,l.getD 5 0 = d:=⟨_,rfl⟩
  obtain ⟨d6,hd6⟩ : ∃ d,l.getD 6 0 = d:=⟨_,rfl⟩
  obtain ⟨d7,hd7⟩ : ∃ d,l.getD 7 0 = d:=⟨_,rfl⟩
  rw [hd4,hd5,hd6,hd7] at hT4
  have HT4:=Hd hT4;have HD0:=Hd hd0;have HD1:=Hd hd1;have HD4:=Hd hd4;have HD5:=Hd hd5;have HD6:=Hd hd6;have HD7:=Hd hd7
  clear hT4 hd0 hd1 hd4 hd5 hd6 hd7
  have HQ:=Hd hqP
  clear hn h12 h15
  go_wp2_with fail
  clear hqP
  have hfit:=Fit_any HD.out (by rw [HDL.out];omega)
  rw [HDL.out] at hfit
  refine hfit.mono ?_
  rintro e w4 ⟨v4,rfl,hO,hF⟩
  clear hfit
  have HR:=Hd (HR.out.keep hF);have HF:=Hd (HF.out.trans hF);have HB:=Hd (HB.out.keep hF)
  have hs4:=hF.size
  have HO4:=Hd hO
  obtain ⟨a4,n4,c4,rfl⟩:=hO.isSlice
  obtain rfl : n4 = n:=hO.len.trans HDL.out
  clear hO hF
  obtain ⟨w5,e5,hF5,hB5,hs5⟩:=one_new w4 (bc Bt.zero (.slice a4 n4 c4)) 127
  have hF5d:=hF5.drew
  have HX:=Hd (hB5.keep (Fr.refl [] w5).drew);have HR:=Hd (HR.out.keep hF5d);have HF:=Hd (HF.out.trans hF5d);have HB : Hid (Bytes w5.drew _ l):=Hd (HB.out.keep hF5d);have HVB : Hid (∀ b,blockOf (.slice a4 n4 c4) = some b → w3.heap.size ≤ b ∧ b < w4.heap.size):=Hd (fun b hb => HO4.out.block b hb);have HO4:=Hd (HO4.out.keep hF5d)
  have E5:=Hd e5
  have HSS:=Hd (And.intro (HB.out.cell 0 (by have:=HN.out;omega)) (HB.out.cell 1 (by have:=HN.out;omega)))
  rw [HD0.out,HD1.out] at HSS
  have hand:=u8_and63 d0
  have hi0 : (0 : Int) < (n4 : Int) + 12:=by omega
  have hi1 : (1 : Int) < (n4 : Int) + 12:=by omega
  clear hF5 hB5 e5 hF5d
  go_upto_region 5 with (fail)
  first | rw [E5.out] | (have:=E5.out;simp only [bc_zero] at this;rw [this];clear this)
  clear E5
  refine wp_region_T (fun w' => w'.cell? ⟨b,o + 0,none⟩ = some (.int .u8 (d0.toNat : Nat)) ∧ w'.cell? ⟨b,o + 1,none⟩ = some (.int .u8 (d1.toNat : Nat))) [] 13 #[false,false,false,false,false,false,false,false,false,false,false,false,false] (by kernel_rfl) rfl rfl ?_
  have hXW : w4.heap.size < w5.drew.heap.size:=HX.out.lt
  have HBL : Hid (∀ k,liveOf (.slice (some ⟨b,o,none⟩) (n4 + 12) cv) = some k → k < w.heap.size):=Hd (fun k hk => Sl.lt HL.out k hk)
  generalize w5.drew = wd at *
  refine wL 0 ?_ rfl (by kernel_rfl) (fun _ _ _ h => h) HSS.out (by rfl) ?_ ?_
  rotate_left
  ·intro w hSw;obtain ⟨z0,z1⟩:=hSw;rw [Nat.add_zero] at z0;go_simp;try with_reducible rfl
  simp only [Act.put,zz1,zz2,zz3,zz4,zz5,zz6]
  refine wL 1 ?_ rfl (by kernel_rfl) (fun _ _ _ h => h) HSS.out (by rfl) ?_ ?_
  rotate_left
  ·intro w hSw;obtain ⟨z0,z1⟩:=hSw;rw [Nat.add_zero] at z0;go_simp;try with_reducible rfl
  simp only [Act.put,zz1,zz2,zz3,zz4,zz5,zz6]
  refine wL 2 ?_ rfl (by kernel_rfl) (fun _ _ _ h => h) HSS.out (by rfl) ?_ ?_
  rotate_left
  ·intro w hSw;obtain ⟨z0,z1⟩:=hSw;rw [Nat.add_zero] at z0;go_simp;try with_reducible rfl
  simp only [Act.put,zz1,zz2,zz3,zz4,zz5,zz6]
  refine wL 3 ?_ rfl (by kernel_rfl) (fun _ _ _ h => h) HSS.out (by rfl) ?_ ?_
  rotate_left
  ·intro w hSw;obtain ⟨z0,z1⟩:=hSw;rw [Nat.add_zero] at z0;go_simp;try with_reducible rfl
  simp only [Act.put,zz1,zz2,zz3,zz4,zz5,zz6]
  refine wL 4 ?_ rfl (by kernel_rfl) (fun _ _ _ h => h) HSS.out (by rfl) ?_ ?_
  rotate_left
  ·intro w hSw;obtain ⟨z0,z1⟩:=hSw;rw [Nat.add_zero] at z0;go_simp;try with_reducible rfl
  simp only [Act.put,zz1,zz2,zz3,zz4,zz5,zz6]
  refine wL 5 ?_ rfl (by kernel_rfl) (fun _ _ _ h => h) HSS.out (by rfl) ?_ ?_
  rotate_left
  ·intro w hSw;obtain ⟨z0,z1⟩:=hSw;rw [Nat.add_zero] at z0;go_simp;try with_reducible rfl
  simp only [Act.put,zz1,zz2,zz3,zz4,zz5,zz6]
  refine wL 6 ?_ rfl (by kernel_rfl) (fun _ _ _ h => h) HSS.out (by rfl) ?_ ?_
  rotate_left
  ·intro w hSw;obtain ⟨z0,z1⟩:=hSw;rw [Nat.add_zero] at z0;go_simp;try with_reducible rfl
  simp only [Act.put,zz1,zz2,zz3,zz4,zz5,zz6]
  refine wL 7 ?_ rfl (by kernel_rfl) (fun _ _ _ h => h) HSS.out (by rfl) ?_ ?_
  rotate_left
  ·intro w hSw;obtain ⟨z0,z1⟩:=hSw;rw [Nat.add_zero] at z0;go_simp;try with_reducible rfl
  simp only [Act.put,zz1,zz2,zz3,zz4,zz5,zz6]
  refine wL 8 ?_ rfl (by kernel_rfl) (fun _ _ _ h => h) HSS.out (by rfl) ?_ ?_
  rotate_left
  ·intro w hSw;obtain ⟨z0,z1⟩:=hSw;rw [Nat.add_zero] at z0;go_simp;try with_reducible rfl
  simp only [Act.put,zz1,zz2,zz3,zz4,zz5,zz6]
  refine wL 10 ?_ rfl (by kernel_rfl) (fun _ _ _ h => h) HSS.out (by rfl) ?_ ?_
  rotate_left
  ·intro w hSw;obtain ⟨z0,z1⟩:=hSw;rw [Nat.add_zero] at z0;go_simp;try with_reducible rfl
  simp only [Act.put,zz1,zz2,zz3,zz4,zz5,zz6]
  refine wpAnyT_one (i:=9) (by kernel_rfl) rfl (fun K hK => ?_)
  rw [if_pos (by rfl)]
  have hFr:=HX.out.free 0;have hCl:=HX.out.cell 0
  simp only [bc,Bt.zero,zz7,zz8,zz9,zz4,zz5,zz6] at hCl
  obtain ⟨wn,en,hF,hPn,-⟩:=set_new HX.out 0 (.int .u8 ((d0.toNat &&& 63 : Nat) : Int))
  simp only [bc,Bt.zero,zz4,zz5,zz6] at hPn
  have HQn:=Hd (And.intro (hF.cellSome HSS.out.1 (by simp;omega)) (hF.cellSome HSS.out.2 (by simp;omega)))
  go_simp
  try rw [en]
  refine hK.out _ _ (fun _ => HQn.out) ?_
  clear hK K
  simp only [Act.put,zz1,zz2,zz3,zz4,zz5,zz6]
  have HX:=Hd hPn;have HSS:=HQn;have HR:=Hd (HR.out.fr hF (by simp;omega));have HF:=Hd (HF.out.step hF (fun x hx => .inr (by simp at hx;subst hx;omega)));have HB : Hid (Bytes wn _ l):=Hd (Sl.frL HB.out hF (fun k hk hm => by have:=HBL.out k hk;simp at hm;omega));have HO4:=Hd (HO4.out.fr hF (fun k hk hm => by have:=HVB.out k hk;simp at hm;omega))
  clear HQn hPn hF hFr hCl en
  generalize wn = wd at *
  refine wL 11 ?_ rfl (by kernel_rfl) (fun _ _ _ h => h) HSS.out (by rfl) ?_ ?_
  rotate_left
  ·intro w hSw;obtain ⟨z0,z1⟩:=hSw;rw [Nat.add_zero] at z0;go_simp;try with_reducible rfl
  simp only [Act.put,zz1,zz2,zz3,zz4,zz5,zz6]
  refine wpAnyT_one (i:=12) (by kernel_rfl) rfl (fun K hK => ?_)
  rw [if_pos (by rfl)]
  have hFr:=HX.out.free 1;have hCl:=HX.out.cell 1
  simp only [bc,Bt.zero,zz7,zz8,zz9,zz4,zz5,zz6] at hCl
  obtain ⟨wn,en,hF,hPn,-⟩:=set_new HX.out 1 (.int .u8 (d1.toNat : Nat))
  simp only [bc,Bt.zero,zz4,zz5,zz6] at hPn
  have HQn:=Hd (And.intro (hF.cellSome HSS.out.1 (by simp;omega)) (hF.cellSome HSS.out.2 (by simp;omega)))
  go_simp
  try rw [en]
  refine hK.out _ _ (fun _ => HQn.out) ?_
  clear hK K
  simp only [Act.put,zz1,zz2,zz3,zz4,zz5,zz6]
  have HX:=Hd hPn;have HSS:=HQn;have HR:=Hd (HR.out.fr hF (by simp;omega));have HF:=Hd (HF.out.step hF (fun x hx => .inr (by simp at hx;subst hx;omega)));have HB : Hid (Bytes wn _ l):=Hd (Sl.frL HB.out hF (fun k hk hm => by have:=HBL.out k hk;simp at hm;omega));have HO4:=Hd (HO4.out.fr hF (fun k hk hm => by have:=HVB.out k hk;simp at hm;omega))
  clear HQn hPn hF hFr hCl en
  generalize wn = wd at *
  refine wpAnyT_done (by kernel_rfl) ?_ _
  go_upto_region 6 with (fail)
  have hn4 : ¬ cv = 4:=by omega
  have h4c : 4 ≤ cv:=by omega
  have h8c : (8 : Int) ≤ (cv : Int):=by omega
  refine wp_region_T (fun w' => True) [] 5 #[false,false,false,false,false] (by kernel_rfl) rfl rfl ?_
  have hFd:=(Fr.refl [] wd).drew
  have HX:=Hd (HX.out.keep hFd);have HR:=Hd (HR.out.keep hFd);have HF:=Hd (HF.out.trans hFd);have HB : Hid (Bytes wd.drew _ l):=Hd (Sl.keep HB.out hFd);have HO4:=Hd (HO4.out.keep hFd);have HSS : Hid True:=Hd trivial
  have HS4 : Hid (Sl wd.drew (.slice (some ⟨b,o + 4,none⟩) 4 (cv - 4)) ([d4,d5,d6,d7].map B8)):=Hd (by
   have:=Sl.sub HB.out 4 4 (by omega)
   rw [if_neg hn4] at this
   simp only [Option.map_some,addr_add] at this
   rwa [← List.map_drop,← List.map_take,HT4.out] at this)
  clear hFd
  generalize wd.drew = wd6 at *
  refine wL 0 ?_ rfl (by kernel_rfl) (fun _ _ _ h => h) HSS.out (by rfl) ?_ ?_
  rotate_left
  ·intro w hSw;go_simp;try with_reducible rfl
  simp only [Act.put,zz1,zz2,zz3,zz4,zz5,zz6]
  refine wL 1 ?_ rfl (by kernel_rfl) (fun _ _ _ h => h) HSS.out (by rfl) ?_ ?_
  rotate_left
  ·intro w hSw;go_simp;try with_reducible rfl
  simp only [Act.put,zz1,zz2,zz3,zz4,zz5,zz6]
  refine wL 2 ?_ rfl (by kernel_rfl) (fun _ _ _ h => h) HSS.out (by rfl) ?_ ?_
  rotate_left
  ·intro w hSw;go_simp;try with_reducible rfl
  simp only [Act.put,zz1,zz2,zz3,zz4,zz5,zz6]
  refine wL 3 ?_ rfl (by kernel_rfl) (fun _ _ _ h => h) HSS.out (by rfl) ?_ ?_
  rotate_left
  ·intro w hSw;go_simp;try with_reducible rfl
  simp only [Act.put,zz1,zz2,zz3,zz4,zz5,zz6]
  refine wpAnyT_one (i:=4) (by kernel_rfl) rfl (fun K hK => ?_)
  rw [if_pos (by rfl)]
  refine wp_copy_fr (.tmp 35) (.tmp 37) 34 34 rfl 5 Tryz.underlying34 (by kernel_rfl) (some ⟨w4.heap.size,2,none⟩) 4 6 rfl (.slice (some ⟨b,o + 4,none⟩) 4 (cv - 4)) ([d4,d5,d6,d7].map B8) rfl HS4.out w4.heap.size 2 [.int .u8 ((d0.toNat &&& 63 : Nat) : Int),.int .u8 (d1.toNat : Nat),.int .u8 0,.int .u8 0,.int .u8 0,.int .u8 0,.int .u8 0,.int .u8 0,.slice a4 n4 c4] 127 HX.out (fun _ => rfl) rfl (by simp) (oneCell_B8 _) ?_
  intro w8 hY hG
  have HR:=Hd (HR.out.fr hG (by simp;omega));have HF:=Hd (HF.out.step hG (fun x hx => .inr (by simp at hx;subst hx;omega)));have HO4:=Hd (HO4.out.fr hG (fun k hk hm => by have:=HVB.out k hk;simp at hm;omega))
  simp [splice,B8] at hY
  have HX:=Hd hY
  clear hY hG
  refine hK.out _ _ (fun _ => trivial) ?_
  clear hK K
  simp only [Act.put,zz1,zz2,zz3,zz4,zz5,zz6]
  refine wpAnyT_done (by kernel_rfl) ?_ _
  go_upto_region 7 with (fail)
  have z8:=HX.out.cell 8;have g6:=HX.out.free 6;have g7:=HX.out.free 7;have z6:=HX.out.cell 6;have z7:=HX.out.cell 7
  simp only [zz7,zz8,zz9] at z8 z6 z7
  go_upto_region 8 with (fail)
  obtain ⟨w9,e9,hF9,hB9,-⟩:=set_new HX.out 6 (.int .u8 ((n4 : Int) / 256))
  simp only [zz4,zz5,zz6] at hB9
  obtain ⟨w10,e10,hF10,hB10,-⟩:=set_new hB9 7 (.int .u8 ((n4 : Int) % 256))
  simp only [zz4,zz5,zz6] at hB10
  rw [e9,e10]
  have hic:=imp_cells HN.out hn15 (.slice a4 n4 c4)
  rw [HD0.out,HD1.out,HD4.out,HD5.out,HD6.out,HD7.out] at hic
  rw [← hic] at hB10
  have hF:=hF9.trans hF10
  have HR:=Hd (HR.out.fr hF (by simp;omega));have HF:=Hd (HF.out.step hF (fun x hx => .inr (by simp at hx;subst hx;omega)));have HO4:=Hd (HO4.out.fr hF (fun k hk hm => by have:=HVB.out k hk;simp at hm;omega))
  have HY:=Hd hB10
  clear e9 e10 hF9 hF10 hB9 hB10 hic hF z8 g6 g7 z6 z7
  go_wp2_with (first | (refine wpList_load_row rfl 127 (.tmp 6) rfl w4.heap.size rfl 127 _ _ _ HY.out Tryz.underlying127 rfl (by kernel_rfl) ?_) | (refine wpList_store_row rfl 127 (.tmp 2) (.tmp 52) rfl w.heap.size rfl _ _ rfl 127 (HR.out) (by kernel_rfl) rfl (by simp [bc,Value.oneCell']) ?_;intro w11 hY hG;skip))
  refine bodyPost_ret (results_row_1 rfl _ _ _ 127 _ _ rfl hY Tryz.underlying127 rfl (by kernel_rfl)) rfl (.inl ⟨_,p,HP.out,rfl,⟨_,rfl,?_⟩,HF.out.step hG (by simp)⟩)
  exact (HO4.out.fr hG (fun k hk hm => by have:=HVB.out k hk;simp at hm;omega)).mono (by omega)

end Go.Proofs.YtcngfbjmpemehaaGreat

/- The walk of imprint.Fold,over whatever iterator of imprints. -/
namespace Go.Proofs.YtcngfbjmpemehaaGreat
open Go.RowKit Go.Shelf
attribute [local go_sem] Oper.semAt_some

end Go.Proofs.YtcngfbjmpemehaaGreat

/- The walk of imprint.Packet (printed by gen_imp5.py). -/
namespace Go.Proofs.YtcngfbjmpemehaaGreat
open Go.RowKit

theorem ib_first (a : UInt8) : ib ((128 ||| (a.toNat &&& 63) : Nat) : Int) = 128 ||| (a &&& 63):=by
 have h : 128 ||| (a.toNat &&& 63) < 256:=Nat.or_lt_two_pow (n:=8) (by omega) (Nat.lt_of_le_of_lt Nat.and_le_left a.toNat_lt)
 rw [← UInt8.toNat_inj,UInt8.toNat_or,UInt8.toNat_and]
 unfold ib
 rw [UInt8.toNat_ofNat']
 show _ = 128 ||| (a.toNat &&& 63)
 omega
theorem ib_byte (a : UInt8) : ib ((a.toNat : Nat) : Int) = a:=by
 rw [← UInt8.toNat_inj]
 unfold ib
 rw [UInt8.toNat_ofNat']
 have:=a.toNat_lt
 omega
theorem or128' (m : Nat) (hm : m < 256) : bits .or .i64 128 (m : Int) = ((128 ||| m : Nat) : Int):=i64_or_nat 128 m (by omega) (by omega)
theorem impPacket_any {w : World} {v : Value} {x : Bt} (h : BtV w v x) (hl : x.body.length ≤ 1099511627776) (s : UInt16) (t : UInt32) :
  Calls Tryz.prog 152 #[v,.int .u16 (s.toNat : Nat),.int .u32 (t.toNat : Nat)] w fun e w' =>
   (∃ l v',x.pack s t = .ok l ∧ e = .returned (.tuple #[v',.int .i64 0]) ∧ OwnB w' w.heap.size v' l ∧ Fr [] w w') ∨
   (x.pack s t = .error 42 ∧ e = .returned (.tuple #[.slice none 0 0,.int .i64 42]) ∧ Fr [] w w'):=by
 obtain ⟨a,c,rfl,hb⟩:=h.open_
 have hcap:=(Sl.len hb).2.1
 have HGL : Hid (∀ k,liveOf (.slice a x.body.length c) = some k → k < w.heap.size):=Hd (fun k hk => Sl.lt hb k hk)
 obtain ⟨w1,e1,hF1,hB1,hs1⟩:=one_new w (bc x (.slice a x.body.length c)) 127
 have HF:=Hd hF1;have HB:=Hd hB1;have HV:=Hd (h.keep hF1);have G:=Hd (Sl.keep hb hF1)
 have E1:=Hd e1
 have hs1':=hs1
 have hlen:=x.len_lt
 have hsl:=s.toNat_lt;have htl:=t.toNat_lt
 clear h hb hF1 hB1 e1 hs1
 go_enter Tryz.func152,Tryz.ntmps152
 go_upto_region 1 with (fail)
 rw [E1.out]
 clear E1
 go_wp2_with (refine wpList_load_row rfl 127 (.tmp 3) rfl w.heap.size rfl 127 _ _ _ HB.out Tryz.underlying127 rfl (by kernel_rfl) ?_)
 refine (impLength_any HV.out).mono ?_
 rintro e w2 ⟨rfl,hF⟩
 have HB:=Hd (HB.out.keep hF);have HF:=Hd (HF.out.trans hF);have G:=Hd (Sl.keep G.out hF)
 have hs2:=hF.size
 clear hF HV
 obtain ⟨x0,x1,x2,x3,x4,x5,x6,x7,x8⟩:=HB.out.bcells
 by_cases c1 : x.body.length < x.len
 ·go_wp2_with fail
  go_ret2
  exact .inr ⟨by unfold Bt.pack;rw [if_pos (by omega)],rfl,HF.out⟩
 by_cases c2 : 1488 < x.len
 ·go_wp2_with fail
  go_ret2
  exact .inr ⟨by unfold Bt.pack;rw [if_pos (by omega)],rfl,HF.out⟩
 have c3 : ¬ (x.body.length < x.len ∨ 1488 < x.len):=by omega
 have hpk : x.pack s t = match parseR (x.out s t) with | .ok _ => .ok (x.out s t) | .error _ => .error 42:=by unfold Bt.pack;rw [if_neg c3];rfl
 have HPK:=Hd hpk
 clear hpk c3
 obtain ⟨w3,e3,hF3,hB3,hs3⟩:=one_new w2 #[.slice none 0 0] 253
 have HW3 : Hid (Wr w3 w2.heap.size (.slice none 0 0) (w2.heap.size + 1) []):=Hd ⟨hB3,World.ownsRow_nil _ _ _ _,by omega,by omega⟩
 have HB:=Hd (HB.out.keep hF3);have HF:=Hd (HF.out.trans hF3);have G:=Hd (Sl.keep G.out hF3)
 have E3:=Hd e3
 have HWS:=Hd (WS.start HW3.out)
 have hWl : w.heap.size < w2.heap.size:=by omega
 clear hF3 hB3 e3 hs3
 go_upto_region 5 with (fail)
 rw [E3.out]
 clear E3 x0 x1 x2 x3 x4 x5 x6 x7 x8
 have h063 : x.h0.toNat &&& 63 < 256:=Nat.lt_of_le_of_lt Nat.and_le_left x.h0.toNat_lt
 have hor:=or128' (x.h0.toNat &&& 63) h063
 have hand:=u8_and63 x.h0
 rw [UInt8.toNat_and] at hand
 have hif:=ib_first x.h0;have hi1:=ib_byte x.h1
 have HIF:=Hd hif;have HI1:=Hd hi1
 have hx1:=x.h1.toNat_lt
 clear hif hi1
 generalize hh0 : x.h0.toNat = b0 at *
 generalize hh1 : x.h1.toNat = b1 at *
 have HH0:=Hd hh0;have HH1:=Hd hh1
 clear hh0 hh1
 obtain ⟨x0,x1,x2,x3,x4,x5,x6,x7,x8⟩:=(HB.out.fr HWS.out.fr (by simp [blockOf];omega)).bcells
 rw [HH0.out] at x0
 rw [HH1.out] at x1
 go_wp2_with fail
 clear x0 x1 x2 x3 x4 x5 x6 x7 x8
 clear hor hand
 refine (wbyte_any HWS.out.wr ((128 ||| (b0 &&& 63) : Nat) : Int) (by simp [beN_len,Bt.head];try omega)).mono ?_
 rintro e w4 ⟨v4,rfl,h⟩
 have HN:=Hd (HWS.out.trans h)
 clear h HWS
 have HWS:=HN
 clear HN
 obtain ⟨x0,x1,x2,x3,x4,x5,x6,x7,x8⟩:=(HB.out.fr HWS.out.fr (by simp [blockOf];omega)).bcells
 rw [HH0.out] at x0
 rw [HH1.out] at x1
 go_wp2_with fail
 clear x0 x1 x2 x3 x4 x5 x6 x7 x8
 refine (wbyte_any HWS.out.wr ((b1 : Nat) : Int) (by simp [beN_len,Bt.head];try omega)).mono ?_
 rintro e w5 ⟨v5,rfl,h⟩
 have HN:=Hd (HWS.out.trans h)
 clear h HWS
 have HWS:=HN
 clear HN
 obtain ⟨x0,x1,x2,x3,x4,x5,x6,x7,x8⟩:=(HB.out.fr HWS.out.fr (by simp [blockOf];omega)).bcells
 rw [HH0.out] at x0
 rw [HH1.out] at x1
 go_wp2_with fail
 clear x0 x1 x2 x3 x4 x5 x6 x7 x8
 refine (wword_any HWS.out.wr s.toNat hsl (by simp [beN_len,Bt.head];try omega)).mono ?_
 rintro e w6 ⟨v6,rfl,h⟩
 have HN:=Hd (HWS.out.trans h)
 clear h HWS
 have HWS:=HN
 clear HN
 have HH4 : Hid (Bytes w6 (.slice (some ⟨w.heap.size,2,none⟩) 4 6) [x.h2,x.h3,x.h4,x.h5]):=Hd (box_sl (off:=2) (cap:=6) (HB.out.fr HWS.out.fr (by simp [blockOf];omega)) ([x.h2,x.h3,x.h4,x.h5].map B8) (by
  intro i y hy
  have hl : i < 4:=(List.getElem?_eq_some_iff.1 hy).1
  match i,hl with
  | 0,_ | 1,_ | 2,_ | 3,_ => exact hy) (by simp) (by unfold maxLen;omega))
 obtain ⟨x0,x1,x2,x3,x4,x5,x6,x7,x8⟩:=(HB.out.fr HWS.out.fr (by simp [blockOf];omega)).bcells
 rw [HH0.out] at x0
 rw [HH1.out] at x1
 go_wp2_with fail
 clear x0 x1 x2 x3 x4 x5 x6 x7 x8
 refine (wput_any HWS.out.wr HH4.out (by simp) (by simp [beN_len,Bt.head];try omega)).mono ?_
 rintro e w7 ⟨v7,rfl,h⟩
 have HN:=Hd (HWS.out.trans h)
 clear h HWS
 have HWS:=HN
 clear HN
 obtain ⟨x0,x1,x2,x3,x4,x5,x6,x7,x8⟩:=(HB.out.fr HWS.out.fr (by simp [blockOf];omega)).bcells
 rw [HH0.out] at x0
 rw [HH1.out] at x1
 go_wp2_with fail
 clear x0 x1 x2 x3 x4 x5 x6 x7 x8
 refine (wlong_any HWS.out.wr t.toNat htl (by simp [beN_len,Bt.head];try omega)).mono ?_
 rintro e w8 ⟨v8,rfl,h⟩
 have HN:=Hd (HWS.out.trans h)
 clear h HWS
 have HWS:=HN
 clear HN
 have hsl1 : x.len ≤ c:=by omega
 have HBD : Hid (Bytes w8 (.slice a x.len c) (x.body.take x.len)):=Hd (by
  have h1:=Sl.frL G.out HWS.out.fr (fun k hk hm => by have:=HGL.out k hk;simp [blockOf] at hm;omega)
  have h2:=Sl.pre h1 x.len c (by omega) (by omega) (Nat.le_refl _)
  unfold Bytes
  rwa [List.map_take])
 have hc2i : ((x.len : Nat) : Int) ≤ (c : Nat):=by omega
 obtain ⟨x0,x1,x2,x3,x4,x5,x6,x7,x8⟩:=(HB.out.fr HWS.out.fr (by simp [blockOf];omega)).bcells
 rw [HH0.out] at x0
 rw [HH1.out] at x1
 go_wp2_with fail
 clear x0 x1 x2 x3 x4 x5 x6 x7 x8
 refine (wput_any HWS.out.wr HBD.out (by rw [List.length_take];omega) (by simp [beN_len,Bt.head];try omega)).mono ?_
 rintro e w9 ⟨v9,rfl,h⟩
 have HN:=Hd (HWS.out.trans h)
 clear h HWS
 have HWS:=HN
 clear HN
 have HOUT : Hid ([] ++ [ib ((128 ||| (b0 &&& 63) : Nat) : Int)] ++ [ib ((b1 : Nat) : Int)] ++ beN s.toNat 2 ++ [x.h2,x.h3,x.h4,x.h5] ++ beN t.toNat 4 ++ x.body.take x.len = x.out s t):=Hd (by
  rw [HIF.out,HI1.out];unfold Bt.out;simp)
 rw [HOUT.out] at HWS
 have HOL : Hid ((x.out s t).length ≤ 1500):=Hd (by unfold Bt.out;simp [beN_len];omega)
 go_wp2_with fail
 refine (wdone_any HWS.out.wr (by have:=HOL.out;omega)).mono ?_
 rintro e wa ⟨va,rfl,hO,hF⟩
 have HWS:=Hd (HWS.out.quiet hF);have HOA:=Hd hO.bytes
 clear hO hF
 go_wp2_with fail
 refine (Parse_any HOA.out).mono ?_
 rintro e wb (⟨vp,p,hp,rfl,hVp,hF⟩ | ⟨k,hp,rfl,hF⟩)
 rotate_left
 ·have HP:=Hd hp
  have hk : (k != 0) = true:=by simpa using parseR_err hp
  have HWS:=Hd (HWS.out.quiet hF)
  clear hp hF
  unfold pz
  go_upto_region 13 with (refine wpList_store_row rfl 93 (.tmp 10) (.tmp 50) rfl wb.heap.size rfl _ _ rfl 93 (Box.new wb 93 #[.bool false,.int .i64 0,.int .u16 0,.int .u32 0,.int .u32 0,.slice none 0 0,.bool false,.int .u16 0,.slice none 0 0,.slice none 0 0,.slice none 0 0]) (by kernel_rfl) rfl (oneCell_pz) ?_;intro wc hY hG;have hFn:=((Fr.refl [] wb).alloc _).step hG (by simp);have HFn:=Hd hFn;have HY:=Hd hY;clear hG hFn hY)
  have HWS:=Hd (HWS.out.quiet HFn.out)
  clear HFn HY
  go_wp2_with fail
  go_ret2
  exact .inr ⟨by rw [HPK.out,HP.out],rfl,HWS.out.outer HW3.out HF.out (by omega)⟩
 ·have HP:=Hd hp
  obtain ⟨q1,k1,q2,k2,q3,k3,q4,k4,rfl,-,-,-,-⟩:=hVp.open_
  have HWS:=Hd (HWS.out.quiet hF)
  clear hp hF hVp
  go_upto_region 14 with (refine wpList_store_row rfl 93 (.tmp 10) (.tmp 50) rfl wb.heap.size rfl _ _ rfl 93 (Box.new wb 93 #[.bool false,.int .i64 0,.int .u16 0,.int .u32 0,.int .u32 0,.slice none 0 0,.bool false,.int .u16 0,.slice none 0 0,.slice none 0 0,.slice none 0 0]) (by kernel_rfl) rfl (oneCell_pc _ _ _ _ _ _ _ _ _ _ _ ⟨_,_,_,rfl⟩ ⟨_,_,_,rfl⟩ ⟨_,_,_,rfl⟩ ⟨_,_,_,rfl⟩) ?_;intro wc hY hG;have hFn:=((Fr.refl [] wb).alloc _).step hG (by simp);have HFn:=Hd hFn;have HY:=Hd hY;clear hG hFn hY)
  have HWS:=Hd (HWS.out.quiet HFn.out)
  have hszc:=(HWS.out.outer HW3.out HF.out (by omega)).size
  clear HFn HY
  go_wp2_with fail
  refine (wdone_any HWS.out.wr (by have:=HOL.out;omega)).mono ?_
  rintro e wd ⟨vd,rfl,hO,hF⟩
  have HWS:=Hd (HWS.out.quiet hF);have HOD:=Hd (hO.mono hszc)
  clear hO hF
  go_wp2_with fail
  go_ret2
  exact .inl ⟨_,_,by rw [HPK.out,HP.out],rfl,HOD.out,HWS.out.outer HW3.out HF.out (by omega)⟩
end Go.Proofs.YtcngfbjmpemehaaGreat

/- The iterator of confluxlaw12.alive: 'yield(x) && yield(x2) && yield(x)'. -/
namespace Go.Proofs.YtcngfbjmpemehaaGreat
open Go.RowKit Go.Shelf
attribute [local go_sem] Oper.semAt_some

end Go.Proofs.YtcngfbjmpemehaaGreat
