import Derived.OpenShut
import Derived.Test.YtcngfbjmpemehaaGreatMp20
import Derived.Test.YtcngfbjmpemehaaGreatMp27
import Derived.Test.YtcngfbjmpemehaaGreatMp28
import Derived.Test.YtcngfbjmpemehaaGreatMp18
import Derived.Test.YtcngfbjmpemehaaGreatMp17
import Derived.Test.YtcngfbjmpemehaaGreatMp21
import Derived.Test.YtcngfbjmpemehaaGreatMp16
import Derived.Test.YtcngfbjmpemehaaGreatMp7
import Derived.Test.YtcngfbjmpemehaaGreatMp1
set_option maxRecDepth 100000
set_option maxHeartbeats 16000000
open List renaming getElem_toArray → zz1, getElem_cons_zero → zz2, getElem_cons_succ → zz3, setIfInBounds_toArray → zz4, set_cons_zero → zz5, set_cons_succ → zz6, getElem?_toArray → zz7, getElem?_cons_succ → zz8, getElem?_cons_zero → zz9
open Go.Lib renaming hid → Hd
/- A repair that came in,opened. -/
namespace Go.Proofs.YtcngfbjmpemehaaGreat
open Go.RowKit Go.ChangeShapes Go.WideShapes

theorem wf_u64 {n : Int} (h : (Lit.int .u64 n).wf = true) : 0 ≤ n ∧ n < 18446744073709551616:=by
 simp [Lit.wf,IntKind.min,IntKind.max,IntKind.signed,IntKind.bits] at h
 omega
section
variable {H : Type} {enc : TypeId × Value → H} {w : World} {base b0 : Nat}
end
end Go.Proofs.YtcngfbjmpemehaaGreat

/- The walk of parity.Some (printed by gen_some.py). -/
namespace Go.Proofs.YtcngfbjmpemehaaGreat
open Go.RowKit Go.Maps

def pickOk (n : Nat) (xs : List Int) : Prop:=(∀ x ∈ xs,0 ≤ x ∧ x < n) ∧ xs.Nodup
instance (n : Nat) (xs : List Int) : Decidable (pickOk n xs):=by unfold pickOk;infer_instance
theorem Els.bytes {w : World} : ∀ {ys : List (List UInt8)} {cells : List Value} {B : List Nat},Els BytesR ys w cells B → cells.length = ys.length ∧ ∀ (i : Nat) (x : Value) (a : List UInt8),cells[i]? = some x → ys[i]? = some a → Bytes w x a
 | [],cells,B,h => by obtain ⟨rfl,rfl⟩:=h;exact ⟨rfl,fun i x a hx => by simp at hx⟩
 | y :: ys,cells,B,h => by
  obtain ⟨c,rest,B1,B2,rfl,rfl,⟨v,rfl,hv,-⟩,h2⟩:=h
  obtain ⟨g1,g2⟩:=Els.bytes h2
  refine ⟨by simp [g1],fun i x a hx ha => ?_⟩
  cases i with
  | zero => simp at hx ha;subst hx ha;exact hv
  | succ i => exact g2 i x a (by simpa using hx) (by simpa using ha)
theorem SlEls.rows {w : World} {v : Value} {ys : List (List UInt8)} {B : List Nat} (h : SlEls 1 BytesR w v ys B) : BRows w v ys:=by
 obtain ⟨cells,a,cap,rfl,h1,h2,h3,h4,h5⟩:=h
 obtain ⟨g1,g2⟩:=h4.bytes
 exact ⟨cells,⟨a,cap,by rw [g1],by omega,h2,h3,h5⟩,g1,g2⟩
theorem BRows.at_ {w : World} {av : Option Addr} {n c : Nat} {ls : List (List UInt8)} (h : BRows w (.slice av n c) ls) (i : Nat) (hi : i < ls.length) :
  ∃ b o al cl,av = some ⟨b,o,none⟩ ∧ b < w.heap.size ∧ w.cell? ⟨b,o + i,none⟩ = some (.slice al ls[i].length cl) ∧ Bytes w (.slice al ls[i].length cl) ls[i]:=by
 obtain ⟨cells,h1,h2,h3⟩:=h
 have hn:=Sl.len h1
 have hic : i < cells.length:=by omega
 obtain ⟨b,o,e,hb,hc⟩:=Sl.at_ h1 (k:=i) (by omega)
 have hy:=h3 i cells[i] ls[i] (List.getElem?_eq_getElem hic) (List.getElem?_eq_getElem hi)
 obtain ⟨al,cl,e2⟩:=hy.shape
 rw [List.length_map] at e2
 rw [e2] at hy
 exact ⟨b,o,al,cl,e,hb,by rw [hc i cells[i] (List.getElem?_eq_getElem hic),e2],hy⟩
end Go.Proofs.YtcngfbjmpemehaaGreat

/- The walk of confluxref14.Find (printed by gen_find.py). -/
namespace Go.Proofs.YtcngfbjmpemehaaGreat
open Go.RowKit

def isNo (n : UInt16) (l : List UInt8) : Bool:=match parseR l with | .ok p => p.seq == n | .error _ => false
def findL (ls : List (List UInt8)) (n : UInt16) : Option (List UInt8):=ls.find? (isNo n)
theorem u16_beq (a b : UInt16) : (((a.toNat : Nat) : Int) == ((b.toNat : Nat) : Int)) = (a == b):=by
 rw [Bool.eq_iff_iff]
 simp [← UInt16.toNat_inj]
 omega
theorem find_none {ls : List (List UInt8)} {n : UInt16} (h : ∀ l ∈ ls,isNo n l = false) : findL ls n = none:=by
 unfold findL
 rw [List.find?_eq_none]
 intro l hl
 simp [h l hl]
theorem find_at {ls : List (List UInt8)} {n : UInt16} {k : Nat} (hk : k < ls.length) (h : ∀ l ∈ ls.take k,isNo n l = false) (hy : isNo n ls[k] = true) : findL ls n = some ls[k]:=by
 unfold findL
 rw [List.find?_eq_some_iff_append]
 exact ⟨hy,ls.take k,ls.drop (k + 1),by rw [List.getElem_cons_drop,List.take_append_drop],fun l hl => by simp [h l hl]⟩
theorem take_no {ls : List (List UInt8)} {n : UInt16} {k : Nat} (hk : k < ls.length) (h : ∀ l ∈ ls.take k,isNo n l = false) (hy : isNo n ls[k] = false) : ∀ l ∈ ls.take (k + 1),isNo n l = false:=by
 rw [List.take_succ_eq_append_getElem hk]
 intro l hl
 rcases List.mem_append.1 hl with hl | hl
 ·exact h l hl
 ·rw [List.mem_singleton] at hl;subst hl;exact hy
theorem r14Find_any {w : World} {v : Value} {ls : List (List UInt8)} (hl : BRows w v ls) (n : UInt16) :
  Calls Tryz.prog 67 #[v,.int .u16 (n.toNat : Nat)] w fun e w' => ∃ v',e = .returned (.tuple #[v',.bool (findL ls n).isSome]) ∧ Bytes w' v' ((findL ls n).getD []) ∧ Fr [] w w':=by
 obtain ⟨av,cv,rfl⟩:=hl.shape
 have hlen:=hl.len.2
 unfold maxLen at hlen
 have HL:=Hd hl
 clear hl
 go_enter Tryz.func67,Tryz.ntmps67
 go_wp2_with fail
 go_loopw [6] (fun iv wr => ∃ k : Nat,k ≤ ls.length ∧ iv = .int .i64 k ∧ (∀ l ∈ ls.take k,isNo n l = false) ∧ Fr [] w wr) (fun iv _ => ls.length - (intOf iv).toNat)
 case atStart => exact ⟨0,Nat.zero_le _,rfl,by simp,Fr.refl _ _⟩
 case round =>
  obtain ⟨k,hk,rfl,hno,hF⟩:=hrel
  have HNO:=Hd hno;have HF:=Hd hF
  clear hno hF
  by_cases hlt : k < ls.length
  ·obtain ⟨b,o,al,cl,ea,-,hc,hx⟩:=(HL.out.keep HF.out).at_ k hlt
   subst ea
   have HX:=Hd hx;have HC:=Hd hc
   have d0:=hc
   clear hx hc
   go_wp2_with fail
   refine (R5Parse_any HX.out).mono ?_
   rintro e w2 (⟨vp,p,hp,rfl,hVp,hF⟩ | ⟨k2,hp,rfl,hF⟩)
   rotate_left
   ·have hk2 : (k2 == 0) = false:=by simpa using parseR_err hp
    have HNO:=Hd (take_no hlt HNO.out (by unfold isNo;rw [hp]))
    have HF:=Hd (HF.out.trans hF)
    clear hp hF d0
    unfold pz
    go_wp2_with (refine wpList_store_row rfl 93 (.tmp 7) (.tmp 21) rfl w2.heap.size rfl _ _ rfl 93 (Box.new w2 93 #[.bool false,.int .i64 0,.int .u16 0,.int .u32 0,.int .u32 0,.slice none 0 0,.bool false,.int .u16 0,.slice none 0 0,.slice none 0 0,.slice none 0 0]) (by kernel_rfl) rfl (oneCell_pz) ?_;intro w3 hY hG;have hFn:=((Fr.refl [] w2).alloc _).step hG (by simp);have HFn:=Hd hFn;have HY:=Hd hY;clear hG hFn hY)
    have HF:=Hd (HF.out.trans HFn.out)
    go_roundw
    case rel => exact ⟨k + 1,by omega,by go_num,HNO.out,HF.out⟩
    case measure => simp [intOf];omega
   obtain ⟨q1,k1,q2,k2,q3,k3,q4,k4,rfl,-,-,-,-⟩:=hVp.open_
   have HP:=Hd hp
   have HX:=Hd (Sl.keep HX.out hF);have HC:=Hd (hF.cellSome HC.out (by simp));have HF:=Hd (HF.out.trans hF)
   clear hp hF hVp d0
   go_upto_region 5 with (refine wpList_store_row rfl 93 (.tmp 7) (.tmp 21) rfl w2.heap.size rfl _ _ rfl 93 (Box.new w2 93 #[.bool false,.int .i64 0,.int .u16 0,.int .u32 0,.int .u32 0,.slice none 0 0,.bool false,.int .u16 0,.slice none 0 0,.slice none 0 0,.slice none 0 0]) (by kernel_rfl) rfl (oneCell_pc _ _ _ _ _ _ _ _ _ _ _ ⟨_,_,_,rfl⟩ ⟨_,_,_,rfl⟩ ⟨_,_,_,rfl⟩ ⟨_,_,_,rfl⟩) ?_;intro w3 hY hG;have hFn:=((Fr.refl [] w2).alloc _).step hG (by simp);have HFn:=Hd hFn;have HY:=Hd hY;clear hG hFn hY)
   have HX:=Hd (Sl.keep HX.out HFn.out);have HC:=Hd (HFn.out.cellSome HC.out (by simp));have HF:=Hd (HF.out.trans HFn.out)
   have HPB:=HY
   clear HFn HY
   generalize hgp : w2.heap.size = gp at *
   clear hgp
   obtain ⟨p0,p1,p2,p3,p4,p5,p6,p7,p8,p9,p10⟩:=HPB.out.pcells
   have d0:=HC.out
   by_cases hq : p.seq = n
   ·have t1 : (((p.seq.toNat : Nat) : Int) == ((n.toNat : Nat) : Int)) = true:=by rw [u16_beq,hq];simp
    have HFD:=Hd (find_at hlt HNO.out (by unfold isNo;rw [HP.out];simpa using hq))
    clear hq
    go_wp2_with fail
    go_ret2
    exact ⟨_,by rw [HFD.out];rfl,by rw [HFD.out];exact HX.out,HF.out⟩
   ·have t1 : (((p.seq.toNat : Nat) : Int) == ((n.toNat : Nat) : Int)) = false:=by rw [u16_beq];simpa using hq
    have HNO:=Hd (take_no hlt HNO.out (by unfold isNo;rw [HP.out];simpa using hq))
    clear hq
    go_wp2_with fail
    go_roundw
    case rel => exact ⟨k + 1,by omega,by go_num,HNO.out,HF.out⟩
    case measure => simp [intOf];omega
  ·obtain rfl : k = ls.length:=by omega
   rw [List.take_length] at HNO
   have HFD:=Hd (find_none HNO.out)
   go_wp2_with fail
   go_ret2
   exact ⟨_,by rw [HFD.out];rfl,by rw [HFD.out];exact Sl.nil _,HF.out⟩
structure Knows (w : World) (gf : Nat) (bd lb : Array Value) (K : UInt16 → Option (List UInt8)) : Prop where
 eg : ∀ args W,(callFunc gf args).run Tryz.prog W = .ok (.enter gf args) W
 ask : ∀ (W : World) (n : UInt16),Fr [] w W → Calls Tryz.prog gf (bd.push (.int .u16 (n.toNat : Nat)) ++ lb) W fun e w' => ∃ v',e = .returned (.tuple #[v',.bool (K n).isSome]) ∧ Bytes w' v' ((K n).getD []) ∧ Fr [] W w'
theorem Knows.keep {w w' : World} {gf : Nat} {bd lb : Array Value} {K : UInt16 → Option (List UInt8)} (h : Knows w gf bd lb K) (hf : Fr [] w w') : Knows w' gf bd lb K:=⟨h.eg,fun W n hW => h.ask W n (hf.trans hW)⟩
end Go.Proofs.YtcngfbjmpemehaaGreat

/- The walk of solve.look (printed by gen_look.py). -/
namespace Go.Proofs.YtcngfbjmpemehaaGreat
open Go.RowKit

def lookB (K : UInt16 → Option (List UInt8)) (ss : UInt32) (n : UInt16) : Option Bt:=match K n with
 | none => none
 | some l => match parseR l with
  | .ok p => if p.seq = n ∧ p.ssrc = ss then some (imp l) else none
  | .error _ => none
theorem u32_bne (a b : UInt32) : (((a.toNat : Nat) : Int) != ((b.toNat : Nat) : Int)) = !(a == b):=by
 rw [Bool.eq_iff_iff]
 simp [← UInt32.toNat_inj]
 omega
theorem svLook_any {w : World} {gf : Nat} {bd lb : Array Value} {K : UInt16 → Option (List UInt8)} (hK : Knows w gf bd lb K) (n : UInt16) (ss : UInt32) :
  Calls Tryz.prog 123 #[.int .u16 (n.toNat : Nat),.int .u32 (ss.toNat : Nat),.func (.func gf) bd lb] w fun e w' => ∃ v',e = .returned (.tuple #[v',.bool (lookB K ss n).isSome]) ∧ BtV w' v' ((lookB K ss n).getD Bt.zero) ∧ Fr [] w w':=by
 obtain ⟨w1,e1,hF1,hB1,hs1⟩:=one_new w (bc Bt.zero (.slice none 0 0)) 127
 have HF:=Hd hF1;have HR:=Hd hB1;have E1:=Hd e1;have HK:=Hd hK
 clear hF1 hB1 e1 hs1
 have eg:=hK.eg
 clear hK
 go_enter Tryz.func123,Tryz.ntmps123
 go_upto_region 1 with fail
 first | rw [E1.out] | (have:=E1.out;simp only [bc_zero] at this;rw [this];clear this)
 clear E1
 go_wp2_with fail
 refine (HK.out.ask w1 n HF.out).mono ?_
 rintro e w2 ⟨v2,rfl,hb,hF⟩
 obtain ⟨a2,n2,c2,rfl⟩:=Sl.isSlice hb
 have HB:=Hd hb
 clear eg
 have HF:=Hd (HF.out.trans hF)
 have HR:=Hd (HR.out.keep hF)
 clear hF hb
 cases hkn : K n with
 | none =>
  have HL : Hid (lookB K ss n = none):=Hd (by unfold lookB;rw [hkn])
  clear hkn
  go_wp2_with (refine wpList_store_row rfl 127 (.tmp 6) (.tmp 21) rfl w.heap.size rfl _ #[.int .u8 0,.int .u8 0,.int .u8 0,.int .u8 0,.int .u8 0,.int .u8 0,.int .u8 0,.int .u8 0,.slice none 0 0] rfl 127 HR.out (by kernel_rfl) rfl (by simp [bc,Value.oneCell']) ?_;intro w9 hY hG)
  refine bodyPost_ret (results_row_1 rfl _ _ w.heap.size 127 _ _ rfl hY Tryz.underlying127 rfl (by kernel_rfl)) rfl ⟨_,by rw [HL.out];rfl,?_,HF.out.step hG (by simp)⟩
  rw [HL.out]
  exact ⟨_,rfl,Sl.nil _⟩
 | some l =>
  have HKN:=Hd hkn
  rw [hkn] at HB
  clear hkn
  have HB : Hid (Bytes w2 (.slice a2 n2 c2) l):=HB
  go_wp2_with fail
  refine (Parse_any HB.out).mono ?_
  rintro e w3 (⟨vp,p,hp,rfl,hVp,hF⟩ | ⟨k2,hp,rfl,hF⟩)
  rotate_left
  ·have hk2 : (k2 != 0) = true:=by simpa using parseR_err hp
   have HL : Hid (lookB K ss n = none):=Hd (by unfold lookB;rw [HKN.out];simp only [hp])
   have HF:=Hd (HF.out.trans hF)
   have HR:=Hd (HR.out.keep hF)
   clear hF hp
   unfold pz
   go_upto_region 5 with (refine wpList_store_row rfl 93 (.tmp 10) (.tmp 25) rfl w3.heap.size rfl _ _ rfl 93 (Box.new w3 93 #[.bool false,.int .i64 0,.int .u16 0,.int .u32 0,.int .u32 0,.slice none 0 0,.bool false,.int .u16 0,.slice none 0 0,.slice none 0 0,.slice none 0 0]) (by kernel_rfl) rfl (oneCell_pz) ?_;intro w4 hY hG;have hFn:=((Fr.refl [] w3).alloc _).step hG (by simp);have HFn:=Hd hFn;have HY:=Hd hY;clear hG hFn hY)
   have HF:=Hd (HF.out.trans HFn.out);have HR:=Hd (HR.out.keep HFn.out)
   clear HFn HY
   go_wp2_with (refine wpList_store_row rfl 127 (.tmp 6) (.tmp 41) rfl w.heap.size rfl _ #[.int .u8 0,.int .u8 0,.int .u8 0,.int .u8 0,.int .u8 0,.int .u8 0,.int .u8 0,.int .u8 0,.slice none 0 0] rfl 127 HR.out (by kernel_rfl) rfl (by simp [bc,Value.oneCell']) ?_;intro w9 hY hG)
   refine bodyPost_ret (results_row_1 rfl _ _ w.heap.size 127 _ _ rfl hY Tryz.underlying127 rfl (by kernel_rfl)) rfl ⟨_,by rw [HL.out];rfl,?_,HF.out.step hG (by simp)⟩
   rw [HL.out]
   exact ⟨_,rfl,Sl.nil _⟩
  obtain ⟨q1,k1,q2,k2,q3,k3,q4,k4,rfl,-,-,-,-⟩:=hVp.open_
  have HP:=Hd hp
  have HF:=Hd (HF.out.trans hF)
  have HR:=Hd (HR.out.keep hF)
  have HB:=Hd (Sl.keep HB.out hF)
  clear hF hp hVp
  go_upto_region 5 with (refine wpList_store_row rfl 93 (.tmp 10) (.tmp 25) rfl w3.heap.size rfl _ _ rfl 93 (Box.new w3 93 #[.bool false,.int .i64 0,.int .u16 0,.int .u32 0,.int .u32 0,.slice none 0 0,.bool false,.int .u16 0,.slice none 0 0,.slice none 0 0,.slice none 0 0]) (by kernel_rfl) rfl (oneCell_pc _ _ _ _ _ _ _ _ _ _ _ ⟨_,_,_,rfl⟩ ⟨_,_,_,rfl⟩ ⟨_,_,_,rfl⟩ ⟨_,_,_,rfl⟩) ?_;intro w4 hY hG;have hFn:=((Fr.refl [] w3).alloc _).step hG (by simp);have HFn:=Hd hFn;have HY:=Hd hY;clear hG hFn hY)
  have hF:=HFn.out
  have HF:=Hd (HF.out.trans hF)
  have HR:=Hd (HR.out.keep hF)
  have HB:=Hd (Sl.keep HB.out hF)
  have HPB:=HY
  clear hF HFn HY
  generalize hgp : w3.heap.size = gp at *
  clear hgp
  obtain ⟨p0,p1,p2,p3,p4,p5,p6,p7,p8,p9,p10⟩:=HPB.out.pcells
  by_cases hq : p.seq = n ∧ p.ssrc = ss
  ·have t1 : (((p.seq.toNat : Nat) : Int) != ((n.toNat : Nat) : Int)) = false:=by rw [u16_bne,hq.1];simp
   have t2 : (((p.ssrc.toNat : Nat) : Int) != ((ss.toNat : Nat) : Int)) = false:=by rw [u32_bne,hq.2];simp
   have HL : Hid (lookB K ss n = some (imp l)):=Hd (by unfold lookB;rw [HKN.out];simp only [HP.out];rw [if_pos hq])
   clear hq
   go_upto_region 7 with fail
   clear t1 t2 p0 p1 p2 p3 p4 p5 p6 p7 p8 p9 p10
   go_wp2_with fail
   refine (impOf_any HB.out).mono ?_
   rintro e w5 (⟨v',p',hp',rfl,⟨vi,rfl,hO⟩,hF⟩ | ⟨k,hp',-,-⟩)
   rotate_left
   ·exact absurd (HP.out.symm.trans hp') (by simp)
   obtain ⟨ax,nx,cx,rfl⟩:=hO.isSlice
   have HO:=Hd hO
   have HRL0 : Hid (w.heap.size < w4.heap.size):=Hd HR.out.lt
   have HF:=Hd (HF.out.trans hF);have HR:=Hd (HR.out.keep hF)
   clear hO hp' hF
   go_upto_region 8 with (refine wpList_store_row rfl 127 (.tmp 12) (.tmp 45) rfl w5.heap.size rfl _ _ rfl 127 (Box.new w5 127 (bc Bt.zero (.slice none 0 0))) (by kernel_rfl) rfl (by simp [bc,Value.oneCell']) ?_;intro w6 hY hG;have hFn:=((Fr.refl [] w5).alloc _).step hG (by simp);have HFn:=Hd hFn;have HY:=Hd hY;clear hG hFn hY)
   have HF:=Hd (HF.out.trans HFn.out);have HR:=Hd (HR.out.keep HFn.out);have HO:=Hd (HO.out.keep HFn.out)
   have HXB:=HY
   clear HFn HY
   generalize hgx : w5.heap.size = gx at *
   have HGX:=Hd hgx
   clear hgx
   go_wp2_with (first | (refine wpList_load_row_w rfl 127 (.tmp 12) rfl gx rfl 127 _ _ HXB.out Tryz.underlying127 rfl (by kernel_rfl) ?_) | (refine wpList_store_row rfl 127 (.tmp 6) (.tmp 47) rfl w.heap.size rfl _ (bc (imp l) (.slice ax nx cx)) rfl 127 HR.out (by kernel_rfl) rfl (by simp [bc,Value.oneCell']) ?_;intro w9 hY hG))
   refine bodyPost_ret (results_row_1 rfl _ _ w.heap.size 127 _ _ rfl hY Tryz.underlying127 rfl (by kernel_rfl)) rfl ⟨_,by rw [HL.out];rfl,?_,HF.out.step hG (by simp)⟩
   rw [HL.out]
   exact ⟨_,rfl,(HO.out.fr hG (fun b hb hm => by have h1:=(HO.out.block b hb).1;have h2:=HRL0.out;simp at hm;omega)).bytes⟩
  ·have HL : Hid (lookB K ss n = none):=Hd (by unfold lookB;rw [HKN.out];simp only [HP.out];rw [if_neg hq])
   have hor : (((p.seq.toNat : Nat) : Int) != ((n.toNat : Nat) : Int)) = true ∨ (((p.seq.toNat : Nat) : Int) != ((n.toNat : Nat) : Int)) = false ∧ (((p.ssrc.toNat : Nat) : Int) != ((ss.toNat : Nat) : Int)) = true:=by
    by_cases h1 : p.seq = n
    ·right
     refine ⟨by rw [u16_bne,h1];simp,?_⟩
     rw [u32_bne]
     simpa using fun h2 => hq ⟨h1,h2⟩
    ·left
     rw [u16_bne]
     simpa using h1
   clear hq
   rcases hor with t1 | ⟨t1,t2⟩
   ·go_upto_region 6 with fail
    clear t1 p0 p1 p2 p3 p4 p5 p6 p7 p8 p9 p10
    go_wp2_with (refine wpList_store_row rfl 127 (.tmp 6) (.tmp 41) rfl w.heap.size rfl _ #[.int .u8 0,.int .u8 0,.int .u8 0,.int .u8 0,.int .u8 0,.int .u8 0,.int .u8 0,.int .u8 0,.slice none 0 0] rfl 127 HR.out (by kernel_rfl) rfl (by simp [bc,Value.oneCell']) ?_;intro w9 hY hG)
    refine bodyPost_ret (results_row_1 rfl _ _ w.heap.size 127 _ _ rfl hY Tryz.underlying127 rfl (by kernel_rfl)) rfl ⟨_,by rw [HL.out];rfl,?_,HF.out.step hG (by simp)⟩
    rw [HL.out]
    exact ⟨_,rfl,Sl.nil _⟩
   ·go_upto_region 6 with fail
    clear t1 t2 p0 p1 p2 p3 p4 p5 p6 p7 p8 p9 p10
    go_wp2_with (refine wpList_store_row rfl 127 (.tmp 6) (.tmp 41) rfl w.heap.size rfl _ #[.int .u8 0,.int .u8 0,.int .u8 0,.int .u8 0,.int .u8 0,.int .u8 0,.int .u8 0,.int .u8 0,.slice none 0 0] rfl 127 HR.out (by kernel_rfl) rfl (by simp [bc,Value.oneCell']) ?_;intro w9 hY hG)
    refine bodyPost_ret (results_row_1 rfl _ _ w.heap.size 127 _ _ rfl hY Tryz.underlying127 rfl (by kernel_rfl)) rfl ⟨_,by rw [HL.out];rfl,?_,HF.out.step hG (by simp)⟩
    rw [HL.out]
    exact ⟨_,rfl,Sl.nil _⟩
end Go.Proofs.YtcngfbjmpemehaaGreat

/- Plain laws on repairs of packets: what a repair is,the order of the packets,parts of them. No program in sight. -/
namespace Go.Proofs.YtcngfbjmpemehaaGreat
open Go.RowKit

end Go.Proofs.YtcngfbjmpemehaaGreat

/- Slices of rows put behind each other;a part of a slice's rows as elements. -/
namespace Go.Proofs.YtcngfbjmpemehaaGreat
open Go.RowKit

section
variable {α : Type} {k : Nat} {R : World → List Value → α → List Nat → Prop}
theorem Els.append : ∀ {ys zs : List α} {w : World} {c1 c2 : List Value} {B1 B2 : List Nat},Els R ys w c1 B1 → Els R zs w c2 B2 → Els R (ys ++ zs) w (c1 ++ c2) (B1 ++ B2)
 | [],zs,w,c1,c2,B1,B2,h,h2 => by obtain ⟨rfl,rfl⟩:=h;exact h2
 | y :: ys,zs,w,c1,c2,B1,B2,h,h2 => by
  obtain ⟨c,rest,D1,D2,rfl,rfl,h3,h4⟩:=h
  exact ⟨c,rest ++ c2,D1,D2 ++ B2,by simp,by simp,h3,Els.append h4 h2⟩
theorem step_append_els {P : Program} {ops : Array Oper} {o : Oper} {a : Act} {w : World} {K : Act → World → Prop} {Q : Exit → Act → World → Prop} {E : Prop} (hR : Rep k R) (hk : 0 < k)
  (hgd : o.guard = none) (s x : Operand) (t : TypeId) (ho : o.op = .call { callee:=.builtin .append,args:=#[s,x],argTypes:=#[t,t] })
  (base : Nat) (e : TypeId) (z : Value) (bytes : Nat) (ht : P.underlying t = some (.slice e)) (hi : (P.info? e).map (fun i => (i.zero,i.size,i.bytes)) = some (some z,k,bytes)) (hz : z.cells.size = k)
  (v : Value) (ys : List α) (B : List Nat) (hs : a.eval s = v) (hown : OwnEls k R w base e v ys B)
  (ad : Addr) (m c : Nat) (hx : a.eval x = .slice (some ad) m c) (zs : List α) (hm : zs.length = m) (cells : List Value) (B2 : List Nat) (hc : Els R zs w cells B2) (hnews : ∀ j u,cells[j]? = some u → w.cell? (ad.add j) = some u) (hdis : ∀ b,blockOf v = some b → b ∉ B2)
  (h63 : ys.length + m ≤ maxLen) (hbytes : (ys.length + m) * bytes ≤ 140737488355328) (hbase : base ≤ w.heap.size)
  (h : ∀ v' w',OwnEls k R w' base e v' (ys ++ zs) (B ++ B2) → Fr (blockOf v).toList w w' → (∀ b,blockOf v' = some b → blockOf v = some b ∨ w.heap.size ≤ b) → K (a.put o.dst v') w') :
  if Region.wanted o (yielded ops a.tmps) = true then Oper.wp P o a w K Q else E:=by
 subst hm
 obtain ⟨own,h1,h2,h3⟩:=hown
 refine step_append_fr hgd s x t ho base e z k bytes ht hi hz hk v ys.length own hs h1 ad zs.length c cells hx (hc.len hR) hnews (hc.one hR) h63 hbytes hbase ?_
 intro v' w' q1 q2 q3 q4
 refine h v' w' ⟨own ++ cells,by simpa using q1,Els.append (h2.fr hR q2 (fun b hb hm => h3 b (by simpa using hm) hb)) (hc.fr hR q2 (fun b hb hm => hdis b (by simpa using hm) hb)),?_⟩ q2 q3
 intro b hb hm
 rcases q3 b hb with hv | hn
 ·rcases List.mem_append.1 hm with hm | hm
  ·exact h3 b hv hm
  ·exact hdis b hv hm
 ·rcases List.mem_append.1 hm with hm | hm
  ·have:=h2.lt hR b hm;omega
  ·have:=hc.lt hR b hm;omega
end
end Go.Proofs.YtcngfbjmpemehaaGreat

/- 'append(s,part...)' of data of several cells,in a region without a draw. -/
namespace Go.Proofs.YtcngfbjmpemehaaGreat
open Go.RowKit

section
variable {α : Type} {k : Nat} {R : World → List Value → α → List Nat → Prop}
theorem wpList_append_els {P : Program} {w : World} {ops : Array Oper} {rest : List Oper} {o : Oper} {a : Act} {Q : Exit → Act → World → Prop} (hR : Rep k R) (hk : 0 < k) (hgd : o.guard = none) (s x : Operand) (t : TypeId)
  (ho : o.op = .call { callee:=.builtin .append,args:=#[s,x],argTypes:=#[t,t] })
  (base : Nat) (e : TypeId) (z : Value) (bytes : Nat) (ht : P.underlying t = some (.slice e)) (hi : (P.info? e).map (fun i => (i.zero,i.size,i.bytes)) = some (some z,k,bytes)) (hz : z.cells.size = k)
  (v : Value) (ys : List α) (B : List Nat) (hs : a.eval s = v) (hown : OwnEls k R w base e v ys B)
  (b off n cp : Nat) (hx : a.eval x = .slice (some ⟨b,off,none⟩) n cp) (zs : List α) (hn0 : 0 < n) (B2 : List Nat) (hzs : SlEls k R w (.slice (some ⟨b,off,none⟩) n cp) zs B2) (hdis : ∀ b,blockOf v = some b → b ∉ B2)
  (h63 : ys.length + n ≤ maxLen) (hbytes : (ys.length + n) * bytes ≤ 140737488355328) (hbase : base ≤ w.heap.size)
  (h : ∀ v' w',OwnEls k R w' base e v' (ys ++ zs) (B ++ B2) → Fr (blockOf v).toList w w' → (∀ b,blockOf v' = some b → blockOf v = some b ∨ w.heap.size ≤ b) → wpList P ops Q rest (a.put o.dst v') w') : wpList P ops Q (o :: rest) a w:=by
 obtain ⟨cells,h1,h2,h3⟩:=hown
 obtain ⟨c2,a2,cap2,g1,g2,g3,g4,g5,g6⟩:=hzs
 simp only [Value.slice.injEq] at g1
 obtain ⟨rfl,rfl,rfl⟩:=g1
 have g7:=(g6 _ rfl (by omega)).2.2
 refine wpList_append_fr hgd s x t ho base e z k bytes ht hi hz hk v ys.length cells hs h1 ⟨b,off,none⟩ zs.length cp c2 hx (g5.len hR) (fun j u hj => by rw [Addr.add_mid];exact g7 j u hj) (g5.one hR) h63 hbytes hbase ?_
 intro v' w' q1 q2 q3 q4
 refine h v' w' ⟨cells ++ c2,by simpa using q1,Els.append (h2.fr hR q2 (fun b hb hm => h3 b (by simpa using hm) hb)) (g5.fr hR q2 (fun b hb hm => hdis b (by simpa using hm) hb)),?_⟩ q2 q3
 intro b hb hm
 rcases q3 b hb with hv | hn
 ·rcases List.mem_append.1 hm with hm | hm
  ·exact h3 b hv hm
  ·exact hdis b hv hm
 ·rcases List.mem_append.1 hm with hm | hm
  ·have:=h2.lt hR b hm;omega
  ·have:=g5.lt hR b hm;omega
end
end Go.Proofs.YtcngfbjmpemehaaGreat

/- The walk of parity.Block (printed by gen_block.py). -/
namespace Go.Proofs.YtcngfbjmpemehaaGreat
open Go.RowKit

def RpR (w : World) (c : List Value) (r : Rep_) (B : List Nat) : Prop:=∃ vb,c = (rpc r vb).toList ∧ Bytes w vb r.bt.body ∧ B = (liveOf vb).toList
theorem Rep.rp : Rep 12 RpR where
 len:=by rintro w c y B ⟨vb,rfl,-,-⟩;rfl
 one:=by
  rintro w c y B ⟨vb,rfl,h,-⟩ u hu
  obtain ⟨a,n,cp,rfl⟩:=Sl.isSlice h
  simp at hu
  rcases hu with rfl | rfl | rfl | rfl | rfl | rfl | rfl | rfl | rfl | rfl | rfl | rfl <;> rfl
 lt:=by
  rintro w c y B ⟨vb,rfl,h,rfl⟩ b hb
  exact Sl.lt h b (mem_toList.1 hb)
 fr:=by
  rintro w w' c y B S ⟨vb,rfl,h,rfl⟩ hf hS
  exact ⟨vb,rfl,Sl.frL h hf (fun b hb => hS b (mem_toList.2 hb)),rfl⟩
end Go.Proofs.YtcngfbjmpemehaaGreat

/- The walk of confluxref01.Ahead. -/
namespace Go.Proofs.YtcngfbjmpemehaaGreat
open Go.RowKit

theorem r01Ahead_any (a b : UInt16) {w : World} :
  Calls Tryz.prog 65 #[.int .u16 (a.toNat : Nat),.int .u16 (b.toNat : Nat)] w fun e w' => e = .returned (.int .i64 (ahd a b)) ∧ Fr [] w w':=by
 have ha : a.toNat < 65536:=a.toNat_lt
 have hb : b.toNat < 65536:=b.toNat_lt
 have hF:=Hd (Fr.refl [] w)
 have h1 : (((a.toNat : Nat) : Int) - ((b.toNat : Nat) : Int) + 65536).tmod 65536 = (((a - b).toNat : Nat) : Int):=by
  rw [Int.tmod_eq_emod_of_nonneg (by omega),UInt16.toNat_sub]
  omega
 have h2 : (a - b).toNat < 65536:=(a - b).toNat_lt
 have HA : Hid (ahd a b = if (a - b).toNat < 32768 then ((a - b).toNat : Int) else ((a - b).toNat : Int) - 65536):=Hd rfl
 generalize (a - b).toNat = d at *
 generalize a.toNat = x at *
 generalize b.toNat = y at *
 have HX:=Hd ha;have HY:=Hd hb;have H1:=Hd h1;have H2:=Hd h2
 clear ha hb h1 h2
 have X : Hid (∀ q : Int,q = (wrap64 (wrap64 (wrap64 (x : Int) - wrap64 (y : Int)) + 65536)).tmod 65536 → q = (d : Int)):=Hd (by
  intro q hq
  have hx:=HX.out;have hy:=HY.out;have h1:=H1.out
  rw [IntWalk.wrap64_in (x : Int) (by omega),IntWalk.wrap64_in (y : Int) (by omega),IntWalk.wrap64_in ((x : Int) - (y : Int)) (by omega),IntWalk.wrap64_in ((x : Int) - (y : Int) + 65536) (by omega),h1] at hq
  exact hq)
 go_enter Tryz.func65,Tryz.ntmps65
 go_wp2
 all_goals
  go_ret
  refine ⟨ret_int ?_,hF.out⟩
  rename_i hq
  have h2:=H2.out
  have e:=X.out _ rfl
  rw [e] at hq ⊢
  rw [HA.out]
  split
  ·first | omega | (rw [IntWalk.wrap64_in _ (by omega)])
  ·first | omega | (rw [IntWalk.wrap64_in _ (by omega)])
end Go.Proofs.YtcngfbjmpemehaaGreat

/- The walks of confluxref02.Of and List (printed by gen_ref02.py). -/
namespace Go.Proofs.YtcngfbjmpemehaaGreat
open Go.RowKit

def bitsL (m : Msk) (n : Nat) : List Bool:=(List.range n).map m.has
theorem bitsL_succ (m : Msk) (n : Nat) : bitsL m (n + 1) = bitsL m n ++ [m.has n]:=by unfold bitsL;rw [List.range_succ,List.map_append];rfl
theorem bitsL_len (m : Msk) (n : Nat) : (bitsL m n).length = n:=by unfold bitsL;simp
theorem info_bool : (Tryz.prog.info? 4).map (fun i => (i.zero,i.size,i.bytes)) = some (some (.bool false),1,1):=by kernel_rfl
theorem shr_bit (x : BitVec 64) (k : Nat) : ((((x.toNat : Nat) : Int) / 2 ^ k).tmod 2 == 1) = x.getLsbD k:=by
 have h : ((x.toNat : Nat) : Int) / 2 ^ k = ((x.toNat / 2 ^ k : Nat) : Int):=by simp
 rw [h]
 have h2 : (((x.toNat / 2 ^ k : Nat) : Int)).tmod 2 = ((x.toNat / 2 ^ k % 2 : Nat) : Int):=by
  rw [Int.tmod_eq_emod_of_nonneg (Int.natCast_nonneg _)]
  rfl
 rw [h2,BitVec.getLsbD,Nat.testBit_eq_decide_div_mod_eq,Bool.eq_iff_iff]
 simp
 omega
theorem r02Of_any (m : Msk) {w : World} :
  Calls Tryz.prog 98 #[.int .u64 (m.hi.toNat : Nat),.int .u64 (m.lo.toNat : Nat)] w fun e w' => ∃ v,e = .returned v ∧ OwnV w' w.heap.size 4 Value.bool v (bitsL m 128) ∧ Fr [] w w':=by
 obtain ⟨w1,e1,hF,hB1,hs1⟩:=one_new w #[] 4
 have HO : Hid (OwnV w1 w.heap.size 4 Value.bool (.slice (some ⟨w.heap.size,0,none⟩) 0 0) (bitsL m 0)):=Hd (by subst e1;exact OwnV.made w w.heap.size _ _ (Nat.le_refl _))
 have E1:=Hd e1;have HF:=Hd hF
 clear e1 hF hB1 hs1
 go_enter Tryz.func98,Tryz.ntmps98
 go_upto_region 3 with fail
 try rw [E1.out]
 clear E1
 go_loopw [5,6] (fun ov iv wr => ∃ j : Nat,j ≤ 64 ∧ iv = .int .i64 (63 - (j : Int)) ∧ OwnV wr w.heap.size 4 Value.bool ov (bitsL m (j)) ∧ Fr [] w wr) (fun _ iv _ => ((intOf iv) + 1).toNat)
 case atStart => exact ⟨0,by omega,rfl,HO.out,HF.out⟩
 case round =>
  clear HO HF
  obtain ⟨j,hj,rfl,hO,hF⟩:=hrel
  obtain ⟨ao,no,co,rfl⟩:=hO.isSlice
  have HO:=Hd hO;have HFQ:=Hd hF
  clear hO hF
  by_cases hlt : j < 64
  ·have HLO : Hid ((bitsL m (j)).length ≤ 1099511627776):=Hd (by rw [bitsL_len];omega)
   obtain ⟨k,hk⟩ : ∃ k : Nat,k + j = 63:=⟨63 - j,by omega⟩
   have hkk : (63 : Int) - (j : Int) = (k : Int):=by omega
   rw [hkk]
   have hk64 : k < 64:=by omega
   have HH : Hid (m.hi.getLsbD k = m.has (j)):=Hd (by unfold Msk.has;rw [if_pos hlt,show 63 - j = k by omega])
   have HSN:=Hd (bitsL_succ m (j))
   have HKK:=Hd hkk
   clear hkk
   have hsh:=shr_bit m.hi k
   rw [HH.out] at hsh
   generalize m.has (j) = hb at *
   have A0 : Hid ((wr.alloc (.cells #[Value.bool hb] 4)).ownsRow w.heap.size 4 1 (.slice ao no co) (bitsL m (j)).length ((bitsL m (j)).map Value.bool)):=Hd (Own.keep HO.out ((Fr.refl [] wr).alloc _))
   have A1 : Hid ((bitsL m (j)).length + [Value.bool hb].length ≤ maxLen):=Hd (by have:=HLO.out;unfold maxLen;simp only [List.length_singleton];omega)
   have A2 : Hid (((bitsL m (j)).length + [Value.bool hb].length) * 1 ≤ 140737488355328):=Hd (by have:=HLO.out;simp only [List.length_singleton];omega)
   have A3 : Hid (Sl (wr.alloc (.cells #[Value.bool hb] 4)) (.slice (some ⟨wr.heap.size,0,none⟩) 1 1) [Value.bool hb]):=Hd (Sl.one wr _ _)
   have A4 : Hid (w.heap.size ≤ (wr.alloc (.cells #[Value.bool hb] 4)).heap.size):=Hd (by have:=HFQ.out.size;simp;omega)
   go_wp2_with (at_builtin;refine wpList_append_slf rfl (.tmp 13) (.tmp 19) 61 rfl w.heap.size 4 (.bool false) 1 Tryz.underlying61 info_bool rfl (.slice ao no co) (bitsL m (j)).length ((bitsL m (j)).map Value.bool) rfl A0.out (.slice (some ⟨wr.heap.size,0,none⟩) 1 1) [Value.bool hb] rfl A3.out (by simp [Value.oneCell']) A1.out A2.out A4.out ?_;intro v3 w3 ho hg hfr;have HO3:=Hd ho;have HG:=Hd hg;have HBL:=Hd hfr;clear ho hg hfr)
   have HN : Hid (OwnV w3 w.heap.size 4 Value.bool v3 (bitsL m (j) ++ [hb])):=Hd (by
    have:=HO3.out
    unfold OwnV
    rw [List.map_append,List.length_append]
    exact this)
   have HF3 : Hid (Fr [] w w3):=Hd ((HFQ.out.alloc _).step HG.out (fun x hx => .inr (HO.out.block x (by simpa using hx)).1))
   rw [← HSN.out] at HN
   have hk2:=HKK.out
   have hk3 : (k : Int) - 1 = 63 - ((j + 1 : Nat) : Int):=by omega
   go_wp2_with fail
   exact ⟨⟨j + 1,by omega,by rw [← hk3],HN.out,HF3.out⟩,by first | (simp [intOf];done) | (simp [intOf];omega)⟩
  ·obtain rfl : j = 64:=by omega
   rw [show (63 : Int) - ((64 : Nat) : Int) = -1 from rfl]
   have HO0:=HO
   have HF:=HFQ
   clear HFQ
   go_upto_region 7 with fail
   go_loopw [5,7] (fun ov iv wr => ∃ j : Nat,j ≤ 64 ∧ iv = .int .i64 (63 - (j : Int)) ∧ OwnV wr w.heap.size 4 Value.bool ov (bitsL m (64 + j)) ∧ Fr [] w wr) (fun _ iv _ => ((intOf iv) + 1).toNat)
   case atStart => exact ⟨0,by omega,rfl,HO.out,HF.out⟩
   case round =>
    clear HO HF
    obtain ⟨j,hj,rfl,hO,hF⟩:=hrel
    obtain ⟨ao,no,co,rfl⟩:=hO.isSlice
    have HO:=Hd hO;have HFQ:=Hd hF
    clear hO hF
    by_cases hlt : j < 64
    ·have HLO : Hid ((bitsL m (64 + j)).length ≤ 1099511627776):=Hd (by rw [bitsL_len];omega)
     obtain ⟨k,hk⟩ : ∃ k : Nat,k + j = 63:=⟨63 - j,by omega⟩
     have hkk : (63 : Int) - (j : Int) = (k : Int):=by omega
     rw [hkk]
     have hk64 : k < 64:=by omega
     have HH : Hid (m.lo.getLsbD k = m.has (64 + j)):=Hd (by unfold Msk.has;rw [if_neg (by omega),if_pos (by omega),show 127 - (64 + j) = k by omega])
     have HSN:=Hd (bitsL_succ m (64 + j))
     have HKK:=Hd hkk
     clear hkk
     have hsh:=shr_bit m.lo k
     rw [HH.out] at hsh
     generalize m.has (64 + j) = hb at *
     have A0 : Hid ((wr.alloc (.cells #[Value.bool hb] 4)).ownsRow w.heap.size 4 1 (.slice ao no co) (bitsL m (64 + j)).length ((bitsL m (64 + j)).map Value.bool)):=Hd (Own.keep HO.out ((Fr.refl [] wr).alloc _))
     have A1 : Hid ((bitsL m (64 + j)).length + [Value.bool hb].length ≤ maxLen):=Hd (by have:=HLO.out;unfold maxLen;simp only [List.length_singleton];omega)
     have A2 : Hid (((bitsL m (64 + j)).length + [Value.bool hb].length) * 1 ≤ 140737488355328):=Hd (by have:=HLO.out;simp only [List.length_singleton];omega)
     have A3 : Hid (Sl (wr.alloc (.cells #[Value.bool hb] 4)) (.slice (some ⟨wr.heap.size,0,none⟩) 1 1) [Value.bool hb]):=Hd (Sl.one wr _ _)
     have A4 : Hid (w.heap.size ≤ (wr.alloc (.cells #[Value.bool hb] 4)).heap.size):=Hd (by have:=HFQ.out.size;simp;omega)
     go_wp2_with (at_builtin;refine wpList_append_slf rfl (.tmp 25) (.tmp 31) 61 rfl w.heap.size 4 (.bool false) 1 Tryz.underlying61 info_bool rfl (.slice ao no co) (bitsL m (64 + j)).length ((bitsL m (64 + j)).map Value.bool) rfl A0.out (.slice (some ⟨wr.heap.size,0,none⟩) 1 1) [Value.bool hb] rfl A3.out (by simp [Value.oneCell']) A1.out A2.out A4.out ?_;intro v3 w3 ho hg hfr;have HO3:=Hd ho;have HG:=Hd hg;have HBL:=Hd hfr;clear ho hg hfr)
     have HN : Hid (OwnV w3 w.heap.size 4 Value.bool v3 (bitsL m (64 + j) ++ [hb])):=Hd (by
      have:=HO3.out
      unfold OwnV
      rw [List.map_append,List.length_append]
      exact this)
     have HF3 : Hid (Fr [] w w3):=Hd ((HFQ.out.alloc _).step HG.out (fun x hx => .inr (HO.out.block x (by simpa using hx)).1))
     rw [← HSN.out] at HN
     have hk2:=HKK.out
     have hk3 : (k : Int) - 1 = 63 - ((j + 1 : Nat) : Int):=by omega
     go_wp2_with fail
     exact ⟨⟨j + 1,by omega,by rw [← hk3],HN.out,HF3.out⟩,by first | (simp [intOf];done) | (simp [intOf];omega)⟩
    ·obtain rfl : j = 64:=by omega
     rw [show (63 : Int) - ((64 : Nat) : Int) = -1 from rfl]
     go_wp2_with fail
     go_ret
     exact ⟨_,rfl,HO.out,HFQ.out⟩
def idxL (bs : List Bool) (j : Nat) : List Nat:=(List.range j).filter fun i => bs.getD i false
theorem idxL_len (bs : List Bool) (j : Nat) : (idxL bs j).length ≤ j:=by
 unfold idxL
 have:=List.length_filter_le (fun i => bs.getD i false) (List.range j)
 rwa [List.length_range] at this
theorem idxL_yes {bs : List Bool} {j : Nat} (hj : j < bs.length) (h : bs[j] = true) : idxL bs (j + 1) = idxL bs j ++ [j]:=by
 unfold idxL
 rw [List.range_succ,List.filter_append,List.filter_cons_of_pos (by rw [List.getD_eq_getElem?_getD,List.getElem?_eq_getElem hj,h];rfl)]
 rfl
theorem idxL_no {bs : List Bool} {j : Nat} (hj : j < bs.length) (h : bs[j] = false) : idxL bs (j + 1) = idxL bs j:=by
 unfold idxL
 rw [List.range_succ,List.filter_append,List.filter_cons_of_neg (by rw [List.getD_eq_getElem?_getD,List.getElem?_eq_getElem hj,h];simp)]
 simp
theorem idx_bits (m : Msk) : idxL (bitsL m 128) 128 = m.list:=by
 unfold idxL Msk.list
 rw [List.range_eq_range']
 refine List.filter_congr fun i hi => ?_
 have h : i < 128:=by simpa [List.mem_range'_1] using hi
 rw [List.getD_eq_getElem?_getD,List.getElem?_eq_getElem (by rw [bitsL_len];exact h)]
 unfold bitsL
 simp
abbrev NI (i : Nat) : Value:=.int .i64 (i : Int)
theorem r02List_any {w : World} {v : Value} {bs : List Bool} (hb : Sl w v (bs.map Value.bool)) (hs : bs.length ≤ 1000) :
  Calls Tryz.prog 97 #[v] w fun e w' => ∃ v',e = .returned v' ∧ OwnV w' w.heap.size 3 NI v' (idxL bs bs.length) ∧ Fr [] w w':=by
 obtain ⟨av,cv,rfl⟩:=hb.shape
 rw [List.length_map] at hb ⊢
 obtain ⟨w1,e1,hF,hB1,hs1⟩:=one_new w #[] 3
 have HO : Hid (OwnV w1 w.heap.size 3 NI (.slice (some ⟨w.heap.size,0,none⟩) 0 0) (idxL bs 0)):=Hd (by subst e1;exact OwnV.made w w.heap.size _ _ (Nat.le_refl _))
 have E1:=Hd e1;have HF:=Hd hF;have HB:=Hd hb
 clear e1 hF hB1 hs1 hb
 go_enter Tryz.func97,Tryz.ntmps97
 go_upto_region 3 with fail
 try rw [E1.out]
 clear E1
 go_loopw [3,4] (fun ov iv wr => ∃ j : Nat,j ≤ bs.length ∧ iv = .int .i64 j ∧ OwnV wr w.heap.size 3 NI ov (idxL bs j) ∧ Fr [] w wr) (fun _ iv _ => bs.length - (intOf iv).toNat)
 case atStart => exact ⟨0,by omega,rfl,HO.out,HF.out⟩
 case round =>
  clear HO HF
  obtain ⟨j,hj,rfl,hO,hF⟩:=hrel
  obtain ⟨ao,no,co,rfl⟩:=hO.isSlice
  have HO:=Hd hO;have HFQ:=Hd hF
  clear hO hF
  by_cases hlt : j < bs.length
  ·have HLO : Hid ((idxL bs j).length ≤ 1099511627776):=Hd (by have:=idxL_len bs j;omega)
   obtain ⟨bp,op,ea,hbp,hcp⟩:=HB.out.at_ (k:=j) hlt
   subst ea
   have e2:=HFQ.out.cellSome (hcp j (Value.bool bs[j]) (by rw [List.getElem?_map,List.getElem?_eq_getElem hlt];rfl)) (by simp)
   clear hcp hbp
   cases hbj : bs[j] with
   | false =>
    have HSN:=Hd (idxL_no hlt hbj)
    rw [hbj] at e2
    clear hbj
    go_wp2_with fail
    exact ⟨⟨j + 1,by omega,by go_num,by rw [HSN.out];exact HO.out,HFQ.out⟩,by simp [intOf];omega⟩
   | true =>
    have HSN:=Hd (idxL_yes hlt hbj)
    rw [hbj] at e2
    clear hbj
    have A0 : Hid ((wr.alloc (.cells #[Value.int .i64 (j : Int)] 3)).ownsRow w.heap.size 3 1 (.slice ao no co) (idxL bs j).length ((idxL bs j).map NI)):=Hd (Own.keep HO.out ((Fr.refl [] wr).alloc _))
    have A1 : Hid ((idxL bs j).length + [Value.int .i64 (j : Int)].length ≤ maxLen):=Hd (by have:=HLO.out;unfold maxLen;simp only [List.length_singleton];omega)
    have A2 : Hid (((idxL bs j).length + [Value.int .i64 (j : Int)].length) * 8 ≤ 140737488355328):=Hd (by have:=HLO.out;simp only [List.length_singleton];omega)
    have A3 : Hid (Sl (wr.alloc (.cells #[Value.int .i64 (j : Int)] 3)) (.slice (some ⟨wr.heap.size,0,none⟩) 1 1) [Value.int .i64 (j : Int)]):=Hd (Sl.one wr _ _)
    have A4 : Hid (w.heap.size ≤ (wr.alloc (.cells #[Value.int .i64 (j : Int)] 3)).heap.size):=Hd (by have:=HFQ.out.size;simp;omega)
    go_wp2_with (at_builtin;refine wpList_append_slf rfl (.tmp 16) (.tmp 18) 63 rfl w.heap.size 3 (.int .i64 0) 8 Tryz.underlying63 info_int rfl (.slice ao no co) (idxL bs j).length ((idxL bs j).map NI) rfl A0.out (.slice (some ⟨wr.heap.size,0,none⟩) 1 1) [Value.int .i64 (j : Int)] rfl A3.out (by simp [Value.oneCell']) A1.out A2.out A4.out ?_;intro v3 w3 ho hg hfr;have HO3:=Hd ho;have HG:=Hd hg;have HBL:=Hd hfr;clear ho hg hfr)
    have HN : Hid (OwnV w3 w.heap.size 3 NI v3 (idxL bs j ++ [j])):=Hd (by
     have:=HO3.out
     unfold OwnV
     rw [List.map_append,List.length_append]
     exact this)
    have HF3 : Hid (Fr [] w w3):=Hd ((HFQ.out.alloc _).step HG.out (fun x hx => .inr (HO.out.block x (by simpa using hx)).1))
    rw [← HSN.out] at HN
    go_wp2_with fail
    exact ⟨⟨j + 1,by omega,by go_num,HN.out,HF3.out⟩,by simp [intOf];omega⟩
  ·obtain rfl : j = bs.length:=by omega
   go_wp2_with fail
   go_ret
   exact ⟨_,rfl,HO.out,HFQ.out⟩
end Go.Proofs.YtcngfbjmpemehaaGreat

/- The walks of confluxref01.Add,confluxref11.Seqs and Repair (printed by gen_ref11.py). -/
namespace Go.Proofs.YtcngfbjmpemehaaGreat
open Go.RowKit

theorem r01Add_any (a : UInt16) {n : Nat} (hn : n < 65536) {w : World} :
  Calls Tryz.prog 99 #[.int .u16 (a.toNat : Nat),.int .i64 (n : Int)] w fun e w' => e = .returned (.int .u16 ((add16 a (n : Int)).toNat : Nat)) ∧ Fr [] w w':=by
 have ha:=a.toNat_lt
 have hF:=Hd (Fr.refl [] w)
 have h1 : ((n : Int)).tmod 65536 = (n : Int):=by rw [Int.tmod_eq_emod_of_nonneg (by omega)];omega
 have h2 : (((a.toNat : Nat) : Int) + (n : Int)).tmod 65536 = ((((a.toNat + n) % 65536 : Nat)) : Int):=by rw [Int.tmod_eq_emod_of_nonneg (by omega)];omega
 have h3 : (add16 a (n : Int)).toNat = (a.toNat + n) % 65536:=by unfold add16;rw [UInt16.toNat_ofNat'];omega
 rw [h3]
 generalize a.toNat = x at *
 go_enter Tryz.func99,Tryz.ntmps99
 go_wp2
 go_ret
 refine ⟨ret_int ?_,hF.out⟩
 first | rfl | omega | (simp;omega)
theorem r11Seqs_any (base : UInt16) (m : Msk) {w : World} :
  Calls Tryz.prog 72 #[.int .u16 (base.toNat : Nat),.int .u64 (m.hi.toNat : Nat),.int .u64 (m.lo.toNat : Nat)] w fun e w' => ∃ v,e = .returned v ∧ OwnV w' w.heap.size 24 W16 v (seqsOf base m) ∧ Fr [] w w':=by
 obtain ⟨w1,e1,hF,hB1,hs1⟩:=one_new w #[] 24
 have HO : Hid (OwnV w1 w.heap.size 24 W16 (.slice (some ⟨w.heap.size,0,none⟩) 0 0) []):=Hd (by subst e1;exact OwnV.made w w.heap.size _ _ (Nat.le_refl _))
 have E1:=Hd e1;have HF:=Hd hF
 clear e1 hF hB1 hs1
 go_enter Tryz.func72,Tryz.ntmps72
 go_upto_region 2 with fail
 try rw [E1.out]
 clear E1
 go_wp2_with fail
 refine (r02Of_any m).mono ?_
 rintro e w2 ⟨v2,rfl,hV,hF⟩
 have HO:=Hd (HO.out.keep hF)
 have HF:=Hd (HF.out.trans hF)
 have HV:=Hd hV.sl
 have HWS : Hid (w.heap.size < w2.heap.size):=Hd (by have h1:=(HO.out.block w.heap.size rfl).2;exact h1)
 obtain ⟨a2,c2,rfl⟩:=hV.shape
 clear hV hF
 go_wp2_with fail
 refine (r02List_any HV.out (by rw [bitsL_len];omega)).mono ?_
 rintro e w3 ⟨v3,rfl,hV,hF⟩
 have HO:=Hd (HO.out.keep hF)
 have HF:=Hd (HF.out.trans hF)
 rw [bitsL_len,idx_bits] at hV
 have HV:=Hd hV.sl
 obtain ⟨a3,c3,rfl⟩:=hV.shape
 have HVB : Hid (∀ b,blockOf (.slice a3 m.list.length c3) = some b → w.heap.size < b ∧ b < w3.heap.size):=Hd (fun b hb => by have h1:=hV.block b hb;have h2:=HWS.out;omega)
 clear hV hF
 have hml:=m.list_len
 have HML : Hid (∀ i ∈ m.list,i < 128):=Hd (fun i hi => Msk.list_lt hi)
 have HSQ : Hid (seqsOf base m = m.list.map fun i => add16 base (i : Nat)):=Hd rfl
 generalize m.list = is at *
 have HV0:=HV
 go_upto_region 4 with fail
 go_loopw [7,9] (fun ov iv wr => ∃ j : Nat,j ≤ is.length ∧ iv = .int .i64 j ∧ OwnV wr w.heap.size 24 W16 ov ((is.take j).map fun (i : Nat) => add16 base i) ∧ Fr [] w wr ∧ Sl wr (.slice a3 is.length c3) (is.map NI) ∧ (∀ b,blockOf ov = some b → b = w.heap.size ∨ w3.heap.size ≤ b) ∧ w3.heap.size ≤ wr.heap.size) (fun _ iv _ => is.length - (intOf iv).toNat)
 case atStart => exact ⟨0,by omega,rfl,HO.out,HF.out,HV0.out,fun b hb => .inl (by simpa [blockOf] using hb.symm),Nat.le_refl _⟩
 case round =>
  clear HO HF
  obtain ⟨j,hj,rfl,hO,hF,hV,hob,hsz⟩:=hrel
  obtain ⟨ao,no,co,rfl⟩:=hO.isSlice
  have HO:=Hd hO;have HFQ:=Hd hF;have HV:=Hd hV;have HOB:=Hd hob;have HSZ:=Hd hsz
  clear hO hF hV hob hsz
  by_cases hlt : j < is.length
  ·obtain ⟨bp,op,ea,hbp,hcp⟩:=HV.out.at_ (k:=j) hlt
   subst ea
   have e2:=hcp j (NI is[j]) (by rw [List.getElem?_map,List.getElem?_eq_getElem hlt];rfl)
   clear hcp hbp
   have hi:=HML.out is[j] (List.getElem_mem hlt)
   have HSN : Hid ((is.take (j + 1)).map (fun (i : Nat) => add16 base i) = (is.take j).map (fun (i : Nat) => add16 base i) ++ [add16 base (is[j] : Nat)]):=Hd (by rw [List.take_succ_eq_append_getElem hlt,List.map_append];rfl)
   generalize is[j] = i at *
   go_wp2_with fail
   refine (r01Add_any base (by omega)).mono ?_
   rintro e w4 ⟨rfl,hF⟩
   have HO:=Hd (HO.out.keep hF);have HFQ:=Hd (HFQ.out.trans hF);have HV:=Hd (Sl.keep HV.out hF);have HSZ : Hid (w3.heap.size ≤ w4.heap.size):=Hd (Nat.le_trans HSZ.out hF.size)
   clear hF e2
   have HLO : Hid (((is.take j).map fun (i : Nat) => add16 base i).length ≤ 1099511627776):=Hd (by rw [List.length_map,List.length_take];omega)
   have HIY:=Hd hi
   clear hi
   generalize add16 base (i : Nat) = y at *
   have A0 : Hid ((w4.alloc (.cells #[Value.int .u16 (y.toNat : Nat)] 24)).ownsRow w.heap.size 24 1 (.slice ao no co) (((is.take j).map fun (i : Nat) => add16 base i)).length ((((is.take j).map fun (i : Nat) => add16 base i)).map W16)):=Hd (Own.keep HO.out ((Fr.refl [] w4).alloc _))
   have A1 : Hid ((((is.take j).map fun (i : Nat) => add16 base i)).length + [Value.int .u16 (y.toNat : Nat)].length ≤ maxLen):=Hd (by have:=HLO.out;unfold maxLen;simp only [List.length_singleton];omega)
   have A2 : Hid (((((is.take j).map fun (i : Nat) => add16 base i)).length + [Value.int .u16 (y.toNat : Nat)].length) * 2 ≤ 140737488355328):=Hd (by have:=HLO.out;simp only [List.length_singleton];omega)
   have A3 : Hid (Sl (w4.alloc (.cells #[Value.int .u16 (y.toNat : Nat)] 24)) (.slice (some ⟨w4.heap.size,0,none⟩) 1 1) [Value.int .u16 (y.toNat : Nat)]):=Hd (Sl.one w4 _ _)
   have A4 : Hid (w.heap.size ≤ (w4.alloc (.cells #[Value.int .u16 (y.toNat : Nat)] 24)).heap.size):=Hd (by have:=HFQ.out.size;simp;omega)
   go_wp2_with (at_builtin;refine wpList_append_slf rfl (.tmp 21) (.tmp 28) 66 rfl w.heap.size 24 (.int .u16 0) 2 Tryz.underlying66 info_u16 rfl (.slice ao no co) (((is.take j).map fun (i : Nat) => add16 base i)).length ((((is.take j).map fun (i : Nat) => add16 base i)).map W16) rfl A0.out (.slice (some ⟨w4.heap.size,0,none⟩) 1 1) [Value.int .u16 (y.toNat : Nat)] rfl A3.out (by simp [Value.oneCell']) A1.out A2.out A4.out ?_;intro v3 w5 ho hg hfr;have HO3:=Hd ho;have HG:=Hd hg;have HBL:=Hd hfr;clear ho hg hfr)
   have HN : Hid (OwnV w5 w.heap.size 24 W16 v3 (((is.take j).map fun (i : Nat) => add16 base i) ++ [y])):=Hd (by
    have:=HO3.out
    unfold OwnV
    rw [List.map_append,List.length_append]
    exact this)
   have HF3 : Hid (Fr [] w w5):=Hd ((HFQ.out.alloc _).step HG.out (fun x hx => .inr (HO.out.block x (by simpa using hx)).1))
   rw [← HSN.out] at HN
   have hvn : Sl w5 (.slice (some ⟨bp,op,none⟩) is.length c3) (is.map NI):=Sl.frL (Sl.keep HV.out ((Fr.refl [] w4).alloc _)) HG.out (fun x hx hm => by have h1:=HVB.out x (live_block hx);have h2:=HOB.out x (by simpa using hm);omega)
   have hbn : ∀ b,blockOf v3 = some b → b = w.heap.size ∨ w3.heap.size ≤ b:=fun b hb => by
    rcases HBL.out b hb with h | h
    ·exact HOB.out b h
    ·right
     have:=HSZ.out
     simp at h
     omega
   have hsn : w3.heap.size ≤ w5.heap.size:=by have:=HSZ.out;have:=HG.out.size;simp at this;omega
   have HVN:=Hd hvn;have HBN:=Hd hbn;have HSN2:=Hd hsn
   clear hvn hbn hsn
   go_wp2_with fail
   exact ⟨⟨j + 1,by omega,by go_num,HN.out,HF3.out,HVN.out,HBN.out,HSN2.out⟩,by simp [intOf];omega⟩
  ·obtain rfl : j = is.length:=by omega
   rw [List.take_length] at HO
   go_wp2_with fail
   go_ret
   exact ⟨_,rfl,by rw [HSQ.out];exact HO.out,HFQ.out⟩
theorem r11Repair_any {w : World} {v : Value} {r : Rep_} (h : RpV w v r) :
  Calls Tryz.prog 46 #[v] w fun e w' => ∃ v',e = .returned v' ∧ OwnV w' w.heap.size 24 W16 v' (seqsOf r.base r.m) ∧ Fr [] w w':=by
 obtain ⟨vb,rfl,hb⟩:=h
 obtain ⟨a,n,c,rfl⟩:=Sl.isSlice hb
 obtain ⟨w1,e1,hF1,hB1,hs1⟩:=one_new w (rpc r (.slice a n c)) 38
 have HF:=Hd hF1;have HR:=Hd hB1;have E1:=Hd e1
 clear hF1 hB1 e1 hs1 hb
 have x8:=HR.out.cell 8;have x9:=HR.out.cell 9;have x10:=HR.out.cell 10
 simp only [rpc,zz7,zz8,zz9] at x8 x9 x10
 go_enter Tryz.func46,Tryz.ntmps46
 go_upto_region 1 with fail
 rw [E1.out]
 clear E1
 go_wp2_with fail
 refine (r11Seqs_any r.base r.m).mono ?_
 rintro e w2 ⟨v2,rfl,hV,hF⟩
 have HV : Hid (OwnV w2 w.heap.size 24 W16 v2 (seqsOf r.base r.m)):=Hd (hV.mono HF.out.size)
 have HF:=Hd (HF.out.trans hF)
 obtain ⟨a2,c2,rfl⟩:=hV.shape
 clear hV hF x8 x9 x10
 go_wp2_with fail
 go_ret
 exact ⟨_,rfl,HV.out,HF.out⟩
end Go.Proofs.YtcngfbjmpemehaaGreat
