import Derived.Deep.RegionHeld3
import Derived.Deep.RegionWith
import Derived.Deep.RegionLaw
import Derived.Test.YtcngfbjmpemehaaGreatMp4
import Derived.Test.YtcngfbjmpemehaaGreatMp3
set_option maxRecDepth 100000
set_option maxHeartbeats 16000000
open List renaming getElem_toArray → zz1, getElem_cons_zero → zz2, getElem_cons_succ → zz3, setIfInBounds_toArray → zz4, set_cons_zero → zz5, set_cons_succ → zz6, getElem?_toArray → zz7, getElem?_cons_succ → zz8, getElem?_cons_zero → zz9
open Go.Lib renaming hid → Hd
/- The walk of rtp.padding. -/
namespace Go.Proofs.YtcngfbjmpemehaaGreat
open Go.RowKit

def padN (l : List UInt8) : Nat:=(l.getLast?.map (·.toNat)).getD 0

theorem padding_ok {w : World} (R Q : Nat) {m : Bool} {pt : Int} {sq ts ss pf : Nat} {cs ex pd : Value} {he : Bool} {a : Option Addr} {cap : Nat} {l : List UInt8}
  (hB : Box w Q 93 (pc m pt sq ts ss cs he pf ex (.slice a l.length cap) pd)) (hs : Bytes w (.slice a l.length cap) l) (hsm : l.length ≤ 1099511627776) (hQ : blockOf (.slice a l.length cap) ≠ some Q) (h1 : 1 ≤ padN l) (h2 : padN l ≤ l.length) :
  Calls Tryz.prog 114 #[.pointer (some ⟨R,0,none⟩),.pointer (some ⟨Q,0,none⟩)] w fun e w' => ∃ v1 v2,e = .returned (.tuple #[]) ∧
   Box w' Q 93 (pc m pt sq ts ss cs he pf ex v1 v2) ∧ Bytes w' v1 (l.take (l.length - padN l)) ∧ blockOf v1 = blockOf (.slice a l.length cap) ∧ OwnB w' w.heap.size v2 (l.drop (l.length - padN l)) ∧ Fr [Q] w w':=by
 have hne : 0 < l.length:=by omega
 obtain ⟨b,o,rfl,hb,hcell⟩:=hs.at_ hne
 have hlast : l[l.length - 1]? = some (l[l.length - 1]'(by omega)):=List.getElem?_eq_getElem _
 have hc:=hcell (l.length - 1) (B8 (l[l.length - 1]'(by omega))) (by rw [List.getElem?_map,hlast];rfl)
 have hp : padN l = (l[l.length - 1]'(by omega)).toNat:=by
  unfold padN
  rw [List.getLast?_eq_getElem?,hlast]
  rfl
 unfold B8 at hc
 rw [← hp] at hc
 have hlt : padN l ≤ 255:=by rw [hp];have:=(l[l.length - 1]'(by omega)).toNat_lt;omega
 have HP:=Hd hp;have HB:=Hd hB;have HS:=Hd hs
 have b9:=hB.cell 9;have b10:=hB.cell 10;have f9:=hB.free 9;have f10:=hB.free 10
 simp only [pc,zz7,zz8,zz9] at b9 b10
 have hlc : l.length ≤ cap:=(hs.len).2.1
 have hz : (((padN l : Nat) : Int) == 0) = false:=by simp;omega
 clear hp hB hs hcell hlast
 generalize hpn : padN l = n at *
 have HN:=Hd hpn
 clear hpn
 go_enter Tryz.func114,Tryz.ntmps114
 go_wp2_with fail
 go_quiet (fail)
 go_wp2_with fail
 rw [show ((l.length : Int) - (n : Int)) = ((l.length - n : Nat) : Int) from by omega]
 generalize hK : l.length - n = K
 have HK:=Hd hK
 have hKl : K ≤ l.length:=by omega
 have hKc : K ≤ cap:=by omega
 have HS2:=Hd (Sl.sub' HS.out K (l.length - K) (by omega))
 clear hK hc hz
 have HS3:=Hd (HS2.out.keep ((Fr.refl [] w).drewN nq))
 have HB3:=Hd (HB.out.keep ((Fr.refl [] w).drewN nq))
 have HF3:=Hd ((Fr.refl [Q] w).drewN nq)
 have hQlt : Q < w.heap.size:=HB.out.lt
 generalize hw3 : w.drewN nq = w3 at HS3 HB3 HF3 ⊢
 clear hw3
 have b9:=HB3.out.cell 9;have b10:=HB3.out.cell 10;have f9:=HB3.out.free 9;have f10:=HB3.out.free 10
 simp only [pc,zz7,zz8,zz9] at b9 b10
 have e1 : ((l.map B8).drop K).take (l.length - K) = (l.drop K).map B8:=by rw [List.take_of_length_le (by simp),List.map_drop]
 rw [e1] at HS3
 have hcl:=Hd (fun (w' : World) (hf : Fr [] w3 w') => cloneB_any (w:=w') (l:=l.drop K) (HS3.out.keep hf) (by simp;omega))
 clear e1
 go_region_with
  (first | (go_at_call 141;refine (hcl.out _ (Fr.refl _ _).drew).mono ?_;rintro e w4 ⟨v2,rfl,hO,hF4⟩;obtain ⟨a4,n4,c4,rfl⟩:=hO.isSlice;have HO:=Hd hO;have HF4:=Hd ((Fr.refl [] w3).drew.trans hF4);clear hO hF4;have HB4:=Hd (HB3.out.keep HF4.out);have c9:=HB4.out.cell 9;have c10:=HB4.out.cell 10;have g9:=HB4.out.free 9;have g10:=HB4.out.free 10;simp only [pc,zz7,zz8,zz9] at c9 c10;generalize (if cap = K then (some ⟨b,o,none⟩ : Option Addr) else some ⟨b,o + K,none⟩) = q))
 all_goals
  go_wp2_with fail
  go_end0
  have hF5 : Fr [Q] w4 ((w4.setCell ⟨Q,9,none⟩ (.slice (some ⟨b,o,none⟩) K K)).setCell ⟨Q,10,none⟩ (.slice a4 n4 c4)):=((Fr.refl [Q] w4).set (g:=Q) (i:=9) (.inl (by simp)) _).set (g:=Q) (i:=10) (.inl (by simp)) _
  have hsz : w.heap.size ≤ w3.heap.size:=HF3.out.size
  refine ⟨.slice (some ⟨b,o,none⟩) K K,.slice a4 n4 c4,rfl,(HB4.out.set 9 _).set 10 _,?_,rfl,?_,(HF3.out.quiet HF4.out).trans hF5⟩
  ·rw [HK.out]
   have h4 : Sl w4 (.slice (some ⟨b,o,none⟩) l.length cap) (l.map B8):=(Sl.fr HS.out (HF3.out.quiet HF4.out) (fun b' hb' hm => hQ (by simp at hm;rw [hb',hm])))
   have h5:=(h4.fr hF5 (fun b' hb' hm => hQ (by simp at hm;rw [hb',hm]))).pre K K hKl (Nat.le_refl _) hKc
   rw [← List.map_take] at h5
   exact h5
  ·rw [HK.out]
   have h6 : OwnB w4 w.heap.size (.slice a4 n4 c4) (l.drop K):=HO.out.mono (by simpa using hsz)
   exact h6.low hF5 (by simp;omega)

theorem padding_none {w : World} (R Q : Nat) {m : Bool} {pt : Int} {sq ts ss pf : Nat} {cs ex pd : Value} {he : Bool} {a : Option Addr} {cap : Nat} 
  (hB : Box w Q 93 (pc m pt sq ts ss cs he pf ex (.slice a 0 cap) pd)) :
  Calls Tryz.prog 114 #[.pointer (some ⟨R,0,none⟩),.pointer (some ⟨Q,0,none⟩)] w fun e w' => e = .panicked (faultOf 21) ∧ ∃ n,w' = w.drewN n:=by
 have b9:=hB.cell 9
 simp only [pc,zz7,zz8,zz9] at b9
 clear hB
 go_enter Tryz.func114,Tryz.ntmps114
 go_wp2_with fail
 refine (fail_any _ 21 (by decide) _).mono ?_
 rintro e w1 ⟨rfl,rfl⟩
 exact ⟨rfl,rfl,0,rfl⟩

theorem padding_bad {w : World} (R Q : Nat) {m : Bool} {pt : Int} {sq ts ss pf : Nat} {cs ex pd : Value} {he : Bool} {a : Option Addr} {cap : Nat} {l : List UInt8}
  (hB : Box w Q 93 (pc m pt sq ts ss cs he pf ex (.slice a l.length cap) pd)) (hs : Bytes w (.slice a l.length cap) l) (hsm : l.length ≤ 1099511627776) (h2 : padN l = 0 ∨ l.length < padN l) :
  Calls Tryz.prog 114 #[.pointer (some ⟨R,0,none⟩),.pointer (some ⟨Q,0,none⟩)] w fun e w' => e = .panicked (faultOf 21) ∧ ∃ n,w' = w.drewN n:=by
 by_cases h0 : l.length = 0
 ·rw [h0] at hB
  exact padding_none R Q hB
 have hne : 0 < l.length:=by omega
 obtain ⟨b,o,rfl,hb,hcell⟩:=hs.at_ hne
 have hlast : l[l.length - 1]? = some (l[l.length - 1]'(by omega)):=List.getElem?_eq_getElem _
 have hc:=hcell (l.length - 1) (B8 (l[l.length - 1]'(by omega))) (by rw [List.getElem?_map,hlast];rfl)
 have hp : padN l = (l[l.length - 1]'(by omega)).toNat:=by
  unfold padN
  rw [List.getLast?_eq_getElem?,hlast]
  rfl
 unfold B8 at hc
 rw [← hp] at hc
 have hlt : padN l ≤ 255:=by rw [hp];have:=(l[l.length - 1]'(by omega)).toNat_lt;omega
 have b9:=hB.cell 9
 simp only [pc,zz7,zz8,zz9] at b9
 clear hp hB hs hcell hlast h0
 generalize padN l = n at *
 rcases h2 with rfl | h2
 all_goals
  go_enter Tryz.func114,Tryz.ntmps114
  go_wp2_with fail
  go_quiet (fail)
 ·go_wp2_with fail
  refine (fail_any _ 21 (by decide) _).mono ?_
  rintro e w1 ⟨rfl,rfl⟩
  exact ⟨rfl,rfl,_,rfl⟩
 ·have hz : ((n : Int) == 0) = false:=by simp;omega
  go_wp2_with fail
  refine (fail_any _ 21 (by decide) _).mono ?_
  rintro e w1 ⟨rfl,rfl⟩
  exact ⟨rfl,rfl,_,rfl⟩
end Go.Proofs.YtcngfbjmpemehaaGreat

/- The walk of rtp.parse: what it makes of bytes. -/
namespace Go.Proofs.YtcngfbjmpemehaaGreat
open Go.RowKit

structure Pkt where
 marker : Bool
 pt : Int
 seq : UInt16
 ts : UInt32
 ssrc : UInt32
 csrc : List UInt32
 hasExt : Bool
 profile : UInt16
 ext : List UInt8
 payload : List UInt8
 pad : List UInt8
 deriving DecidableEq

def PktV (w : World) (base : Nat) (v : Value) (p : Pkt) : Prop :=
 ∃ cs ex pl pd,v = .agg (pc p.marker p.pt p.seq.toNat p.ts.toNat p.ssrc.toNat cs p.hasExt p.profile.toNat ex pl pd) ∧
  Words w cs p.csrc ∧ Bytes w ex p.ext ∧ Bytes w pl p.payload ∧ Bytes w pd p.pad ∧
  ∀ b,(blockOf cs = some b ∨ blockOf ex = some b ∨ blockOf pl = some b ∨ blockOf pd = some b) → base ≤ b

def hdr (l : List UInt8) (k1 k2 : Nat) (he : Bool) : Pkt :=
 {marker:=nb l 1 1 / 128 % 2 == 1,pt:=(nb l 1 1 % 128 : Nat),seq:=UInt16.ofNat (nb l 2 2),ts:=UInt32.ofNat (nb l 4 4),ssrc:=UInt32.ofNat (nb l 8 4),
  csrc:=w32s l 12 (nb l 0 1 % 16),hasExt:=he,profile:=if he then UInt16.ofNat (nb l k1 2) else 0,ext:=if he then (l.drop (k1 + 4)).take (4 * nb l (k1 + 2) 2) else [],payload:=l.drop k2,pad:=[] }
def parseP (l : List UInt8) : Except Int Pkt :=
 if l.length < 1 then .error 20
 else if nb l 0 1 / 64 ≠ 2 then .error 21
 else if l.length < 12 then .error 20
 else
  let k1:=12 + 4 * (nb l 0 1 % 16)
  if l.length < k1 then .error 20 else
  let he:=nb l 0 1 / 16 % 2 == 1
  let k2:=if he then k1 + 4 + 4 * nb l (k1 + 2) 2 else k1
  if l.length < k2 then .error 20 else
  if nb l 0 1 / 32 % 2 == 1 then
   if padN (l.drop k2) = 0 ∨ (l.drop k2).length < padN (l.drop k2) then .error 21
   else .ok { hdr l k1 k2 he with payload:=(l.drop k2).take ((l.drop k2).length - padN (l.drop k2)),pad:=(l.drop k2).drop ((l.drop k2).length - padN (l.drop k2)) }
  else .ok (hdr l k1 k2 he)

theorem parse_any {w : World} {R : Nat} {v : Value} {l : List UInt8} (hR : Rd w R v 0 l) :
  Calls Tryz.prog 79 #[.pointer (some ⟨R,0,none⟩)] w fun e w' => (∃ v' p k,parseP l = .ok p ∧ e = .returned v' ∧ PktV w' w.heap.size v' p ∧ Rd w' R v k l ∧ k = l.length ∧ Fr [R] w w') ∨ (∃ k,parseP l = .error k ∧ e = .panicked (faultOf k) ∧ Fr [R] w w'):=by
 have hRlt : R < w.heap.size:=World.block_lt_of_cell? _ _ hR.c0
 go_enter Tryz.func79,Tryz.ntmps79
 go_wp2_with fail
 have hF0:=(Fr.refl [R] w).alloc (.cells #[.bool false,.int .i64 0,.int .u16 0,.int .u32 0,.int .u32 0,.slice none 0 0,.bool false,.int .u16 0,.slice none 0 0,.slice none 0 0,.slice none 0 0] 93)
 have hR0:=hR.keep ((Fr.refl [] w).alloc (.cells #[.bool false,.int .i64 0,.int .u16 0,.int .u32 0,.int .u32 0,.slice none 0 0,.bool false,.int .u16 0,.slice none 0 0,.slice none 0 0,.slice none 0 0] 93))
 have hX0:=Box.new w 93 #[.bool false,.int .i64 0,.int .u16 0,.int .u32 0,.int .u32 0,.slice none 0 0,.bool false,.int .u16 0,.slice none 0 0,.slice none 0 0,.slice none 0 0]
 generalize hw0 : w.alloc (.cells #[.bool false,.int .i64 0,.int .u16 0,.int .u32 0,.int .u32 0,.slice none 0 0,.bool false,.int .u16 0,.slice none 0 0,.slice none 0 0,.slice none 0 0] 93) = w0 at hF0 hR0 hX0 ⊢
 have hXR : w.heap.size ≠ R:=by omega
 have hvlt:=hR.vlt
 clear hw0
 by_cases h1 : l.length < 1
 ·refine (rbyte_short hR0 (by omega)).mono ?_
  rintro e w1 ⟨rfl,n,rfl⟩
  go_wp2_with fail
  exact ⟨rfl,.inr ⟨20,by unfold parseP;rw [if_pos h1],rfl,hF0.drewN n⟩⟩
 refine (rbyte_ok hR0 (by omega)).mono ?_
 rintro e w1 ⟨rfl,hR1,hF1⟩
 have H1:=Hd hR1;have H2:=Hd (hF0.trans hF1);have HX:=Hd (hX0.fr hF1 (by simpa using hXR))
 have hb0:=nb_lt l 0 1
 clear hR0 hX0 hF0 hR1 hF1
 by_cases h2 : ¬ ((nb l 0 1 : Nat) : Int) / 64 = 2
 ·have h2' : ((((nb l 0 1 : Nat) : Int) / 64) != 2) = true:=by simpa using h2
  go_wp2_with fail
  refine (fail_any _ 21 (by decide) _).mono ?_
  rintro e w2 ⟨rfl,rfl⟩
  exact ⟨rfl,.inr ⟨21,by unfold parseP;rw [if_neg h1,if_pos (by omega)],rfl,H2.out⟩⟩
 have h2' : ((((nb l 0 1 : Nat) : Int) / 64) != 2) = false:=by simpa using h2
 have h2n : ¬ nb l 0 1 / 64 ≠ 2:=by omega
 have H2E:=Hd h2
 clear h2
 go_wp2_with fail
 by_cases hk1 : l.length < 0 + 1 + 1
 ·refine (rbyte_short H1.out hk1).mono ?_
  rintro e w2 ⟨rfl,nq,rfl⟩
  go_wp2_with fail
  exact ⟨rfl,.inr ⟨20,by unfold parseP;rw [if_neg h1,if_neg h2n,if_pos (by omega)],rfl,H2.out.drewN nq⟩⟩
 refine (rbyte_ok H1.out (by omega)).mono ?_
 rintro e w2 ⟨rfl,hRn,hFn⟩
 have H1':=Hd hRn;have H2':=Hd (H2.out.trans hFn);have HX':=Hd (HX.out.fr hFn (by simpa using hXR))
 clear hRn hFn H1 H2 HX
 have H1:=H1';have H2:=H2';have HX:=HX'
 clear H1' H2' HX'
 have hnb1:=nb_lt l (0 + 1) 1
 go_wp2_with fail
 by_cases hk2 : l.length < 0 + 1 + 1 + 2
 ·refine (rword_short H1.out hk2).mono ?_
  rintro e w3 ⟨rfl,nq,rfl⟩
  go_wp2_with fail
  exact ⟨rfl,.inr ⟨20,by unfold parseP;rw [if_neg h1,if_neg h2n,if_pos (by omega)],rfl,H2.out.drewN nq⟩⟩
 refine (rword_ok H1.out (by omega)).mono ?_
 rintro e w3 ⟨rfl,hRn,hFn⟩
 have H1':=Hd hRn;have H2':=Hd (H2.out.trans hFn);have HX':=Hd (HX.out.fr hFn (by simpa using hXR))
 clear hRn hFn H1 H2 HX
 have H1:=H1';have H2:=H2';have HX:=HX'
 clear H1' H2' HX'
 have hnb2:=nb_lt l (0 + 1 + 1) 2
 go_wp2_with fail
 by_cases hk3 : l.length < 0 + 1 + 1 + 2 + 4
 ·refine (rlong_short H1.out hk3).mono ?_
  rintro e w4 ⟨rfl,nq,rfl⟩
  go_wp2_with fail
  exact ⟨rfl,.inr ⟨20,by unfold parseP;rw [if_neg h1,if_neg h2n,if_pos (by omega)],rfl,H2.out.drewN nq⟩⟩
 refine (rlong_ok H1.out (by omega)).mono ?_
 rintro e w4 ⟨rfl,hRn,hFn⟩
 have H1':=Hd hRn;have H2':=Hd (H2.out.trans hFn);have HX':=Hd (HX.out.fr hFn (by simpa using hXR))
 clear hRn hFn H1 H2 HX
 have H1:=H1';have H2:=H2';have HX:=HX'
 clear H1' H2' HX'
 have hnb3:=nb_lt l (0 + 1 + 1 + 2) 4
 go_wp2_with fail
 by_cases hk4 : l.length < 0 + 1 + 1 + 2 + 4 + 4
 ·refine (rlong_short H1.out hk4).mono ?_
  rintro e w5 ⟨rfl,nq,rfl⟩
  go_wp2_with fail
  exact ⟨rfl,.inr ⟨20,by unfold parseP;rw [if_neg h1,if_neg h2n,if_pos (by omega)],rfl,H2.out.drewN nq⟩⟩
 refine (rlong_ok H1.out (by omega)).mono ?_
 rintro e w5 ⟨rfl,hRn,hFn⟩
 have H1':=Hd hRn;have H2':=Hd (H2.out.trans hFn);have HX':=Hd (HX.out.fr hFn (by simpa using hXR))
 clear hRn hFn H1 H2 HX
 have H1:=H1';have H2:=H2';have HX:=HX'
 clear H1' H2' HX'
 have hnb4:=nb_lt l (0 + 1 + 1 + 2 + 4) 4
 go_wp2_with fail
 generalize hV : (#[.bool (bits .and .i64 ((nb l 1 1 : Nat) : Int) 128 != 0),.int .i64 (bits .andNot .i64 ((nb l 1 1 : Nat) : Int) 128),.int .u16 (nb l 2 2 : Nat),.int .u32 (nb l 4 4 : Nat),.int .u32 (nb l 8 4 : Nat),.slice none 0 0,.bool false,.int .u16 0,.slice none 0 0,.slice none 0 0,.slice none 0 0] : Array Value) = V0
 have hb1:=nb_lt l 1 1
 have hV0 : V0 = pc (nb l 1 1 / 128 % 2 == 1) ((nb l 1 1 % 128 : Nat) : Int) (nb l 2 2) (nb l 4 4) (nb l 8 4) (.slice none 0 0) false 0 (.slice none 0 0) (.slice none 0 0) (.slice none 0 0):=by
  rw [← hV,byte_and128 _ (by omega),byte_andNot128 _ (by omega)]
  have : ((((nb l 1 1 / 128 % 2 * 128 : Nat) : Int)) != 0) = (nb l 1 1 / 128 % 2 == 1):=by
   rcases Nat.mod_two_eq_zero_or_one (nb l 1 1 / 128) with h | h <;> rw [h] <;> rfl
  rw [this]
  rfl
 have hB6:=Box.new w5 93 V0
 have hF6:=(Fr.refl [] w5).alloc (.cells V0 93)
 generalize hQ : w5.heap.size = Q at hB6 ⊢
 have hQl : Q = w5.heap.size:=hQ.symm
 generalize hw6 : w5.alloc (.cells V0 93) = w6 at hB6 hF6 ⊢
 rw [hV0] at hB6
 have hR6:=H1.out.keep hF6
 have hX6:=HX.out.keep hF6
 have hF06:=H2.out.quiet hF6
 have hQW : w.heap.size < Q:=by rw [hQl];exact HX.out.lt
 have hQv : liveOf v ≠ some Q:=fun e => by have:=hvlt Q e;omega
 clear hw6 hV hV0 hQ hQl H1 H2 HX hF6
 rw [byte_and15 _ (by omega)]
 replace hR6 : Rd w6 R v 12 l:=hR6
 have HN:=Hd (show nb l 0 1 % 16 ≤ 4096 by omega)
 by_cases hkW : l.length < (12 + 4 * (nb l 0 1 % 16))
 ·refine (words_short hR6 (nb l 0 1 % 16) HN.out (by omega)).mono ?_
  rintro e w7 ⟨rfl,hF7⟩
  exact ⟨rfl,.inr ⟨20,by unfold parseP;rw [if_neg h1,if_neg h2n,if_neg (by omega)];simp only [hkW,if_true],rfl,hF06.trans hF7⟩⟩
 refine (words_ok hR6 (nb l 0 1 % 16) HN.out (by omega)).mono ?_
 rintro e w7 ⟨cs,rfl,hO7,hR7,hF7⟩
 obtain ⟨a7,n7,c7,rfl⟩:=hO7.isSlice
 have hB7:=hB6.fr hF7 (by simp;omega)
 have hX7:=hX6.fr hF7 (by simpa using hXR)
 have hQw6 : Q < w6.heap.size:=hB6.lt
 have HB:=Hd hB7;have HX:=Hd hX7;have H1:=Hd hR7;have H2:=Hd (hF06.trans hF7);have HO:=Hd hO7
 have b5:=hB7.cell 5;have f5:=hB7.free 5
 simp only [pc,zz7,zz8,zz9] at b5
 clear hB7 hX7 hR7 hF7 hO7 hB6 hX6 hR6 hF06
 have hne:=hQW
 by_cases he : nb l 0 1 / 16 % 2 = 1
 ·have t16 : (bits .and .i64 ((nb l 0 1 : Nat) : Int) 16 != 0) = true:=by rw [byte_and16 _ (by omega)];simp;omega
  have t16' : (nb l 0 1 / 16 % 2 == 1) = true:=by simp;omega
  have T16:=Hd t16'
  clear t16'
  go_wp2_with fail
  have hB8:=HB.out.set 5 (.slice a7 n7 c7)
  have hF8:=(Fr.refl [Q] w7).set (g:=Q) (i:=5) (.inl (by simp)) (.slice a7 n7 c7)
  generalize hw8 : w7.setCell ⟨Q,5,none⟩ (.slice a7 n7 c7) = w8 at hB8 hF8 ⊢
  clear hw8 b5 f5
  replace hB8 : Box w8 Q 93 (pc (nb l 1 1 / 128 % 2 == 1) ((nb l 1 1 % 128 : Nat) : Int) (nb l 2 2) (nb l 4 4) (nb l 8 4) (.slice a7 n7 c7) false 0 (.slice none 0 0) (.slice none 0 0) (.slice none 0 0)):=hB8
  have hR8:=H1.out.fr hF8 (by simp;omega) (fun b hb hm => hQv (by simp at hm;rw [hb,hm]))
  have hX8:=HX.out.fr hF8 (by simp;omega)
  have hO8:=HO.out.low hF8 (by simp;omega)
  have hF08:=H2.out.step hF8 (by simp;omega)
  clear hF8 HB HX H1 H2 HO
  have hK2 : (if (nb l 0 1 / 16 % 2 == 1) = true then (12 + 4 * (nb l 0 1 % 16)) + 4 + 4 * nb l ((12 + 4 * (nb l 0 1 % 16)) + 2) 2 else (12 + 4 * (nb l 0 1 % 16))) = (12 + 4 * (nb l 0 1 % 16)) + 4 + 4 * nb l ((12 + 4 * (nb l 0 1 % 16)) + 2) 2:=by rw [T16.out];rfl
  by_cases hkE : l.length < (12 + 4 * (nb l 0 1 % 16)) + 4 + 4 * nb l ((12 + 4 * (nb l 0 1 % 16)) + 2) 2
  ·refine (extension_short hR8 Q hB8 (by omega) hQv hkE).mono ?_
   rintro e w9 ⟨rfl,hF9⟩
   exact ⟨rfl,.inr ⟨20,by unfold parseP;rw [if_neg h1,if_neg h2n,if_neg (by omega)];simp only [hkW,if_false];rw [hK2,if_pos hkE],rfl,hF08.step hF9 (by simp;omega)⟩⟩
  refine (extension_ok hR8 Q hB8 (by omega) hQv (by omega) (by omega)).mono ?_
  rintro e w9 ⟨ex,rfl,hE9,hB9,hR9,hF9⟩
  have hX9:=hX8.fr hF9 (by simp;omega)
  have hO9:=hO8.low hF9 (by simp;omega)
  have hF09:=hF08.step hF9 (by simp;omega)
  have hsz8 : w.heap.size ≤ w8.heap.size:=hF08.size
  have hQE : Q < w8.heap.size:=hB8.lt
  have hEb:=hsz8
  clear hF9 hF08 hX8 hO8 hB8 hR8
  have HB:=Hd hB9;have HX:=Hd hX9;have H1:=Hd hR9;have H2:=Hd hF09;have HO:=Hd hO9;have HE:=Hd hE9
  clear hB9 hX9 hR9 hF09 hO9 hE9
  go_wp2_with fail
  refine (rest_any H1.out).mono ?_
  rintro e w10 ⟨pl,rfl,hP,hR10,hF10⟩
  obtain ⟨a10,n10,c10,rfl⟩:=hP.isSlice
  have hB10:=HB.out.fr hF10 (by simp;omega)
  have hX10:=HX.out.fr hF10 (by simp;omega)
  have hO10:=HO.out.low hF10 (by simp;omega)
  have hE10:=HE.out.low hF10 (by simp;omega)
  have hsz9 : w.heap.size ≤ w9.heap.size:=H2.out.size
  have hF010:=H2.out.trans hF10
  have hPfresh:=hP.block
  have b9:=hB10.cell 9;have f9:=hB10.free 9
  simp only [pc,zz7,zz8,zz9] at b9
  have hQ9 : Q < w9.heap.size:=HB.out.lt
  clear HB HX H1 H2 HO HE hF10
  have HB:=Hd hB10;have HX:=Hd hX10;have H1:=Hd hR10;have H2:=Hd hF010;have HO:=Hd hO10;have HE:=Hd hE10;have HP:=Hd hP;have HPF:=Hd hPfresh
  clear hB10 hX10 hR10 hF010 hO10 hE10 hP hPfresh
  have hpl : n10 = (l.drop ((12 + 4 * (nb l 0 1 % 16)) + 4 + 4 * nb l ((12 + 4 * (nb l 0 1 % 16)) + 2) 2)).length:=by have:=(HP.out.bytes.len).1;simpa using this
  by_cases hp : nb l 0 1 / 32 % 2 = 1
  ·have t32 : (bits .and .i64 ((nb l 0 1 : Nat) : Int) 32 != 0) = true:=by rw [byte_and32 _ (by omega)];simp;omega
   have t32' : (nb l 0 1 / 32 % 2 == 1) = true:=by simp;omega
   have T32:=Hd t32'
   clear t32'
   have HPL:=Hd hpl
   clear hpl
   go_wp2_with fail
   have hB11:=HB.out.set 9 (.slice a10 n10 c10)
   have hF11:=(Fr.refl [Q] w10).set (g:=Q) (i:=9) (.inl (by simp)) (.slice a10 n10 c10)
   generalize hw11 : w10.setCell ⟨Q,9,none⟩ (.slice a10 n10 c10) = w11 at hB11 hF11 ⊢
   clear hw11 b9 f9
   replace hB11 : Box w11 Q 93 (pc (nb l 1 1 / 128 % 2 == 1) ((nb l 1 1 % 128 : Nat) : Int) (nb l 2 2) (nb l 4 4) (nb l 8 4) (.slice a7 n7 c7) true (nb l (12 + 4 * (nb l 0 1 % 16)) 2) ex (.slice a10 n10 c10) (.slice none 0 0)):=hB11
   have hX11:=HX.out.fr hF11 (by simp;omega)
   have hO11:=HO.out.low hF11 (by simp;omega)
   have hE11:=HE.out.low hF11 (by simp;omega)
   have hP11:=HP.out.low hF11 (by simp;omega)
   have hR11:=H1.out.fr hF11 (by simp;omega) (fun b hb hm => hQv (by simp at hm;rw [hb,hm]))
   have hF011:=H2.out.step hF11 (by simp;omega)
   clear HB HX H1 H2 HO HE HP hF11
   have hPB:=hP11.bytes
   have hPl:=HPL.out
   subst hPl
   by_cases hbad : padN (l.drop ((12 + 4 * (nb l 0 1 % 16)) + 4 + 4 * nb l ((12 + 4 * (nb l 0 1 % 16)) + 2) 2)) = 0 ∨ (l.drop ((12 + 4 * (nb l 0 1 % 16)) + 4 + 4 * nb l ((12 + 4 * (nb l 0 1 % 16)) + 2) 2)).length < padN (l.drop ((12 + 4 * (nb l 0 1 % 16)) + 4 + 4 * nb l ((12 + 4 * (nb l 0 1 % 16)) + 2) 2))
   ·refine (padding_bad R Q hB11 hPB (by have:=hR.small;simp;omega) hbad).mono ?_
    rintro e w12 ⟨rfl,nq,rfl⟩
    exact ⟨rfl,.inr ⟨21,by unfold parseP;rw [if_neg h1,if_neg h2n,if_neg (by omega)];simp only [hkW,if_false];rw [hK2,if_neg (by omega),if_pos T32.out,if_pos hbad],rfl,hF011.drewN nq⟩⟩
   refine (padding_ok R Q hB11 hPB (by have:=hR.small;simp;omega) (fun e => by have:=(hP11.block Q e).1;omega) (by omega) (by omega)).mono ?_
   rintro e w12 ⟨v1,v2,rfl,hB12,hV1,hV1b,hV2,hF12⟩
   have hX12:=hX11.fr hF12 (by simp;omega)
   have hO12:=hO11.low hF12 (by simp;omega)
   have hE12:=hE11.low hF12 (by simp;omega)
   have hR12:=hR11.fr hF12 (by simp;omega) (fun b hb hm => hQv (by simp at hm;rw [hb,hm]))
   have hF012:=hF011.step hF12 (by simp;omega)
   replace hV2:=hV2.mono (show w.heap.size + 1 ≤ _ from hX11.lt)
   have hV1f : ∀ b,blockOf v1 = some b → w.heap.size < b:=fun b e => by rw [hV1b] at e;have:=(hP11.block b e).1;omega
   have hV2f : ∀ b,blockOf v2 = some b → w.heap.size < b:=fun b e => (hV2.block b e).1
   replace hV2:=hV2.bytes
   clear hF12 hB11 hX11 hO11 hE11 hR11 hF011 hP11 hPB hV1b
   have HB:=Hd hB12;have HX:=Hd hX12;have H1:=Hd hR12;have H2:=Hd hF012;have HO:=Hd hO12;have HE:=Hd hE12;have HV1:=Hd hV1;have HV2:=Hd hV2;have HV1f:=Hd hV1f;have HV2f:=Hd hV2f;have HK2:=Hd hK2
   have hQX : Q ≠ w.heap.size:=by omega
   clear hB12 hX12 hR12 hF012 hO12 hE12 hV1 hV2 hV1f hV2f hK2
   go_wp2_with (first | (refine wpList_load_row rfl 93 (.tmp 5) rfl Q rfl 93 _ _ _ HB.out Tryz.underlying93 rfl (by kernel_rfl) ?_) | (refine wpList_store_row rfl 93 (.tmp 2) (.tmp 45) rfl w.heap.size rfl _ _ rfl 93 HX.out (by kernel_rfl) rfl (oneCell_pc _ _ _ _ _ _ _ _ _ _ _ (Sl.isSlice HO.out.words) (Sl.isSlice HE.out.bytes) (Sl.isSlice HV1.out) (Sl.isSlice HV2.out)) ?_;intro w13 hY hG))
   refine bodyPost_ret (results_cell_row rfl _ _ w.heap.size 93 _ (0,0) _ rfl hY Tryz.underlying93 rfl (by kernel_rfl)) rfl (.inl ⟨_,_,l.length,by unfold parseP;rw [if_neg h1,if_neg h2n,if_neg (by omega)];simp only [hkW,if_false];rw [HK2.out,if_neg (by omega),if_pos T32.out,if_neg hbad],rfl,?_,H1.out.fr hG (by simp;omega) (fun b hb hm => by have:=hvlt b hb;simp at hm;omega),rfl,H2.out.step hG (by simp)⟩)
   have hsG : ∀ (vv : Value),(∀ b,blockOf vv = some b → w.heap.size < b) → ∀ b,blockOf vv = some b → b ∉ [w.heap.size]:=fun vv h b hb hm => by have:=h b hb;simp at hm;omega
   have hf1 : ∀ b,blockOf (.slice a7 n7 c7) = some b → w.heap.size < b:=fun b hb => by have:=(HO.out.block b hb).1;omega
   have hf2 : ∀ b,blockOf ex = some b → w.heap.size < b:=fun b hb => by have:=(HE.out.block b hb).1;omega
   refine ⟨.slice a7 n7 c7,ex,v1,v2,?_,HO.out.words.fr hG (hsG _ hf1),?_,HV1.out.fr hG (hsG _ HV1f.out),HV2.out.fr hG (hsG _ HV2f.out),?_⟩
   ·simp only [hdr,T16.out,u16_nb,u32_nb,if_true,if_false,Bool.false_eq_true] <;> rfl
   ·simp only [hdr,T16.out,if_true,if_false,Bool.false_eq_true]
    exact HE.out.bytes.fr hG (hsG _ hf2)
   ·rintro b (h | h | h | h)
    ·exact Nat.le_of_lt (hf1 b h)
    ·exact Nat.le_of_lt (hf2 b h)
    ·exact Nat.le_of_lt (HV1f.out b h)
    ·exact Nat.le_of_lt (HV2f.out b h)
  ·have t32 : (bits .and .i64 ((nb l 0 1 : Nat) : Int) 32 != 0) = false:=by rw [byte_and32 _ (by omega)];simp;omega
   have t32' : (nb l 0 1 / 32 % 2 == 1) = false:=by simp;omega
   have T32:=Hd t32'
   clear t32'
   have HPL:=Hd hpl
   clear hpl
   go_upto_region 12 with (fail)
   have hB11:=HB.out.set 9 (.slice a10 n10 c10)
   have hF11:=(Fr.refl [Q] w10).set (g:=Q) (i:=9) (.inl (by simp)) (.slice a10 n10 c10)
   generalize hw11 : w10.setCell ⟨Q,9,none⟩ (.slice a10 n10 c10) = w11 at hB11 hF11 ⊢
   clear hw11 b9 f9
   replace hB11 : Box w11 Q 93 (pc (nb l 1 1 / 128 % 2 == 1) ((nb l 1 1 % 128 : Nat) : Int) (nb l 2 2) (nb l 4 4) (nb l 8 4) (.slice a7 n7 c7) true (nb l (12 + 4 * (nb l 0 1 % 16)) 2) ex (.slice a10 n10 c10) (.slice none 0 0)):=hB11
   have hX11:=HX.out.fr hF11 (by simp;omega)
   have hO11:=HO.out.low hF11 (by simp;omega)
   have hE11:=HE.out.low hF11 (by simp;omega)
   have hP11:=HP.out.low hF11 (by simp;omega)
   have hR11:=H1.out.fr hF11 (by simp;omega) (fun b hb hm => hQv (by simp at hm;rw [hb,hm]))
   have hF011:=H2.out.step hF11 (by simp;omega)
   clear HB HX H1 H2 HO HE HP hF11
   obtain ⟨w12,hw12⟩ : ∃ w12,w12 = w11:=⟨_,rfl⟩
   rw [← hw12] at hB11 hR11 hX11 hO11 hF011 hE11 hP11 ⊢
   clear hw12
   have hB12:=hB11;have hX12:=hX11;have hO12:=hO11;have hE12:=hE11;have hR12:=hR11;have hF012:=hF011
   have hV1:=hP11.bytes
   have hV1f : ∀ b,blockOf (.slice a10 n10 c10) = some b → w.heap.size < b:=fun b e => by have:=(hP11.block b e).1;omega
   have hV2 : Bytes w12 (.slice none 0 0) []:=Sl.nil _
   have hV2f : ∀ b,blockOf (.slice none 0 0) = some b → w.heap.size < b:=fun b e => by simp [blockOf] at e
   clear hB11 hR11 hX11 hO11 hF011 hE11 hP11
   have HB:=Hd hB12;have HX:=Hd hX12;have H1:=Hd hR12;have H2:=Hd hF012;have HO:=Hd hO12;have HE:=Hd hE12;have HV1:=Hd hV1;have HV2:=Hd hV2;have HV1f:=Hd hV1f;have HV2f:=Hd hV2f;have HK2:=Hd hK2
   have hQX : Q ≠ w.heap.size:=by omega
   clear hB12 hX12 hR12 hF012 hO12 hE12 hV1 hV2 hV1f hV2f hK2
   go_wp2_with (first | (refine wpList_load_row rfl 93 (.tmp 5) rfl Q rfl 93 _ _ _ HB.out Tryz.underlying93 rfl (by kernel_rfl) ?_) | (refine wpList_store_row rfl 93 (.tmp 2) (.tmp 45) rfl w.heap.size rfl _ _ rfl 93 HX.out (by kernel_rfl) rfl (oneCell_pc _ _ _ _ _ _ _ _ _ _ _ (Sl.isSlice HO.out.words) (Sl.isSlice HE.out.bytes) (Sl.isSlice HV1.out) (Sl.isSlice HV2.out)) ?_;intro w13 hY hG))
   refine bodyPost_ret (results_cell_row rfl _ _ w.heap.size 93 _ (0,0) _ rfl hY Tryz.underlying93 rfl (by kernel_rfl)) rfl (.inl ⟨_,_,l.length,by unfold parseP;rw [if_neg h1,if_neg h2n,if_neg (by omega)];simp only [hkW,if_false];rw [HK2.out,if_neg (by omega),if_neg (by rw [T32.out];simp)],rfl,?_,H1.out.fr hG (by simp;omega) (fun b hb hm => by have:=hvlt b hb;simp at hm;omega),rfl,H2.out.step hG (by simp)⟩)
   have hsG : ∀ (vv : Value),(∀ b,blockOf vv = some b → w.heap.size < b) → ∀ b,blockOf vv = some b → b ∉ [w.heap.size]:=fun vv h b hb hm => by have:=h b hb;simp at hm;omega
   have hf1 : ∀ b,blockOf (.slice a7 n7 c7) = some b → w.heap.size < b:=fun b hb => by have:=(HO.out.block b hb).1;omega
   have hf2 : ∀ b,blockOf ex = some b → w.heap.size < b:=fun b hb => by have:=(HE.out.block b hb).1;omega
   refine ⟨.slice a7 n7 c7,ex,(.slice a10 n10 c10),(.slice none 0 0),?_,HO.out.words.fr hG (hsG _ hf1),?_,HV1.out.fr hG (hsG _ HV1f.out),HV2.out.fr hG (hsG _ HV2f.out),?_⟩
   ·simp only [hdr,T16.out,u16_nb,u32_nb,if_true,if_false,Bool.false_eq_true] <;> rfl
   ·simp only [hdr,T16.out,if_true,if_false,Bool.false_eq_true]
    exact HE.out.bytes.fr hG (hsG _ hf2)
   ·rintro b (h | h | h | h)
    ·exact Nat.le_of_lt (hf1 b h)
    ·exact Nat.le_of_lt (hf2 b h)
    ·exact Nat.le_of_lt (HV1f.out b h)
    ·exact Nat.le_of_lt (HV2f.out b h)
 ·have t16 : (bits .and .i64 ((nb l 0 1 : Nat) : Int) 16 != 0) = false:=by rw [byte_and16 _ (by omega)];simp;omega
  have t16' : (nb l 0 1 / 16 % 2 == 1) = false:=by simp;omega
  have T16:=Hd t16'
  clear t16'
  go_wp2_with fail
  have hB8:=HB.out.set 5 (.slice a7 n7 c7)
  have hF8:=(Fr.refl [Q] w7).set (g:=Q) (i:=5) (.inl (by simp)) (.slice a7 n7 c7)
  generalize hw8 : w7.setCell ⟨Q,5,none⟩ (.slice a7 n7 c7) = w8 at hB8 hF8 ⊢
  clear hw8 b5 f5
  replace hB8 : Box w8 Q 93 (pc (nb l 1 1 / 128 % 2 == 1) ((nb l 1 1 % 128 : Nat) : Int) (nb l 2 2) (nb l 4 4) (nb l 8 4) (.slice a7 n7 c7) false 0 (.slice none 0 0) (.slice none 0 0) (.slice none 0 0)):=hB8
  have hR8:=H1.out.fr hF8 (by simp;omega) (fun b hb hm => hQv (by simp at hm;rw [hb,hm]))
  have hX8:=HX.out.fr hF8 (by simp;omega)
  have hO8:=HO.out.low hF8 (by simp;omega)
  have hF08:=H2.out.step hF8 (by simp;omega)
  clear hF8 HB HX H1 H2 HO
  have hK2 : (if (nb l 0 1 / 16 % 2 == 1) = true then (12 + 4 * (nb l 0 1 % 16)) + 4 + 4 * nb l ((12 + 4 * (nb l 0 1 % 16)) + 2) 2 else (12 + 4 * (nb l 0 1 % 16))) = (12 + 4 * (nb l 0 1 % 16)):=by rw [T16.out];rfl
  obtain ⟨w9,hw9⟩ : ∃ w9,w9 = w8:=⟨_,rfl⟩
  rw [← hw9] at hB8 hR8 hX8 hO8 hF08 ⊢
  clear hw9
  have hB9:=hB8;have hR9:=hR8;have hX9:=hX8;have hO9:=hO8;have hF09:=hF08
  have hE9 : OwnB w9 w9.heap.size (.slice none 0 0) []:=World.ownsRow_nil _ _ _ _
  have hQE : Q < w9.heap.size:=hB8.lt
  have hEb : w.heap.size ≤ w9.heap.size:=hF08.size
  clear hB8 hR8 hX8 hO8 hF08
  have HB:=Hd hB9;have HX:=Hd hX9;have H1:=Hd hR9;have H2:=Hd hF09;have HO:=Hd hO9;have HE:=Hd hE9
  clear hB9 hX9 hR9 hF09 hO9 hE9
  go_wp2_with fail
  refine (rest_any H1.out).mono ?_
  rintro e w10 ⟨pl,rfl,hP,hR10,hF10⟩
  obtain ⟨a10,n10,c10,rfl⟩:=hP.isSlice
  have hB10:=HB.out.fr hF10 (by simp;omega)
  have hX10:=HX.out.fr hF10 (by simp;omega)
  have hO10:=HO.out.low hF10 (by simp;omega)
  have hE10:=HE.out.low hF10 (by simp;omega)
  have hsz9 : w.heap.size ≤ w9.heap.size:=H2.out.size
  have hF010:=H2.out.trans hF10
  have hPfresh:=hP.block
  have b9:=hB10.cell 9;have f9:=hB10.free 9
  simp only [pc,zz7,zz8,zz9] at b9
  have hQ9 : Q < w9.heap.size:=HB.out.lt
  clear HB HX H1 H2 HO HE hF10
  have HB:=Hd hB10;have HX:=Hd hX10;have H1:=Hd hR10;have H2:=Hd hF010;have HO:=Hd hO10;have HE:=Hd hE10;have HP:=Hd hP;have HPF:=Hd hPfresh
  clear hB10 hX10 hR10 hF010 hO10 hE10 hP hPfresh
  have hpl : n10 = (l.drop (12 + 4 * (nb l 0 1 % 16))).length:=by have:=(HP.out.bytes.len).1;simpa using this
  by_cases hp : nb l 0 1 / 32 % 2 = 1
  ·have t32 : (bits .and .i64 ((nb l 0 1 : Nat) : Int) 32 != 0) = true:=by rw [byte_and32 _ (by omega)];simp;omega
   have t32' : (nb l 0 1 / 32 % 2 == 1) = true:=by simp;omega
   have T32:=Hd t32'
   clear t32'
   have HPL:=Hd hpl
   clear hpl
   go_wp2_with fail
   have hB11:=HB.out.set 9 (.slice a10 n10 c10)
   have hF11:=(Fr.refl [Q] w10).set (g:=Q) (i:=9) (.inl (by simp)) (.slice a10 n10 c10)
   generalize hw11 : w10.setCell ⟨Q,9,none⟩ (.slice a10 n10 c10) = w11 at hB11 hF11 ⊢
   clear hw11 b9 f9
   replace hB11 : Box w11 Q 93 (pc (nb l 1 1 / 128 % 2 == 1) ((nb l 1 1 % 128 : Nat) : Int) (nb l 2 2) (nb l 4 4) (nb l 8 4) (.slice a7 n7 c7) false 0 (.slice none 0 0) (.slice a10 n10 c10) (.slice none 0 0)):=hB11
   have hX11:=HX.out.fr hF11 (by simp;omega)
   have hO11:=HO.out.low hF11 (by simp;omega)
   have hE11:=HE.out.low hF11 (by simp;omega)
   have hP11:=HP.out.low hF11 (by simp;omega)
   have hR11:=H1.out.fr hF11 (by simp;omega) (fun b hb hm => hQv (by simp at hm;rw [hb,hm]))
   have hF011:=H2.out.step hF11 (by simp;omega)
   clear HB HX H1 H2 HO HE HP hF11
   have hPB:=hP11.bytes
   have hPl:=HPL.out
   subst hPl
   by_cases hbad : padN (l.drop (12 + 4 * (nb l 0 1 % 16))) = 0 ∨ (l.drop (12 + 4 * (nb l 0 1 % 16))).length < padN (l.drop (12 + 4 * (nb l 0 1 % 16)))
   ·refine (padding_bad R Q hB11 hPB (by have:=hR.small;simp;omega) hbad).mono ?_
    rintro e w12 ⟨rfl,nq,rfl⟩
    exact ⟨rfl,.inr ⟨21,by unfold parseP;rw [if_neg h1,if_neg h2n,if_neg (by omega)];simp only [hkW,if_false];rw [hK2,if_neg (by omega),if_pos T32.out,if_pos hbad],rfl,hF011.drewN nq⟩⟩
   refine (padding_ok R Q hB11 hPB (by have:=hR.small;simp;omega) (fun e => by have:=(hP11.block Q e).1;omega) (by omega) (by omega)).mono ?_
   rintro e w12 ⟨v1,v2,rfl,hB12,hV1,hV1b,hV2,hF12⟩
   have hX12:=hX11.fr hF12 (by simp;omega)
   have hO12:=hO11.low hF12 (by simp;omega)
   have hE12:=hE11.low hF12 (by simp;omega)
   have hR12:=hR11.fr hF12 (by simp;omega) (fun b hb hm => hQv (by simp at hm;rw [hb,hm]))
   have hF012:=hF011.step hF12 (by simp;omega)
   replace hV2:=hV2.mono (show w.heap.size + 1 ≤ _ from hX11.lt)
   have hV1f : ∀ b,blockOf v1 = some b → w.heap.size < b:=fun b e => by rw [hV1b] at e;have:=(hP11.block b e).1;omega
   have hV2f : ∀ b,blockOf v2 = some b → w.heap.size < b:=fun b e => (hV2.block b e).1
   replace hV2:=hV2.bytes
   clear hF12 hB11 hX11 hO11 hE11 hR11 hF011 hP11 hPB hV1b
   have HB:=Hd hB12;have HX:=Hd hX12;have H1:=Hd hR12;have H2:=Hd hF012;have HO:=Hd hO12;have HE:=Hd hE12;have HV1:=Hd hV1;have HV2:=Hd hV2;have HV1f:=Hd hV1f;have HV2f:=Hd hV2f;have HK2:=Hd hK2
   have hQX : Q ≠ w.heap.size:=by omega
   clear hB12 hX12 hR12 hF012 hO12 hE12 hV1 hV2 hV1f hV2f hK2
   go_wp2_with (first | (refine wpList_load_row rfl 93 (.tmp 5) rfl Q rfl 93 _ _ _ HB.out Tryz.underlying93 rfl (by kernel_rfl) ?_) | (refine wpList_store_row rfl 93 (.tmp 2) (.tmp 45) rfl w.heap.size rfl _ _ rfl 93 HX.out (by kernel_rfl) rfl (oneCell_pc _ _ _ _ _ _ _ _ _ _ _ (Sl.isSlice HO.out.words) (Sl.isSlice HE.out.bytes) (Sl.isSlice HV1.out) (Sl.isSlice HV2.out)) ?_;intro w13 hY hG))
   refine bodyPost_ret (results_cell_row rfl _ _ w.heap.size 93 _ (0,0) _ rfl hY Tryz.underlying93 rfl (by kernel_rfl)) rfl (.inl ⟨_,_,l.length,by unfold parseP;rw [if_neg h1,if_neg h2n,if_neg (by omega)];simp only [hkW,if_false];rw [HK2.out,if_neg (by omega),if_pos T32.out,if_neg hbad],rfl,?_,H1.out.fr hG (by simp;omega) (fun b hb hm => by have:=hvlt b hb;simp at hm;omega),rfl,H2.out.step hG (by simp)⟩)
   have hsG : ∀ (vv : Value),(∀ b,blockOf vv = some b → w.heap.size < b) → ∀ b,blockOf vv = some b → b ∉ [w.heap.size]:=fun vv h b hb hm => by have:=h b hb;simp at hm;omega
   have hf1 : ∀ b,blockOf (.slice a7 n7 c7) = some b → w.heap.size < b:=fun b hb => by have:=(HO.out.block b hb).1;omega
   have hf2 : ∀ b,blockOf (.slice none 0 0) = some b → w.heap.size < b:=fun b hb => by have:=(HE.out.block b hb).1;omega
   refine ⟨.slice a7 n7 c7,(.slice none 0 0),v1,v2,?_,HO.out.words.fr hG (hsG _ hf1),?_,HV1.out.fr hG (hsG _ HV1f.out),HV2.out.fr hG (hsG _ HV2f.out),?_⟩
   ·simp only [hdr,T16.out,u16_nb,u32_nb,if_true,if_false,Bool.false_eq_true] <;> rfl
   ·simp only [hdr,T16.out,if_true,if_false,Bool.false_eq_true]
    exact HE.out.bytes.fr hG (hsG _ hf2)
   ·rintro b (h | h | h | h)
    ·exact Nat.le_of_lt (hf1 b h)
    ·exact Nat.le_of_lt (hf2 b h)
    ·exact Nat.le_of_lt (HV1f.out b h)
    ·exact Nat.le_of_lt (HV2f.out b h)
  ·have t32 : (bits .and .i64 ((nb l 0 1 : Nat) : Int) 32 != 0) = false:=by rw [byte_and32 _ (by omega)];simp;omega
   have t32' : (nb l 0 1 / 32 % 2 == 1) = false:=by simp;omega
   have T32:=Hd t32'
   clear t32'
   have HPL:=Hd hpl
   clear hpl
   go_upto_region 12 with (fail)
   have hB11:=HB.out.set 9 (.slice a10 n10 c10)
   have hF11:=(Fr.refl [Q] w10).set (g:=Q) (i:=9) (.inl (by simp)) (.slice a10 n10 c10)
   generalize hw11 : w10.setCell ⟨Q,9,none⟩ (.slice a10 n10 c10) = w11 at hB11 hF11 ⊢
   clear hw11 b9 f9
   replace hB11 : Box w11 Q 93 (pc (nb l 1 1 / 128 % 2 == 1) ((nb l 1 1 % 128 : Nat) : Int) (nb l 2 2) (nb l 4 4) (nb l 8 4) (.slice a7 n7 c7) false 0 (.slice none 0 0) (.slice a10 n10 c10) (.slice none 0 0)):=hB11
   have hX11:=HX.out.fr hF11 (by simp;omega)
   have hO11:=HO.out.low hF11 (by simp;omega)
   have hE11:=HE.out.low hF11 (by simp;omega)
   have hP11:=HP.out.low hF11 (by simp;omega)
   have hR11:=H1.out.fr hF11 (by simp;omega) (fun b hb hm => hQv (by simp at hm;rw [hb,hm]))
   have hF011:=H2.out.step hF11 (by simp;omega)
   clear HB HX H1 H2 HO HE HP hF11
   obtain ⟨w12,hw12⟩ : ∃ w12,w12 = w11:=⟨_,rfl⟩
   rw [← hw12] at hB11 hR11 hX11 hO11 hF011 hE11 hP11 ⊢
   clear hw12
   have hB12:=hB11;have hX12:=hX11;have hO12:=hO11;have hE12:=hE11;have hR12:=hR11;have hF012:=hF011
   have hV1:=hP11.bytes
   have hV1f : ∀ b,blockOf (.slice a10 n10 c10) = some b → w.heap.size < b:=fun b e => by have:=(hP11.block b e).1;omega
   have hV2 : Bytes w12 (.slice none 0 0) []:=Sl.nil _
   have hV2f : ∀ b,blockOf (.slice none 0 0) = some b → w.heap.size < b:=fun b e => by simp [blockOf] at e
   clear hB11 hR11 hX11 hO11 hF011 hE11 hP11
   have HB:=Hd hB12;have HX:=Hd hX12;have H1:=Hd hR12;have H2:=Hd hF012;have HO:=Hd hO12;have HE:=Hd hE12;have HV1:=Hd hV1;have HV2:=Hd hV2;have HV1f:=Hd hV1f;have HV2f:=Hd hV2f;have HK2:=Hd hK2
   have hQX : Q ≠ w.heap.size:=by omega
   clear hB12 hX12 hR12 hF012 hO12 hE12 hV1 hV2 hV1f hV2f hK2
   go_wp2_with (first | (refine wpList_load_row rfl 93 (.tmp 5) rfl Q rfl 93 _ _ _ HB.out Tryz.underlying93 rfl (by kernel_rfl) ?_) | (refine wpList_store_row rfl 93 (.tmp 2) (.tmp 45) rfl w.heap.size rfl _ _ rfl 93 HX.out (by kernel_rfl) rfl (oneCell_pc _ _ _ _ _ _ _ _ _ _ _ (Sl.isSlice HO.out.words) (Sl.isSlice HE.out.bytes) (Sl.isSlice HV1.out) (Sl.isSlice HV2.out)) ?_;intro w13 hY hG))
   refine bodyPost_ret (results_cell_row rfl _ _ w.heap.size 93 _ (0,0) _ rfl hY Tryz.underlying93 rfl (by kernel_rfl)) rfl (.inl ⟨_,_,l.length,by unfold parseP;rw [if_neg h1,if_neg h2n,if_neg (by omega)];simp only [hkW,if_false];rw [HK2.out,if_neg (by omega),if_neg (by rw [T32.out];simp)],rfl,?_,H1.out.fr hG (by simp;omega) (fun b hb hm => by have:=hvlt b hb;simp at hm;omega),rfl,H2.out.step hG (by simp)⟩)
   have hsG : ∀ (vv : Value),(∀ b,blockOf vv = some b → w.heap.size < b) → ∀ b,blockOf vv = some b → b ∉ [w.heap.size]:=fun vv h b hb hm => by have:=h b hb;simp at hm;omega
   have hf1 : ∀ b,blockOf (.slice a7 n7 c7) = some b → w.heap.size < b:=fun b hb => by have:=(HO.out.block b hb).1;omega
   have hf2 : ∀ b,blockOf (.slice none 0 0) = some b → w.heap.size < b:=fun b hb => by have:=(HE.out.block b hb).1;omega
   refine ⟨.slice a7 n7 c7,(.slice none 0 0),(.slice a10 n10 c10),(.slice none 0 0),?_,HO.out.words.fr hG (hsG _ hf1),?_,HV1.out.fr hG (hsG _ HV1f.out),HV2.out.fr hG (hsG _ HV2f.out),?_⟩
   ·simp only [hdr,T16.out,u16_nb,u32_nb,if_true,if_false,Bool.false_eq_true] <;> rfl
   ·simp only [hdr,T16.out,if_true,if_false,Bool.false_eq_true]
    exact HE.out.bytes.fr hG (hsG _ hf2)
   ·rintro b (h | h | h | h)
    ·exact Nat.le_of_lt (hf1 b h)
    ·exact Nat.le_of_lt (hf2 b h)
    ·exact Nat.le_of_lt (HV1f.out b h)
    ·exact Nat.le_of_lt (HV2f.out b h)
end Go.Proofs.YtcngfbjmpemehaaGreat

/- The walks of wire.Writer. -/
namespace Go.Proofs.YtcngfbjmpemehaaGreat
open Go.RowKit

theorem one_cells (w : World) (u : Value) (t : TypeId) : ∀ (j : Nat) (x : Value),[u][j]? = some x → (w.alloc (.cells #[u] t)).drew.cell? ((⟨w.heap.size,0,none⟩ : Addr).add j) = some x:=by
 intro j x hj
 match j,hj with
 | 0,hj =>
  simp only [zz9,Option.some.injEq] at hj
  subst hj
  simp [Addr.add]
structure Wr (w : World) (W : Nat) (v : Value) (base : Nat) (l : List UInt8) : Prop where
 box : Box w W 253 #[v]
 own : OwnB w base v l
 low : W < base
 size : base ≤ w.heap.size
structure WS (w w' : World) (W : Nat) (v v' : Value) (base : Nat) (l : List UInt8) : Prop where
 wr : Wr w' W v' base l
 fr : Fr (W :: (blockOf v).toList) w w'
 fresh : ∀ b,blockOf v' = some b → (blockOf v = some b ∨ w.heap.size ≤ b)
theorem WS.trans {w w1 w2 : World} {W : Nat} {v v1 v2 : Value} {base : Nat} {l l' : List UInt8} (h : WS w w1 W v v1 base l) (k : WS w1 w2 W v1 v2 base l') : WS w w2 W v v2 base l':=by
 refine ⟨k.wr,h.fr.step k.fr (fun x hx => ?_),fun b hb => ?_⟩
 ·simp only [List.mem_cons,Option.mem_toList] at hx
  rcases hx with rfl | hx
  ·exact .inl (by simp)
  ·rcases h.fresh x hx with h1 | h1
   ·exact .inl (by simp [h1])
   ·exact .inr h1
 ·rcases k.fresh b hb with h1 | h1
  ·exact h.fresh b h1
  ·exact .inr (Nat.le_trans h.fr.size h1)
theorem WS.quiet {w w1 w2 : World} {W : Nat} {v v1 : Value} {base : Nat} {l : List UInt8} (h : WS w w1 W v v1 base l) (k : Fr [] w1 w2) : WS w w2 W v v1 base l :=
 ⟨⟨h.wr.box.keep k,h.wr.own.keep k,h.wr.low,Nat.le_trans h.wr.size k.size⟩,h.fr.quiet k,h.fresh⟩
theorem WS.start {w : World} {W : Nat} {v : Value} {base : Nat} {l : List UInt8} (h : Wr w W v base l) : WS w w W v v base l:=⟨h,Fr.refl _ _,fun _ hb => .inl hb⟩
theorem WS.outer {w0 w w' : World} {W : Nat} {v v' : Value} {base : Nat} {l l0 : List UInt8} (h : WS w w' W v v' base l) (h0 : Wr w W v base l0) (hF : Fr [] w0 w) (hW : w0.heap.size ≤ W) : Fr [] w0 w' :=
 hF.step h.fr (fun x hx => .inr (by
  simp only [List.mem_cons,Option.mem_toList] at hx
  rcases hx with rfl | hx
  ·exact hW
  ·have:=(h0.own.block x hx).1;have:=h0.low;omega))
def beN (n m : Nat) : List UInt8:=(List.range m).map fun j => UInt8.ofNat (n / 256 ^ (m - 1 - j))
theorem beN_len (n m : Nat) : (beN n m).length = m:=by simp [beN]

theorem shr_bytes (n k : Nat) (hk : k ≤ 7) : Op.shift .shr .u64 (n : Int) .i64 ((8 * k : Nat) : Int) = pure (.int .u64 ((n / 256 ^ k : Nat) : Int)):=by
 rw [shift_shr .u64 .i64 _ _ (by omega) (by show ((8 * k : Nat) : Int) ≤ 64;omega)]
 have : (2 : Int) ^ ((8 * k : Nat) : Int).toNat = ((256 ^ k : Nat) : Int):=by
  rw [Int.toNat_natCast]
  match k,hk with
  | 0,_ | 1,_ | 2,_ | 3,_ | 4,_ | 5,_ | 6,_ | 7,_ => rfl
 rw [this]
 rfl
theorem shr_bytes2 (n k : Nat) (hk : k ≤ 7) : (n : Int) / 2 ^ (8 * (k : Int)).toNat = ((n / 256 ^ k : Nat) : Int):=by
 have : (2 : Int) ^ (8 * (k : Int)).toNat = ((256 ^ k : Nat) : Int):=by
  rw [show (8 * (k : Int)) = ((8 * k : Nat) : Int) from by omega,Int.toNat_natCast]
  match k,hk with
  | 0,_ | 1,_ | 2,_ | 3,_ | 4,_ | 5,_ | 6,_ | 7,_ => rfl
 rw [this]
 rfl
theorem wrap_u8_nat (n : Nat) : IntKind.u8.wrap (n : Int) = ((n % 256 : Nat) : Int):=by
 rw [IntKind.wrap_u8];omega
theorem wnum_any {w : World} {W base : Nat} {v : Value} {l : List UInt8} (hW : Wr w W v base l) (n m : Nat) (hn : n < 18446744073709551616) (hm : m ≤ 8) (hl : l.length ≤ 1099511627776) :
  Calls Tryz.prog 165 #[.pointer (some ⟨W,0,none⟩),.int .u64 n,.int .i64 m] w fun e w' => ∃ v',e = .returned (.tuple #[]) ∧ WS w w' W v v' base (l ++ beN n m):=by
 have HN:=Hd hn
 clear hn
 have HW:=Hd hW
 clear hW
 go_enter Tryz.func165,Tryz.ntmps165
 go_wp2_with fail
 go_loopw [8] (fun i wr => ∃ (j : Nat) (vr : Value),j ≤ m ∧ i = .int .i64 j ∧ Wr wr W vr base (l ++ (beN n m).take j) ∧ Fr (W :: (blockOf v).toList) w wr ∧ ∀ b,blockOf vr = some b → (blockOf v = some b ∨ w.heap.size ≤ b)) (fun i _ => m - (intOf i).toNat)
 case atStart => exact ⟨0,v,Nat.zero_le _,rfl,by simpa using HW.out,Fr.refl _ _,fun b hb => .inl hb⟩
 case round =>
  obtain ⟨j,vr,hj,rfl,hWr,hF,hbl⟩:=hrel
  have H1:=Hd hWr;have H2:=Hd hF;have H3:=Hd hbl
  by_cases hlt : j < m
  ·have b0:=hWr.box.cell 0;have f0:=hWr.box.free 0
   simp only [zz7,zz9] at b0
   have hWlt : W < wr.heap.size:=hWr.box.lt
   have b0' : ∀ o,(wr.alloc o).cell? ⟨W,0,none⟩ = some vr:=fun o => by rw [World.cell?_alloc_past o W 0 hWlt];exact b0
   clear hWr hF hbl
   have hw1 : IntKind.i64.wrap ((m : Int) - 1) = ((m - 1 : Nat) : Int):=by rw [IntWalk.i64_in _ (by omega)];omega
   have hw2 : IntKind.i64.wrap (((m - 1 : Nat) : Int) - (j : Int)) = ((m - 1 - j : Nat) : Int):=by rw [IntWalk.i64_in _ (by omega)];omega
   have hw3 : IntKind.i64.wrap (8 * ((m - 1 - j : Nat) : Int)) = ((8 * (m - 1 - j) : Nat) : Int):=by rw [IntWalk.i64_in _ (by omega)];omega
   have hsh:=shr_bytes2 n (m - 1 - j) (by omega)
   have hsk:=shr_bytes n (m - 1 - j) (by omega)
   have hu8:=wrap_u8_nat (n / 256 ^ (m - 1 - j))
   generalize hq : n / 256 ^ (m - 1 - j) = q at hsh hsk hu8
   have HQ:=Hd hq
   clear hq
   go_wp2_with fail
   have A0:=Hd (show ((wr.alloc (.cells #[.int .u8 ((q % 256 : Nat) : Int)] 5)).drew).ownsRow base 5 1 vr (l ++ (beN n m).take j).length ((l ++ (beN n m).take j).map B8) from H1.out.own.keep (((Fr.refl [] wr).alloc _).drew))
   have hlen : (l ++ (beN n m).take j).length ≤ 1099511627784:=by rw [List.length_append,List.length_take,beN_len];omega
   have A1:=Hd (show (l ++ (beN n m).take j).length + [Value.int .u8 ((q % 256 : Nat) : Int)].length ≤ maxLen by unfold maxLen;simp only [List.length_singleton];omega)
   have A2:=Hd (show ((l ++ (beN n m).take j).length + [Value.int .u8 ((q % 256 : Nat) : Int)].length) * 1 ≤ 140737488355328 by simp only [List.length_singleton];omega)
   have A3:=Hd (show base ≤ ((wr.alloc (.cells #[.int .u8 ((q % 256 : Nat) : Int)] 5)).drew).heap.size by have:=H1.out.size;simp;omega)
   clear hlen
   go_region_law (refine step_append_fr rfl (.tmp 15) (.tmp 24) 34 rfl base 5 (.int .u8 0) 1 1 Tryz.underlying34 info_u8 rfl (by omega) vr (l ++ (beN n m).take j).length ((l ++ (beN n m).take j).map B8) rfl A0.out ⟨wr.heap.size,0,none⟩ 1 1 [.int .u8 ((q % 256 : Nat) : Int)] rfl rfl (one_cells wr (.int .u8 ((q % 256 : Nat) : Int)) 5) (oneCell_int .u8 ((q % 256 : Nat) : Int)) A1.out A2.out A3.out ?_;intro v' w2 ho hg hfresh _;obtain ⟨a2,n2,c2,rfl⟩:=(Sl.ofOwn ho).isSlice;have HO:=Hd ho;have HF:=Hd (((Fr.refl (blockOf vr).toList wr).alloc (.cells #[.int .u8 ((q % 256 : Nat) : Int)] 5)).drew.trans hg);have HB:=Hd (H1.out.box.fr HF.out (fun hm => by have:=H1.out.own.block W (by simpa using hm);have:=H1.out.low;omega));have HG:=Hd hfresh;clear ho hg hfresh;have g0:=HB.out.cell 0;have gf:=HB.out.free 0;simp only [zz7,zz9] at g0)
   all_goals
    obtain ⟨w3,e3,hF3,hB3,hs3⟩:=set_new HB.out 0 (.slice a2 n2 c2)
    rw [e3]
    have hO3 : OwnB w3 base (.slice a2 n2 c2) (l ++ (beN n m).take (j + 1)):=by
     have h1:=HO.out
     have e : l ++ (beN n m).take (j + 1) = (l ++ (beN n m).take j) ++ [UInt8.ofNat q]:=by
      rw [List.append_assoc,List.take_succ_eq_append_getElem (by rw [beN_len];exact hlt)]
      simp [beN,HQ.out]
     have h2 : OwnB w2 base (.slice a2 n2 c2) (l ++ (beN n m).take (j + 1)):=by
      unfold OwnB
      rw [e,List.map_append,List.length_append]
      exact h1
     exact h2.low hF3 (by have:=H1.out.low;simp;omega)
    have hF4:=HF.out.mono (T:=W :: (blockOf vr).toList) (fun x hx => by simp [hx])
    have hF5:=hF4.trans (hF3.mono (T:=W :: (blockOf vr).toList) (by simp))
    have hF6:=H2.out.step hF5 (fun x hx => by
     simp only [List.mem_cons,Option.mem_toList] at hx
     rcases hx with rfl | hx
     ·exact .inl (by simp)
     ·rcases H3.out x hx with h | h
      ·exact .inl (by simp [h])
      ·exact .inr h)
    have hS:=H1.out.size
    have hbl : ∀ b,blockOf (.slice a2 n2 c2) = some b → (blockOf v = some b ∨ w.heap.size ≤ b):=fun b hb => by
     rcases HG.out b hb with h | h
     ·exact H3.out b h
     ·have:=H2.out.size
      simp at h
      exact .inr (by omega)
    have HW3 : Wr w3 W (.slice a2 n2 c2) base (l ++ (beN n m).take (j + 1)):=⟨hB3,hO3,H1.out.low,Nat.le_trans hS hF5.size⟩
    have K1:=Hd HW3;have K2:=Hd hF6;have K3:=Hd hbl
    clear HW3 hF6 hbl hF4 hF5 hF3 hB3 hO3 hs3 hsh hsk hu8 hw1 hw2 hw3 b0 b0' f0 e3
    go_wp2_with fail
    go_roundw
    case rel => exact ⟨j + 1,_,by omega,by go_num,K1.out,K2.out,K3.out⟩
    case measure => simp [intOf];omega
  ·obtain rfl : j = m:=by omega
   clear hWr hF hbl
   go_wp2_with fail
   go_end0
   exact ⟨vr,rfl,by have:=H1.out;rwa [List.take_of_length_le (by rw [beN_len];exact Nat.le_refl _)] at this,H2.out,H3.out⟩

theorem wword_any {w : World} {W base : Nat} {v : Value} {l : List UInt8} (hW : Wr w W v base l) (n : Nat) (hn : n < 65536) (hl : l.length ≤ 1099511627776) :
  Calls Tryz.prog 161 #[.pointer (some ⟨W,0,none⟩),.int .u16 n] w fun e w' => ∃ v',e = .returned (.tuple #[]) ∧ WS w w' W v v' base (l ++ beN n 2):=by
 go_enter Tryz.func161,Tryz.ntmps161
 go_wp2_with fail
 refine (wnum_any hW n 2 (by omega) (by omega) hl).mono ?_
 rintro e w1 ⟨v',rfl,h⟩
 go_wp2_with fail
 go_end0
 exact ⟨v',rfl,h⟩

theorem wlong_any {w : World} {W base : Nat} {v : Value} {l : List UInt8} (hW : Wr w W v base l) (n : Nat) (hn : n < 4294967296) (hl : l.length ≤ 1099511627776) :
  Calls Tryz.prog 163 #[.pointer (some ⟨W,0,none⟩),.int .u32 n] w fun e w' => ∃ v',e = .returned (.tuple #[]) ∧ WS w w' W v v' base (l ++ beN n 4):=by
 go_enter Tryz.func163,Tryz.ntmps163
 go_wp2_with fail
 refine (wnum_any hW n 4 (by omega) (by omega) hl).mono ?_
 rintro e w1 ⟨v',rfl,h⟩
 go_wp2_with fail
 go_end0
 exact ⟨v',rfl,h⟩

def ib (n : Int) : UInt8:=UInt8.ofNat (n % 256).toNat
theorem wbyte_any {w : World} {W base : Nat} {v : Value} {l : List UInt8} (hW : Wr w W v base l) (n : Int) (hl : l.length ≤ 1099511627776) :
  Calls Tryz.prog 160 #[.pointer (some ⟨W,0,none⟩),.int .i64 n] w fun e w' => ∃ v',e = .returned (.tuple #[]) ∧ WS w w' W v v' base (l ++ [ib n]):=by
 have hq : ∃ q : Nat,IntKind.u64.wrap n = (q : Int) ∧ q < 18446744073709551616 ∧ beN q 1 = [ib n]:=by
  refine ⟨(n % 18446744073709551616).toNat,?_,by omega,?_⟩
  ·rw [IntKind.wrap_u64];omega
  ·simp only [beN,List.range_one,List.map_cons,List.map_nil,Nat.sub_self,Nat.pow_zero,Nat.div_one,ib,List.cons.injEq,and_true]
   rw [← UInt8.toNat_inj]
   simp only [UInt8.toNat_ofNat']
   omega
 obtain ⟨q,hq1,hq2,hq3⟩:=hq
 have HQ:=Hd hq2;have HE:=Hd hq3
 clear hq2 hq3
 go_enter Tryz.func160,Tryz.ntmps160
 go_wp2_with fail
 refine (wnum_any hW q 1 HQ.out (by omega) hl).mono ?_
 rintro e w1 ⟨v',rfl,h⟩
 go_wp2_with fail
 go_end0
 exact ⟨v',rfl,by rw [← HE.out];exact h⟩

theorem wput_any {w : World} {W base : Nat} {v : Value} {l : List UInt8} (hW : Wr w W v base l) {vx : Value} {x : List UInt8} (hx : Bytes w vx x) (hxl : x.length ≤ 1099511627776) (hl : l.length ≤ 1099511627776) :
  Calls Tryz.prog 162 #[.pointer (some ⟨W,0,none⟩),vx] w fun e w' => ∃ v',e = .returned (.tuple #[]) ∧ WS w w' W v v' base (l ++ x):=by
 have HW:=Hd hW;have HX:=Hd hx
 have b0:=hW.box.cell 0;have f0:=hW.box.free 0
 simp only [zz7,zz9] at b0
 have A1:=Hd (show l.length + (x.map B8).length ≤ maxLen by unfold maxLen;rw [List.length_map];omega)
 have A2:=Hd (show (l.length + (x.map B8).length) * 1 ≤ 140737488355328 by rw [List.length_map];omega)
 clear hW hx
 go_enter Tryz.func162,Tryz.ntmps162
 go_wp2_with (at_builtin;refine wpList_append_slf rfl (.tmp 8) (.tmp 9) 34 rfl base 5 (.int .u8 0) 1 Tryz.underlying34 info_u8 rfl v l.length (l.map B8) rfl HW.out.own vx (x.map B8) rfl HX.out (oneCell_B8 x) A1.out A2.out HW.out.size ?_;intro v' w2 ho hg hfr;obtain ⟨a2,n2,c2,rfl⟩:=(Sl.ofOwn ho).isSlice;have HO:=Hd ho;have HF:=Hd hg;have HG:=Hd hfr;clear ho hg hfr;have HB:=Hd (HW.out.box.fr HF.out (fun hm => by have:=HW.out.own.block W (by simpa using hm);have:=HW.out.low;omega));have g0:=HB.out.cell 0;have gf:=HB.out.free 0;simp only [zz7,zz9] at g0;clear b0 f0)
 go_end0
 obtain ⟨w3,e3,hF3,hB3,hs3⟩:=set_new HB.out 0 (.slice a2 n2 c2)
 rw [e3]
 have hO3 : OwnB w2 base (.slice a2 n2 c2) (l ++ x):=by
  have:=HO.out
  unfold OwnB
  rw [List.map_append,List.length_append]
  simpa using this
 have hF4:=(HF.out.mono (T:=W :: (blockOf v).toList) (fun y hy => by simp [hy])).trans (hF3.mono (T:=W :: (blockOf v).toList) (by simp))
 exact ⟨_,rfl,⟨hB3,hO3.low hF3 (by have:=HW.out.low;simp;omega),HW.out.low,Nat.le_trans HW.out.size hF4.size⟩,hF4,HG.out⟩

theorem wdone_any {w : World} {W base : Nat} {v : Value} {l : List UInt8} (hW : Wr w W v base l) (hl : l.length ≤ 1099511627776) :
  Calls Tryz.prog 164 #[.pointer (some ⟨W,0,none⟩)] w fun e w' => ∃ v',e = .returned v' ∧ OwnB w' w.heap.size v' l ∧ Fr [] w w':=by
 have HW:=Hd hW
 have b0:=hW.box.cell 0
 simp only [zz7,zz9] at b0
 clear hW
 go_enter Tryz.func164,Tryz.ntmps164
 go_wp2_with fail
 refine (cloneB_any HW.out.own.bytes hl).mono ?_
 rintro e w1 ⟨v',rfl,hO,hF⟩
 have H1:=Hd hO;have H2:=Hd hF
 clear hO hF
 go_wp2_with fail
 go_ret
 exact ⟨v',rfl,H1.out,H2.out⟩
end Go.Proofs.YtcngfbjmpemehaaGreat
