import Derived.Test.YtcngfbjmpemehaaGreatMp10
import Derived.Test.YtcngfbjmpemehaaGreatMp3
set_option maxRecDepth 100000
set_option maxHeartbeats 16000000
open List renaming getElem_toArray → zz1, getElem_cons_zero → zz2, getElem_cons_succ → zz3, setIfInBounds_toArray → zz4, set_cons_zero → zz5, set_cons_succ → zz6, getElem?_toArray → zz7, getElem?_cons_succ → zz8, getElem?_cons_zero → zz9
open Go.Lib renaming hid → Hd
/- The walks of wire.Part and Read at packets,and of rtp.Parse. -/
namespace Go.Proofs.YtcngfbjmpemehaaGreat
open Go.RowKit

theorem PktV.fr {w w' : World} {base : Nat} {v : Value} {p : Pkt} {S : List Nat} (h : PktV w base v p) (hf : Fr S w w') (hS : ∀ b ∈ S,b < base) : PktV w' base v p:=by
 obtain ⟨cs,ex,pl,pd,rfl,h1,h2,h3,h4,h5⟩:=h
 have hn : ∀ b,(blockOf cs = some b ∨ blockOf ex = some b ∨ blockOf pl = some b ∨ blockOf pd = some b) → b ∉ S:=fun b h hm => by have:=h5 b h;have:=hS b hm;omega
 exact ⟨cs,ex,pl,pd,rfl,h1.fr hf (fun b h => hn b (.inl h)),h2.fr hf (fun b h => hn b (.inr (.inl h))),h3.fr hf (fun b h => hn b (.inr (.inr (.inl h)))),h4.fr hf (fun b h => hn b (.inr (.inr (.inr h)))),h5⟩
theorem PktV.mono {w : World} {base base' : Nat} {v : Value} {p : Pkt} (h : PktV w base v p) (hb : base' ≤ base) : PktV w base' v p:=by
 obtain ⟨cs,ex,pl,pd,e,h1,h2,h3,h4,h5⟩:=h
 exact ⟨cs,ex,pl,pd,e,h1,h2,h3,h4,fun b h => by have:=h5 b h;omega⟩
theorem PktV.keep {w w' : World} {base : Nat} {v : Value} {p : Pkt} (h : PktV w base v p) (hf : Fr [] w w') : PktV w' base v p:=h.fr hf (by simp)
theorem parseP_err {l : List UInt8} {k : Int} (h : parseP l = .error k) : k ≠ 0:=by
 intro hk
 subst hk
 unfold parseP at h
 simp only at h
 repeat' split at h
 all_goals first | (simp at h;done) | (cases h;done)
theorem oneCell_pz : ∀ u ∈ pz.toList,u.oneCell' = true:=by
 intro u hu
 simp only [pz,List.mem_cons,List.not_mem_nil,or_false] at hu
 rcases hu with rfl | rfl | rfl | rfl | rfl | rfl | rfl | rfl | rfl | rfl | rfl <;> rfl

theorem PartP_any {w : World} {v : Value} {l : List UInt8} (hl : Bytes w v l) (hsm : l.length ≤ 1099511627776) :
  Calls Tryz.prog 106 #[v,.func (.func 79) #[] #[]] w fun e w' =>
   (∃ v' p,parseP l = .ok p ∧ e = .returned (.tuple #[v',.int .i64 l.length,.int .i64 0]) ∧ PktV w' w.heap.size v' p ∧ Fr [] w w') ∨
   (∃ k,parseP l = .error k ∧ e = .returned (.tuple #[.agg pz,.int .i64 0,.int .i64 k]) ∧ Fr [] w w'):=by
 have HL:=Hd hl
 obtain ⟨a,cap,rfl⟩:=hl.shape
 simp only [List.length_map] at HL ⊢
 clear hl
 go_enter Tryz.func106,Tryz.ntmps106
 go_wp2_with fail
 obtain ⟨w2,e2,hF2,hB2,hD2,hs2⟩:=two_new w #[.bool false,.int .i64 0,.int .u16 0,.int .u32 0,.int .u32 0,.slice none 0 0,.bool false,.int .u16 0,.slice none 0 0,.slice none 0 0,.slice none 0 0] 93 #[.slice a l.length cap,.int .i64 0] 225
 rw [e2]
 clear e2
 have hs2l : w.heap.size + 2 ≤ w2.heap.size:=by omega
 have hR2 : Rd w2 (w.heap.size + 1) (.slice a l.length cap) 0 l :=
  ⟨hD2.cell 0,hD2.cell 1,hD2.free 1,HL.out.keep hF2,fun e => by have:=HL.out.lt _ e;omega,Nat.zero_le _,hsm⟩
 have HF2:=Hd hF2;have HB2:=Hd hB2
 clear hF2 hB2 hD2
 refine (guardP_any hR2).mono ?_
 clear hR2
 rintro e w3 (⟨v',p,hp,rfl,hV,hR3,hF3⟩ | ⟨k,hp,rfl,hF3⟩)
 ·have hB3:=HB2.out.fr hF3 (by simp)
  have hF03 : Fr [] w w3:=HF2.out.step hF3 (by simp)
  have HV:=Hd hV
  obtain ⟨cs,ex,pl,pd,rfl,hcs,hex,hpl,hpd,hfr⟩:=hV
  obtain ⟨a1,n1,c1,rfl⟩:=hcs.isSlice
  obtain ⟨a2,n2,c2,rfl⟩:=hex.isSlice
  obtain ⟨a3,n3,c3,rfl⟩:=hpl.isSlice
  obtain ⟨a4,n4,c4,rfl⟩:=hpd.isSlice
  clear hcs hex hpl hpd hfr
  have H0:=Hd hB3;have H1:=Hd hF03;have H2:=Hd hR3;have HP:=Hd hp
  have hs3 : w.heap.size + 2 ≤ w3.heap.size:=by have:=hF3.size;omega
  clear hB3 hF03 hR3 hp HB2 HF2 hF3
  go_wp2_with (refine wpList_store_row rfl 93 (.tmp 8) (.tmp 18) rfl w3.heap.size rfl _ _ rfl 93 (Box.new w3 93 #[.bool false,.int .i64 0,.int .u16 0,.int .u32 0,.int .u32 0,.slice none 0 0,.bool false,.int .u16 0,.slice none 0 0,.slice none 0 0,.slice none 0 0]) (by kernel_rfl) rfl (oneCell_pc _ _ _ _ _ _ _ _ _ _ _ ⟨_,_,_,rfl⟩ ⟨_,_,_,rfl⟩ ⟨_,_,_,rfl⟩ ⟨_,_,_,rfl⟩) ?_;intro w4 hY hG;have HF34:=Hd (((Fr.refl [] w3).alloc _).step hG (by simp));have HY:=Hd hY;clear hY hG)
  have hR4:=H2.out.keep HF34.out
  have d0:=hR4.c0;have d1:=hR4.c1
  clear hR4
  have HB4:=Hd (H0.out.keep HF34.out)
  have HF4:=Hd (H1.out.trans HF34.out)
  have HV4:=Hd (HV.out.keep HF34.out)
  have x:=fun i => HY.out.cell i
  have y:=fun i => HB4.out.cell i
  have f:=fun i => HB4.out.free i
  have x0:=x 0;have x1:=x 1;have x2:=x 2;have x3:=x 3;have x4:=x 4;have x5:=x 5;have x6:=x 6;have x7:=x 7;have x8:=x 8;have x9:=x 9;have x10:=x 10
  have y0:=y 0;have y1:=y 1;have y2:=y 2;have y3:=y 3;have y4:=y 4;have y5:=y 5;have y6:=y 6;have y7:=y 7;have y8:=y 8;have y9:=y 9;have y10:=y 10
  have f0:=f 0;have f1:=f 1;have f2:=f 2;have f3:=f 3;have f4:=f 4;have f5:=f 5;have f6:=f 6;have f7:=f 7;have f8:=f 8;have f9:=f 9;have f10:=f 10
  simp only [pc,zz7,zz8,zz9] at x0 x1 x2 x3 x4 x5 x6 x7 x8 x9 x10 y0 y1 y2 y3 y4 y5 y6 y7 y8 y9 y10
  clear x y f hs2
  go_region
  obtain ⟨w5,e5,hF5,hB5⟩:=set11 HB4.out (.bool p.marker) (.int .i64 p.pt) (.int .u16 p.seq.toNat) (.int .u32 p.ts.toNat) (.int .u32 p.ssrc.toNat) (.slice a1 n1 c1) (.bool p.hasExt) (.int .u16 p.profile.toNat) (.slice a2 n2 c2) (.slice a3 n3 c3) (.slice a4 n4 c4)
  rw [e5]
  clear e5 x0 x1 x2 x3 x4 x5 x6 x7 x8 x9 x10 y0 y1 y2 y3 y4 y5 y6 y7 y8 y9 y10 f0 f1 f2 f3 f4 f5 f6 f7 f8 f9 f10 d0 d1
  have HF5:=Hd hF5;have HB5:=Hd hB5
  clear hF5 hB5
  go_wp2_with fail
  refine bodyPost_ret (results_row_2 rfl _ _ w.heap.size 93 _ _ rfl HB5.out.drew Tryz.underlying93 rfl (by kernel_rfl)) rfl (.inl ⟨_,p,HP.out,rfl,?_,?_⟩)
  ·exact ((HV4.out.fr HF5.out (by simp;omega)).keep (Fr.refl [] _).drew).mono (by omega)
  ·exact (HF4.out.step HF5.out (by simp)).drew
 ·have hB3:=HB2.out.fr hF3 (by simp)
  have hF03 : Fr [] w w3:=HF2.out.step hF3 (by simp)
  have H0:=Hd hB3;have H1:=Hd hF03;have HP:=Hd hp
  have hs3 : w.heap.size + 2 ≤ w3.heap.size:=by have:=hF3.size;omega
  have hk : k ≠ 0:=parseP_err hp
  have hk' : (k != 0) = true:=by simpa using hk
  clear hB3 hF03 hp hF3 hk hs2 HB2 HF2
  unfold pz
  go_wp2_with (first | (refine wpList_store_row rfl 93 (.tmp 8) (.tmp 18) rfl w3.heap.size rfl _ _ rfl 93 (Box.new w3 93 #[.bool false,.int .i64 0,.int .u16 0,.int .u32 0,.int .u32 0,.slice none 0 0,.bool false,.int .u16 0,.slice none 0 0,.slice none 0 0,.slice none 0 0]) (by kernel_rfl) rfl oneCell_pz ?_;intro w4 hY hG;have HF34:=Hd (((Fr.refl [] w3).alloc _).step hG (by simp));clear hY hG) | (refine wpList_load_row rfl 93 (.tmp 10) rfl w4.heap.size rfl 93 _ _ _ (Box.new w4 93 #[.bool false,.int .i64 0,.int .u16 0,.int .u32 0,.int .u32 0,.slice none 0 0,.bool false,.int .u16 0,.slice none 0 0,.slice none 0 0,.slice none 0 0]) Tryz.underlying93 rfl (by kernel_rfl) ?_) | (refine wpList_store_row rfl 93 (.tmp 4) (.tmp 22) rfl w.heap.size rfl _ _ rfl 93 ((H0.out.keep HF34.out).keep ((Fr.refl [] w4).alloc _)) (by kernel_rfl) rfl oneCell_pz ?_;intro w6 hY6 hG6))
  refine bodyPost_ret (results_row_2 rfl _ _ w.heap.size 93 _ _ rfl hY6 Tryz.underlying93 rfl (by kernel_rfl)) rfl (.inr ⟨k,HP.out,rfl,?_⟩)
  exact (((H1.out.trans HF34.out).alloc _).step hG6 (by simp))

theorem ReadP_any {w : World} {v : Value} {l : List UInt8} (hl : Bytes w v l) (hsm : l.length ≤ 1099511627776) :
  Calls Tryz.prog 78 #[v,.func (.func 79) #[] #[]] w fun e w' =>
   (∃ v' p,parseP l = .ok p ∧ e = .returned (.tuple #[v',.int .i64 0]) ∧ PktV w' w.heap.size v' p ∧ Fr [] w w') ∨
   (∃ k,parseP l = .error k ∧ e = .returned (.tuple #[.agg pz,.int .i64 k]) ∧ Fr [] w w'):=by
 have HL:=Hd hl
 obtain ⟨a,cap,rfl⟩:=hl.shape
 simp only [List.length_map] at HL ⊢
 clear hl
 go_enter Tryz.func78,Tryz.ntmps78
 go_wp2_with fail
 obtain ⟨w2,e2,hF2,hB2,hs2⟩:=one_new w #[.bool false,.int .i64 0,.int .u16 0,.int .u32 0,.int .u32 0,.slice none 0 0,.bool false,.int .u16 0,.slice none 0 0,.slice none 0 0,.slice none 0 0] 93
 rw [e2]
 clear e2
 have hs2l : w.heap.size + 1 ≤ w2.heap.size:=by omega
 have HF2:=Hd hF2;have HB2:=Hd hB2
 clear hF2 hB2 hs2
 refine (PartP_any (HL.out.keep HF2.out) hsm).mono ?_
 rintro e w3 (⟨v',p,hp,rfl,hV,hF3⟩ | ⟨k,hp,rfl,hF3⟩)
 ·have HV:=Hd (hV.mono hs2l)
  obtain ⟨cs,ex,pl,pd,rfl,hcs,hex,hpl,hpd,hfr⟩:=hV
  obtain ⟨a1,n1,c1,rfl⟩:=hcs.isSlice
  obtain ⟨a2,n2,c2,rfl⟩:=hex.isSlice
  obtain ⟨a3,n3,c3,rfl⟩:=hpl.isSlice
  obtain ⟨a4,n4,c4,rfl⟩:=hpd.isSlice
  have H0:=Hd (HB2.out.keep hF3);have H1:=Hd (HF2.out.trans hF3);have HP:=Hd hp
  clear hcs hex hpl hpd hfr hp hF3 HB2 HF2
  go_wp2_with (first | (refine wpList_store_row rfl 93 (.tmp 6) (.tmp 14) rfl w3.heap.size rfl _ _ rfl 93 (Box.new w3 93 #[.bool false,.int .i64 0,.int .u16 0,.int .u32 0,.int .u32 0,.slice none 0 0,.bool false,.int .u16 0,.slice none 0 0,.slice none 0 0,.slice none 0 0]) (by kernel_rfl) rfl (oneCell_pc _ _ _ _ _ _ _ _ _ _ _ ⟨_,_,_,rfl⟩ ⟨_,_,_,rfl⟩ ⟨_,_,_,rfl⟩ ⟨_,_,_,rfl⟩) ?_;intro w4 hY hG;have HF34:=Hd (((Fr.refl [] w3).alloc _).step hG (by simp));have HY:=Hd hY;clear hY hG) | (refine wpList_load_row rfl 93 (.tmp 6) rfl w3.heap.size rfl 93 _ _ _ HY.out Tryz.underlying93 rfl (by kernel_rfl) ?_) | (refine wpList_store_row rfl 93 (.tmp 4) (.tmp 29) rfl w.heap.size rfl _ _ rfl 93 (H0.out.keep HF34.out) (by kernel_rfl) rfl (oneCell_pc _ _ _ _ _ _ _ _ _ _ _ ⟨_,_,_,rfl⟩ ⟨_,_,_,rfl⟩ ⟨_,_,_,rfl⟩ ⟨_,_,_,rfl⟩) ?_;intro w6 hY6 hG6))
  refine bodyPost_ret (results_row_1 rfl _ _ w.heap.size 93 _ _ rfl hY6 Tryz.underlying93 rfl (by kernel_rfl)) rfl (.inl ⟨_,p,HP.out,rfl,((HV.out.keep HF34.out).fr hG6 (by simp)).mono (by omega),(H1.out.trans HF34.out).step hG6 (by simp)⟩)
 ·have H0:=Hd (HB2.out.keep hF3);have H1:=Hd (HF2.out.trans hF3);have HP:=Hd hp
  have hk : k ≠ 0:=parseP_err hp
  have hk' : (k != 0) = true:=by simpa using hk
  have hk2 : (k == 0) = false:=by simpa using hk
  clear hp hF3 hk HB2 HF2
  unfold pz
  go_wp2_with (first | (refine wpList_store_row rfl 93 (.tmp 6) (.tmp 14) rfl w3.heap.size rfl _ _ rfl 93 (Box.new w3 93 #[.bool false,.int .i64 0,.int .u16 0,.int .u32 0,.int .u32 0,.slice none 0 0,.bool false,.int .u16 0,.slice none 0 0,.slice none 0 0,.slice none 0 0]) (by kernel_rfl) rfl oneCell_pz ?_;intro w4 hY hG;have HF34:=Hd (((Fr.refl [] w3).alloc _).step hG (by simp));clear hY hG) | (refine wpList_load_row rfl 93 (.tmp 9) rfl w4.heap.size rfl 93 _ _ _ (Box.new w4 93 #[.bool false,.int .i64 0,.int .u16 0,.int .u32 0,.int .u32 0,.slice none 0 0,.bool false,.int .u16 0,.slice none 0 0,.slice none 0 0,.slice none 0 0]) Tryz.underlying93 rfl (by kernel_rfl) ?_) | (refine wpList_store_row rfl 93 (.tmp 4) (.tmp 27) rfl w.heap.size rfl _ _ rfl 93 ((H0.out.keep HF34.out).keep ((Fr.refl [] w4).alloc _)) (by kernel_rfl) rfl oneCell_pz ?_;intro w6 hY6 hG6))
  refine bodyPost_ret (results_row_1 rfl _ _ w.heap.size 93 _ _ rfl hY6 Tryz.underlying93 rfl (by kernel_rfl)) rfl (.inr ⟨k,HP.out,rfl,((H1.out.trans HF34.out).alloc _).step hG6 (by simp)⟩)

def parseR (l : List UInt8) : Except Int Pkt:=if 1500 < l.length then .error 2 else parseP l
theorem parseR_err {l : List UInt8} {k : Int} (h : parseR l = .error k) : k ≠ 0:=by
 unfold parseR at h
 split at h
 ·intro e;subst e;simp at h
 ·exact parseP_err h

theorem Parse_any {w : World} {v : Value} {l : List UInt8} (hl : Bytes w v l) :
  Calls Tryz.prog 55 #[v] w fun e w' =>
   (∃ v' p,parseR l = .ok p ∧ e = .returned (.tuple #[v',.int .i64 0]) ∧ PktV w' w.heap.size v' p ∧ Fr [] w w') ∨
   (∃ k,parseR l = .error k ∧ e = .returned (.tuple #[.agg pz,.int .i64 k]) ∧ Fr [] w w'):=by
 have HL:=Hd hl
 obtain ⟨a,cap,rfl⟩:=hl.shape
 simp only [List.length_map] at HL ⊢
 clear hl
 by_cases h15 : 1500 < l.length
 ·go_enter Tryz.func55,Tryz.ntmps55
  obtain ⟨w2,e2,hF2,hB2,hs2⟩:=one_new w #[.bool false,.int .i64 0,.int .u16 0,.int .u32 0,.int .u32 0,.slice none 0 0,.bool false,.int .u16 0,.slice none 0 0,.slice none 0 0,.slice none 0 0] 93
  have HF2:=Hd hF2;have HB2:=Hd hB2
  have E2:=Hd e2
  clear hF2 hB2 hs2 e2
  go_wp2_with (refine wpList_store_row rfl 93 (.tmp 2) (.tmp 7) rfl w.heap.size rfl _ _ rfl 93 (Box.new w 93 #[.bool false,.int .i64 0,.int .u16 0,.int .u32 0,.int .u32 0,.slice none 0 0,.bool false,.int .u16 0,.slice none 0 0,.slice none 0 0,.slice none 0 0]) (by kernel_rfl) rfl oneCell_pz ?_;intro w6 hY6 hG6)
  refine bodyPost_ret (results_row_1 rfl _ _ w.heap.size 93 _ _ rfl hY6 Tryz.underlying93 rfl (by kernel_rfl)) rfl (.inr ⟨2,by unfold parseR;rw [if_pos h15],rfl,((Fr.refl [] w).alloc _).step hG6 (by simp)⟩)
 ·have hsm : l.length ≤ 1099511627776:=by omega
  have e15 : parseR l = parseP l:=by unfold parseR;rw [if_neg h15]
  have E15:=Hd e15
  clear e15
  go_enter Tryz.func55,Tryz.ntmps55
  go_wp2_with fail
  obtain ⟨w2,e2,hF2,hB2,hs2⟩:=one_new w #[.bool false,.int .i64 0,.int .u16 0,.int .u32 0,.int .u32 0,.slice none 0 0,.bool false,.int .u16 0,.slice none 0 0,.slice none 0 0,.slice none 0 0] 93
  rw [e2]
  clear e2
  have hs2l : w.heap.size + 1 ≤ w2.heap.size:=by omega
  have HF2:=Hd hF2;have HB2:=Hd hB2
  clear hF2 hB2 hs2
  refine (ReadP_any (HL.out.keep HF2.out) hsm).mono ?_
  rintro e w3 (⟨v',p,hp,rfl,hV,hF3⟩ | ⟨k,hp,rfl,hF3⟩)
  ·have HV:=Hd (hV.mono hs2l)
   obtain ⟨cs,ex,pl,pd,rfl,hcs,hex,hpl,hpd,hfr⟩:=hV
   obtain ⟨a1,n1,c1,rfl⟩:=hcs.isSlice
   obtain ⟨a2,n2,c2,rfl⟩:=hex.isSlice
   obtain ⟨a3,n3,c3,rfl⟩:=hpl.isSlice
   obtain ⟨a4,n4,c4,rfl⟩:=hpd.isSlice
   have H0:=Hd (HB2.out.keep hF3);have H1:=Hd (HF2.out.trans hF3);have HP:=Hd hp
   clear hcs hex hpl hpd hfr hp hF3 HB2 HF2
   go_wp2_with (refine wpList_store_row rfl 93 (.tmp 2) (.tmp 10) rfl w.heap.size rfl _ _ rfl 93 H0.out (by kernel_rfl) rfl (oneCell_pc _ _ _ _ _ _ _ _ _ _ _ ⟨_,_,_,rfl⟩ ⟨_,_,_,rfl⟩ ⟨_,_,_,rfl⟩ ⟨_,_,_,rfl⟩) ?_;intro w6 hY6 hG6)
   refine bodyPost_ret (results_row_1 rfl _ _ w.heap.size 93 _ _ rfl hY6 Tryz.underlying93 rfl (by kernel_rfl)) rfl (.inl ⟨_,p,E15.out.trans HP.out,rfl,(HV.out.fr hG6 (by simp)).mono (by omega),H1.out.step hG6 (by simp)⟩)
  ·have H0:=Hd (HB2.out.keep hF3);have H1:=Hd (HF2.out.trans hF3);have HP:=Hd hp
   clear hp hF3 HB2 HF2
   unfold pz
   go_wp2_with (refine wpList_store_row rfl 93 (.tmp 2) (.tmp 10) rfl w.heap.size rfl _ _ rfl 93 H0.out (by kernel_rfl) rfl oneCell_pz ?_;intro w6 hY6 hG6)
   refine bodyPost_ret (results_row_1 rfl _ _ w.heap.size 93 _ _ rfl hY6 Tryz.underlying93 rfl (by kernel_rfl)) rfl (.inr ⟨k,E15.out.trans HP.out,rfl,H1.out.step hG6 (by simp)⟩)
end Go.Proofs.YtcngfbjmpemehaaGreat
