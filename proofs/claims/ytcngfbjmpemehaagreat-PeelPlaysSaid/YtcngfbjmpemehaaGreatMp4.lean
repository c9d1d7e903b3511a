import Derived.Deep.RegionHeld3
import Derived.Lib.AppendZerosOnto
import Derived.Test.YtcngfbjmpemehaaGreatMp3
set_option maxRecDepth 100000
set_option maxHeartbeats 16000000
open List renaming getElem_toArray → zz1, getElem_cons_zero → zz2, getElem_cons_succ → zz3, setIfInBounds_toArray → zz4, set_cons_zero → zz5, set_cons_succ → zz6, getElem?_toArray → zz7, getElem?_cons_succ → zz8, getElem?_cons_zero → zz9
open Go.Lib renaming hid → Hd
/- The walks of package rtp that read. -/
namespace Go.Proofs.YtcngfbjmpemehaaGreat
open Go.RowKit

def w32s (l : List UInt8) (k n : Nat) : List UInt32:=(List.range n).map fun i => UInt32.ofNat (nb l (k + 4 * i) 4)
theorem w32s_len (l : List UInt8) (k n : Nat) : (w32s l k n).length = n:=by simp [w32s]
theorem w32s_snoc (l : List UInt8) (k n : Nat) : w32s l k (n + 1) = w32s l k n ++ [UInt32.ofNat (nb l (k + 4 * n) 4)]:=by simp [w32s,List.range_succ]
theorem u16_nb (l : List UInt8) (k : Nat) : (UInt16.ofNat (nb l k 2)).toNat = nb l k 2:=UInt16.toNat_ofNat_of_lt' (by have:=nb_lt l k 2;simpa [UInt16.size] using this)
theorem u32_nb (l : List UInt8) (k : Nat) : (UInt32.ofNat (nb l k 4)).toNat = nb l k 4:=UInt32.toNat_ofNat_of_lt' (by have:=nb_lt l k 4;simpa [UInt32.size] using this)
theorem W32_nb (l : List UInt8) (k : Nat) : W32 (UInt32.ofNat (nb l k 4)) = .int .u32 (nb l k 4):=by
 have:=nb_lt l k 4
 unfold W32
 rw [UInt32.toNat_ofNat_of_lt' (by simpa [UInt32.size] using this)]

theorem words_ok {w : World} {R : Nat} {v : Value} {k : Nat} {l : List UInt8} (hR : Rd w R v k l) (n : Nat) (hn : n ≤ 4096) (hle : k + 4 * n ≤ l.length) :
  Calls Tryz.prog 111 #[.pointer (some ⟨R,0,none⟩),.int .i64 n] w fun e w' => ∃ v',e = .returned v' ∧ OwnW w' w.heap.size v' (w32s l k n) ∧ Rd w' R v (k + 4 * n) l ∧ Fr [R] w w':=by
 have hRlt : R < w.heap.size:=World.block_lt_of_cell? _ _ hR.c0
 have HR:=Hd hR
 clear hR
 go_enter Tryz.func111,Tryz.ntmps111
 go_wp2_with fail
 go_loopw [5,7] (fun vv i wr => ∃ j : Nat,j ≤ n ∧ i = .int .i64 j ∧ wr.ownsRow w.heap.size 22 1 vv j ((w32s l k j).map W32) ∧ Rd wr R v (k + 4 * j) l ∧ Fr [R] w wr) (fun _ i _ => n - (intOf i).toNat)
 case atStart => exact ⟨0,Nat.zero_le _,rfl,World.ownsRow_nil _ _ _ _,HR.out,Fr.refl _ _⟩
 case round =>
  obtain ⟨j,hj,rfl,ho,hR1,hF⟩:=hrel
  by_cases hlt : j < n
  ·have HO:=Hd ho;have H1:=Hd hR1;have H2:=Hd hF
   clear ho hR1 hF
   go_wp2_with fail
   refine (rlong_ok H1.out (by omega)).mono ?_
   rintro e w1 ⟨rfl,hR2,hF2⟩
   have H3:=Hd hR2;have H4:=Hd hF2
   have HO2:=Hd (Own.low HO.out hF2 (by simp;omega))
   have H5:=Hd (H2.out.trans hF2)
   have hsz : w.heap.size ≤ w1.heap.size:=H5.out.size
   clear hR2 hF2 HO H1 H2
   go_wp2_with (at_builtin;refine wpList_append_sl rfl _ _ _ rfl w.heap.size 22 _ _ Tryz.underlying91 info_u32 rfl u5 j _ rfl (HO2.out.alloc _) _ [_] rfl (Sl.one _ _ _) (oneCell_int _ _) (by unfold maxLen;simp;omega) (by simp;omega) (by simp;omega) ?_)
   intro v' w2 ho2 hg _
   have H6:=Hd ho2;have H7:=Hd ((H5.out.alloc _).grown hg (fun k hk => .inr (Own.block HO2.out k hk).1))
   have H8:=Hd (Rd.grown (H3.out.keep ((Fr.refl _ _).alloc _)) hg (fun g hg => (Own.block HO2.out g hg).1) hRlt HR.out.vlt)
   clear ho2 hg HO2 H5 H3 H4
   go_wp2_with fail
   go_roundw
   case rel => exact ⟨j + 1,by omega,by go_num,by rw [w32s_snoc,List.map_append,List.map_singleton,W32_nb];exact H6.out,by rw [Nat.mul_add,← Nat.add_assoc];exact H8.out,H7.out⟩
   case measure => simp [intOf];omega
  ·go_wp2_with fail
   go_ret
   obtain rfl : j = n:=by omega
   exact ⟨_,rfl,by unfold OwnW;rw [w32s_len];exact ho,hR1,hF⟩
theorem words_short {w : World} {R : Nat} {v : Value} {k : Nat} {l : List UInt8} (hR : Rd w R v k l) (n : Nat) (hn : n ≤ 4096) (hle : l.length < k + 4 * n) :
  Calls Tryz.prog 111 #[.pointer (some ⟨R,0,none⟩),.int .i64 n] w fun e w' => e = .panicked (faultOf 20) ∧ Fr [R] w w':=by
 have hRlt : R < w.heap.size:=World.block_lt_of_cell? _ _ hR.c0
 have HR:=Hd hR
 have hp:=hR.place
 clear hR
 go_enter Tryz.func111,Tryz.ntmps111
 go_wp2_with fail
 go_loopw [5,7] (fun vv i wr => ∃ j : Nat,k + 4 * j ≤ l.length ∧ i = .int .i64 j ∧ wr.ownsRow w.heap.size 22 1 vv j ((w32s l k j).map W32) ∧ Rd wr R v (k + 4 * j) l ∧ Fr [R] w wr) (fun _ i _ => n - (intOf i).toNat)
 case atStart => exact ⟨0,hp,rfl,World.ownsRow_nil _ _ _ _,HR.out,Fr.refl _ _⟩
 case round =>
  obtain ⟨j,hj,rfl,ho,hR1,hF⟩:=hrel
  have hlt : j < n:=by omega
  have HO:=Hd ho;have H1:=Hd hR1;have H2:=Hd hF
  clear ho hR1 hF
  by_cases hle2 : k + 4 * j + 4 ≤ l.length
  ·go_wp2_with fail
   refine (rlong_ok H1.out hle2).mono ?_
   rintro e w1 ⟨rfl,hR2,hF2⟩
   have H3:=Hd hR2;have H4:=Hd hF2
   have HO2:=Hd (Own.low HO.out hF2 (by simp;omega))
   have H5:=Hd (H2.out.trans hF2)
   have hsz : w.heap.size ≤ w1.heap.size:=H5.out.size
   clear hR2 hF2 HO H1 H2
   go_wp2_with (at_builtin;refine wpList_append_sl rfl _ _ _ rfl w.heap.size 22 _ _ Tryz.underlying91 info_u32 rfl u5 j _ rfl (HO2.out.alloc _) _ [_] rfl (Sl.one _ _ _) (oneCell_int _ _) (by unfold maxLen;simp;omega) (by simp;omega) (by simp;omega) ?_)
   intro v' w2 ho2 hg _
   have H6:=Hd ho2;have H7:=Hd ((H5.out.alloc _).grown hg (fun k hk => .inr (Own.block HO2.out k hk).1))
   have H8:=Hd (Rd.grown (H3.out.keep ((Fr.refl _ _).alloc _)) hg (fun g hg => (Own.block HO2.out g hg).1) hRlt HR.out.vlt)
   clear ho2 hg HO2 H5 H3 H4
   go_wp2_with fail
   go_roundw
   case rel => exact ⟨j + 1,by omega,by go_num,by rw [w32s_snoc,List.map_append,List.map_singleton,W32_nb];exact H6.out,by rw [Nat.mul_add,← Nat.add_assoc];exact H8.out,H7.out⟩
   case measure => simp [intOf];omega
  ·go_wp2_with fail
   refine (rlong_short H1.out (by omega)).mono ?_
   rintro e w1 ⟨rfl,nq,rfl⟩
   go_wp2_with fail
   exact ⟨rfl,rfl,H2.out.drewN nq⟩

def pc (m : Bool) (pt : Int) (sq ts ss : Nat) (cs : Value) (he : Bool) (pf : Nat) (ex pl pd : Value) : Array Value :=
 #[.bool m,.int .i64 pt,.int .u16 sq,.int .u32 ts,.int .u32 ss,cs,.bool he,.int .u16 pf,ex,pl,pd]

theorem oneCell_pc (m : Bool) (pt : Int) (sq ts ss : Nat) (cs : Value) (he : Bool) (pf : Nat) (ex pl pd : Value) (h1 : ∃ a n c,cs = .slice a n c) (h2 : ∃ a n c,ex = .slice a n c) (h3 : ∃ a n c,pl = .slice a n c) (h4 : ∃ a n c,pd = .slice a n c) :
  ∀ u ∈ (pc m pt sq ts ss cs he pf ex pl pd).toList,u.oneCell' = true:=by
 obtain ⟨_,_,_,rfl⟩:=h1;obtain ⟨_,_,_,rfl⟩:=h2;obtain ⟨_,_,_,rfl⟩:=h3;obtain ⟨_,_,_,rfl⟩:=h4
 intro u hu
 simp only [pc,List.mem_cons,List.not_mem_nil,or_false] at hu
 rcases hu with rfl | rfl | rfl | rfl | rfl | rfl | rfl | rfl | rfl | rfl | rfl <;> rfl

theorem extension_ok {w : World} {R : Nat} {v : Value} {k : Nat} {l : List UInt8} (hR : Rd w R v k l) (Q : Nat) {m : Bool} {pt : Int} {sq ts ss pf : Nat} {cs ex pl pd : Value} {he : Bool}
  (hB : Box w Q 93 (pc m pt sq ts ss cs he pf ex pl pd)) (hQ : Q ≠ R) (hv : liveOf v ≠ some Q) (h4 : k + 4 ≤ l.length) (hm : k + 4 + 4 * nb l (k + 2) 2 ≤ l.length) :
  Calls Tryz.prog 112 #[.pointer (some ⟨R,0,none⟩),.pointer (some ⟨Q,0,none⟩)] w fun e w' => ∃ v',e = .returned (.tuple #[]) ∧ OwnB w' w.heap.size v' ((l.drop (k + 4)).take (4 * nb l (k + 2) 2)) ∧
   Box w' Q 93 (pc m pt sq ts ss cs true (nb l k 2) v' pl pd) ∧ Rd w' R v (k + 4 + 4 * nb l (k + 2) 2) l ∧ Fr [R,Q] w w':=by
 go_enter Tryz.func112,Tryz.ntmps112
 go_wp2_with fail
 refine (rword_ok hR (by omega)).mono ?_
 rintro e w1 ⟨rfl,hR1,hF1⟩
 have hB1:=hB.fr hF1 (by simp [hQ])
 have H1:=Hd hR1;have H2:=Hd hF1;have H3:=Hd hB1;have HB:=Hd hB
 have b6:=hB1.cell 6;have b7:=hB1.cell 7;have f6:=hB1.free 6;have f7:=hB1.free 7
 simp only [pc,zz7,zz8,zz9] at b6 b7
 clear hR hR1 hF1 hB hB1
 go_wp2_with fail
 have hB2:=(H3.out.set 6 (.bool true)).set 7 (.int .u16 (nb l k 2))
 have hF2:=((Fr.refl [Q] w1).set (g:=Q) (i:=6) (.inl (by simp)) (.bool true)).set (g:=Q) (i:=7) (.inl (by simp)) (.int .u16 (nb l k 2))
 generalize hw2 : (w1.setCell ⟨Q,6,none⟩ (.bool true)).setCell ⟨Q,7,none⟩ (.int .u16 (nb l k 2)) = w2 at hB2 hF2 ⊢
 clear hw2 b6 b7 f6 f7
 have hR2:=H1.out.fr hF2 (by simp;omega) (fun b hb hm => hv (by simp at hm;rw [hb,hm]))
 have hF2':=(H2.out.mono (T:=[R,Q]) (by simp)).trans (hF2.mono (T:=[R,Q]) (by simp))
 have hQlt : Q < w.heap.size:=HB.out.lt
 clear hF2 H1 H2 H3 HB
 refine (rword_ok hR2 (by omega)).mono ?_
 rintro e w3 ⟨rfl,hR3,hF3⟩
 have HB3:=Hd (hB2.fr hF3 (by simp [hQ]));have H3:=Hd hR3;have H4:=Hd (hF2'.trans (hF3.mono (T:=[R,Q]) (by simp)))
 clear hR2 hF2' hB2 hR3 hF3
 have hlt:=nb_lt l (k + 2) 2
 go_wp2_with fail
 refine (take_ok H3.out _ (4 * nb l (k + 2) 2) (by omega) (by omega)).mono ?_
 rintro e w4 ⟨v',rfl,hO,hR4,hF4⟩
 obtain ⟨a4,n4,c4,rfl⟩:=hO.isSlice
 have hB4:=HB3.out.fr hF4 (by simp [hQ])
 have H5:=Hd hO;have H6:=Hd hR4;have H7:=Hd (H4.out.trans (hF4.mono (T:=[R,Q]) (by simp)));have H8:=Hd hB4
 have b8:=hB4.cell 8;have f8:=hB4.free 8
 have hb34 : w.heap.size ≤ w3.heap.size:=H4.out.size
 simp only [pc,Array.setIfInBounds,List.size_toArray,List.length_cons,List.length_nil,zz7,zz8,zz9,Nat.reduceAdd,Nat.reduceLT,↓reduceDIte,List.set_toArray,zz6,zz5] at b8
 clear hO hR4 hF4 hB4 HB3 H3 H4
 go_wp2_with fail
 go_end0
 have hF5 : Fr [Q] w4 (w4.setCell ⟨Q,8,none⟩ (.slice a4 n4 c4)):=(Fr.refl [Q] w4).set (g:=Q) (i:=8) (.inl (by simp)) _
 refine ⟨_,rfl,?_,H8.out.set 8 _,?_,H7.out.trans (hF5.mono (by simp))⟩
 ·exact (H5.out.mono hb34).low hF5 (by simp;omega)
 ·exact H6.out.fr hF5 (by simp;omega) (fun b hb hm => hv (by simp at hm;rw [hb,hm]))

theorem extension_short {w : World} {R : Nat} {v : Value} {k : Nat} {l : List UInt8} (hR : Rd w R v k l) (Q : Nat) {m : Bool} {pt : Int} {sq ts ss pf : Nat} {cs ex pl pd : Value} {he : Bool}
  (hB : Box w Q 93 (pc m pt sq ts ss cs he pf ex pl pd)) (hQ : Q ≠ R) (hv : liveOf v ≠ some Q) (hm : l.length < k + 4 + 4 * nb l (k + 2) 2) :
  Calls Tryz.prog 112 #[.pointer (some ⟨R,0,none⟩),.pointer (some ⟨Q,0,none⟩)] w fun e w' => e = .panicked (faultOf 20) ∧ Fr [R,Q] w w':=by
 by_cases hk2 : l.length < k + 2
 ·go_enter Tryz.func112,Tryz.ntmps112
  go_wp2_with fail
  refine (rword_short hR hk2).mono ?_
  rintro e w1 ⟨rfl,nq,rfl⟩
  exact ⟨rfl,rfl,(Fr.refl _ _).drewN nq⟩
 go_enter Tryz.func112,Tryz.ntmps112
 go_wp2_with fail
 refine (rword_ok hR (by omega)).mono ?_
 rintro e w1 ⟨rfl,hR1,hF1⟩
 have hB1:=hB.fr hF1 (by simp [hQ])
 have H1:=Hd hR1;have H2:=Hd hF1;have H3:=Hd hB1;have HB:=Hd hB
 have b6:=hB1.cell 6;have b7:=hB1.cell 7;have f6:=hB1.free 6;have f7:=hB1.free 7
 simp only [pc,zz7,zz8,zz9] at b6 b7
 clear hR hR1 hF1 hB hB1
 go_wp2_with fail
 have hF2:=((Fr.refl [Q] w1).set (g:=Q) (i:=6) (.inl (by simp)) (.bool true)).set (g:=Q) (i:=7) (.inl (by simp)) (.int .u16 (nb l k 2))
 generalize hw2 : (w1.setCell ⟨Q,6,none⟩ (.bool true)).setCell ⟨Q,7,none⟩ (.int .u16 (nb l k 2)) = w2 at hF2 ⊢
 clear hw2 b6 b7 f6 f7
 have hR2:=H1.out.fr hF2 (by simp;omega) (fun b hb hm => hv (by simp at hm;rw [hb,hm]))
 have hF2':=(H2.out.mono (T:=[R,Q]) (by simp)).trans (hF2.mono (T:=[R,Q]) (by simp))
 clear hF2 H1 H2 H3 HB
 by_cases hk4 : l.length < k + 2 + 2
 ·refine (rword_short hR2 hk4).mono ?_
  rintro e w3 ⟨rfl,nq,rfl⟩
  exact ⟨rfl,rfl,hF2'.drewN nq⟩
 refine (rword_ok hR2 (by omega)).mono ?_
 rintro e w3 ⟨rfl,hR3,hF3⟩
 have H3:=Hd hR3;have H4:=Hd (hF2'.trans (hF3.mono (T:=[R,Q]) (by simp)))
 clear hR2 hF2' hR3 hF3
 have hlt:=nb_lt l (k + 2) 2
 go_wp2_with fail
 refine (take_short H3.out _ (by omega)).mono ?_
 rintro e w4 ⟨rfl,nq,rfl⟩
 exact ⟨rfl,rfl,H4.out.drewN nq⟩
end Go.Proofs.YtcngfbjmpemehaaGreat

/- 'append(s,make([]T,n)...)' on a slice of the call's own. -/
namespace Go.Proofs.YtcngfbjmpemehaaGreat
open Go.RowKit

theorem zeroCells_one (z : Value) (m : Nat) : (Builtin.zeroCells #[z] m) = (List.replicate m z).toArray:=by
 apply Array.ext
 ·simp [Builtin.zeroCells]
 ·intro k h1 h2
  have e : k % 1 = 0:=Nat.mod_one k
  simp [Builtin.zeroCells,e]

theorem run_append_zeros {P : Program} (w : World) (base : Nat) (t ti ty e : TypeId) (i : TypeInfo) (z : Value) (bytes : Nat) (ht : P.underlying t = some (.slice e)) (hti : P.underlying ti = some (.int .i64)) (hi : P.info? e = some i) (hz : i.zero = some z)
  (hsize : i.size = 1) (hby : i.bytes = bytes) (hzc : z.cells = #[z]) (h1 : z.oneCell' = true)
  (v : Value) (n : Nat) (xs : List Value) (hown : w.ownsRow base e 1 v n xs) (m : Nat) (hm0 : 0 < m) (h63 : n + m ≤ maxLen) (hbytes : (n + m) * bytes ≤ 140737488355328) (hbase : base ≤ w.heap.size) :
  ∃ v' w',(Builtin.append_ #[t,ti] ty #[v,.int .i64 m]).run P w = .ok v' w' ∧ w'.ownsRow base e 1 v' (n + m) (xs ++ List.replicate m z) ∧ Fr (blockOf v).toList w w' ∧
   ∀ b,blockOf v' = some b → blockOf v = some b ∨ w.heap.size ≤ b:=by
 subst hby
 have h63' : n + m ≤ 9223372036854775807:=by simpa [maxLen] using h63
 have hmb : m * i.bytes ≤ 140737488355328:=Nat.le_trans (Nat.mul_le_mul_right _ (Nat.le_add_left m n)) hbytes
 have hlen : (xs ++ List.replicate m z).length = (n + m) * 1:=by rw [List.length_append,hown.1,List.length_replicate];omega
 have grown : ∀ (old : Nat),old < n + m →
   (w.drew.alloc (.cells (xs.toArray ++ (List.replicate m z).toArray ++ Builtin.zeroCells z.cells (grownCap w (n + m) old e - (n + m))) e)).ownsRow base e 1
    (.slice (some ⟨w.heap.size,0,none⟩) (n + m) (grownCap w (n + m) old e)) (n + m) (xs ++ List.replicate m z):=by
  intro old ho
  have hge:=grownCap_ge w (n + m) old e
  have hcm : grownCap w (n + m) old e ≤ maxLen:=grownCap_le_maxLen w (n + m) old e h63
  refine ⟨hlen,.inr ⟨w.heap.size,_,_,rfl,hbase,heap_alloc_new w.drew _,hge,hcm,?_,?_⟩⟩
  ·rw [hzc,zeroCells_one]
   simp only [List.append_toArray,List.size_toArray,List.length_append,hown.1,List.length_replicate]
   omega
  ·simp only [Array.toList_append,List.append_assoc]
   rw [← List.append_assoc,← hlen]
   exact List.take_left
 rcases hown.2 with ⟨rfl,rfl⟩ | ⟨g,cap,cur,rfl,hbg,hg,hnc,hcm,hcs,htake⟩
 ·have hx : xs = []:=List.eq_nil_of_length_eq_zero (by simpa using hown.1)
  subst hx
  have hr:=Lib.run_append_nil_zeros (P:=P) w t ti ty e i z .i64 .i64 ht hti hi hz m hm0 (by omega) (by omega) (by omega)
  have hgr:=grown 0 (by omega)
  simp only [Nat.zero_add,List.nil_append,Array.empty_append] at hgr ⊢
  rw [← zeroCells_one,← hzc] at hgr
  refine ⟨_,_,hr,hgr,(Fr.refl _ w).drew.alloc _,fun b hb => ?_⟩
  simp only [blockOf,Option.some.injEq] at hb
  exact .inr (by omega)
 ·by_cases hroom : n + m ≤ cap
  ·have hw : IntKind.i64.wrap (m : Int) = m:=by rw [IntKind.wrap_i64];omega
   have hneg : ¬ ((m : Int) < 0):=by omega
   have h48i : ¬ (281474976710656 < (m : Int) * (i.bytes : Int)):=by rw [← Int.natCast_mul];omega
   have hfit : n * 1 + (List.replicate m z).length ≤ cur.size:=by rw [List.length_replicate,hcs];omega
   have hst:=run_storeCells_at P g (n * 1) e (List.replicate m z) 0 cur w hg (by simpa using hfit) (fun u hu => by rw [(List.mem_replicate.1 hu).2];exact h1)
   simp only [Nat.add_zero,Nat.mul_one] at hst
   have hr : (Builtin.append_ #[t,ti] ty #[.slice (some ⟨g,0,none⟩) n cap,.int .i64 m]).run P w =
     .ok (.slice (some ⟨g,0,none⟩) (n + m) cap) (w.setRow g (cur.toList.take n ++ List.replicate m z ++ cur.toList.drop (n + (List.replicate m z).length)).toArray):=by
    have hm' : ¬ (m = 0):=by omega
    simp [Builtin.append_,run_underlying ht,run_underlying hti,sizeOf,typeInfo,zeroValue,hi,hz,asInt,asIntOf,hw,hneg,h48i,hroom,hsize,hm',hzc,zeroCells_one,Addr.add_lit]
    have hst2:=hst
    simp at hst2
    rw [hst2]
    rfl
   refine ⟨_,_,hr,⟨hlen,.inr ⟨g,cap,_,rfl,hbg,setRow_heap w g cur _ e _ hg,hroom,hcm,?_,?_⟩⟩,?_,fun b hb => .inl hb⟩
   ·simp only [List.size_toArray,List.length_append,List.length_take,List.length_drop,Array.length_toList,List.length_replicate] at hfit ⊢
    omega
   ·have ht2 : cur.toList.take n = xs:=by simpa using htake
    rw [ht2,← hlen]
    exact List.take_left
   ·exact Box.frSetRow w g _
  ·have holds : ∀ j u,xs[j]? = some u → w.cell? ((⟨g,0,none⟩ : Addr).add j) = some u:=hown.cells (g:=g) rfl
   have hold : (Builtin.firstCells i.size n (.slice (some ⟨g,0,none⟩) n cap)).run P w.drew = .ok xs.toArray w.drew:=by
    have:=run_firstCells_some (P:=P) w.drew i.size n ⟨g,0,none⟩ n cap xs (by rw [hsize];exact hown.1) holds
    exact this
   have hr:=Lib.run_append_grow_zeros (P:=P) w t ti ty e i z .i64 .i64 ht hti hi hz (some ⟨g,0,none⟩) n cap xs hold m hm0 (by omega) (by omega) (by omega) (by omega) (growslice_fits (by omega) hbytes)
   have hgr:=grown cap (by omega)
   rw [← zeroCells_one,← hzc] at hgr
   refine ⟨_,_,hr,hgr,?_,fun b hb => ?_⟩
   ·exact (Fr.refl _ w).drew.alloc _
   ·simp only [blockOf,Option.some.injEq] at hb
    exact .inr (by omega)
end Go.Proofs.YtcngfbjmpemehaaGreat
