import Derived.Laws.StructEq
import Derived.Test.YtcngfbjmpemehaaGreatMp1
import Derived.Test.YtcngfbjmpemehaaGreatMp2
import Derived.Test.YtcngfbjmpemehaaGreatMp12
import Derived.Test.YtcngfbjmpemehaaGreatMp15
import Derived.Test.YtcngfbjmpemehaaGreatMp16
set_option maxRecDepth 100000
set_option maxHeartbeats 16000000
open List renaming getElem_toArray → zz1, getElem_cons_zero → zz2, getElem_cons_succ → zz3, setIfInBounds_toArray → zz4, set_cons_zero → zz5, set_cons_succ → zz6, getElem?_toArray → zz7, getElem?_cons_succ → zz8, getElem?_cons_zero → zz9
open Go.Lib renaming hid → Hd
/- The walks of mask: And,Or,bit,Has,With,Without,First (printed by gen_mask1.py). -/
namespace Go.Proofs.YtcngfbjmpemehaaGreat
open Go.RowKit

theorem bv_ofInt (a : BitVec 64) : BitVec.ofInt 64 (a.toNat : Int) = a:=by simp
theorem u64_wrap (a : BitVec 64) : IntKind.u64.wrap (a.toNat : Int) = (a.toNat : Int):=by
 have:=a.isLt
 rw [IntKind.wrap_u64]
 omega
theorem u64_and (a b : BitVec 64) : bits .and .u64 (a.toNat : Int) (b.toNat : Int) = ((a &&& b).toNat : Int):=by
 show IntKind.u64.wrap ((BitVec.ofInt 64 (a.toNat : Int) &&& BitVec.ofInt 64 (b.toNat : Int)).toNat : Int) = _
 rw [bv_ofInt,bv_ofInt,u64_wrap]
theorem u64_or (a b : BitVec 64) : bits .or .u64 (a.toNat : Int) (b.toNat : Int) = ((a ||| b).toNat : Int):=by
 show IntKind.u64.wrap ((BitVec.ofInt 64 (a.toNat : Int) ||| BitVec.ofInt 64 (b.toNat : Int)).toNat : Int) = _
 rw [bv_ofInt,bv_ofInt,u64_wrap]
theorem u64_andNot (a b : BitVec 64) : bits .andNot .u64 (a.toNat : Int) (b.toNat : Int) = ((a &&& ~~~b).toNat : Int):=by
 show IntKind.u64.wrap ((BitVec.ofInt 64 (a.toNat : Int) &&& ~~~BitVec.ofInt 64 (b.toNat : Int)).toNat : Int) = _
 rw [bv_ofInt,bv_ofInt,u64_wrap]
abbrev mkc (m : Msk) : Array Value:=#[.int .u64 (m.hi.toNat : Nat),.int .u64 (m.lo.toNat : Nat)]
theorem mAnd_any (m n : Msk) (w : World) :
  Calls Tryz.prog 134 #[.agg (mkc m),.agg (mkc n)] w fun e w' => e = .returned (.agg (mkc (m.and n))) ∧ Fr [] w w':=by
 obtain ⟨w1,e1,hF1,hB1,hB2,hs1⟩:=two_new w (mkc m) 132 (mkc n) 132
 obtain ⟨w2,e2,hF2,hB3,hs2⟩:=one_new w1 #[.int .u64 0,.int .u64 0] 132
 rw [hs1] at hB3
 have HF:=Hd (hF1.trans hF2);have HB3:=Hd hB3;have E1:=Hd e1;have E2:=Hd e2
 have x0:=(hB1.keep hF2).cell 0;have x1:=(hB1.keep hF2).cell 1;have y0:=(hB2.keep hF2).cell 0;have y1:=(hB2.keep hF2).cell 1
 simp only [mkc,zz7,zz8,zz9] at x0 x1 y0 y1
 have k1:=u64_and m.hi n.hi;have k2:=u64_and m.lo n.lo
 clear hF1 hF2 hB1 hB2 hB3 e1 e2 hs1 hs2
 go_enter Tryz.func134,Tryz.ntmps134
 go_upto_region 1 with fail
 rw [E1.out,E2.out]
 clear E1 E2
 go_wp2_with (refine wpList_store_row rfl 132 (.tmp 4) (.tmp 15) rfl (w.heap.size + 2) rfl _ _ rfl 132 HB3.out (by kernel_rfl) rfl (by simp [Value.oneCell']) ?_;intro w3 hY hG;have HY:=Hd hY;have HGn:=Hd hG;clear hY hG)
 refine bodyPost_ret (results_cell_row rfl _ _ (w.heap.size + 2) 132 _ (0,0) _ rfl HY.out Tryz.underlying132 rfl (by kernel_rfl)) rfl ⟨rfl,HF.out.step HGn.out (by first | (simp;done) | (simp;omega))⟩

theorem mOr_any (m n : Msk) (w : World) :
  Calls Tryz.prog 136 #[.agg (mkc m),.agg (mkc n)] w fun e w' => e = .returned (.agg (mkc (m.or n))) ∧ Fr [] w w':=by
 obtain ⟨w1,e1,hF1,hB1,hB2,hs1⟩:=two_new w (mkc m) 132 (mkc n) 132
 obtain ⟨w2,e2,hF2,hB3,hs2⟩:=one_new w1 #[.int .u64 0,.int .u64 0] 132
 rw [hs1] at hB3
 have HF:=Hd (hF1.trans hF2);have HB3:=Hd hB3;have E1:=Hd e1;have E2:=Hd e2
 have x0:=(hB1.keep hF2).cell 0;have x1:=(hB1.keep hF2).cell 1;have y0:=(hB2.keep hF2).cell 0;have y1:=(hB2.keep hF2).cell 1
 simp only [mkc,zz7,zz8,zz9] at x0 x1 y0 y1
 have k1:=u64_or m.hi n.hi;have k2:=u64_or m.lo n.lo
 clear hF1 hF2 hB1 hB2 hB3 e1 e2 hs1 hs2
 go_enter Tryz.func136,Tryz.ntmps136
 go_upto_region 1 with fail
 rw [E1.out,E2.out]
 clear E1 E2
 go_wp2_with (refine wpList_store_row rfl 132 (.tmp 4) (.tmp 15) rfl (w.heap.size + 2) rfl _ _ rfl 132 HB3.out (by kernel_rfl) rfl (by simp [Value.oneCell']) ?_;intro w3 hY hG;have HY:=Hd hY;have HGn:=Hd hG;clear hY hG)
 refine bodyPost_ret (results_cell_row rfl _ _ (w.heap.size + 2) 132 _ (0,0) _ rfl HY.out Tryz.underlying132 rfl (by kernel_rfl)) rfl ⟨rfl,HF.out.step HGn.out (by first | (simp;done) | (simp;omega))⟩

theorem bit_hi {i : Nat} (h : i < 64) : mkc (Msk.bit i) = #[.int .u64 (IntKind.u64.wrap (2 ^ (63 - i))),.int .u64 0]:=by
 have e : ((BitVec.twoPow 64 (63 - i)).toNat : Int) = IntKind.u64.wrap (2 ^ (63 - i)):=by
  rw [BitVec.toNat_twoPow,Nat.mod_eq_of_lt (Nat.pow_lt_pow_right (by omega) (by omega)),IntKind.wrap_u64]
  have : 2 ^ (63 - i) < 2 ^ 64:=Nat.pow_lt_pow_right (by omega) (by omega)
  have h2 : ((2 : Int) ^ (63 - i)) = ((2 ^ (63 - i) : Nat) : Int):=by simp
  rw [h2]
  obtain ⟨q,hq⟩ : ∃ q : Nat,q = 2 ^ (63 - i):=⟨_,rfl⟩
  rw [← hq] at this ⊢
  omega
 unfold Msk.bit
 rw [if_pos h]
 show #[Value.int .u64 _,Value.int .u64 _] = _
 rw [e]
 rfl
theorem bit_lo {i : Nat} (h : ¬ i < 64) (h1 : i < 128) : mkc (Msk.bit i) = #[.int .u64 0,.int .u64 (IntKind.u64.wrap (2 ^ (127 - i)))]:=by
 have e : ((BitVec.twoPow 64 (127 - i)).toNat : Int) = IntKind.u64.wrap (2 ^ (127 - i)):=by
  rw [BitVec.toNat_twoPow,Nat.mod_eq_of_lt (Nat.pow_lt_pow_right (by omega) (by omega)),IntKind.wrap_u64]
  have : 2 ^ (127 - i) < 2 ^ 64:=Nat.pow_lt_pow_right (by omega) (by omega)
  have h2 : ((2 : Int) ^ (127 - i)) = ((2 ^ (127 - i) : Nat) : Int):=by simp
  rw [h2]
  obtain ⟨q,hq⟩ : ∃ q : Nat,q = 2 ^ (127 - i):=⟨_,rfl⟩
  rw [← hq] at this ⊢
  omega
 unfold Msk.bit
 rw [if_neg h]
 show #[Value.int .u64 _,Value.int .u64 _] = _
 rw [e]
 rfl
theorem mBit_any {i : Nat} (hi : i < 128) (w : World) :
  Calls Tryz.prog 135 #[.int .i64 i] w fun e w' => e = .returned (.agg (mkc (Msk.bit i))) ∧ Fr [] w w':=by
 obtain ⟨w2,e2,hF2,hB3,hs2⟩:=one_new w #[.int .u64 0,.int .u64 0] 132
 have HF:=Hd hF2;have HB3:=Hd hB3;have E2:=Hd e2
 clear hF2 hB3 e2 hs2
 by_cases h : i < 64
 ·go_enter Tryz.func135,Tryz.ntmps135
  go_upto_region 1 with fail
  rw [E2.out]
  clear E2
  go_wp2_with (refine wpList_store_row rfl 132 (.tmp 2) (.tmp 17) rfl (w.heap.size) rfl _ _ rfl 132 HB3.out (by kernel_rfl) rfl (by simp [Value.oneCell']) ?_;intro w3 hY hG;have HY:=Hd hY;have HGn:=Hd hG;clear hY hG)
  rw [bit_hi h]
  refine bodyPost_ret (results_cell_row rfl _ _ (w.heap.size) 132 _ (0,0) _ rfl HY.out Tryz.underlying132 rfl (by kernel_rfl)) rfl ⟨rfl,HF.out.step HGn.out (by first | (simp;done) | (simp;omega))⟩
 ·go_enter Tryz.func135,Tryz.ntmps135
  go_upto_region 1 with fail
  rw [E2.out]
  clear E2
  go_wp2_with (refine wpList_store_row rfl 132 (.tmp 2) (.tmp 21) rfl (w.heap.size) rfl _ _ rfl 132 HB3.out (by kernel_rfl) rfl (by simp [Value.oneCell']) ?_;intro w3 hY hG;have HY:=Hd hY;have HGn:=Hd hG;clear hY hG)
  rw [bit_lo h hi]
  refine bodyPost_ret (results_cell_row rfl _ _ (w.heap.size) 132 _ (0,0) _ rfl HY.out Tryz.underlying132 rfl (by kernel_rfl)) rfl ⟨rfl,HF.out.step HGn.out (by first | (simp;done) | (simp;omega))⟩

theorem mask_eq (m n : Msk) (w : World) : (Op.equalIn 10000 132 (.agg (mkc m)) (.agg (mkc n))).run Tryz.prog w = .ok (m == n) w:=by
 have u3:=Tryz.underlying36
 have a3:=Tryz.isAgg36
 have z3:=Tryz.sizeOf36
 rw [show (10000 : Nat) = 9999 + 1 from rfl,run_equalIn_agg w 9999 132 _ _ (by kernel_rfl) (by kernel_rfl)]
 simp only [Program.fieldsOf,Tryz.underlying132]
 go_simp
 obtain ⟨a,b⟩:=m
 obtain ⟨c,d⟩:=n
 have e1 : (((a.toNat : Nat) : Int) = (c.toNat : Nat)) ↔ a = c:=by
  constructor
  ·intro h;exact BitVec.eq_of_toNat_eq (by omega)
  ·rintro rfl;rfl
 have e2 : (((b.toNat : Nat) : Int) = (d.toNat : Nat)) ↔ b = d:=by
  constructor
  ·intro h;exact BitVec.eq_of_toNat_eq (by omega)
  ·rintro rfl;rfl
 by_cases h1 : a = c <;> by_cases h2 : b = d <;> simp [h1,h2,e1,e2]
theorem mWithout_any (m : Msk) {i : Nat} (hi : i < 128) (w : World) :
  Calls Tryz.prog 154 #[.agg (mkc m),.int .i64 i] w fun e w' => e = .returned (.agg (mkc (m.sub (Msk.bit i)))) ∧ Fr [] w w':=by
 obtain ⟨w1,e1,hF1,hB1,hB2,hs1⟩:=two_new w (mkc m) 132 #[.int .u64 0,.int .u64 0] 132
 have HF:=Hd hF1;have HB1:=Hd hB1;have HB2:=Hd hB2;have E1:=Hd e1;have HS:=Hd hs1
 have k1 : bits .andNot .u64 (m.hi.toNat : Int) ((Msk.bit i).hi.toNat : Int) = ((m.sub (Msk.bit i)).hi.toNat : Int):=u64_andNot m.hi (Msk.bit i).hi
 have k2 : bits .andNot .u64 (m.lo.toNat : Int) ((Msk.bit i).lo.toNat : Int) = ((m.sub (Msk.bit i)).lo.toNat : Int):=u64_andNot m.lo (Msk.bit i).lo
 have K1:=Hd k1;have K2:=Hd k2
 clear hF1 hB1 hB2 e1 hs1 k1 k2
 go_enter Tryz.func154,Tryz.ntmps154
 go_upto_region 1 with fail
 rw [E1.out]
 clear E1
 go_wp2_with fail
 refine (mBit_any hi _).mono ?_
 rintro e w2 ⟨rfl,hF⟩
 have HF:=Hd (HF.out.trans hF);have HB1:=Hd (HB1.out.keep hF);have HB2:=Hd (HB2.out.keep hF)
 have HS2 : Hid (w.heap.size + 2 ≤ w2.heap.size):=Hd (by have:=HS.out;have:=hF.size;omega)
 clear hF
 go_upto_region 2 with (refine wpList_store_row rfl 132 (.tmp 5) (.tmp 7) rfl w2.heap.size rfl _ _ rfl 132 (Box.new w2 132 #[.int .u64 0,.int .u64 0]) (by kernel_rfl) rfl (by simp [Value.oneCell']) ?_;intro w3 hY hG;have hFn:=((Fr.refl [] w2).alloc _).step hG (by simp);have HFn:=Hd hFn;have HB5:=Hd hY;clear hG hFn hY)
 have HF:=Hd (HF.out.trans HFn.out);have HB2:=Hd (HB2.out.keep HFn.out)
 have x0:=(HB1.out.keep HFn.out).cell 0;have x1:=(HB1.out.keep HFn.out).cell 1;have y0:=HB5.out.cell 0;have y1:=HB5.out.cell 1
 simp only [mkc,zz7,zz8,zz9] at x0 x1 y0 y1
 have k1:=K1.out;have k2:=K2.out
 clear HFn
 generalize hg : w2.heap.size = g2 at *
 clear hg
 go_wp2_with (refine wpList_store_row rfl 132 (.tmp 4) (.tmp 18) rfl (w.heap.size + 1) rfl _ _ rfl 132 HB2.out (by kernel_rfl) rfl (by simp [Value.oneCell']) ?_;intro w4 hY hG;have HY:=Hd hY;have HGn:=Hd hG;clear hY hG)
 refine bodyPost_ret (results_cell_row rfl _ _ (w.heap.size + 1) 132 _ (0,0) _ rfl HY.out Tryz.underlying132 rfl (by kernel_rfl)) rfl ⟨rfl,HF.out.step HGn.out (by first | (simp;done) | (simp;omega))⟩

theorem mFirst_any (m : Msk) (w : World) :
  Calls Tryz.prog 124 #[.agg (mkc m)] w fun e w' => e = .returned (.int .i64 m.first) ∧ Fr [] w w':=by
 obtain ⟨w1,e1,hF1,hB1,hs1⟩:=one_new w (mkc m) 132
 have HF:=Hd hF1;have E1:=Hd e1
 have x0:=hB1.cell 0;have x1:=hB1.cell 1
 simp only [mkc,zz7,zz8,zz9] at x0 x1
 have hb1:=m.hi.isLt;have hb2:=m.lo.isLt
 have q1:=Any.bitLen_le64 m.hi.toNat (by omega) (by omega)
 have q2:=Any.bitLen_le64 m.lo.toNat (by omega) (by omega)
 simp only [Int.toNat_natCast] at q1 q2
 have z : ∀ (a : BitVec 64),(((a.toNat : Nat) : Int) != 0) = (a != 0):=fun a => by
  rw [Bool.eq_iff_iff];simp [← BitVec.toNat_inj]
 have z1:=z m.hi;have z2:=z m.lo
 have Z1:=Hd z1;have Z2:=Hd z2
 clear hF1 hB1 e1 hs1 z1 z2 z
 by_cases h : m.hi = 0
 ·have t1 : (((m.hi.toNat : Nat) : Int) != 0) = false:=by rw [Z1.out];simp [h]
  have HH:=Hd h
  clear h
  by_cases h2 : m.lo = 0
  ·have t2 : (((m.lo.toNat : Nat) : Int) != 0) = false:=by rw [Z2.out];simp [h2]
   have HH2:=Hd h2
   clear h2
   go_enter Tryz.func124,Tryz.ntmps124
   go_upto_region 1 with fail
   rw [E1.out]
   clear E1
   go_wp2_with fail
   go_ret
   exact ⟨ret_int (by unfold Msk.first;rw [if_neg (by simpa using HH.out),if_neg (by simpa using HH2.out)]),HF.out⟩
  ·have t2 : (((m.lo.toNat : Nat) : Int) != 0) = true:=by rw [Z2.out];exact bne_iff_ne.2 h2
   have HH2:=Hd h2
   clear h2
   go_enter Tryz.func124,Tryz.ntmps124
   go_upto_region 1 with fail
   rw [E1.out]
   clear E1
   go_wp2_with fail
   refine (bits_LeadingZeros64 _ _ (by omega) (by omega)).mono ?_
   rintro e w2 ⟨rfl,rfl⟩
   simp only [Int.toNat_natCast]
   go_wp2_with fail
   go_ret
   exact ⟨ret_int (by unfold Msk.first;rw [if_neg (by simpa using HH.out),if_pos HH2.out];omega),HF.out⟩
 ·have t1 : (((m.hi.toNat : Nat) : Int) != 0) = true:=by rw [Z1.out];exact bne_iff_ne.2 h
  have HH:=Hd h
  clear h
  go_enter Tryz.func124,Tryz.ntmps124
  go_upto_region 1 with fail
  rw [E1.out]
  clear E1
  go_wp2_with fail
  refine (bits_LeadingZeros64 _ _ (by omega) (by omega)).mono ?_
  rintro e w2 ⟨rfl,rfl⟩
  simp only [Int.toNat_natCast]
  go_wp2_with fail
  go_ret
  exact ⟨ret_int (by unfold Msk.first;rw [if_pos HH.out]),HF.out⟩

theorem mWith_any (m : Msk) {i : Nat} (hi : i < 128) (w : World) :
  Calls Tryz.prog 105 #[.agg (mkc m),.int .i64 i] w fun e w' => e = .returned (.agg (mkc (m.or (Msk.bit i)))) ∧ Fr [] w w':=by
 obtain ⟨w1,e1,hF1,hB1,hB2,hs1⟩:=two_new w (mkc m) 132 #[.int .u64 0,.int .u64 0] 132
 have hd:=(Fr.refl [] w1).drew
 have HF:=Hd (hF1.drew);have HSS:=Hd (hB1.keep hd);have HR:=Hd (hB2.keep hd);have E1:=Hd e1
 clear hF1 hB1 hB2 e1 hs1 hd
 go_enter Tryz.func105,Tryz.ntmps105
 go_upto_region 1 with fail
 rw [E1.out]
 clear E1
 refine wp_region_T (fun w' => Box w' w.heap.size 132 (mkc m)) [] 5 #[false,false,false,false,false] (by kernel_rfl) rfl rfl ?_
 generalize w1.drew = wd at *
 refine wL 0 ?_ rfl (by kernel_rfl) (fun _ _ _ h => h) HSS.out (by rfl) ?_ ?_
 rotate_left
 ·intro w' hSw;refine run_load_row 132 (.tmp 2) ?_ w.heap.size ?_ 132 _ _ hSw Tryz.underlying132 rfl (by kernel_rfl) <;> rfl
 simp only [Act.put,zz1,zz2,zz3,zz4,zz5,zz6]
 refine wL 1 ?_ rfl (by kernel_rfl) (fun _ _ _ h => h) HSS.out (by rfl) ?_ ?_
 rotate_left
 ·intro w hSw;go_simp;try with_reducible rfl
 simp only [Act.put,zz1,zz2,zz3,zz4,zz5,zz6]
 refine wpAnyT_one (i:=2) (by kernel_rfl) rfl (fun K hK => ?_)
 rw [if_pos (by rfl)]
 go_simp
 refine (mBit_any hi _).mono ?_
 rintro e w2 ⟨rfl,hF⟩
 have HSS:=Hd (HSS.out.keep hF);have HR:=Hd (HR.out.keep hF);have HF:=Hd (HF.out.trans hF)
 clear hF
 go_simp
 refine hK.out _ _ (fun _ => HSS.out) ?_
 clear hK K
 simp only [Act.put,zz1,zz2,zz3,zz4,zz5,zz6]
 refine wpAnyT_one (i:=3) (by kernel_rfl) rfl (fun K hK => ?_)
 rw [if_pos (by rfl)]
 go_simp
 refine (mOr_any m (Msk.bit i) _).mono ?_
 rintro e w3 ⟨rfl,hF⟩
 have HSS:=Hd (HSS.out.keep hF);have HR:=Hd (HR.out.keep hF);have HF:=Hd (HF.out.trans hF)
 clear hF
 go_simp
 refine hK.out _ _ (fun _ => HSS.out) ?_
 clear hK K
 simp only [Act.put,zz1,zz2,zz3,zz4,zz5,zz6]
 refine wpAnyT_one (i:=4) (by kernel_rfl) rfl (fun K hK => ?_)
 refine wp_store_row rfl 132 (.tmp 4) (.tmp 8) rfl (w.heap.size + 1) rfl _ _ rfl 132 HR.out (by kernel_rfl) rfl (by simp [Value.oneCell']) ?_
 intro w4 hY hG
 have HY:=Hd hY;have HGn:=Hd hG
 have HSS:=Hd (HSS.out.fr hG (by simp))
 clear hY hG
 refine hK.out _ _ (fun _ => HSS.out) ?_
 clear hK K
 simp only [Act.put,zz1,zz2,zz3,zz4,zz5,zz6]
 refine wpAnyT_done (by kernel_rfl) ?_ _
 go_wp2_with fail
 refine bodyPost_ret (results_cell_row rfl _ _ (w.heap.size + 1) 132 _ (0,0) _ rfl HY.out Tryz.underlying132 rfl (by kernel_rfl)) rfl ⟨rfl,HF.out.step HGn.out (by first | (simp;done) | (simp;omega))⟩

theorem mHas_any (m : Msk) {i : Nat} (hi : i < 128) (w : World) :
  Calls Tryz.prog 104 #[.agg (mkc m),.int .i64 i] w fun e w' => e = .returned (.bool (m.has i)) ∧ Fr [] w w':=by
 obtain ⟨w1,e1,hF1,hB1,hs1⟩:=one_new w (mkc m) 132
 have hd:=(Fr.refl [] w1).drew
 have HF:=Hd (hF1.drew);have HSS:=Hd (hB1.keep hd);have HR:=HSS;have E1:=Hd e1
 have heq : ∀ W,(Op.equalIn 10000 132 (.agg (mkc (m.and (Msk.bit i)))) (.agg #[.int .u64 0,.int .u64 0])).run Tryz.prog W = .ok (!m.has i) W:=fun W => by
  have:=mask_eq (m.and (Msk.bit i)) Msk.zero W
  rw [Msk.and_bit hi] at this
  exact this
 have HEQ:=Hd heq
 clear hF1 hB1 e1 hs1 hd heq
 go_enter Tryz.func104,Tryz.ntmps104
 go_upto_region 1 with fail
 rw [E1.out]
 clear E1
 refine wp_region_T (fun w' => Box w' w.heap.size 132 (mkc m)) [] 7 #[false,false,false,false,false,false,false] (by kernel_rfl) rfl rfl ?_
 generalize w1.drew = wd at *
 refine wL 0 ?_ rfl (by kernel_rfl) (fun _ _ _ h => h) HSS.out (by rfl) ?_ ?_
 rotate_left
 ·intro w' hSw;refine run_load_row 132 (.tmp 2) ?_ w.heap.size ?_ 132 _ _ hSw Tryz.underlying132 rfl (by kernel_rfl) <;> rfl
 simp only [Act.put,zz1,zz2,zz3,zz4,zz5,zz6]
 refine wL 1 ?_ rfl (by kernel_rfl) (fun _ _ _ h => h) HSS.out (by rfl) ?_ ?_
 rotate_left
 ·intro w hSw;go_simp;try with_reducible rfl
 simp only [Act.put,zz1,zz2,zz3,zz4,zz5,zz6]
 refine wL 4 ?_ rfl (by kernel_rfl) (fun _ _ _ h => h) HSS.out (by rfl) ?_ ?_
 rotate_left
 ·intro w hSw;go_simp;try with_reducible rfl
 simp only [Act.put,zz1,zz2,zz3,zz4,zz5,zz6]
 refine wpAnyT_one (i:=2) (by kernel_rfl) rfl (fun K hK => ?_)
 rw [if_pos (by rfl)]
 go_simp
 refine (mBit_any hi _).mono ?_
 rintro e w2 ⟨rfl,hF⟩
 have HSS:=Hd (HSS.out.keep hF);have HR:=Hd (HR.out.keep hF);have HF:=Hd (HF.out.trans hF)
 clear hF
 go_simp
 refine hK.out _ _ (fun _ => HSS.out) ?_
 clear hK K
 simp only [Act.put,zz1,zz2,zz3,zz4,zz5,zz6]
 refine wpAnyT_one (i:=3) (by kernel_rfl) rfl (fun K hK => ?_)
 rw [if_pos (by rfl)]
 go_simp
 refine (mAnd_any m (Msk.bit i) _).mono ?_
 rintro e w3 ⟨rfl,hF⟩
 have HSS:=Hd (HSS.out.keep hF);have HR:=Hd (HR.out.keep hF);have HF:=Hd (HF.out.trans hF)
 clear hF
 go_simp
 refine hK.out _ _ (fun _ => HSS.out) ?_
 clear hK K
 simp only [Act.put,zz1,zz2,zz3,zz4,zz5,zz6]
 refine wL 5 ?_ rfl (by kernel_rfl) (fun _ _ _ h => h) HSS.out (by rfl) ?_ ?_
 rotate_left
 ·intro w hSw;have heq:=HEQ.out;go_simp;try with_reducible rfl
 simp only [Act.put,zz1,zz2,zz3,zz4,zz5,zz6]
 refine wL 6 ?_ rfl (by kernel_rfl) (fun _ _ _ h => h) HSS.out (by rfl) ?_ ?_
 rotate_left
 ·intro w hSw;go_simp;try with_reducible rfl
 simp only [Act.put,zz1,zz2,zz3,zz4,zz5,zz6]
 refine wpAnyT_done (by kernel_rfl) ?_ _
 go_wp2_with fail
 go_ret
 exact ⟨by simp,HF.out⟩
end Go.Proofs.YtcngfbjmpemehaaGreat

/- The walks of serial.Ahead,Span and cover.From,Of (printed by gen_ser.py). -/
namespace Go.Proofs.YtcngfbjmpemehaaGreat
open Go.RowKit

def W16 (n : UInt16) : Value:=.int .u16 (n.toNat : Nat)
def Seqs (w : World) (v : Value) (l : List UInt16) : Prop:=Sl w v (l.map W16)
theorem wrap_i16 (n : Int) : IntKind.i16.wrap n = (n + 32768) % 65536 - 32768:=by
 simp [IntKind.wrap,IntKind.bits,IntKind.signed]
 split <;> omega
theorem serAhead_any (a b : UInt16) (w : World) :
  Calls Tryz.prog 80 #[.int .u16 (a.toNat : Nat),.int .u16 (b.toNat : Nat)] w fun e w' => e = .returned (.int .i64 (ahd a b)) ∧ w = w':=by
 have ha:=a.toNat_lt;have hb:=b.toNat_lt
 go_enter Tryz.func80,Tryz.ntmps80
 go_wp2
 go_ret
 refine ⟨ret_int ?_,rfl⟩
 rw [ahd_def,wrap_u16_mod,wrap_i16,IntWalk.wrap64_in _ ⟨by omega,by omega⟩]
 split <;> omega
theorem Seqs.at_ {w : World} {b o n c : Nat} {l : List UInt16} (h : Seqs w (.slice (some ⟨b,o,none⟩) n c) l) (i : Nat) (hi : i < l.length) : w.cell? ⟨b,o + i,none⟩ = some (.int .u16 ((l[i]).toNat : Nat)):=by
 have hlen : n = l.length:=by have:=Sl.len h;simpa using this.1
 obtain ⟨b',o',e,_,hc⟩:=Sl.at_ h (k:=i) (by omega)
 cases e
 exact hc i (W16 l[i]) (by rw [List.getElem?_map,List.getElem?_eq_getElem hi];rfl)
theorem serSpan_nil {w : World} {a : Option Addr} {c : Nat} : Calls Tryz.prog 76 #[.slice a 0 c] w fun e w' => e = .returned (.tuple #[.int .u16 0,.int .i64 0]) ∧ w = w':=by
 go_enter Tryz.func76,Tryz.ntmps76
 go_wp2
 go_ret2
 exact ⟨rfl,rfl⟩
theorem serSpan_any {w : World} {v : Value} {x : UInt16} {l : List UInt16} (h : Seqs w v (x :: l)) (hs : (x :: l).length ≤ 1000) :
  Calls Tryz.prog 76 #[v] w fun e w' => e = .returned (.tuple #[.int .u16 ((add16 x (lowOf x (x :: l))).toNat : Nat),.int .i64 (highOf x (x :: l) - lowOf x (x :: l))]) ∧ w = w':=by
 obtain ⟨a,c,rfl⟩:=Sl.shape h
 obtain ⟨b,o,rfl,hb,-⟩:=Sl.at_ h (k:=0) (by simp)
 rw [List.length_map] at h ⊢
 have H:=Hd h
 have z0:=Seqs.at_ h 0 (by simp)
 simp only [zz2,Nat.add_zero] at z0
 obtain ⟨ns,hns⟩ : ∃ ns,x :: l = ns:=⟨_,rfl⟩
 have HN:=Hd hns
 have hpos : 0 < ns.length:=by rw [← hns];simp
 have t0 : ((ns.length : Int) == 0) = false:=beq_eq_false_iff_ne.2 (by omega)
 rw [hns] at H hs ⊢
 clear h hns
 have hs2 : ns.length ≤ 1000:=hs
 go_enter Tryz.func76,Tryz.ntmps76
 go_wp2_with fail
 go_loop [4,5,14] (fun lo hi i => ∃ k : Nat,k ≤ ns.length ∧ i = .int .i64 k ∧ lo = .int .i64 (lowOf x (ns.take k)) ∧ hi = .int .i64 (highOf x (ns.take k))) (fun _ _ i => ns.length - (intOf i).toNat)
 case atStart => exact ⟨0,Nat.zero_le _,rfl,rfl,rfl⟩
 case round =>
  obtain ⟨k,hk,rfl,rfl,rfl⟩:=hrel
  have lb:=low_bd x (ns.take k)
  by_cases hlt : k < ns.length
  ·have d0:=Seqs.at_ H.out k hlt
   have HT : Hid (ns.take (k + 1) = ns.take k ++ [ns[k]]):=Hd (List.take_succ_eq_append_getElem hlt)
   have al:=ahd_lt ns[k] x
   generalize ns[k] = y at *
   go_wp2_with (go_at_call 80;refine (serAhead_any _ _ _).mono ?_;rintro e w' ⟨rfl,rfl⟩)
   exact ⟨⟨k + 1,by omega,by go_num,by rw [HT.out,low_snoc],by rw [HT.out,high_snoc]⟩,by simp [intOf];omega⟩
  ·obtain rfl : k = ns.length:=by omega
   rw [List.take_length] at lb ⊢
   go_wp2_with (go_at_call 103;refine (serAdd_any _ _ _).mono ?_;rintro e w' ⟨rfl,rfl⟩)
   go_ret2
   exact ⟨rfl,rfl⟩

theorem cvFrom_any {w : World} {v : Value} (base : UInt16) {ns : List UInt16} (h : Seqs w v ns) (hs : ns.length ≤ 1000) :
  Calls Tryz.prog 77 #[.int .u16 (base.toNat : Nat),v] w fun e w' => ((∃ m,cvFrom base ns = .ok m ∧ e = .returned (.tuple #[.agg (mkc m),.int .i64 0])) ∨ (∃ k,cvFrom base ns = .error k ∧ k ≠ 0 ∧ e = .returned (.tuple #[.agg (mkc Msk.zero),.int .i64 k]))) ∧ Fr [] w w':=by
 obtain ⟨a,c,rfl⟩:=Sl.shape h
 rw [List.length_map] at h ⊢
 obtain ⟨w1,e1,hF1,hB1,hB2,hs1⟩:=two_new w #[.int .u64 0,.int .u64 0] 132 #[.int .u64 0,.int .u64 0] 132
 have H:=Hd h;have HF1:=Hd hF1;have HR:=Hd hB1;have HM : Hid (Box w1 (w.heap.size + 1) 132 (mkc Msk.zero)):=Hd hB2;have E1:=Hd e1
 clear h hF1 hB1 hB2 e1 hs1
 go_enter Tryz.func77,Tryz.ntmps77
 go_upto_region 2 with fail
 rw [E1.out]
 clear E1
 go_wp2_with fail
 go_loopw [7,13] (fun tw i wr => ∃ (k : Nat) (m : Msk) (t : Bool),k ≤ ns.length ∧ i = .int .i64 k ∧ tw = .bool t ∧ fromL base (ns.take k) Msk.zero false = .ok (m,t) ∧ Box wr (w.heap.size + 1) 132 (mkc m) ∧ Box wr w.heap.size 132 #[.int .u64 0,.int .u64 0] ∧ Fr [] w wr) (fun _ i _ => ns.length - (intOf i).toNat)
 case atStart => exact ⟨0,_,_,Nat.zero_le _,rfl,rfl,rfl,HM.out,HR.out,HF1.out⟩
 case round =>
  clear HM HR HF1
  obtain ⟨k,m,t,hk,rfl,rfl,hL,hM,hR,hF⟩:=hrel
  have HL:=Hd hL;have HM:=Hd hM;have HR:=Hd hR;have HF:=Hd hF
  clear hL hM hR hF
  by_cases hlt : k < ns.length
  ·obtain ⟨b,o,ea,hb,-⟩:=Sl.at_ H.out (k:=k) hlt
   subst ea
   have d0:=HF.out.cellSome (Seqs.at_ H.out k hlt) (by simp)
   have HT : Hid (ns.take (k + 1) = ns.take k ++ [ns[k]]):=Hd (List.take_succ_eq_append_getElem hlt)
   have HTF : Hid (ns = ns.take k ++ ns[k] :: ns.drop (k + 1)):=Hd (by rw [List.getElem_cons_drop,List.take_append_drop])
   generalize ns[k] = y at *
   have HNX : Hid (fromL base (ns.take (k + 1)) Msk.zero false = if ahd y base < 0 ∨ 109 ≤ ahd y base then .error 31 else .ok (m.or (Msk.bit (ahd y base).toNat),(t || m.has (ahd y base).toNat))):=Hd (by rw [HT.out,fromL_append,HL.out];rfl)
   have al:=ahd_lt y base
   by_cases hbad : ahd y base < 0 ∨ 109 ≤ ahd y base
   ·have HER : Hid (cvFrom base ns = .error 31):=Hd (by
     have h1:=HNX.out
     rw [if_pos hbad] at h1
     unfold cvFrom
     rw [HTF.out,← List.singleton_append,← List.append_assoc,← HT.out,fromL_append,h1])
    go_upto_region 7 with (go_at_call 80;refine (serAhead_any _ _ _).mono ?_;rintro e w' ⟨rfl,rfl⟩)
    generalize ahd y base = d at *
    have hq : d < 0 ∨ (0 ≤ d ∧ 109 ≤ d):=by omega
    clear hbad HNX
    rcases hq with hq | ⟨hq0,hq⟩
    all_goals
     go_wp2_with (refine wpList_store_row rfl 132 (.tmp 4) (.tmp 26) rfl w.heap.size rfl _ _ rfl 132 HR.out (by kernel_rfl) rfl (by simp [Value.oneCell']) ?_;intro w3 hY hG;have HY:=Hd hY;have HGn:=Hd hG;clear hY hG)
     refine bodyPost_ret (results_row_1 rfl _ _ w.heap.size 132 _ _ rfl HY.out Tryz.underlying132 rfl (by kernel_rfl)) rfl ⟨.inr ⟨31,HER.out,by omega,rfl⟩,HF.out.step HGn.out (by simp)⟩
   ·have HX : Hid (fromL base (ns.take (k + 1)) Msk.zero false = .ok (m.or (Msk.bit (ahd y base).toNat),(t || m.has (ahd y base).toNat))):=Hd (by rw [HNX.out,if_neg hbad])
    clear HNX
    obtain ⟨i,hi⟩ : ∃ i : Nat,ahd y base = i:=⟨(ahd y base).toNat,by omega⟩
    have HI:=Hd hi
    have hi109 : i < 109:=by omega
    rw [hi,Int.toNat_natCast] at HX
    clear hbad al hi
    go_upto_region 7 with (go_at_call 80;refine (serAhead_any _ _ _).mono ?_;rintro e w' ⟨rfl,rfl⟩)
    rw [HI.out]
    go_upto_region 9 with fail
    go_cut [7] (fun s wx => s = .bool (t || m.has i) ∧ Fr [] wr wx)
    case first =>
     cases t with
     | true =>
      go_wp2_with fail
      go_meet
      exact ⟨rfl,Fr.refl _ _⟩
     | false =>
      go_wp2_with (refine wpList_load_row_w rfl 132 (.tmp 6) rfl (w.heap.size + 1) rfl 132 _ _ HM.out Tryz.underlying132 rfl (by kernel_rfl) ?_)
      refine (mHas_any m (by omega) _).mono ?_
      rintro e w3 ⟨rfl,hF⟩
      have HFn:=Hd hF
      clear hF
      go_wp2_with fail
      go_meet
      exact ⟨by simp,HFn.out⟩
    case rest =>
     obtain ⟨rfl,hF⟩:=hcut
     have HM:=Hd (HM.out.keep hF);have HR:=Hd (HR.out.keep hF);have HF:=Hd (HF.out.trans hF)
     clear hF
     go_wp2_with (refine wpList_load_row_w rfl 132 (.tmp 6) rfl (w.heap.size + 1) rfl 132 _ _ HM.out Tryz.underlying132 rfl (by kernel_rfl) ?_)
     refine (mWith_any m (by omega) _).mono ?_
     rintro e w3 ⟨rfl,hF⟩
     have HM:=Hd (HM.out.keep hF);have HR:=Hd (HR.out.keep hF);have HF:=Hd (HF.out.trans hF)
     clear hF
     go_wp2_with (refine wpList_store_row rfl 132 (.tmp 6) (.tmp 35) rfl (w.heap.size + 1) rfl _ _ rfl 132 HM.out (by kernel_rfl) rfl (by simp [Value.oneCell']) ?_;intro w4 hY hG;have HY:=Hd hY;have HGn:=Hd hG;clear hY hG)
     exact ⟨⟨k + 1,_,_,by omega,by go_num,rfl,HX.out,HY.out,HR.out.fr HGn.out (by simp),HF.out.step HGn.out (by simp)⟩,by simp [intOf];omega⟩
  ·obtain rfl : k = ns.length:=by omega
   rw [List.take_length] at HL
   by_cases hn : ns = []
   ·have HER : Hid (cvFrom base ns = .error 4):=Hd (by unfold cvFrom;rw [HL.out];simp only [hn,if_true])
    have hl0 : ((ns.length : Int) == 0) = true:=by simp [hn]
    clear hn
    go_wp2_with (refine wpList_store_row rfl 132 (.tmp 4) (.tmp 41) rfl w.heap.size rfl _ _ rfl 132 HR.out (by kernel_rfl) rfl (by simp [Value.oneCell']) ?_;intro w3 hY hG;have HY:=Hd hY;have HGn:=Hd hG;clear hY hG)
    refine bodyPost_ret (results_row_1 rfl _ _ w.heap.size 132 _ _ rfl HY.out Tryz.underlying132 rfl (by kernel_rfl)) rfl ⟨.inr ⟨4,HER.out,by omega,rfl⟩,HF.out.step HGn.out (by simp)⟩
   ·have hl0 : ((ns.length : Int) == 0) = false:=beq_eq_false_iff_ne.2 (by have:=List.length_pos_iff.2 hn;omega)
    have HV : Hid (cvFrom base ns = if t = true then .error 5 else .ok m):=Hd (by unfold cvFrom;rw [HL.out];simp only [hn,if_false])
    clear hn
    cases t with
    | true =>
     go_wp2_with (refine wpList_store_row rfl 132 (.tmp 4) (.tmp 44) rfl w.heap.size rfl _ _ rfl 132 HR.out (by kernel_rfl) rfl (by simp [Value.oneCell']) ?_;intro w3 hY hG;have HY:=Hd hY;have HGn:=Hd hG;clear hY hG)
     refine bodyPost_ret (results_row_1 rfl _ _ w.heap.size 132 _ _ rfl HY.out Tryz.underlying132 rfl (by kernel_rfl)) rfl ⟨.inr ⟨5,HV.out,by omega,rfl⟩,HF.out.step HGn.out (by simp)⟩
    | false =>
     go_wp2_with (first | (refine wpList_load_row_w rfl 132 (.tmp 6) rfl (w.heap.size + 1) rfl 132 _ _ HM.out Tryz.underlying132 rfl (by kernel_rfl) ?_) | (refine wpList_store_row rfl 132 (.tmp 4) (.tmp 45) rfl w.heap.size rfl _ _ rfl 132 HR.out (by kernel_rfl) rfl (by simp [Value.oneCell']) ?_;intro w3 hY hG;have HY:=Hd hY;have HGn:=Hd hG;clear hY hG))
     refine bodyPost_ret (results_row_1 rfl _ _ w.heap.size 132 _ _ rfl HY.out Tryz.underlying132 rfl (by kernel_rfl)) rfl ⟨.inl ⟨m,HV.out,rfl⟩,HF.out.step HGn.out (by simp)⟩

theorem results_1row1 {P : Program} {fn : Func} {p q r : Tmp} {ty : TypeId} (h : fn.results = #[.tmp q,.cell p ty,.tmp r]) (tmps : Array Value) (w : World) (g : Nat) (t : TypeId) (c : Array Value) (d : TypeDesc)
  (hp : tmps.getD p undef = .pointer (some ⟨g,0,none⟩)) (hb : Box w g t c) (hu : P.underlying ty = some d) (hd : (match d with | .struct _ | .array _ _ => true | _ => false) = true) (hi : (P.info? ty).map (·.size) = some c.size) :
  (results fn tmps).run P w = .ok (.tuple #[tmps.getD q undef,.agg c,tmps.getD r undef]) w:=by
 have hp' : tmps[p]?.getD undef = .pointer (some ⟨g,0,none⟩):=by simpa using hp
 have h1:=run_loadVar_row (P:=P) w g t ty c (0,0) d hb hu hd hi
 simp [results,h,hp',asAddr,h1]
theorem cvOf_any {w : World} {v : Value} {ns : List UInt16} (h : Seqs w v ns) (hs : ns.length ≤ 1000) :
  Calls Tryz.prog 54 #[v] w fun e w' => ((∃ b m,cvOf ns = .ok (b,m) ∧ e = .returned (.tuple #[.int .u16 (b.toNat : Nat),.agg (mkc m),.int .i64 0])) ∨ (∃ k,cvOf ns = .error k ∧ k ≠ 0 ∧ e = .returned (.tuple #[.int .u16 0,.agg (mkc Msk.zero),.int .i64 k]))) ∧ Fr [] w w':=by
 obtain ⟨a,c,rfl⟩:=Sl.shape h
 rw [List.length_map] at h ⊢
 obtain ⟨w1,e1,hF1,hB1,hs1⟩:=one_new w #[.int .u64 0,.int .u64 0] 132
 have H:=Hd (Sl.keep h hF1);have HF:=Hd hF1;have HR:=Hd hB1;have E1:=Hd e1
 have HGL0 : Hid (w.heap.size < w1.heap.size):=Hd hB1.lt
 clear h hF1 hB1 e1 hs1
 cases ns with
 | nil =>
  go_enter Tryz.func54,Tryz.ntmps54
  go_upto_region 1 with fail
  rw [E1.out]
  clear E1
  try simp only [List.length_nil]
  go_wp2_with fail
  refine (serSpan_nil (w:=w1)).mono ?_
  rintro e w2 ⟨rfl,rfl⟩
  go_wp2_with fail
  refine (cvFrom_any (ns:=[]) 0 H.out (by simp)).mono ?_
  rintro e w2 ⟨⟨m,hm,rfl⟩ | ⟨k,hm,hk,rfl⟩,hF⟩
  ·cases hm
  obtain rfl : (4 : Int) = k:=by cases hm;rfl
  have HF:=Hd (HF.out.trans hF);have HR:=Hd (HR.out.keep hF)
  clear hF hm hk
  go_wp2_with (first | (refine wpList_store_row rfl 132 (.tmp 7) (.tmp 21) rfl w2.heap.size rfl _ _ rfl 132 (Box.new w2 132 #[.int .u64 0,.int .u64 0]) (by kernel_rfl) rfl (by simp [Value.oneCell']) ?_;intro w3 hY hG;have hFn:=((Fr.refl [] w2).alloc _).step hG (by simp);have HF:=Hd (HF.out.trans hFn);have HR:=Hd (HR.out.keep hFn);clear hG hFn hY) | (refine wpList_store_row rfl 132 (.tmp 3) (.tmp 25) rfl w.heap.size rfl _ _ rfl 132 HR.out (by kernel_rfl) rfl (by simp [Value.oneCell']) ?_;intro w9 hY hG;have HY:=Hd hY;have HGn:=Hd hG;clear hY hG))
  refine bodyPost_ret (results_1row1 rfl _ _ w.heap.size 132 _ _ rfl HY.out Tryz.underlying132 rfl (by kernel_rfl)) rfl ⟨.inr ⟨4,rfl,by omega,rfl⟩,HF.out.step HGn.out (by simp)⟩
 | cons x l =>
  have lb:=low_bd x (x :: l)
  have HC:=Hd (cvOf_cons x l)
  by_cases hsp : 109 ≤ highOf x (x :: l) - lowOf x (x :: l)
  ·have HER : Hid (cvOf (x :: l) = .error 31):=Hd (by rw [HC.out,if_pos hsp])
   clear HC
   go_enter Tryz.func54,Tryz.ntmps54
   go_upto_region 1 with fail
   rw [E1.out]
   clear E1
   go_wp2_with fail
   refine (serSpan_any H.out hs).mono ?_
   rintro e w2 ⟨rfl,rfl⟩
   go_wp2_with (refine wpList_store_row rfl 132 (.tmp 3) (.tmp 16) rfl w.heap.size rfl _ _ rfl 132 HR.out (by kernel_rfl) rfl (by simp [Value.oneCell']) ?_;intro w9 hY hG;have HY:=Hd hY;have HGn:=Hd hG;clear hY hG)
   refine bodyPost_ret (results_1row1 rfl _ _ w.heap.size 132 _ _ rfl HY.out Tryz.underlying132 rfl (by kernel_rfl)) rfl ⟨.inr ⟨31,HER.out,by omega,rfl⟩,HF.out.step HGn.out (by simp)⟩
  ·have HC2 : Hid (cvOf (x :: l) = match cvFrom (add16 x (lowOf x (x :: l))) (x :: l) with | .error k => .error k | .ok m => .ok (add16 x (lowOf x (x :: l)),m)):=Hd (HC.out.trans (if_neg hsp))
   clear HC
   go_enter Tryz.func54,Tryz.ntmps54
   go_upto_region 1 with fail
   rw [E1.out]
   clear E1
   go_wp2_with fail
   refine (serSpan_any H.out hs).mono ?_
   rintro e w2 ⟨rfl,rfl⟩
   generalize add16 x (lowOf x (x :: l)) = base at *
   go_wp2_with fail
   refine (cvFrom_any base H.out hs).mono ?_
   rintro e w4 ⟨⟨m,hm,rfl⟩ | ⟨k,hm,hk,rfl⟩,hF⟩
   ·have HER : Hid (cvOf (x :: l) = .ok (base,m)):=Hd (by rw [HC2.out,hm])
    have HF:=Hd (HF.out.trans hF);have HR:=Hd (HR.out.keep hF)
    have HGL1 : Hid (w.heap.size < w4.heap.size):=Hd (by have:=HGL0.out;have:=hF.size;omega)
    clear hF hm HC2
    go_upto_region 5 with (refine wpList_store_row rfl 132 (.tmp 7) (.tmp 21) rfl w4.heap.size rfl _ _ rfl 132 (Box.new w4 132 #[.int .u64 0,.int .u64 0]) (by kernel_rfl) rfl (by simp [Value.oneCell']) ?_;intro w5 hY hG;have hFn:=((Fr.refl [] w4).alloc _).step hG (by simp);have HF:=Hd (HF.out.trans hFn);have HR:=Hd (HR.out.keep hFn);have HSS:=Hd hY;clear hG hFn hY)
    generalize hg7 : w4.heap.size = g7 at *
    have HGL:=HGL1
    clear hg7 HGL1
    go_upto_region 7 with fail
    refine wp_region_T (fun w' => Box w' g7 132 (mkc m)) [] 5 #[false,false,false,false,false] (by kernel_rfl) rfl rfl ?_
    have hF:=(Fr.refl [] w5).drew
    have HSS:=Hd (HSS.out.keep hF);have HR:=Hd (HR.out.keep hF);have HF:=Hd (HF.out.trans hF)
    have HGL : Hid (w.heap.size < g7):=HGL
    clear hF
    generalize w5.drew = wd at *
    refine wL 0 ?_ rfl (by kernel_rfl) (fun _ _ _ h => h) HSS.out (by rfl) ?_ ?_
    rotate_left
    ·intro w hSw;go_simp;try with_reducible rfl
    simp only [Act.put,zz1,zz2,zz3,zz4,zz5,zz6]
    refine wL 1 ?_ rfl (by kernel_rfl) (fun _ _ _ h => h) HSS.out (by rfl) ?_ ?_
    rotate_left
    ·intro w' hSw;refine run_load_row 132 (.tmp 7) ?_ g7 ?_ 132 _ _ hSw Tryz.underlying132 rfl (by kernel_rfl) <;> rfl
    simp only [Act.put,zz1,zz2,zz3,zz4,zz5,zz6]
    refine wL 2 ?_ rfl (by kernel_rfl) (fun _ _ _ h => h) HSS.out (by rfl) ?_ ?_
    rotate_left
    ·intro w hSw;go_simp;try with_reducible rfl
    simp only [Act.put,zz1,zz2,zz3,zz4,zz5,zz6]
    refine wpAnyT_one (i:=3) (by kernel_rfl) rfl (fun K hK => ?_)
    refine wp_store_row rfl 132 (.tmp 3) (.tmp 28) rfl w.heap.size rfl _ _ rfl 132 HR.out (by kernel_rfl) rfl (by simp [Value.oneCell']) ?_
    intro w9 hY hG
    have HY:=Hd hY;have HGn:=Hd hG
    have HSS:=Hd (HSS.out.fr hG (by have:=HGL.out;simp;omega))
    clear hY hG
    refine hK.out _ _ (fun _ => HSS.out) ?_
    clear hK K
    simp only [Act.put,zz1,zz2,zz3,zz4,zz5,zz6]
    refine wL 4 ?_ rfl (by kernel_rfl) (fun _ _ _ h => h) HSS.out (by rfl) ?_ ?_
    rotate_left
    ·intro w hSw;go_simp;try with_reducible rfl
    simp only [Act.put,zz1,zz2,zz3,zz4,zz5,zz6]
    refine wpAnyT_done (by kernel_rfl) ?_ _
    go_wp2_with fail
    refine bodyPost_ret (results_1row1 rfl _ _ w.heap.size 132 _ _ rfl HY.out Tryz.underlying132 rfl (by kernel_rfl)) rfl ⟨.inl ⟨base,m,HER.out,rfl⟩,HF.out.step HGn.out (by simp)⟩
   ·have HER : Hid (cvOf (x :: l) = .error k):=Hd (by rw [HC2.out,hm])
    have hk0 : (k != 0) = true:=bne_iff_ne.2 hk
    have HF:=Hd (HF.out.trans hF);have HR:=Hd (HR.out.keep hF);have HK:=Hd hk
    clear hF hm HC2 hk
    go_wp2_with (first | (refine wpList_store_row rfl 132 (.tmp 7) (.tmp 21) rfl w4.heap.size rfl _ _ rfl 132 (Box.new w4 132 #[.int .u64 0,.int .u64 0]) (by kernel_rfl) rfl (by simp [Value.oneCell']) ?_;intro w3 hY hG;have hFn:=((Fr.refl [] w4).alloc _).step hG (by simp);have HF:=Hd (HF.out.trans hFn);have HR:=Hd (HR.out.keep hFn);clear hG hFn hY) | (refine wpList_store_row rfl 132 (.tmp 3) (.tmp 25) rfl w.heap.size rfl _ _ rfl 132 HR.out (by kernel_rfl) rfl (by simp [Value.oneCell']) ?_;intro w9 hY hG;have HY:=Hd hY;have HGn:=Hd hG;clear hY hG))
    refine bodyPost_ret (results_1row1 rfl _ _ w.heap.size 132 _ _ rfl HY.out Tryz.underlying132 rfl (by kernel_rfl)) rfl ⟨.inr ⟨k,HER.out,HK.out,rfl⟩,HF.out.step HGn.out (by simp)⟩
end Go.Proofs.YtcngfbjmpemehaaGreat
