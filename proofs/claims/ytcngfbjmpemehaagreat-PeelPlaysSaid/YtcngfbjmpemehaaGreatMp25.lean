import Derived.Test.YtcngfbjmpemehaaGreatMp24
set_option maxRecDepth 100000
set_option maxHeartbeats 16000000
open List renaming getElem_toArray → zz1, getElem_cons_zero → zz2, getElem_cons_succ → zz3, setIfInBounds_toArray → zz4, set_cons_zero → zz5, set_cons_succ → zz6, getElem?_toArray → zz7, getElem?_cons_succ → zz8, getElem?_cons_zero → zz9
open Go.Lib renaming hid → Hd
/- The walk of confluxref12.Of (printed by gen_imp4.py). -/
namespace Go.Proofs.YtcngfbjmpemehaaGreat
open Go.RowKit

theorem and63_mod (a : UInt8) : (a &&& 63).toNat = a.toNat % 64:=by
 rw [UInt8.toNat_and]
 exact Nat.and_two_pow_sub_one_eq_mod a.toNat 6
theorem imp_head {l : List UInt8} {n : Nat} (hn : l.length = n + 12) (hs : n ≤ 1488) : (imp l).head.map B8 = [.int .u8 (((l.getD 0 0).toNat : Int) % 64),.int .u8 ((l.getD 1 0).toNat : Nat),.int .u8 ((l.getD 4 0).toNat : Nat),.int .u8 ((l.getD 5 0).toNat : Nat),.int .u8 ((l.getD 6 0).toNat : Nat),.int .u8 ((l.getD 7 0).toNat : Nat),.int .u8 ((n : Int) / 256),.int .u8 ((n : Int) % 256)]:=by
 have h1 : (UInt8.ofNat (n / 256)).toNat = n / 256:=by rw [UInt8.toNat_ofNat'];omega
 have h2 : (UInt8.ofNat n).toNat = n % 256:=by rw [UInt8.toNat_ofNat']
 unfold imp Bt.head B8
 simp only [hn,Nat.add_sub_cancel,List.map_cons,List.map_nil,h1,h2,and63_mod]
 rfl
theorem r12OfN_any {w : World} {v : Value} {l : List UInt8} (hl : Bytes w v l) :
  Calls Tryz.prog 68 #[v] w fun e w' =>
   (∃ v' p,parseR l = .ok p ∧ e = .returned (.tuple #[v',.int .i64 0]) ∧ RBN w' w.heap.size v' (imp l).head (imp l).body ∧ Fr [] w w') ∨
   (∃ v' k,parseR l = .error k ∧ e = .returned (.tuple #[v',.int .i64 k]) ∧ RBV w' v' (List.replicate 8 0) [] ∧ Fr [] w w'):=by
 obtain ⟨av,cv,rfl⟩:=hl.shape
 simp only [List.length_map] at hl ⊢
 have HL:=Hd hl
 obtain ⟨iu8,hi1,hi2,hi3,hi4⟩:=info_parts info_u8
 have HI1:=Hd hi1;have HI2:=Hd hi2;have HI3:=Hd hi3;have HI4:=Hd hi4
 obtain ⟨w1,e1,hF1,hB1,hs1⟩:=one_new w #[.slice none 0 0,.slice none 0 0] 105
 have HF:=Hd hF1;have HR:=Hd hB1
 have E1:=Hd e1
 have hs1':=hs1
 clear hl hF1 hB1 e1 hs1 hi1 hi2 hi3 hi4
 go_enter Tryz.func68,Tryz.ntmps68
 go_upto_region 1 with (fail)
 rw [E1.out]
 clear E1
 go_wp2_with fail
 refine (R5Parse_any (HL.out.keep HF.out)).mono ?_
 rintro e w2 (⟨vp,p,hp,rfl,hVp,hF⟩ | ⟨k,hp,rfl,hF⟩)
 rotate_left
 ·have HP:=Hd hp
  have hk : (k != 0) = true:=by simpa using parseR_err hp
  have HR:=Hd (HR.out.keep hF);have HF:=Hd (HF.out.trans hF)
  have hs2:=hF.size
  clear hp hF
  unfold pz
  go_upto_region 3 with (refine wpList_store_row rfl 93 (.tmp 4) (.tmp 10) rfl w2.heap.size rfl _ _ rfl 93 (Box.new w2 93 #[.bool false,.int .i64 0,.int .u16 0,.int .u32 0,.int .u32 0,.slice none 0 0,.bool false,.int .u16 0,.slice none 0 0,.slice none 0 0,.slice none 0 0]) (by kernel_rfl) rfl (oneCell_pz) ?_;intro w3 hY hG;have hFn:=((Fr.refl [] w2).alloc _).step hG (by simp);have HFn:=Hd hFn;have HY:=Hd hY;clear hG hFn hY)
  have HR:=Hd (HR.out.keep HFn.out);have HF:=Hd (HF.out.trans HFn.out)
  have hs3:=HFn.out.size
  clear HFn HY
  obtain ⟨w4,e4,hF4,hB4,hs4⟩:=one_new w3 (madeCells #[.int .u8 0] 8) 5
  rw [madeCells_one] at hB4
  have HB4:=Hd hB4;have HR:=Hd (HR.out.keep hF4);have HF:=Hd (HF.out.trans hF4)
  have E4:=Hd e4
  clear hF4 hB4 e4
  have hsw : w.heap.size < w3.heap.size:=by omega
  go_wp2_with (first | (refine wpList_make_row _ rfl _ _ _ rfl 5 iu8 (.int .u8 0) Tryz.underlying34 HI1.out HI2.out HI3.out rfl .i64 .i64 8 rfl rfl (by rw [HI4.out];omega) (by omega) ?_;rw [E4.out];clear E4) | (refine wpList_store_row rfl 105 (.tmp 2) (.tmp 15) rfl w.heap.size rfl _ #[.slice (some ⟨w3.heap.size,0,none⟩) 8 8,.slice none 0 0] rfl 105 HR.out (by kernel_rfl) rfl (by simp [Value.oneCell']) ?_;intro w5 hY hG))
  refine bodyPost_ret (results_row_1 rfl _ _ w.heap.size 105 _ _ rfl hY Tryz.underlying105 rfl (by kernel_rfl)) rfl (.inr ⟨_,k,HP.out,rfl,⟨_,_,rfl,?_,Sl.nil _⟩,HF.out.step hG (by simp)⟩)
  have hb : Box w5 w3.heap.size 5 (List.replicate 8 (.int .u8 0)).toArray:=HB4.out.fr hG (by simp;omega)
  exact box_sl (off:=0) (cap:=8) hb ((List.replicate 8 (0 : UInt8)).map B8) (by intro i y hy;simpa [B8] using hy) (by simp) (by unfold maxLen;omega)
 ·have HP:=Hd hp
  obtain ⟨h12,h15⟩:=parse_len hp
  obtain ⟨b,o,ea,hbl,-⟩:=HL.out.at_ (k:=0) (by omega)
  subst ea
  obtain ⟨q1,k1,q2,k2,q3,k3,q4,k4,rfl,-,-,-,-⟩:=hVp.open_
  have HR:=Hd (HR.out.keep hF);have HF:=Hd (HF.out.trans hF)
  have hs2:=hF.size
  clear hp hF hVp
  go_upto_region 4 with (refine wpList_store_row rfl 93 (.tmp 4) (.tmp 10) rfl w2.heap.size rfl _ _ rfl 93 (Box.new w2 93 #[.bool false,.int .i64 0,.int .u16 0,.int .u32 0,.int .u32 0,.slice none 0 0,.bool false,.int .u16 0,.slice none 0 0,.slice none 0 0,.slice none 0 0]) (by kernel_rfl) rfl (oneCell_pc _ _ _ _ _ _ _ _ _ _ _ ⟨_,_,_,rfl⟩ ⟨_,_,_,rfl⟩ ⟨_,_,_,rfl⟩ ⟨_,_,_,rfl⟩) ?_;intro w3 hY hG;have hFn:=((Fr.refl [] w2).alloc _).step hG (by simp);have HFn:=Hd hFn;have HY:=Hd hY;clear hG hFn hY)
  have HR:=Hd (HR.out.keep HFn.out);have HF:=Hd (HF.out.trans HFn.out)
  have hs3:=HFn.out.size
  clear HFn HY
  obtain ⟨n,hn⟩ : ∃ n,l.length = n + 12:=⟨l.length - 12,by omega⟩
  have HN:=Hd hn
  have hn15 : n ≤ 1488:=by omega
  have hIH:=imp_head hn hn15
  obtain ⟨d0,hd0⟩ : ∃ d,l.getD 0 0 = d:=⟨_,rfl⟩
  obtain ⟨d1,hd1⟩ : ∃ d,l.getD 1 0 = d:=⟨_,rfl⟩
  obtain ⟨d4,hd4⟩ : ∃ d,l.getD 4 0 = d:=⟨_,rfl⟩
  obtain ⟨d5,hd5⟩ : ∃ d,l.getD 5 0 = d:=⟨_,rfl⟩
  obtain ⟨d6,hd6⟩ : ∃ d,l.getD 6 0 = d:=⟨_,rfl⟩
  obtain ⟨d7,hd7⟩ : ∃ d,l.getD 7 0 = d:=⟨_,rfl⟩
  rw [hd0,hd1,hd4,hd5,hd6,hd7] at hIH
  have HIH:=Hd hIH
  have hF3d:=(Fr.refl [] w3).drew
  have HB : Hid (Bytes w3.drew _ l):=Hd ((HL.out.keep HF.out).keep hF3d);have HR:=Hd (HR.out.keep hF3d);have HF:=Hd (HF.out.trans hF3d)
  have hcl : n + 12 ≤ cv:=by have:=Sl.len HL.out;rw [hn] at this;exact this.2.1
  have c0:=HB.out.cell 0 (by omega)
  rw [hd0] at c0
  have c1:=HB.out.cell 1 (by omega)
  rw [hd1] at c1
  have c4:=HB.out.cell 4 (by omega)
  rw [hd4] at c4
  have c5:=HB.out.cell 5 (by omega)
  rw [hd5] at c5
  have c6:=HB.out.cell 6 (by omega)
  rw [hd6] at c6
  have c7:=HB.out.cell 7 (by omega)
  rw [hd7] at c7
  have HSS:=Hd (And.intro c0 (And.intro c1 (And.intro c4 (And.intro c5 (And.intro c6 c7)))))
  rw [hn] at HL HB ⊢
  obtain ⟨qP,hqP⟩ : ∃ q,(if cv = 12 then some (⟨b,o,none⟩ : Addr) else some ⟨b,o + 12,none⟩) = q:=⟨_,rfl⟩
  have HD : Hid (Bytes w3.drew (.slice qP n (cv - 12)) (l.drop 12)):=Hd (by
   have:=Sl.sub HB.out 12 n (by omega)
   simp only [Option.map_some,addr_add] at this
   rw [hqP] at this
   unfold Bytes
   rwa [← List.map_drop,List.take_of_length_le (by simp;omega)] at this)
  have HDL : Hid ((l.drop 12).length = n):=Hd (by simp;omega)
  have hcv : 12 ≤ cv:=by omega
  have hii : (12 : Int) ≤ (n : Int) + 12:=by omega
  have hi0 : (0 : Int) < (n : Int) + 12:=by omega
  have hi1 : (1 : Int) < (n : Int) + 12:=by omega
  have hi4 : (4 : Int) < (n : Int) + 12:=by omega
  have hi5 : (5 : Int) < (n : Int) + 12:=by omega
  have hi6 : (6 : Int) < (n : Int) + 12:=by omega
  have hi7 : (7 : Int) < (n : Int) + 12:=by omega
  clear hn h12 h15 c0 c1 c4 c5 c6 c7 hd0 hd1 hd4 hd5 hd6 hd7 hIH hF3d
  have hm0 : (d0.toNat : Int).tmod 64 = (d0.toNat : Int) % 64:=Int.tmod_eq_emod_of_nonneg (by omega)
  have hm1 : IntKind.i64.wrap ((n : Int) / 256) = (n : Int) / 256:=IntWalk.i64_in _ (by omega)
  have hm2 : IntKind.u8.wrap ((n : Int) / 256) = (n : Int) / 256:=by rw [IntKind.wrap_u8];omega
  have hm3 : (n : Int).tmod 256 = (n : Int) % 256:=Int.tmod_eq_emod_of_nonneg (by omega)
  have hm4 : IntKind.u8.wrap ((n : Int) % 256) = (n : Int) % 256:=by rw [IntKind.wrap_u8];omega
  go_upto_region 5 with (fail)
  refine wp_region_T (fun w' => w'.cell? ⟨b,o + 0,none⟩ = some (.int .u8 (d0.toNat : Nat)) ∧ w'.cell? ⟨b,o + 1,none⟩ = some (.int .u8 (d1.toNat : Nat)) ∧ w'.cell? ⟨b,o + 4,none⟩ = some (.int .u8 (d4.toNat : Nat)) ∧ w'.cell? ⟨b,o + 5,none⟩ = some (.int .u8 (d5.toNat : Nat)) ∧ w'.cell? ⟨b,o + 6,none⟩ = some (.int .u8 (d6.toNat : Nat)) ∧ w'.cell? ⟨b,o + 7,none⟩ = some (.int .u8 (d7.toNat : Nat))) [] 32 #[false,false,false,false,false,false,false,false,false,false,false,false,false,false,false,false,false,false,false,false,false,false,false,false,false,false,false,false,false,false,false,false] (by kernel_rfl) rfl rfl ?_
  generalize w3.drew = wd at *
  refine wL 0 ?_ rfl (by kernel_rfl) (fun _ _ _ h => h) HSS.out (by rfl) ?_ ?_
  rotate_left
  ·intro w hSw;obtain ⟨z0,z1,z4,z5,z6,z7⟩:=hSw;rw [Nat.add_zero] at z0;go_simp;try with_reducible rfl
  simp only [Act.put,zz1,zz2,zz3,zz4,zz5,zz6]
  refine wL 1 ?_ rfl (by kernel_rfl) (fun _ _ _ h => h) HSS.out (by rfl) ?_ ?_
  rotate_left
  ·intro w hSw;obtain ⟨z0,z1,z4,z5,z6,z7⟩:=hSw;rw [Nat.add_zero] at z0;go_simp;try with_reducible rfl
  simp only [Act.put,zz1,zz2,zz3,zz4,zz5,zz6]
  refine wL 2 ?_ rfl (by kernel_rfl) (fun _ _ _ h => h) HSS.out (by rfl) ?_ ?_
  rotate_left
  ·intro w hSw;obtain ⟨z0,z1,z4,z5,z6,z7⟩:=hSw;rw [Nat.add_zero] at z0;go_simp;try with_reducible rfl
  simp only [Act.put,zz1,zz2,zz3,zz4,zz5,zz6]
  refine wL 3 ?_ rfl (by kernel_rfl) (fun _ _ _ h => h) HSS.out (by rfl) ?_ ?_
  rotate_left
  ·intro w hSw;obtain ⟨z0,z1,z4,z5,z6,z7⟩:=hSw;rw [Nat.add_zero] at z0;go_simp;try with_reducible rfl
  simp only [Act.put,zz1,zz2,zz3,zz4,zz5,zz6]
  refine wL 4 ?_ rfl (by kernel_rfl) (fun _ _ _ h => h) HSS.out (by rfl) ?_ ?_
  rotate_left
  ·intro w hSw;obtain ⟨z0,z1,z4,z5,z6,z7⟩:=hSw;rw [Nat.add_zero] at z0;go_simp;try with_reducible rfl
  simp only [Act.put,zz1,zz2,zz3,zz4,zz5,zz6]
  refine wL 5 ?_ rfl (by kernel_rfl) (fun _ _ _ h => h) HSS.out (by rfl) ?_ ?_
  rotate_left
  ·intro w hSw;obtain ⟨z0,z1,z4,z5,z6,z7⟩:=hSw;rw [Nat.add_zero] at z0;go_simp;try with_reducible rfl
  simp only [Act.put,zz1,zz2,zz3,zz4,zz5,zz6]
  refine wL 6 ?_ rfl (by kernel_rfl) (fun _ _ _ h => h) HSS.out (by rfl) ?_ ?_
  rotate_left
  ·intro w hSw;obtain ⟨z0,z1,z4,z5,z6,z7⟩:=hSw;rw [Nat.add_zero] at z0;go_simp;try with_reducible rfl
  simp only [Act.put,zz1,zz2,zz3,zz4,zz5,zz6]
  refine wL 7 ?_ rfl (by kernel_rfl) (fun _ _ _ h => h) HSS.out (by rfl) ?_ ?_
  rotate_left
  ·intro w hSw;obtain ⟨z0,z1,z4,z5,z6,z7⟩:=hSw;rw [Nat.add_zero] at z0;go_simp;try with_reducible rfl
  simp only [Act.put,zz1,zz2,zz3,zz4,zz5,zz6]
  refine wL 8 ?_ rfl (by kernel_rfl) (fun _ _ _ h => h) HSS.out (by rfl) ?_ ?_
  rotate_left
  ·intro w hSw;obtain ⟨z0,z1,z4,z5,z6,z7⟩:=hSw;rw [Nat.add_zero] at z0;go_simp;try with_reducible rfl
  simp only [Act.put,zz1,zz2,zz3,zz4,zz5,zz6]
  refine wL 9 ?_ rfl (by kernel_rfl) (fun _ _ _ h => h) HSS.out (by rfl) ?_ ?_
  rotate_left
  ·intro w hSw;obtain ⟨z0,z1,z4,z5,z6,z7⟩:=hSw;rw [Nat.add_zero] at z0;go_simp;try with_reducible rfl
  simp only [Act.put,zz1,zz2,zz3,zz4,zz5,zz6]
  refine wL 10 ?_ rfl (by kernel_rfl) (fun _ _ _ h => h) HSS.out (by rfl) ?_ ?_
  rotate_left
  ·intro w hSw;obtain ⟨z0,z1,z4,z5,z6,z7⟩:=hSw;rw [Nat.add_zero] at z0;go_simp;try with_reducible rfl
  simp only [Act.put,zz1,zz2,zz3,zz4,zz5,zz6]
  refine wL 11 ?_ rfl (by kernel_rfl) (fun _ _ _ h => h) HSS.out (by rfl) ?_ ?_
  rotate_left
  ·intro w hSw;obtain ⟨z0,z1,z4,z5,z6,z7⟩:=hSw;rw [Nat.add_zero] at z0;go_simp;try with_reducible rfl
  simp only [Act.put,zz1,zz2,zz3,zz4,zz5,zz6]
  refine wL 12 ?_ rfl (by kernel_rfl) (fun _ _ _ h => h) HSS.out (by rfl) ?_ ?_
  rotate_left
  ·intro w hSw;obtain ⟨z0,z1,z4,z5,z6,z7⟩:=hSw;rw [Nat.add_zero] at z0;go_simp;try with_reducible rfl
  simp only [Act.put,zz1,zz2,zz3,zz4,zz5,zz6]
  refine wL 13 ?_ rfl (by kernel_rfl) (fun _ _ _ h => h) HSS.out (by rfl) ?_ ?_
  rotate_left
  ·intro w hSw;obtain ⟨z0,z1,z4,z5,z6,z7⟩:=hSw;rw [Nat.add_zero] at z0;go_simp;try with_reducible rfl
  simp only [Act.put,zz1,zz2,zz3,zz4,zz5,zz6]
  refine wL 14 ?_ rfl (by kernel_rfl) (fun _ _ _ h => h) HSS.out (by rfl) ?_ ?_
  rotate_left
  ·intro w hSw;obtain ⟨z0,z1,z4,z5,z6,z7⟩:=hSw;rw [Nat.add_zero] at z0;go_simp;try with_reducible rfl
  simp only [Act.put,zz1,zz2,zz3,zz4,zz5,zz6]
  refine wL 15 ?_ rfl (by kernel_rfl) (fun _ _ _ h => h) HSS.out (by rfl) ?_ ?_
  rotate_left
  ·intro w hSw;obtain ⟨z0,z1,z4,z5,z6,z7⟩:=hSw;rw [Nat.add_zero] at z0;go_simp;try with_reducible rfl
  simp only [Act.put,zz1,zz2,zz3,zz4,zz5,zz6]
  refine wL 16 ?_ rfl (by kernel_rfl) (fun _ _ _ h => h) HSS.out (by rfl) ?_ ?_
  rotate_left
  ·intro w hSw;obtain ⟨z0,z1,z4,z5,z6,z7⟩:=hSw;rw [Nat.add_zero] at z0;go_simp;try with_reducible rfl
  simp only [Act.put,zz1,zz2,zz3,zz4,zz5,zz6]
  refine wL 17 ?_ rfl (by kernel_rfl) (fun _ _ _ h => h) HSS.out (by rfl) ?_ ?_
  rotate_left
  ·intro w hSw;obtain ⟨z0,z1,z4,z5,z6,z7⟩:=hSw;rw [Nat.add_zero] at z0;go_simp;try with_reducible rfl
  simp only [Act.put,zz1,zz2,zz3,zz4,zz5,zz6]
  refine wL 18 ?_ rfl (by kernel_rfl) (fun _ _ _ h => h) HSS.out (by rfl) ?_ ?_
  rotate_left
  ·intro w hSw;obtain ⟨z0,z1,z4,z5,z6,z7⟩:=hSw;rw [Nat.add_zero] at z0;go_simp;try with_reducible rfl
  simp only [Act.put,zz1,zz2,zz3,zz4,zz5,zz6]
  refine wL 19 ?_ rfl (by kernel_rfl) (fun _ _ _ h => h) HSS.out (by rfl) ?_ ?_
  rotate_left
  ·intro w hSw;obtain ⟨z0,z1,z4,z5,z6,z7⟩:=hSw;rw [Nat.add_zero] at z0;go_simp;try with_reducible rfl
  simp only [Act.put,zz1,zz2,zz3,zz4,zz5,zz6]
  refine wL 20 ?_ rfl (by kernel_rfl) (fun _ _ _ h => h) HSS.out (by rfl) ?_ ?_
  rotate_left
  ·intro w hSw;obtain ⟨z0,z1,z4,z5,z6,z7⟩:=hSw;rw [Nat.add_zero] at z0;go_simp;try with_reducible rfl
  simp only [Act.put,zz1,zz2,zz3,zz4,zz5,zz6]
  refine wL 21 ?_ rfl (by kernel_rfl) (fun _ _ _ h => h) HSS.out (by rfl) ?_ ?_
  rotate_left
  ·intro w hSw;obtain ⟨z0,z1,z4,z5,z6,z7⟩:=hSw;rw [Nat.add_zero] at z0;go_simp;try with_reducible rfl
  simp only [Act.put,zz1,zz2,zz3,zz4,zz5,zz6]
  refine wL 22 ?_ rfl (by kernel_rfl) (fun _ _ _ h => h) HSS.out (by rfl) ?_ ?_
  rotate_left
  ·intro w hSw;obtain ⟨z0,z1,z4,z5,z6,z7⟩:=hSw;rw [Nat.add_zero] at z0;go_simp;try with_reducible rfl
  simp only [Act.put,zz1,zz2,zz3,zz4,zz5,zz6]
  refine wL 23 ?_ rfl (by kernel_rfl) (fun _ _ _ h => h) HSS.out (by rfl) ?_ ?_
  rotate_left
  ·intro w hSw;obtain ⟨z0,z1,z4,z5,z6,z7⟩:=hSw;rw [Nat.add_zero] at z0;go_simp;try with_reducible rfl
  simp only [Act.put,zz1,zz2,zz3,zz4,zz5,zz6]
  refine wL 24 ?_ rfl (by kernel_rfl) (fun _ _ _ h => h) HSS.out (by rfl) ?_ ?_
  rotate_left
  ·intro w hSw;obtain ⟨z0,z1,z4,z5,z6,z7⟩:=hSw;rw [Nat.add_zero] at z0;go_simp;try with_reducible rfl
  simp only [Act.put,zz1,zz2,zz3,zz4,zz5,zz6]
  refine wL 26 ?_ rfl (by kernel_rfl) (fun _ _ _ h => h) HSS.out (by rfl) ?_ ?_
  rotate_left
  ·intro w hSw;obtain ⟨z0,z1,z4,z5,z6,z7⟩:=hSw;rw [Nat.add_zero] at z0;go_simp;try with_reducible rfl
  simp only [Act.put,zz1,zz2,zz3,zz4,zz5,zz6]
  refine wL 27 ?_ rfl (by kernel_rfl) (fun _ _ _ h => h) HSS.out (by rfl) ?_ ?_
  rotate_left
  ·intro w hSw;obtain ⟨z0,z1,z4,z5,z6,z7⟩:=hSw;rw [Nat.add_zero] at z0;go_simp;try with_reducible rfl
  simp only [Act.put,zz1,zz2,zz3,zz4,zz5,zz6]
  refine wpAnyT_two (i:=25) (j:=28) (by kernel_rfl) rfl rfl (fun K hK => ?_) (fun K hK => ?_)
  ·rw [if_pos (by rfl)]
   go_simp
   obtain ⟨wb,eb,hF,hBb,hsb⟩:=one_new wd [.int .u8 ((d0.toNat : Int) % 64),.int .u8 (d1.toNat : Nat),.int .u8 (d4.toNat : Nat),.int .u8 (d5.toNat : Nat),.int .u8 (d6.toNat : Nat),.int .u8 (d7.toNat : Nat),.int .u8 ((n : Int) / 256),.int .u8 ((n : Int) % 256)].toArray 5
   have HBB : Hid (Bytes wb (.slice (some ⟨wd.heap.size,0,none⟩) 8 8) (imp l).head):=Hd (by unfold Bytes;rw [HIH.out];exact box_sl (off:=0) (cap:=8) hBb _ (by intro i y hy;simpa using hy) (by simp) (by unfold maxLen;omega))
   have HBL : Hid (w.heap.size < wd.heap.size):=Hd (by have:=HR.out.lt;omega)
   have HSS:=Hd (by have h:=HSS.out;exact ⟨hF.cellSome h.1 (by simp),hF.cellSome h.2.1 (by simp),hF.cellSome h.2.2.1 (by simp),hF.cellSome h.2.2.2.1 (by simp),hF.cellSome h.2.2.2.2.1 (by simp),hF.cellSome h.2.2.2.2.2 (by simp)⟩ : Hid (wb.cell? ⟨b,o + 0,none⟩ = some (.int .u8 (d0.toNat : Nat)) ∧ wb.cell? ⟨b,o + 1,none⟩ = some (.int .u8 (d1.toNat : Nat)) ∧ wb.cell? ⟨b,o + 4,none⟩ = some (.int .u8 (d4.toNat : Nat)) ∧ wb.cell? ⟨b,o + 5,none⟩ = some (.int .u8 (d5.toNat : Nat)) ∧ wb.cell? ⟨b,o + 6,none⟩ = some (.int .u8 (d6.toNat : Nat)) ∧ wb.cell? ⟨b,o + 7,none⟩ = some (.int .u8 (d7.toNat : Nat))))
   have HR:=Hd (HR.out.keep hF);have HF:=Hd (HF.out.trans hF);have HD:=Hd (HD.out.keep hF)
   clear hBb hsb hF
   try rw [eb]
   clear eb
   refine hK.out _ _ (fun _ => HSS.out) ?_
   clear hK K
   simp only [Act.put,zz1,zz2,zz3,zz4,zz5,zz6]
   refine wpAnyT_one (i:=28) (by kernel_rfl) rfl (fun K hK => ?_)
   rw [if_pos (by rfl)]
   go_simp
   refine (RCopy_any HD.out (by rw [HDL.out];omega)).mono ?_
   rintro e wc ⟨vc,rfl,hO,hF⟩
   obtain ⟨ac,nc,cc,rfl⟩:=hO.isSlice
   have HCP:=Hd hO.bytes
   have HCL : Hid (∀ k,liveOf (.slice ac nc cc) = some k → w.heap.size < k):=Hd (fun k hk => by have h1:=hO.block k (live_block hk);have:=HR.out.lt;omega)
   have HSS:=Hd (by have h:=HSS.out;exact ⟨hF.cellSome h.1 (by simp),hF.cellSome h.2.1 (by simp),hF.cellSome h.2.2.1 (by simp),hF.cellSome h.2.2.2.1 (by simp),hF.cellSome h.2.2.2.2.1 (by simp),hF.cellSome h.2.2.2.2.2 (by simp)⟩ : Hid (wc.cell? ⟨b,o + 0,none⟩ = some (.int .u8 (d0.toNat : Nat)) ∧ wc.cell? ⟨b,o + 1,none⟩ = some (.int .u8 (d1.toNat : Nat)) ∧ wc.cell? ⟨b,o + 4,none⟩ = some (.int .u8 (d4.toNat : Nat)) ∧ wc.cell? ⟨b,o + 5,none⟩ = some (.int .u8 (d5.toNat : Nat)) ∧ wc.cell? ⟨b,o + 6,none⟩ = some (.int .u8 (d6.toNat : Nat)) ∧ wc.cell? ⟨b,o + 7,none⟩ = some (.int .u8 (d7.toNat : Nat))))
   have HR:=Hd (HR.out.keep hF);have HF:=Hd (HF.out.trans hF);have HD:=Hd (HD.out.keep hF)
   have HBB:=Hd (HBB.out.keep hF)
   clear hO hF
   go_simp
   refine hK.out _ _ (fun _ => HSS.out) ?_
   clear hK K
   simp only [Act.put,zz1,zz2,zz3,zz4,zz5,zz6]
   refine wL 29 ?_ rfl (by kernel_rfl) (fun _ _ _ h => h) HSS.out (by rfl) ?_ ?_
   rotate_left
   ·intro w hSw;obtain ⟨z0,z1,z4,z5,z6,z7⟩:=hSw;rw [Nat.add_zero] at z0;go_simp;try with_reducible rfl
   simp only [Act.put,zz1,zz2,zz3,zz4,zz5,zz6]
   refine wpAnyT_one (i:=30) (by kernel_rfl) rfl (fun K hK => ?_)
   refine wp_store_row rfl 105 (.tmp 2) (.tmp 49) rfl w.heap.size rfl _ _ rfl 105 HR.out (by kernel_rfl) rfl (by simp [Value.oneCell']) ?_
   intro ws hY hF
   have HSS:=Hd (by have h:=HSS.out;exact ⟨hF.cellSome h.1 (by simp;omega),hF.cellSome h.2.1 (by simp;omega),hF.cellSome h.2.2.1 (by simp;omega),hF.cellSome h.2.2.2.1 (by simp;omega),hF.cellSome h.2.2.2.2.1 (by simp;omega),hF.cellSome h.2.2.2.2.2 (by simp;omega)⟩ : Hid (ws.cell? ⟨b,o + 0,none⟩ = some (.int .u8 (d0.toNat : Nat)) ∧ ws.cell? ⟨b,o + 1,none⟩ = some (.int .u8 (d1.toNat : Nat)) ∧ ws.cell? ⟨b,o + 4,none⟩ = some (.int .u8 (d4.toNat : Nat)) ∧ ws.cell? ⟨b,o + 5,none⟩ = some (.int .u8 (d5.toNat : Nat)) ∧ ws.cell? ⟨b,o + 6,none⟩ = some (.int .u8 (d6.toNat : Nat)) ∧ ws.cell? ⟨b,o + 7,none⟩ = some (.int .u8 (d7.toNat : Nat))))
   refine hK.out _ _ (fun _ => HSS.out) ?_
   clear hK K
   simp only [Act.put,zz1,zz2,zz3,zz4,zz5,zz6]
   refine wL 31 ?_ rfl (by kernel_rfl) (fun _ _ _ h => h) HSS.out (by rfl) ?_ ?_
   rotate_left
   ·intro w hSw;obtain ⟨z0,z1,z4,z5,z6,z7⟩:=hSw;rw [Nat.add_zero] at z0;go_simp;try with_reducible rfl
   simp only [Act.put,zz1,zz2,zz3,zz4,zz5,zz6]
   refine wpAnyT_done (by kernel_rfl) ?_ _
   go_wp2_with fail
   refine bodyPost_ret (results_row_1 rfl _ _ w.heap.size 105 _ _ rfl hY Tryz.underlying105 rfl (by kernel_rfl)) rfl (.inl ⟨_,p,HP.out,rfl,⟨_,_,rfl,?_,?_,fun k hk => by rcases hk with hk | hk;(· simp [liveOf] at hk;have:=HBL.out;omega);exact HCL.out k hk⟩,HF.out.step hF (by simp)⟩)
   ·exact Sl.frL HBB.out hF (fun k hk hm => by simp [liveOf] at hk;have:=HBL.out;simp at hm;omega)
   ·exact Sl.frL HCP.out hF (fun k hk hm => by have:=HCL.out k hk;simp at hm;omega)
  ·rw [if_pos (by rfl)]
   go_simp
   refine (RCopy_any HD.out (by rw [HDL.out];omega)).mono ?_
   rintro e wc ⟨vc,rfl,hO,hF⟩
   obtain ⟨ac,nc,cc,rfl⟩:=hO.isSlice
   have HCP:=Hd hO.bytes
   have HCL : Hid (∀ k,liveOf (.slice ac nc cc) = some k → w.heap.size < k):=Hd (fun k hk => by have h1:=hO.block k (live_block hk);have:=HR.out.lt;omega)
   have HSS:=Hd (by have h:=HSS.out;exact ⟨hF.cellSome h.1 (by simp),hF.cellSome h.2.1 (by simp),hF.cellSome h.2.2.1 (by simp),hF.cellSome h.2.2.2.1 (by simp),hF.cellSome h.2.2.2.2.1 (by simp),hF.cellSome h.2.2.2.2.2 (by simp)⟩ : Hid (wc.cell? ⟨b,o + 0,none⟩ = some (.int .u8 (d0.toNat : Nat)) ∧ wc.cell? ⟨b,o + 1,none⟩ = some (.int .u8 (d1.toNat : Nat)) ∧ wc.cell? ⟨b,o + 4,none⟩ = some (.int .u8 (d4.toNat : Nat)) ∧ wc.cell? ⟨b,o + 5,none⟩ = some (.int .u8 (d5.toNat : Nat)) ∧ wc.cell? ⟨b,o + 6,none⟩ = some (.int .u8 (d6.toNat : Nat)) ∧ wc.cell? ⟨b,o + 7,none⟩ = some (.int .u8 (d7.toNat : Nat))))
   have HR:=Hd (HR.out.keep hF);have HF:=Hd (HF.out.trans hF);have HD:=Hd (HD.out.keep hF)
   clear hO hF
   go_simp
   refine hK.out _ _ (fun _ => HSS.out) ?_
   clear hK K
   simp only [Act.put,zz1,zz2,zz3,zz4,zz5,zz6]
   refine wpAnyT_one (i:=25) (by kernel_rfl) rfl (fun K hK => ?_)
   rw [if_pos (by rfl)]
   go_simp
   obtain ⟨wb,eb,hF,hBb,hsb⟩:=one_new wc [.int .u8 ((d0.toNat : Int) % 64),.int .u8 (d1.toNat : Nat),.int .u8 (d4.toNat : Nat),.int .u8 (d5.toNat : Nat),.int .u8 (d6.toNat : Nat),.int .u8 (d7.toNat : Nat),.int .u8 ((n : Int) / 256),.int .u8 ((n : Int) % 256)].toArray 5
   have HBB : Hid (Bytes wb (.slice (some ⟨wc.heap.size,0,none⟩) 8 8) (imp l).head):=Hd (by unfold Bytes;rw [HIH.out];exact box_sl (off:=0) (cap:=8) hBb _ (by intro i y hy;simpa using hy) (by simp) (by unfold maxLen;omega))
   have HBL : Hid (w.heap.size < wc.heap.size):=Hd (by have:=HR.out.lt;omega)
   have HSS:=Hd (by have h:=HSS.out;exact ⟨hF.cellSome h.1 (by simp),hF.cellSome h.2.1 (by simp),hF.cellSome h.2.2.1 (by simp),hF.cellSome h.2.2.2.1 (by simp),hF.cellSome h.2.2.2.2.1 (by simp),hF.cellSome h.2.2.2.2.2 (by simp)⟩ : Hid (wb.cell? ⟨b,o + 0,none⟩ = some (.int .u8 (d0.toNat : Nat)) ∧ wb.cell? ⟨b,o + 1,none⟩ = some (.int .u8 (d1.toNat : Nat)) ∧ wb.cell? ⟨b,o + 4,none⟩ = some (.int .u8 (d4.toNat : Nat)) ∧ wb.cell? ⟨b,o + 5,none⟩ = some (.int .u8 (d5.toNat : Nat)) ∧ wb.cell? ⟨b,o + 6,none⟩ = some (.int .u8 (d6.toNat : Nat)) ∧ wb.cell? ⟨b,o + 7,none⟩ = some (.int .u8 (d7.toNat : Nat))))
   have HR:=Hd (HR.out.keep hF);have HF:=Hd (HF.out.trans hF);have HD:=Hd (HD.out.keep hF)
   have HCP:=Hd (HCP.out.keep hF)
   clear hBb hsb hF
   try rw [eb]
   clear eb
   refine hK.out _ _ (fun _ => HSS.out) ?_
   clear hK K
   simp only [Act.put,zz1,zz2,zz3,zz4,zz5,zz6]
   refine wL 29 ?_ rfl (by kernel_rfl) (fun _ _ _ h => h) HSS.out (by rfl) ?_ ?_
   rotate_left
   ·intro w hSw;obtain ⟨z0,z1,z4,z5,z6,z7⟩:=hSw;rw [Nat.add_zero] at z0;go_simp;try with_reducible rfl
   simp only [Act.put,zz1,zz2,zz3,zz4,zz5,zz6]
   refine wpAnyT_one (i:=30) (by kernel_rfl) rfl (fun K hK => ?_)
   refine wp_store_row rfl 105 (.tmp 2) (.tmp 49) rfl w.heap.size rfl _ _ rfl 105 HR.out (by kernel_rfl) rfl (by simp [Value.oneCell']) ?_
   intro ws hY hF
   have HSS:=Hd (by have h:=HSS.out;exact ⟨hF.cellSome h.1 (by simp;omega),hF.cellSome h.2.1 (by simp;omega),hF.cellSome h.2.2.1 (by simp;omega),hF.cellSome h.2.2.2.1 (by simp;omega),hF.cellSome h.2.2.2.2.1 (by simp;omega),hF.cellSome h.2.2.2.2.2 (by simp;omega)⟩ : Hid (ws.cell? ⟨b,o + 0,none⟩ = some (.int .u8 (d0.toNat : Nat)) ∧ ws.cell? ⟨b,o + 1,none⟩ = some (.int .u8 (d1.toNat : Nat)) ∧ ws.cell? ⟨b,o + 4,none⟩ = some (.int .u8 (d4.toNat : Nat)) ∧ ws.cell? ⟨b,o + 5,none⟩ = some (.int .u8 (d5.toNat : Nat)) ∧ ws.cell? ⟨b,o + 6,none⟩ = some (.int .u8 (d6.toNat : Nat)) ∧ ws.cell? ⟨b,o + 7,none⟩ = some (.int .u8 (d7.toNat : Nat))))
   refine hK.out _ _ (fun _ => HSS.out) ?_
   clear hK K
   simp only [Act.put,zz1,zz2,zz3,zz4,zz5,zz6]
   refine wL 31 ?_ rfl (by kernel_rfl) (fun _ _ _ h => h) HSS.out (by rfl) ?_ ?_
   rotate_left
   ·intro w hSw;obtain ⟨z0,z1,z4,z5,z6,z7⟩:=hSw;rw [Nat.add_zero] at z0;go_simp;try with_reducible rfl
   simp only [Act.put,zz1,zz2,zz3,zz4,zz5,zz6]
   refine wpAnyT_done (by kernel_rfl) ?_ _
   go_wp2_with fail
   refine bodyPost_ret (results_row_1 rfl _ _ w.heap.size 105 _ _ rfl hY Tryz.underlying105 rfl (by kernel_rfl)) rfl (.inl ⟨_,p,HP.out,rfl,⟨_,_,rfl,?_,?_,fun k hk => by rcases hk with hk | hk;(· simp [liveOf] at hk;have:=HBL.out;omega);exact HCL.out k hk⟩,HF.out.step hF (by simp)⟩)
   ·exact Sl.frL HBB.out hF (fun k hk hm => by simp [liveOf] at hk;have:=HBL.out;simp at hm;omega)
   ·exact Sl.frL HCP.out hF (fun k hk hm => by have:=HCL.out k hk;simp at hm;omega)
theorem r12Of_any {w : World} {v : Value} {l : List UInt8} (hl : Bytes w v l) :
  Calls Tryz.prog 68 #[v] w fun e w' =>
   (∃ v' p,parseR l = .ok p ∧ e = .returned (.tuple #[v',.int .i64 0]) ∧ RBV w' v' (imp l).head (imp l).body ∧ Fr [] w w') ∨
   (∃ v' k,parseR l = .error k ∧ e = .returned (.tuple #[v',.int .i64 k]) ∧ RBV w' v' (List.replicate 8 0) [] ∧ Fr [] w w'):=by
 refine (r12OfN_any hl).mono ?_
 rintro e w' (⟨v',p,h1,h2,h3,h4⟩ | h)
 ·exact .inl ⟨v',p,h1,h2,h3.rbv,h4⟩
 ·exact .inr h
end Go.Proofs.YtcngfbjmpemehaaGreat

/- The walk of confluxref12.Packet (printed by gen_imp6.py). -/
namespace Go.Proofs.YtcngfbjmpemehaaGreat
open Go.RowKit

theorem two_head (b0 b1 : Nat) (h0 : b0 < 256) (h1 : b1 < 256) : [UInt8.ofNat (128 + b0 % 64),UInt8.ofNat b1].map B8 = [.int .u8 (128 + (b0 : Int) % 64),.int .u8 ((b1 : Nat) : Int)]:=by
 have e1 : (UInt8.ofNat (128 + b0 % 64)).toNat = 128 + b0 % 64:=by rw [UInt8.toNat_ofNat'];omega
 have e2 : (UInt8.ofNat b1).toNat = b1:=by rw [UInt8.toNat_ofNat'];omega
 simp only [List.map_cons,List.map_nil,B8,e1,e2]
 rfl
theorem and63_sum (a : UInt8) : UInt8.ofNat (128 + a.toNat % 64) = 128 ||| (a &&& 63):=by
 rw [← UInt8.toNat_inj,UInt8.toNat_ofNat',UInt8.toNat_or,and63_mod]
 have:=Nat.two_pow_add_eq_or_of_lt (i:=7) (b:=a.toNat % 64) (by omega) 1
 show _ = 128 ||| a.toNat % 64
 rw [show (128 : Nat) = 2 ^ 7 * 1 from rfl,← this]
 omega
end Go.Proofs.YtcngfbjmpemehaaGreat
