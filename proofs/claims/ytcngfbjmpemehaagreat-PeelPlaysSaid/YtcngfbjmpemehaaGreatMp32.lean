import Derived.Test.YtcngfbjmpemehaaGreatMp31
import Derived.Test.YtcngfbjmpemehaaGreatMp26
import Derived.Test.YtcngfbjmpemehaaGreatMp29
import Derived.Test.YtcngfbjmpemehaaGreatMp27
import Derived.Test.YtcngfbjmpemehaaGreatMp5
set_option maxRecDepth 100000
set_option maxHeartbeats 16000000
open List renaming getElem_toArray → zz1, getElem_cons_zero → zz2, getElem_cons_succ → zz3, setIfInBounds_toArray → zz4, set_cons_zero → zz5, set_cons_succ → zz6, getElem?_toArray → zz7, getElem?_cons_succ → zz8, getElem?_cons_zero → zz9
open Go.Lib renaming hid → Hd
/- The walk of solve.One (printed by gen_one.py). -/
namespace Go.Proofs.YtcngfbjmpemehaaGreat
open Go.RowKit

theorem res_tmp3 {fn : Func} {t u s : Tmp} (h : fn.results = #[.tmp t,.tmp u,.tmp s]) (tmps : Array Value) (P : Program) (w : World) :
  (results fn tmps).run P w = .ok (.tuple #[tmps.getD t undef,tmps.getD u undef,tmps.getD s undef]) w:=by
 simp [results,h]
end Go.Proofs.YtcngfbjmpemehaaGreat

/- The walk of solve.One,its bytes in a block of their own (printed by gen_one.py). -/
namespace Go.Proofs.YtcngfbjmpemehaaGreat
open Go.RowKit

theorem svOne_own {w : World} {v : Value} {r : Rep_} {gf : Nat} {bd lb : Array Value} {K : UInt16 → Option (List UInt8)} (h : RpV w v r) (hs : r.bt.body.length ≤ 1099511627776) (hK : Knows w gf bd lb K) (ss : UInt32) :
  Calls Tryz.prog 144 #[v,.int .u32 (ss.toNat : Nat),.func (.func gf) bd lb] w fun e w' => ∃ v',e = .returned (.tuple #[.int .u16 ((oneL K ss r).1.toNat : Nat),v',.int .i64 (oneL K ss r).2.2]) ∧ OwnB w' w.heap.size v' (oneL K ss r).2.1 ∧ Fr [] w w':=by
 obtain ⟨vb,rfl,hb⟩:=h
 obtain ⟨a,n,c,rfl⟩:=Sl.isSlice hb
 obtain ⟨w1,e1,hF1,hB1,hs1⟩:=one_new w (rpc r (.slice a n c)) 38
 have HF:=Hd hF1;have HR:=Hd hB1;have E1:=Hd e1;have HK:=Hd (hK.keep hF1);have HBD:=Hd (Sl.keep hb hF1)
 clear hF1 hB1 e1 hs1 hb hK
 go_enter Tryz.func144,Tryz.ntmps144
 go_upto_region 1 with fail
 rw [E1.out]
 clear E1
 go_wp2_with (refine wpList_load_row_w rfl 38 (.tmp 3) rfl w.heap.size rfl 38 _ _ HR.out Tryz.underlying38 rfl (by kernel_rfl) ?_)
 refine (svRest_any (r:=r) ⟨_,rfl,HBD.out⟩ hs HK.out ss).mono ?_
 rintro e w2 ⟨vx,vm,rfl,⟨vz,rfl,hz⟩,hm,hF⟩
 have hxs:=restL_small (K:=K) (ss:=ss) (r:=r) hs
 have HRE0 : Hid (restL K ss r = ((restL K ss r).1,(restL K ss r).2)):=Hd rfl
 have HXS:=Hd hxs
 obtain ⟨x,ms,hRE⟩ : ∃ x ms,restL K ss r = (x,ms):=⟨_,_,rfl⟩
 rw [hRE] at hz hm HXS ⊢
 clear hxs HRE0
 obtain ⟨az,nz,cz,rfl⟩:=Sl.isSlice hz
 obtain ⟨am,cm,rfl⟩ : ∃ a c,vm = .slice a ms.length c:=by
  have:=Sl.shape hm
  simpa using this
 have HZ:=Hd hz;have HM:=Hd hm;have HRE:=Hd hRE
 have HF:=Hd (HF.out.trans hF)
 have HR:=Hd (HR.out.keep hF)
 clear hF hz hm hRE HK HBD
 go_upto_region 2 with (refine wpList_store_row rfl 127 (.tmp 9) (.tmp 18) rfl w2.heap.size rfl _ _ rfl 127 (Box.new w2 127 (bc Bt.zero (.slice none 0 0))) (by kernel_rfl) rfl (by simp [bc,Value.oneCell']) ?_;intro w3 hY hG;have hFn:=((Fr.refl [] w2).alloc _).step hG (by simp);have HFn:=Hd hFn;have HY:=Hd hY;clear hG hFn hY)
 have hF:=HFn.out
 have HF:=Hd (HF.out.trans hF)
 have HR:=Hd (HR.out.keep hF)
 have HZ:=Hd (Sl.keep HZ.out hF)
 have HM:=Hd (Sl.keep HM.out hF)
 have HX:=HY
 clear hF HFn HY
 generalize hgx : w2.heap.size = gx at *
 clear hgx
 have x9:=HR.out.cell 9;have x10:=HR.out.cell 10
 simp only [rpc,zz7,zz8,zz9] at x9 x10
 by_cases hz : r.m.hi = 0 ∧ r.m.lo = 0
 ·have t1 : (((r.m.hi.toNat : Nat) : Int) == 0) = true:=by rw [bv_beq0,hz.1];rfl
  have t2 : (((r.m.lo.toNat : Nat) : Int) == 0) = true:=by rw [bv_beq0,hz.2];rfl
  have HL : Hid (oneL K ss r = (0,[],30)):=Hd (by unfold oneL;rw [if_pos hz])
  clear hz
  go_upto_region 3 with fail
  clear t1 t2 x9 x10
  go_wp2_with fail
  exact bodyPost_ret (res_tmp3 rfl _ _ _) rfl ⟨.slice none 0 0,by rw [HL.out];rfl,by rw [HL.out];exact ⟨by simp,.inl ⟨rfl,rfl⟩⟩,HF.out⟩
 have HOL : Hid (oneL K ss r = oneF ss x ms):=Hd (oneL_ne hz HRE.out)
 have hor : (((r.m.hi.toNat : Nat) : Int) == 0) = false ∨ (((r.m.hi.toNat : Nat) : Int) == 0) = true ∧ (((r.m.lo.toNat : Nat) : Int) == 0) = false:=by
  rw [bv_beq0,bv_beq0]
  by_cases h1 : r.m.hi = 0
  ·right
   exact ⟨by simpa using h1,by simpa using fun h2 => hz ⟨h1,h2⟩⟩
  ·left
   simpa using h1
 have HOR:=Hd hor
 clear hz hor
 cases ms with
 | nil =>
  have HL : Hid (oneL K ss r = (0,[],40)):=Hd (HOL.out.trans rfl)
  simp only [List.length_nil] at HM ⊢
  rcases HOR.out with t1 | ⟨t1,t2⟩
  ·go_upto_region 5 with fail
   clear t1 x9 x10
   go_wp2_with fail
   exact bodyPost_ret (res_tmp3 rfl _ _ _) rfl ⟨.slice none 0 0,by rw [HL.out];rfl,by rw [HL.out];exact ⟨by simp,.inl ⟨rfl,rfl⟩⟩,HF.out⟩
  ·go_upto_region 5 with fail
   clear t1 t2 x9 x10
   go_wp2_with fail
   exact bodyPost_ret (res_tmp3 rfl _ _ _) rfl ⟨.slice none 0 0,by rw [HL.out];rfl,by rw [HL.out];exact ⟨by simp,.inl ⟨rfl,rfl⟩⟩,HF.out⟩
 | cons n rest =>
  cases rest with
  | cons m rest =>
   have HL : Hid (oneL K ss r = (0,[],41)):=Hd (HOL.out.trans rfl)
   simp only [List.length_cons] at HM ⊢
   rcases HOR.out with t1 | ⟨t1,t2⟩
   ·go_upto_region 7 with fail
    clear t1 x9 x10
    go_wp2_with fail
    exact bodyPost_ret (res_tmp3 rfl _ _ _) rfl ⟨.slice none 0 0,by rw [HL.out];rfl,by rw [HL.out];exact ⟨by simp,.inl ⟨rfl,rfl⟩⟩,HF.out⟩
   ·go_upto_region 7 with fail
    clear t1 t2 x9 x10
    go_wp2_with fail
    exact bodyPost_ret (res_tmp3 rfl _ _ _) rfl ⟨.slice none 0 0,by rw [HL.out];rfl,by rw [HL.out];exact ⟨by simp,.inl ⟨rfl,rfl⟩⟩,HF.out⟩
  | nil =>
   obtain ⟨b,o,ea,-,hc⟩:=Sl.at_ HM.out (k:=0) (by simp)
   subst ea
   have HC : Hid (w3.cell? ⟨b,o,none⟩ = some (.int .u16 (n.toNat : Nat))):=Hd (by have:=hc 0 _ rfl;simpa [W16] using this)
   clear hc
   simp only [List.length_cons,List.length_nil,Nat.zero_add] at HM ⊢
   have HW0 : Hid (Fr [] w w3):=Hd HF.out
   cases hpk : x.pack n ss with
   | ok l0 =>
    have HL : Hid (oneL K ss r = (n,l0,0)):=Hd (HOL.out.trans (oneF_ok hpk))
    have HPK:=Hd hpk
    clear hpk
    rcases HOR.out with t1 | ⟨t1,t2⟩
    ·go_upto_region 8 with fail
     clear t1 x9 x10
     refine wp_region_T (fun w' => Fr [] w3.drew w') [] 11 #[false,false,false,false,false,false,false,false,false,false,false] (by kernel_rfl) rfl rfl ?_
     have hF:=(Fr.refl [] w3).drew
     have HF:=Hd (HF.out.trans hF)
     have HR:=Hd (HR.out.keep hF)
     have HZ:=Hd (Sl.keep HZ.out hF)
     have HM:=Hd (Sl.keep HM.out hF)
     have HX:=Hd (HX.out.keep hF)
     have HC:=Hd (hF.cellSome HC.out (by simp))
     clear hF
     have HSS : Hid (Fr [] w3.drew w3.drew):=Hd (Fr.refl _ _)
     generalize w3.drew = wd at *
     refine wL 0 ?_ rfl (by kernel_rfl) (fun _ _ _ h => h) HSS.out (by rfl) ?_ ?_
     rotate_left
     ·intro w' hSw;refine run_load_row 127 (.tmp 9) ?_ gx ?_ 127 _ _ (HX.out.keep hSw) Tryz.underlying127 rfl (by kernel_rfl) <;> rfl
     simp only [Act.put,zz1,zz2,zz3,zz4,zz5,zz6]
     refine wL 1 ?_ rfl (by kernel_rfl) (fun _ _ _ h => h) HSS.out (by rfl) ?_ ?_
     rotate_left
     ·intro w hSw;go_simp;try with_reducible rfl
     simp only [Act.put,zz1,zz2,zz3,zz4,zz5,zz6]
     refine wL 2 ?_ rfl (by kernel_rfl) (fun _ _ _ h => h) HSS.out (by rfl) ?_ ?_
     rotate_left
     ·intro w hSw;go_simp;try with_reducible rfl
     simp only [Act.put,zz1,zz2,zz3,zz4,zz5,zz6]
     refine wL 3 ?_ rfl (by kernel_rfl) (fun _ _ _ h => h) HSS.out (by rfl) ?_ ?_
     rotate_left
     ·intro w hSw;have d0:=hSw.cellSome HC.out (by simp);go_simp;try with_reducible rfl
     simp only [Act.put,zz1,zz2,zz3,zz4,zz5,zz6]
     refine wL 4 ?_ rfl (by kernel_rfl) (fun _ _ _ h => h) HSS.out (by rfl) ?_ ?_
     rotate_left
     ·intro w hSw;go_simp;try with_reducible rfl
     simp only [Act.put,zz1,zz2,zz3,zz4,zz5,zz6]
     refine wpAnyT_one (i:=5) (by kernel_rfl) rfl (fun K hK => ?_)
     rw [if_pos (by rfl)]
     go_simp
     refine (impPacket_any (x:=x) ⟨_,rfl,HZ.out⟩ HXS.out n ss).mono ?_
     rintro e w5 (⟨l,v5,hp2,rfl,hO,hF⟩ | ⟨hp2,rfl,hF⟩)
     rotate_left
     ·rw [HPK.out] at hp2;cases hp2
     obtain rfl : l0 = l:=by rw [HPK.out] at hp2;cases hp2;rfl
     obtain ⟨a9,n9,c9,rfl⟩:=hO.isSlice
     have HO9 : Hid (OwnB w5 w.heap.size (.slice a9 n9 c9) l0):=Hd (hO.mono (by have h1:=HF.out.size;have h2:=HSS.out.size;omega))
     have HSS:=Hd (HSS.out.trans hF)
     clear hp2 hO hF
     go_simp
     refine hK.out _ _ (fun _ => HSS.out) ?_
     clear hK K
     simp only [Act.put,zz1,zz2,zz3,zz4,zz5,zz6]
     refine wL 6 ?_ rfl (by kernel_rfl) (fun _ _ _ h => h) HSS.out (by rfl) ?_ ?_
     rotate_left
     ·intro w hSw;go_simp;try with_reducible rfl
     simp only [Act.put,zz1,zz2,zz3,zz4,zz5,zz6]
     refine wL 7 ?_ rfl (by kernel_rfl) (fun _ _ _ h => h) HSS.out (by rfl) ?_ ?_
     rotate_left
     ·intro w hSw;go_simp;try with_reducible rfl
     simp only [Act.put,zz1,zz2,zz3,zz4,zz5,zz6]
     refine wL 8 ?_ rfl (by kernel_rfl) (fun _ _ _ h => h) HSS.out (by rfl) ?_ ?_
     rotate_left
     ·intro w hSw;go_simp;try with_reducible rfl
     simp only [Act.put,zz1,zz2,zz3,zz4,zz5,zz6]
     refine wL 9 ?_ rfl (by kernel_rfl) (fun _ _ _ h => h) HSS.out (by rfl) ?_ ?_
     rotate_left
     ·intro w hSw;go_simp;try with_reducible rfl
     simp only [Act.put,zz1,zz2,zz3,zz4,zz5,zz6]
     refine wL 10 ?_ rfl (by kernel_rfl) (fun _ _ _ h => h) HSS.out (by rfl) ?_ ?_
     rotate_left
     ·intro w hSw;go_simp;try with_reducible rfl
     simp only [Act.put,zz1,zz2,zz3,zz4,zz5,zz6]
     refine wpAnyT_done (by kernel_rfl) ?_ _
     have d0:=HSS.out.cellSome HC.out (by simp)
     go_wp2_with fail
     exact bodyPost_ret (res_tmp3 rfl _ _ _) rfl ⟨.slice a9 n9 c9,by rw [HL.out];rfl,by rw [HL.out];exact HO9.out,HF.out.trans HSS.out⟩
    ·go_upto_region 8 with fail
     clear t1 t2 x9 x10
     refine wp_region_T (fun w' => Fr [] w3.drew w') [] 11 #[false,false,false,false,false,false,false,false,false,false,false] (by kernel_rfl) rfl rfl ?_
     have hF:=(Fr.refl [] w3).drew
     have HF:=Hd (HF.out.trans hF)
     have HR:=Hd (HR.out.keep hF)
     have HZ:=Hd (Sl.keep HZ.out hF)
     have HM:=Hd (Sl.keep HM.out hF)
     have HX:=Hd (HX.out.keep hF)
     have HC:=Hd (hF.cellSome HC.out (by simp))
     clear hF
     have HSS : Hid (Fr [] w3.drew w3.drew):=Hd (Fr.refl _ _)
     generalize w3.drew = wd at *
     refine wL 0 ?_ rfl (by kernel_rfl) (fun _ _ _ h => h) HSS.out (by rfl) ?_ ?_
     rotate_left
     ·intro w' hSw;refine run_load_row 127 (.tmp 9) ?_ gx ?_ 127 _ _ (HX.out.keep hSw) Tryz.underlying127 rfl (by kernel_rfl) <;> rfl
     simp only [Act.put,zz1,zz2,zz3,zz4,zz5,zz6]
     refine wL 1 ?_ rfl (by kernel_rfl) (fun _ _ _ h => h) HSS.out (by rfl) ?_ ?_
     rotate_left
     ·intro w hSw;go_simp;try with_reducible rfl
     simp only [Act.put,zz1,zz2,zz3,zz4,zz5,zz6]
     refine wL 2 ?_ rfl (by kernel_rfl) (fun _ _ _ h => h) HSS.out (by rfl) ?_ ?_
     rotate_left
     ·intro w hSw;go_simp;try with_reducible rfl
     simp only [Act.put,zz1,zz2,zz3,zz4,zz5,zz6]
     refine wL 3 ?_ rfl (by kernel_rfl) (fun _ _ _ h => h) HSS.out (by rfl) ?_ ?_
     rotate_left
     ·intro w hSw;have d0:=hSw.cellSome HC.out (by simp);go_simp;try with_reducible rfl
     simp only [Act.put,zz1,zz2,zz3,zz4,zz5,zz6]
     refine wL 4 ?_ rfl (by kernel_rfl) (fun _ _ _ h => h) HSS.out (by rfl) ?_ ?_
     rotate_left
     ·intro w hSw;go_simp;try with_reducible rfl
     simp only [Act.put,zz1,zz2,zz3,zz4,zz5,zz6]
     refine wpAnyT_one (i:=5) (by kernel_rfl) rfl (fun K hK => ?_)
     rw [if_pos (by rfl)]
     go_simp
     refine (impPacket_any (x:=x) ⟨_,rfl,HZ.out⟩ HXS.out n ss).mono ?_
     rintro e w5 (⟨l,v5,hp2,rfl,hO,hF⟩ | ⟨hp2,rfl,hF⟩)
     rotate_left
     ·rw [HPK.out] at hp2;cases hp2
     obtain rfl : l0 = l:=by rw [HPK.out] at hp2;cases hp2;rfl
     obtain ⟨a9,n9,c9,rfl⟩:=hO.isSlice
     have HO9 : Hid (OwnB w5 w.heap.size (.slice a9 n9 c9) l0):=Hd (hO.mono (by have h1:=HF.out.size;have h2:=HSS.out.size;omega))
     have HSS:=Hd (HSS.out.trans hF)
     clear hp2 hO hF
     go_simp
     refine hK.out _ _ (fun _ => HSS.out) ?_
     clear hK K
     simp only [Act.put,zz1,zz2,zz3,zz4,zz5,zz6]
     refine wL 6 ?_ rfl (by kernel_rfl) (fun _ _ _ h => h) HSS.out (by rfl) ?_ ?_
     rotate_left
     ·intro w hSw;go_simp;try with_reducible rfl
     simp only [Act.put,zz1,zz2,zz3,zz4,zz5,zz6]
     refine wL 7 ?_ rfl (by kernel_rfl) (fun _ _ _ h => h) HSS.out (by rfl) ?_ ?_
     rotate_left
     ·intro w hSw;go_simp;try with_reducible rfl
     simp only [Act.put,zz1,zz2,zz3,zz4,zz5,zz6]
     refine wL 8 ?_ rfl (by kernel_rfl) (fun _ _ _ h => h) HSS.out (by rfl) ?_ ?_
     rotate_left
     ·intro w hSw;go_simp;try with_reducible rfl
     simp only [Act.put,zz1,zz2,zz3,zz4,zz5,zz6]
     refine wL 9 ?_ rfl (by kernel_rfl) (fun _ _ _ h => h) HSS.out (by rfl) ?_ ?_
     rotate_left
     ·intro w hSw;go_simp;try with_reducible rfl
     simp only [Act.put,zz1,zz2,zz3,zz4,zz5,zz6]
     refine wL 10 ?_ rfl (by kernel_rfl) (fun _ _ _ h => h) HSS.out (by rfl) ?_ ?_
     rotate_left
     ·intro w hSw;go_simp;try with_reducible rfl
     simp only [Act.put,zz1,zz2,zz3,zz4,zz5,zz6]
     refine wpAnyT_done (by kernel_rfl) ?_ _
     have d0:=HSS.out.cellSome HC.out (by simp)
     go_wp2_with fail
     exact bodyPost_ret (res_tmp3 rfl _ _ _) rfl ⟨.slice a9 n9 c9,by rw [HL.out];rfl,by rw [HL.out];exact HO9.out,HF.out.trans HSS.out⟩
   | error k0 =>
    have HL : Hid (oneL K ss r = (0,[],42)):=Hd (HOL.out.trans (oneF_err hpk))
    have HPK:=Hd hpk
    clear hpk
    rcases HOR.out with t1 | ⟨t1,t2⟩
    ·go_upto_region 8 with fail
     clear t1 x9 x10
     refine wp_region_T (fun w' => Fr [] w3.drew w') [] 11 #[false,false,false,false,false,false,false,false,false,false,false] (by kernel_rfl) rfl rfl ?_
     have hF:=(Fr.refl [] w3).drew
     have HF:=Hd (HF.out.trans hF)
     have HR:=Hd (HR.out.keep hF)
     have HZ:=Hd (Sl.keep HZ.out hF)
     have HM:=Hd (Sl.keep HM.out hF)
     have HX:=Hd (HX.out.keep hF)
     have HC:=Hd (hF.cellSome HC.out (by simp))
     clear hF
     have HSS : Hid (Fr [] w3.drew w3.drew):=Hd (Fr.refl _ _)
     generalize w3.drew = wd at *
     refine wL 0 ?_ rfl (by kernel_rfl) (fun _ _ _ h => h) HSS.out (by rfl) ?_ ?_
     rotate_left
     ·intro w' hSw;refine run_load_row 127 (.tmp 9) ?_ gx ?_ 127 _ _ (HX.out.keep hSw) Tryz.underlying127 rfl (by kernel_rfl) <;> rfl
     simp only [Act.put,zz1,zz2,zz3,zz4,zz5,zz6]
     refine wL 1 ?_ rfl (by kernel_rfl) (fun _ _ _ h => h) HSS.out (by rfl) ?_ ?_
     rotate_left
     ·intro w hSw;go_simp;try with_reducible rfl
     simp only [Act.put,zz1,zz2,zz3,zz4,zz5,zz6]
     refine wL 2 ?_ rfl (by kernel_rfl) (fun _ _ _ h => h) HSS.out (by rfl) ?_ ?_
     rotate_left
     ·intro w hSw;go_simp;try with_reducible rfl
     simp only [Act.put,zz1,zz2,zz3,zz4,zz5,zz6]
     refine wL 3 ?_ rfl (by kernel_rfl) (fun _ _ _ h => h) HSS.out (by rfl) ?_ ?_
     rotate_left
     ·intro w hSw;have d0:=hSw.cellSome HC.out (by simp);go_simp;try with_reducible rfl
     simp only [Act.put,zz1,zz2,zz3,zz4,zz5,zz6]
     refine wL 4 ?_ rfl (by kernel_rfl) (fun _ _ _ h => h) HSS.out (by rfl) ?_ ?_
     rotate_left
     ·intro w hSw;go_simp;try with_reducible rfl
     simp only [Act.put,zz1,zz2,zz3,zz4,zz5,zz6]
     refine wpAnyT_one (i:=5) (by kernel_rfl) rfl (fun K hK => ?_)
     rw [if_pos (by rfl)]
     go_simp
     refine (impPacket_any (x:=x) ⟨_,rfl,HZ.out⟩ HXS.out n ss).mono ?_
     rintro e w5 (⟨l,v5,hp2,rfl,hO,hF⟩ | ⟨hp2,rfl,hF⟩)
     ·rw [HPK.out] at hp2;cases hp2
     have HSS:=Hd (HSS.out.trans hF)
     clear hp2 hF
     go_simp
     refine hK.out _ _ (fun _ => HSS.out) ?_
     clear hK K
     simp only [Act.put,zz1,zz2,zz3,zz4,zz5,zz6]
     refine wL 6 ?_ rfl (by kernel_rfl) (fun _ _ _ h => h) HSS.out (by rfl) ?_ ?_
     rotate_left
     ·intro w hSw;go_simp;try with_reducible rfl
     simp only [Act.put,zz1,zz2,zz3,zz4,zz5,zz6]
     refine wL 7 ?_ rfl (by kernel_rfl) (fun _ _ _ h => h) HSS.out (by rfl) ?_ ?_
     rotate_left
     ·intro w hSw;go_simp;try with_reducible rfl
     simp only [Act.put,zz1,zz2,zz3,zz4,zz5,zz6]
     refine wL 8 ?_ rfl (by kernel_rfl) (fun _ _ _ h => h) HSS.out (by rfl) ?_ ?_
     rotate_left
     ·intro w hSw;go_simp;try with_reducible rfl
     simp only [Act.put,zz1,zz2,zz3,zz4,zz5,zz6]
     refine wL 9 ?_ rfl (by kernel_rfl) (fun _ _ _ h => h) HSS.out (by rfl) ?_ ?_
     rotate_left
     ·intro w hSw;go_simp;try with_reducible rfl
     simp only [Act.put,zz1,zz2,zz3,zz4,zz5,zz6]
     refine wL 10 ?_ rfl (by kernel_rfl) (fun _ _ _ h => h) HSS.out (by rfl) ?_ ?_
     rotate_left
     ·intro w hSw;go_simp;try with_reducible rfl
     simp only [Act.put,zz1,zz2,zz3,zz4,zz5,zz6]
     refine wpAnyT_done (by kernel_rfl) ?_ _
     go_wp2_with fail
     exact bodyPost_ret (res_tmp3 rfl _ _ _) rfl ⟨.slice none 0 0,by rw [HL.out];rfl,by rw [HL.out];exact ⟨by simp,.inl ⟨rfl,rfl⟩⟩,HF.out.trans HSS.out⟩
    ·go_upto_region 8 with fail
     clear t1 t2 x9 x10
     refine wp_region_T (fun w' => Fr [] w3.drew w') [] 11 #[false,false,false,false,false,false,false,false,false,false,false] (by kernel_rfl) rfl rfl ?_
     have hF:=(Fr.refl [] w3).drew
     have HF:=Hd (HF.out.trans hF)
     have HR:=Hd (HR.out.keep hF)
     have HZ:=Hd (Sl.keep HZ.out hF)
     have HM:=Hd (Sl.keep HM.out hF)
     have HX:=Hd (HX.out.keep hF)
     have HC:=Hd (hF.cellSome HC.out (by simp))
     clear hF
     have HSS : Hid (Fr [] w3.drew w3.drew):=Hd (Fr.refl _ _)
     generalize w3.drew = wd at *
     refine wL 0 ?_ rfl (by kernel_rfl) (fun _ _ _ h => h) HSS.out (by rfl) ?_ ?_
     rotate_left
     ·intro w' hSw;refine run_load_row 127 (.tmp 9) ?_ gx ?_ 127 _ _ (HX.out.keep hSw) Tryz.underlying127 rfl (by kernel_rfl) <;> rfl
     simp only [Act.put,zz1,zz2,zz3,zz4,zz5,zz6]
     refine wL 1 ?_ rfl (by kernel_rfl) (fun _ _ _ h => h) HSS.out (by rfl) ?_ ?_
     rotate_left
     ·intro w hSw;go_simp;try with_reducible rfl
     simp only [Act.put,zz1,zz2,zz3,zz4,zz5,zz6]
     refine wL 2 ?_ rfl (by kernel_rfl) (fun _ _ _ h => h) HSS.out (by rfl) ?_ ?_
     rotate_left
     ·intro w hSw;go_simp;try with_reducible rfl
     simp only [Act.put,zz1,zz2,zz3,zz4,zz5,zz6]
     refine wL 3 ?_ rfl (by kernel_rfl) (fun _ _ _ h => h) HSS.out (by rfl) ?_ ?_
     rotate_left
     ·intro w hSw;have d0:=hSw.cellSome HC.out (by simp);go_simp;try with_reducible rfl
     simp only [Act.put,zz1,zz2,zz3,zz4,zz5,zz6]
     refine wL 4 ?_ rfl (by kernel_rfl) (fun _ _ _ h => h) HSS.out (by rfl) ?_ ?_
     rotate_left
     ·intro w hSw;go_simp;try with_reducible rfl
     simp only [Act.put,zz1,zz2,zz3,zz4,zz5,zz6]
     refine wpAnyT_one (i:=5) (by kernel_rfl) rfl (fun K hK => ?_)
     rw [if_pos (by rfl)]
     go_simp
     refine (impPacket_any (x:=x) ⟨_,rfl,HZ.out⟩ HXS.out n ss).mono ?_
     rintro e w5 (⟨l,v5,hp2,rfl,hO,hF⟩ | ⟨hp2,rfl,hF⟩)
     ·rw [HPK.out] at hp2;cases hp2
     have HSS:=Hd (HSS.out.trans hF)
     clear hp2 hF
     go_simp
     refine hK.out _ _ (fun _ => HSS.out) ?_
     clear hK K
     simp only [Act.put,zz1,zz2,zz3,zz4,zz5,zz6]
     refine wL 6 ?_ rfl (by kernel_rfl) (fun _ _ _ h => h) HSS.out (by rfl) ?_ ?_
     rotate_left
     ·intro w hSw;go_simp;try with_reducible rfl
     simp only [Act.put,zz1,zz2,zz3,zz4,zz5,zz6]
     refine wL 7 ?_ rfl (by kernel_rfl) (fun _ _ _ h => h) HSS.out (by rfl) ?_ ?_
     rotate_left
     ·intro w hSw;go_simp;try with_reducible rfl
     simp only [Act.put,zz1,zz2,zz3,zz4,zz5,zz6]
     refine wL 8 ?_ rfl (by kernel_rfl) (fun _ _ _ h => h) HSS.out (by rfl) ?_ ?_
     rotate_left
     ·intro w hSw;go_simp;try with_reducible rfl
     simp only [Act.put,zz1,zz2,zz3,zz4,zz5,zz6]
     refine wL 9 ?_ rfl (by kernel_rfl) (fun _ _ _ h => h) HSS.out (by rfl) ?_ ?_
     rotate_left
     ·intro w hSw;go_simp;try with_reducible rfl
     simp only [Act.put,zz1,zz2,zz3,zz4,zz5,zz6]
     refine wL 10 ?_ rfl (by kernel_rfl) (fun _ _ _ h => h) HSS.out (by rfl) ?_ ?_
     rotate_left
     ·intro w hSw;go_simp;try with_reducible rfl
     simp only [Act.put,zz1,zz2,zz3,zz4,zz5,zz6]
     refine wpAnyT_done (by kernel_rfl) ?_ _
     go_wp2_with fail
     exact bodyPost_ret (res_tmp3 rfl _ _ _) rfl ⟨.slice none 0 0,by rw [HL.out];rfl,by rw [HL.out];exact ⟨by simp,.inl ⟨rfl,rfl⟩⟩,HF.out.trans HSS.out⟩
end Go.Proofs.YtcngfbjmpemehaaGreat

/- Plain laws of layer 14: what is left of a repair held against packets that are known. -/
namespace Go.Proofs.YtcngfbjmpemehaaGreat
open Go.RowKit

theorem oneL_ne' {K : UInt16 → Option (List UInt8)} {ss : UInt32} {r : Rep_} (hz : ¬(r.m.hi = 0 ∧ r.m.lo = 0)) : oneL K ss r = oneF ss (restL K ss r).1 (restL K ss r).2:=by unfold oneL;rw [if_neg hz]
theorem rest_fold (K : UInt16 → Option (List UInt8)) (ss : UInt32) : ∀ (xs : List UInt16) (s : Bt × List UInt16),xs.foldl (restStep K ss) s = ((xs.filterMap (lookB K ss)).foldl Bt.add s.1,s.2 ++ xs.filter fun n => (lookB K ss n).isNone)
 | [],s => by simp
 | x :: xs,s => by
  rw [List.foldl_cons,rest_fold K ss xs]
  unfold restStep
  cases h : lookB K ss x with
  | none => simp [List.filterMap_cons,List.filter_cons,h]
  | some y => simp [List.filterMap_cons,List.filter_cons,h]
theorem restL_eq (K : UInt16 → Option (List UInt8)) (ss : UInt32) (r : Rep_) : restL K ss r = (((seqsOf r.base r.m).filterMap (lookB K ss)).foldl Bt.add r.bt.cut,(seqsOf r.base r.m).filter fun n => (lookB K ss n).isNone):=by
 unfold restL
 rw [rest_fold]
 simp
end Go.Proofs.YtcngfbjmpemehaaGreat

/- Plain: what a repair tells is a packet of that number and source. No program in sight. -/
namespace Go.Proofs.YtcngfbjmpemehaaGreat
open Go.RowKit

theorem pack_ok {x : Bt} {n : UInt16} {ss : UInt32} {b : List UInt8} (h : x.pack n ss = .ok b) : ∃ p,parseR b = .ok p ∧ p.seq = n ∧ p.ssrc = ss:=by
 unfold Bt.pack at h
 split at h
 ·cases h
 split at h
 ·rename_i p hp
  cases h
  refine ⟨p,hp,?_,?_⟩
  ·have h1:=seq_bytes hp
   have h2 : nb (x.out n ss) 2 2 = n.toNat:=by
    unfold Bt.out
    rw [List.append_assoc,List.append_assoc,List.append_assoc,nb_at (k:=2) rfl]
    exact Nat.mod_eq_of_lt n.toNat_lt
   exact UInt16.toNat_inj.1 (by rw [← h1,h2])
  ·have h1:=ssrc_bytes hp
   have h2 : nb (x.out n ss) 8 4 = ss.toNat:=by
    unfold Bt.out
    rw [List.append_assoc (([128 ||| (x.h0 &&& 63),x.h1] ++ beN n.toNat 2) ++ [x.h2,x.h3,x.h4,x.h5]),nb_at (k:=8) (by simp [beN_len])]
    exact Nat.mod_eq_of_lt ss.toNat_lt
   exact UInt32.toNat_inj.1 (by rw [← h1,h2])
 ·cases h
theorem oneL_cases (K : UInt16 → Option (List UInt8)) (ss : UInt32) (r : Rep_) : (∃ k,k ≠ 0 ∧ oneL K ss r = (0,[],k)) ∨ ∃ n b,oneL K ss r = (n,b,0) ∧ (restL K ss r).2 = [n] ∧ (restL K ss r).1.pack n ss = .ok b ∧ ¬(r.m.hi = 0 ∧ r.m.lo = 0):=by
 by_cases hz : r.m.hi = 0 ∧ r.m.lo = 0
 ·exact .inl ⟨30,by decide,by unfold oneL;rw [if_pos hz]⟩
 rw [oneL_ne' hz]
 cases hm : (restL K ss r).2 with
 | nil => exact .inl ⟨40,by decide,rfl⟩
 | cons n rest =>
  cases rest with
  | cons m rest => exact .inl ⟨41,by decide,rfl⟩
  | nil =>
   cases hp : (restL K ss r).1.pack n ss with
   | error k => exact .inl ⟨42,by decide,oneF_err hp⟩
   | ok b => exact .inr ⟨n,b,oneF_ok hp,rfl,hp,hz⟩
end Go.Proofs.YtcngfbjmpemehaaGreat

/- Peeling,plain: what the program's decoder keeps to from call to call;taking a repair. No program in sight. -/
namespace Go.Proofs.YtcngfbjmpemehaaGreat

def HiK (d : PkD) (K : Nat) : Prop:=∀ h,d.hi = some h → 4294967296 ≤ h ∧ h ≤ 4294967296 + 65536 * (K : Int)
theorem HiK.bd {d : PkD} {K : Nat} (h : HiK d K) (hK : K ≤ 1000000) : ∀ x,d.hi = some x → 40000 ≤ x ∧ x ≤ 4611686018427300000:=fun x hx => by
 have:=h x hx
 omega
theorem HiK.note {d : PkD} {K : Nat} (h : HiK d K) (s : UInt16) : HiK (d.note (d.peek s)) (K + 1):=fun x hx => by
 have hs:=s.toNat_lt
 unfold PkD.note PkD.peek at hx
 cases hh : d.hi with
 | none =>
  rw [hh] at hx
  have hx : some ((4294967296 : Int) + (s.toNat : Int)) = some x:=hx
  injection hx with hx
  subst hx
  omega
 | some y =>
  rw [hh] at hx
  have h1:=h y hh
  have h2:=peekW_some (h:=y) (q:=s)
  have hx : some (max y (peekW (some y) s)) = some x:=hx
  injection hx with hx
  subst hx
  omega
theorem HiK.put {d : PkD} {K : Nat} (h : HiK d K) (s : UInt16) (b : List UInt8) : HiK (d.put s b) (K + 1):=h.note s
structure PkP (d : PkD) (hs : List (Rep_ × Int)) (turn : Int) (N : Nat) : Prop where
 good : d.Good
 rep : d.rep = hs.map Prod.fst
 w1 : 1 ≤ d.w
 w : d.w ≤ 64
 r1 : 1 ≤ d.r
 r : d.r ≤ 16
 hi : ∃ K,HiK d K ∧ K + hs.length ≤ N
 sz : ∀ o ∈ d.med,o.b.length ≤ 1000000
 rsz : ∀ y ∈ hs,y.1.bt.body.length ≤ 1000000
 nodup : (hs.map Prod.snd).Nodup
 turns : ∀ y ∈ hs,y.2 ≤ turn
 len : hs.length ≤ d.r
 nolost : ∀ y ∈ hs,d.lost y.1 = false
 nz : ∀ y ∈ hs,¬(y.1.m.hi = 0 ∧ y.1.m.lo = 0)
 top : ∀ o ∈ d.med,∃ h,d.hi = some h ∧ o.n ≤ h
theorem nodup_len : ∀ (w : Nat) (l : List Nat),l.Nodup → (∀ x ∈ l,x < w) → l.length ≤ w
 | 0,l,_,h => by
  cases l with
  | nil => simp
  | cons x l => exact absurd (h x (by simp)) (by omega)
 | w + 1,l,hn,h => by
  by_cases hw : w ∈ l
  ·have h1:=nodup_len w (l.erase w) (hn.erase w) (fun x hx => by
    have h2:=h x (List.mem_of_mem_erase hx)
    have h3 : x ≠ w:=fun e => hn.not_mem_erase (e ▸ hx)
    omega)
   rw [List.length_erase_of_mem hw] at h1
   omega
  ·have h1:=nodup_len w l hn (fun x hx => by
    have h2:=h x hx
    have h3 : x ≠ w:=fun e => hw (e ▸ hx)
    omega)
   omega
namespace PkP
variable {d : PkD} {hs : List (Rep_ × Int)} {turn : Int} {N : Nat}
theorem bd (h : PkP d hs turn N) (hN : N ≤ 1000000) : ∀ x,d.hi = some x → 40000 ≤ x ∧ x ≤ 4611686018427300000:=by
 obtain ⟨K,h1,h2⟩:=h.hi
 exact h1.bd (by omega)
theorem mono {N' : Nat} (h : PkP d hs turn N) (hN : N ≤ N') : PkP d hs turn N' :=
 {h with hi:=(by obtain ⟨K,h1,h2⟩:=h.hi;exact ⟨K,h1,by omega⟩) }
theorem sub (h : PkP d hs turn N) {hs' : List (Rep_ × Int)} (hsub : hs'.Sublist hs) : PkP { d with rep:=hs'.map Prod.fst } hs' turn N where
 good:=⟨h.good.pkt,h.good.win,h.good.uniq⟩
 rep:=rfl
 w1:=h.w1
 w:=h.w
 r1:=h.r1
 r:=h.r
 hi:=by
  obtain ⟨K,h1,h2⟩:=h.hi
  exact ⟨K,h1,by have:=hsub.length_le;omega⟩
 sz:=h.sz
 rsz:=fun y hy => h.rsz y (hsub.subset hy)
 nodup:=(hsub.map _).nodup h.nodup
 turns:=fun y hy => h.turns y (hsub.subset hy)
 len:=Nat.le_trans hsub.length_le h.len
 nolost:=fun y hy => h.nolost y (hsub.subset hy)
 nz:=fun y hy => h.nz y (hsub.subset hy)
 top:=h.top
theorem sub1 (h : PkP d hs turn N) {hs' : List (Rep_ × Int)} (hsub : hs'.Sublist hs) (hl : hs'.length < hs.length) : PkP { d with rep:=hs'.map Prod.fst } hs' turn (N - 1) :=
 {h.sub hsub with hi:=(by obtain ⟨K,h1,h2⟩:=h.hi;exact ⟨K,h1,by omega⟩) }
theorem lost_rep (d : PkD) (l : List Rep_) (r : Rep_) : ({ d with rep:=l } : PkD).lost r = d.lost r:=rfl
theorem put (h : PkP d hs turn N) {s : UInt16} {b : List UInt8} (hb : isPk d.ss s b) (hl : b.length ≤ 1000000) (ho : d.old (d.peek s) = false) (hn : d.has s = none) : PkP (d.put s b) (hs.filter fun y => !(d.add s b).lost y.1) turn (N + 1) where
 good:=by
  have:=h.good.add h.w1 hb ho hn
  exact ⟨this.pkt,this.win,this.uniq⟩
 rep:=by
  show (d.add s b).keepR d.rep = _
  rw [h.rep]
  unfold PkD.keepR
  rw [List.filter_map]
  rfl
 w1:=h.w1
 w:=h.w
 r1:=h.r1
 r:=h.r
 hi:=by
  obtain ⟨K,h1,h2⟩:=h.hi
  exact ⟨K + 1,h1.put s b,by have:=List.length_filter_le (fun y : Rep_ × Int => !(d.add s b).lost y.1) hs;omega⟩
 sz:=by
  intro o ho
  rcases List.mem_append.1 ho with ho | ho
  ·exact h.sz o ((List.mem_filter.1 ho).1)
  ·rw [List.mem_singleton] at ho
   subst ho
   exact hl
 rsz:=fun y hy => h.rsz y ((List.mem_filter.1 hy).1)
 nodup:=((List.filter_sublist).map _).nodup h.nodup
 turns:=fun y hy => h.turns y ((List.mem_filter.1 hy).1)
 len:=Nat.le_trans (List.length_filter_le _ _) h.len
 nolost:=fun y hy => by
  have h1 : (d.add s b).lost y.1 = false:=by simpa using (List.mem_filter.1 hy).2
  exact h1
 nz:=fun y hy => h.nz y ((List.mem_filter.1 hy).1)
 top:=by
  have hhi : ∃ m,(d.put s b).hi = some m ∧ d.peek s ≤ m ∧ ∀ h,d.hi = some h → h ≤ m:=by
   cases hh : d.hi with
   | none => exact ⟨d.peek s,by show some (match d.hi with | none => d.peek s | some h => max h (d.peek s)) = _;rw [hh],by omega,fun h e => by cases e⟩
   | some k => exact ⟨max k (d.peek s),by show some (match d.hi with | none => d.peek s | some h => max h (d.peek s)) = _;rw [hh],by omega,fun h e => by cases e;omega⟩
  obtain ⟨m,h1,h2,h3⟩:=hhi
  intro o ho
  rcases List.mem_append.1 ho with ho | ho
  ·obtain ⟨k,k1,k2⟩:=h.top o ((List.mem_filter.1 ho).1)
   exact ⟨m,h1,by have:=h3 k k1;omega⟩
  ·rw [List.mem_singleton] at ho
   subst ho
   exact ⟨m,h1,h2⟩
theorem medlen (h : PkP d hs turn N) : d.med.length ≤ d.w:=by
 cases hm : d.med with
 | nil => simp
 | cons o l =>
  obtain ⟨k,hk,-⟩:=h.top o (by rw [hm];simp)
  rw [← hm]
  have h1:=nodup_len d.w (d.med.map fun o => (k - o.n).toNat) (by
   unfold List.Nodup
   rw [List.pairwise_map]
   refine h.good.uniq.imp_of_mem ?_
   intro a c ha hc hac
   obtain ⟨k1,e1,l1⟩:=h.top a ha
   obtain ⟨k2,e2,l2⟩:=h.top c hc
   rw [hk] at e1 e2
   cases e1
   cases e2
   omega) (by
   intro x hx
   obtain ⟨a,ha,rfl⟩:=List.mem_map.1 hx
   obtain ⟨k1,e1,l1⟩:=h.top a ha
   rw [hk] at e1
   cases e1
   have h2:=h.good.win a ha
   unfold PkD.old at h2
   rw [hk] at h2
   have h3 : ¬ a.n ≤ k - (d.w : Int):=by simpa using h2
   omega)
  simpa using h1
theorem told (h : PkP d hs turn N) {y : Rep_ × Int} (hy : y ∈ hs) {s : UInt16} {b : List UInt8} (ho : oneL d.has d.ss y.1 = (s,b,0)) : isPk d.ss s b ∧ b.length ≤ 1000000 ∧ d.old (d.peek s) = false ∧ d.has s = none:=by
 rcases oneL_cases d.has d.ss y.1 with ⟨k,hk,h1⟩ | ⟨n,c,h1,h2,h3,-⟩
 ·rw [ho] at h1
  injection h1 with _ h1
  injection h1 with _ h1
  exact absurd h1.symm hk
 ·rw [ho] at h1
  injection h1 with e1 e2
  injection e2 with e2 _
  subst e1 e2
  have hn : d.has s = none:=by
   cases hc : d.has s with
   | none => rfl
   | some c =>
    obtain ⟨p,hp,hps,hpt⟩:=h.good.has hc
    rw [restL_eq] at h2
    have h2 : (seqsOf y.1.base y.1.m).filter (fun n => (lookB d.has d.ss n).isNone) = [s]:=h2
    have h4 : s ∈ (seqsOf y.1.base y.1.m).filter (fun n => (lookB d.has d.ss n).isNone):=by rw [h2];simp
    have h5:=(List.mem_filter.1 h4).2
    unfold lookB at h5
    rw [hc] at h5
    simp only [hp] at h5
    rw [if_pos ⟨hps,hpt⟩] at h5
    cases h5
  refine ⟨pack_ok h3,?_,?_,hn⟩
  ·unfold Bt.pack at h3
   split at h3
   ·cases h3
   rename_i hle
   split at h3
   ·injection h3 with h3
    subst h3
    unfold Bt.out
    simp [beN_len]
    omega
   ·cases h3
  ·have h6:=h.nolost y hy
   unfold PkD.lost at h6
   rw [List.any_eq_false] at h6
   have hmem : s ∈ seqsOf y.1.base y.1.m:=by
    rw [restL_eq] at h2
    have h2 : (seqsOf y.1.base y.1.m).filter (fun n => (lookB d.has d.ss n).isNone) = [s]:=h2
    exact (List.mem_filter.1 (by rw [h2];simp : s ∈ (seqsOf y.1.base y.1.m).filter (fun n => (lookB d.has d.ss n).isNone))).1
   have h7:=h6 s hmem
   rw [hn] at h7
   simpa using h7
end PkP
theorem PkP.new (ss : UInt32) (a b : Int) : PkP (PkD.new ss a b) [] 0 0 where
 good:=PkD.Good.new ss a b
 rep:=rfl
 w1:=by show 1 ≤ (min (max a 1) 64).toNat;omega
 w:=by show (min (max a 1) 64).toNat ≤ 64;omega
 r1:=by show 1 ≤ (min (max b 1) 16).toNat;omega
 r:=by show (min (max b 1) 16).toNat ≤ 16;omega
 hi:=⟨0,fun h hh => (by cases hh),by simp⟩
 sz:=by intro o ho;cases ho
 rsz:=by intro o ho;cases ho
 nodup:=List.nodup_nil
 turns:=by intro o ho;cases ho
 len:=by simp
 nolost:=by intro o ho;cases ho
 nz:=by intro o ho;cases ho
 top:=by intro o ho;cases ho
def PkD.first (d : PkD) (r : Rep_) : Int:=d.peek ((seqsOf r.base r.m).headD 0)
def minAtF (f : Rep_ → Int) : List Rep_ → Nat → Nat → Int → Nat
 | [],_,at_,_ => at_
 | r :: l,i,at_,m => if f r < m then minAtF f l (i + 1) i (f r) else minAtF f l (i + 1) at_ m
def minAt (f : Rep_ → Int) : List Rep_ → Nat
 | [] => 0
 | r :: l => minAtF f l 1 0 (f r)
def PkD.room (d : PkD) (r : Rep_) : Option (List Rep_) :=
 if d.rep.length < d.r then some d.rep
 else match d.rep[minAt d.first d.rep]? with
  | none => none
  | some o => if d.first r < d.first o then none else some (d.rep.eraseIdx (minAt d.first d.rep))
def PkD.repair (d : PkD) (r : Rep_) : PkD × List (UInt16 × List UInt8 × Bool) × Int :=
 if r.m.hi = 0 ∧ r.m.lo = 0 then (d,[],30)
 else if d.lost r then (d,[],50)
 else if (restL d.has d.ss r).2.length = 0 then (d,[],40)
 else match d.room r with
  | none => (d,[],50)
  | some l => (({ d with rep:=l ++ [r] } : PkD).tell.1,({ d with rep:=l ++ [r] } : PkD).tell.2.map (fun x => (x.1,x.2,true)),0)
end Go.Proofs.YtcngfbjmpemehaaGreat

/- Peeling: the map of packets' bytes by numbers that don't go round,as the program lays it. -/
namespace Go.Proofs.YtcngfbjmpemehaaGreat
open Go.RowKit Go.Maps

def findP (l : List PkO) (n : Int) : Option (List UInt8):=(l.find? fun o => o.n == n).map PkO.b
theorem findP_none {l : List PkO} {n : Int} : findP l n = none ↔ ∀ o ∈ l,o.n ≠ n:=by
 unfold findP
 rw [Option.map_eq_none_iff,List.find?_eq_none]
 simp
structure MapB (w : World) (base b : Nat) (no : List Nat) (D : DataW Value) (l : List PkO) : Prop where
 own : w.ownsMap Tryz.prog 2 heldR b l.length D
 tidy : Tidy D
 none_ : ∀ n,findP l n = none → ∀ z,D.atKey (lkey n) z = z
 some_ : ∀ n x,findP l n = some x → ∃ v,(∀ z,D.atKey (lkey n) z = .held v) ∧ Bytes w v x ∧ ∀ y,liveOf v = some y → base ≤ y ∧ y ∉ no
 size : Maps.size D = l.length
theorem own_tightB {k : TypeId} {R : Value → Option (DataW Value × List MemPlace)} {w : World} {b n : Nat} {D : DataW Value} (h : w.ownsMap Tryz.prog k R b n D) : w.ownsMap Tryz.prog k R b (Maps.size D) D:=by
 obtain ⟨es,clock,hb,F,hs,rfl⟩:=h
 refine ⟨es,clock,hb,F,?_,rfl⟩
 rw [size_eq,(Go.WideShapes.sorted_perm _).length_eq,List.length_map]
 simp
theorem MapB.has {w : World} {base b : Nat} {no : List Nat} {D : DataW Value} {l : List PkO} (h : MapB w base b no D l) (n : Int) : Maps.has D (lkey n) = (findP l n).isSome:=by
 cases hf : findP l n with
 | none => exact has_false_of_atKey (h.none_ n hf)
 | some x =>
  obtain ⟨v,hv,-⟩:=h.some_ n x hf
  exact has_true_of_atKey hv
theorem MapB.run {w : World} {base b : Nat} {no : List Nat} {D : DataW Value} {l : List PkO} (h : MapB w base b no D l) (n : Int) (hn : -9223372036854775808 ≤ n ∧ n < 9223372036854775808) :
  ∃ v,(∀ t : Bool,(Instr.lookup 85 (.map (some b)) (.int .i64 n) t).run Tryz.prog w = .ok (if t then .tuple #[v,.bool (findP l n).isSome] else v) w) ∧ Bytes w v ((findP l n).getD []) ∧ ∀ y,liveOf v = some y → base ≤ y ∧ y ∉ no:=by
 obtain ⟨own,-,hn1,hs,-⟩:=h
 obtain ⟨es,clock,hb,F,-,rfl⟩:=own
 have hkey : keyOf Tryz.prog 2 (.int .i64 n) = some (lkey n):=keyOf_int_mk Tryz.underlying2 (lkey_wf hn)
 have X:=fun t => fit_look t keyI64 Tryz.underlying85 (zeroBytes w) hb F hkey
 cases hk : findP l n with
 | none =>
  refine ⟨.slice none 0 0,fun t => ?_,Sl.nil w,fun y hy => by cases hy⟩
  rcases X t with ⟨hrun,-,-⟩ | ⟨e0,y,-,-,-,hR,hat,-⟩
  ·rw [hrun];cases t <;> rfl
  ·exfalso
   cases hR
   have:=(hat .nil).symm.trans (hn1 n hk .nil)
   cases this
 | some x =>
  obtain ⟨v,hv,hB,hz⟩:=hs n x hk
  refine ⟨v,fun t => ?_,hB,hz⟩
  rcases X t with ⟨-,-,hat⟩ | ⟨e0,y,-,-,hrun,hR,hat,-⟩
  ·exfalso
   have:=(hat .nil).symm.trans (hv .nil)
   cases this
  ·cases hR
   have:=(hat .nil).symm.trans (hv .nil)
   injection this with this
   rw [hrun,this];cases t <;> rfl
theorem MapB.fr {w w' : World} {base b : Nat} {no S : List Nat} {D : DataW Value} {l : List PkO} (h : MapB w base b no D l) (hf : Fr S w w') (hb : b ∉ S) (hS : ∀ s ∈ S,s ∈ no ∨ s < base) : MapB w' base b no D l :=
 ⟨hf.ownsMap h.own hb,h.tidy,h.none_,fun n x hx => by
  obtain ⟨v,h1,h2,h3⟩:=h.some_ n x hx
  refine ⟨v,h1,Sl.frL h2 hf fun y hy hm => ?_,h3⟩
  have h4:=h3 y hy
  rcases hS y hm with h5 | h5
  ·exact h4.2 h5
  ·omega,h.size⟩
theorem MapB.keep {w w' : World} {base b : Nat} {no : List Nat} {D : DataW Value} {l : List PkO} (h : MapB w base b no D l) (hf : Fr [] w w') : MapB w' base b no D l:=h.fr hf (by simp) (by simp)
theorem MapB.more {w : World} {base b : Nat} {no no' : List Nat} {D : DataW Value} {l : List PkO} (h : MapB w base b no D l) (hn : ∀ y ∈ no',y ∈ no ∨ w.heap.size ≤ y ∨ y < base) : MapB w base b no' D l :=
 ⟨h.own,h.tidy,h.none_,fun n x hx => by
  obtain ⟨v,h1,h2,h3⟩:=h.some_ n x hx
  refine ⟨v,h1,h2,fun y hy => ⟨(h3 y hy).1,fun hm => ?_⟩⟩
  have h4:=Sl.lt h2 y hy
  rcases hn y hm with h5 | h5 | h5
  ·exact (h3 y hy).2 h5
  ·omega
  ·have:=(h3 y hy).1;omega,h.size⟩
theorem MapB.made (w : World) (base : Nat) (no : List Nat) : MapB (w.alloc (.map #[] 0)) base w.heap.size no (.map []) [] :=
 ⟨World.ownsMap_made _ _ _ _,tidy_empty,fun n _ z => rfl,fun n l h => (by cases h),rfl⟩
theorem findP_snoc {l : List PkO} {o : PkO} (hn : ∀ p ∈ l,p.n ≠ o.n) (n : Int) : findP (l ++ [o]) n = if o.n = n then some o.b else findP l n:=by
 by_cases e : o.n = n
 ·subst e
  have h0 : l.find? (fun p => p.n == o.n) = none:=by
   rw [List.find?_eq_none]
   intro p hp
   simpa using hn p hp
  unfold findP
  rw [if_pos rfl,List.find?_append,h0]
  simp
 ·unfold findP
  rw [if_neg e,List.find?_append]
  have : [o].find? (fun p => p.n == n) = none:=by simp [e]
  rw [this,Option.or_none]
theorem MapB.put {w w' : World} {base b m : Nat} {no : List Nat} {D : DataW Value} {l : List PkO} (h : MapB w base b no D l) {o : PkO} {v : Value} (hn : ∀ p ∈ l,p.n ≠ o.n)
  (hv : Bytes w v o.b) (hl : ∀ y,liveOf v = some y → base ≤ y ∧ y ∉ no) (hb : b ∈ no)
  (hown : w'.ownsMap Tryz.prog 2 heldR b m (D.put (lkey o.n) (.held v))) (hg : Fr [b] w w') : MapB w' base b no (D.put (lkey o.n) (.held v)) (l ++ [o]):=by
 have hsz : Maps.size (D.put (lkey o.n) (.held v)) = (l ++ [o]).length:=by
  rw [size_put h.tidy,h.has,findP_none.2 hn,List.length_append,h.size]
  rfl
 refine ⟨by rw [← hsz];exact own_tightB hown,h.tidy.put (lkey_is _) _,fun n hn1 z => ?_,fun n x hn1 => ?_,hsz⟩
 ·rw [findP_snoc hn] at hn1
  split at hn1
  ·cases hn1
  ·rename_i e
   rw [atKey_put_other (lkey_ne (Ne.symm e)),h.none_ n hn1]
 ·rw [findP_snoc hn] at hn1
  split at hn1
  ·rename_i e
   cases hn1
   subst e
   exact ⟨v,fun z => atKey_put_same h.tidy.isMap (lkey_is _) _ _,Sl.frL hv hg (fun y hy hm => by rw [List.mem_singleton] at hm;subst hm;exact (hl _ hy).2 hb),hl⟩
  ·rename_i e
   obtain ⟨v1,h1,h2,h3⟩:=h.some_ n x hn1
   exact ⟨v1,fun z => by rw [atKey_put_other (lkey_ne (Ne.symm e)),h1],Sl.frL h2 hg (fun y hy hm => by rw [List.mem_singleton] at hm;subst hm;exact (h3 _ hy).2 hb),h3⟩
def delP (l : List PkO) (n : Int) : List PkO:=l.filter fun o => !(o.n == n)
theorem findP_del (l : List PkO) (m n : Int) : findP (delP l m) n = if m = n then none else findP l n:=by
 by_cases h : m = n
 ·subst h
  rw [if_pos rfl,findP_none]
  intro o ho
  have:=(List.mem_filter.1 ho).2
  simpa using this
 ·rw [if_neg h]
  unfold findP delP
  congr 1
  induction l with
  | nil => rfl
  | cons p l ih =>
   rw [List.filter_cons,List.find?_cons]
   by_cases e : p.n = m
   ·rw [if_neg (by simpa using e),ih,show (p.n == n) = false from beq_eq_false_iff_ne.2 (by omega)]
   ·rw [if_pos (by simpa using e),List.find?_cons,ih]
theorem delP_len {l : List PkO} (hs : l.Pairwise fun a b => a.n ≠ b.n) {n : Int} : (delP l n).length + (if (findP l n).isSome then 1 else 0) = l.length:=by
 induction l with
 | nil => rfl
 | cons p l ih =>
  have hs2:=List.pairwise_cons.1 hs
  have ih:=ih hs2.2
  unfold delP findP at ih ⊢
  rw [List.filter_cons,List.find?_cons]
  by_cases e : p.n = n
  ·have h0 : List.find? (fun o => o.n == n) l = none:=by
    rw [List.find?_eq_none]
    intro q hq
    have:=hs2.1 q hq
    simp
    omega
   rw [h0] at ih
   rw [if_neg (by simpa using e),show (p.n == n) = true by simpa using e]
   simp at ih ⊢
   omega
  ·rw [if_pos (by simpa using e),show (p.n == n) = false from beq_eq_false_iff_ne.2 e]
   simp only [List.length_cons]
   omega
theorem MapB.del {w w' : World} {base b m : Nat} {no : List Nat} {D : DataW Value} {l : List PkO} (h : MapB w base b no D l) (hs : l.Pairwise fun a b => a.n ≠ b.n) {n : Int} (hb : b ∈ no)
  (hown : w'.ownsMap Tryz.prog 2 heldR b m (D.del (lkey n))) (hg : Fr [b] w w') : MapB w' base b no (D.del (lkey n)) (delP l n):=by
 have hsz : Maps.size (D.del (lkey n)) = (delP l n).length:=by
  have h1:=size_del h.tidy (k:=lkey n)
  have h2:=delP_len hs (n:=n)
  rw [h.has,h.size] at h1
  omega
 refine ⟨by rw [← hsz];exact own_tightB hown,h.tidy.del _,fun k hk => ?_,fun k x hk => ?_,hsz⟩
 ·rw [findP_del] at hk
  by_cases e : n = k
  ·subst e
   exact fun z => atKey_del_same z
  ·rw [if_neg e] at hk
   exact fun z => by rw [atKey_del_other (lkey_ne (Ne.symm e)),h.none_ k hk]
 ·rw [findP_del] at hk
  by_cases e : n = k
  ·rw [if_pos e] at hk;cases hk
  ·rw [if_neg e] at hk
   obtain ⟨v,h1,h2,h3⟩:=h.some_ k x hk
   exact ⟨v,fun z => by rw [atKey_del_other (lkey_ne (Ne.symm e)),h1],Sl.frL h2 hg (fun y hy hm => by rw [List.mem_singleton] at hm;subst hm;exact (h3 _ hy).2 hb),h3⟩
end Go.Proofs.YtcngfbjmpemehaaGreat

/- Peeling: repairs that are held,and the decoder,as the program lays them. -/
namespace Go.Proofs.YtcngfbjmpemehaaGreat
open Go.RowKit Go.Maps

def HdR (w : World) (c : List Value) (y : Rep_ × Int) (B : List Nat) : Prop:=∃ vb,c = (rpc y.1 vb).toList ++ [.int .i64 y.2] ∧ Bytes w vb y.1.bt.body ∧ B = (liveOf vb).toList
theorem Rep.held : Rep 13 HdR where
 len:=by rintro w c y B ⟨v,rfl,-,-⟩;rfl
 one:=by
  rintro w c y B ⟨v,rfl,h,-⟩ u hu
  obtain ⟨a,cp,rfl⟩:=Sl.shape h
  simp only [List.cons_append,List.nil_append,List.mem_cons,List.not_mem_nil,or_false] at hu
  rcases hu with rfl | rfl | rfl | rfl | rfl | rfl | rfl | rfl | rfl | rfl | rfl | rfl | rfl <;> rfl
 lt:=by
  rintro w c y B ⟨v,rfl,h,rfl⟩ b hb
  exact Sl.lt h b (by simpa using hb)
 fr:=by
  rintro w w' c y B S ⟨v,rfl,h,rfl⟩ hf hS
  exact ⟨v,rfl,Sl.frL h hf (fun b hb => hS b (by simp [hb])),rfl⟩
abbrev pkc (d : PkD) (mb : Nat) (vr : Value) (turn : Int) : Array Value:=#[.int .u32 (d.ss.toNat : Nat),.int .i64 (d.w : Nat),.int .i64 (d.r : Nat),.int .i64 (d.hi.getD 0),.bool d.hi.isSome,.map (some mb),vr,.int .i64 turn]
end Go.Proofs.YtcngfbjmpemehaaGreat
