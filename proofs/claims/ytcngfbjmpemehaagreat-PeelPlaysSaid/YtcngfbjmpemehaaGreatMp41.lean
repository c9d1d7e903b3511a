import Derived.Test.YtcngfbjmpemehaaGreatMp38
import Derived.Test.YtcngfbjmpemehaaGreatMp39
set_option maxRecDepth 100000
set_option maxHeartbeats 16000000
open List renaming getElem_toArray → zz1, getElem_cons_zero → zz2, getElem_cons_succ → zz3, setIfInBounds_toArray → zz4, set_cons_zero → zz5, set_cons_succ → zz6, getElem?_toArray → zz7, getElem?_cons_succ → zz8, getElem?_cons_zero → zz9
open Go.Lib renaming hid → Hd
/- The walks of confluxlaw16.small and same (printed by gen_lw2.py). -/
namespace Go.Proofs.YtcngfbjmpemehaaGreat
open Go.RowKit

theorem all_take_next16 {α : Type} {f : α → Bool} {l : List α} {j : Nat} {y : α} (hy : l[j]? = some y) (h : (l.take j).all f = true) (hf : f y = true) : (l.take (j + 1)).all f = true:=by
 rw [List.take_add_one,hy,List.all_append,h]
 simp [hf]
theorem all_no16 {α : Type} {f : α → Bool} {l : List α} {y : α} (hy : y ∈ l) (hf : f y = false) : l.all f = false:=by
 rw [List.all_eq_false]
 exact ⟨y,hy,by rw [hf];simp⟩
def smE (e : Ev) : Bool:=decide (e.b.length ≤ 300) && decide (e.r.bt.body.length ≤ 300)
theorem smallE_eq (es : List Ev) : smallE es = (es.all smE && decide (es.length ≤ 40)):=rfl
theorem smallE_no {es : List Ev} {y : Ev} (hy : y ∈ es) (h : smE y = false) : smallE es = false:=by
 rw [smallE_eq,all_no16 hy h]
 rfl
theorem l16small_any {w : World} {v : Value} {xs : List Ev} {B : List Nat} (h : SlEls 14 EvR w v xs B) :
  Calls Tryz.prog 8 #[v] w fun e w' => e = .returned (.bool (smallE xs)) ∧ Fr [] w w':=by
 obtain ⟨a,cap,rfl⟩:=h.shape
 have hn : xs.length ≤ 9223372036854775807:=by have h1:=(h.len).2.1;have h2:=(h.len).2.2.1;unfold maxLen at h2;omega
 have HL:=Hd h
 clear h
 obtain ⟨n,hnn⟩ : ∃ n,xs.length = n:=⟨_,rfl⟩
 rw [hnn] at hn HL ⊢
 have HN:=Hd hnn
 clear hnn
 go_enter Tryz.func8,Tryz.ntmps8
 go_upto_region 2 with fail
 go_loopw [7] (fun iv wr => ∃ (j : Nat),j ≤ n ∧ iv = .int .i64 (j : Nat) ∧ (xs.take j).all smE = true ∧ Fr [] w wr) (fun iv _ => n - (Go.RowKit.intOf iv).toNat)
 case atStart => exact ⟨0,Nat.zero_le _,rfl,rfl,Fr.refl _ _⟩
 case round =>
  obtain ⟨j,hj,rfl,htk,hF⟩:=hrel
  have HT:=Hd htk;have HF:=Hd hF
  clear htk hF
  by_cases hlt : j < n
  ·obtain ⟨b,o,c,y,B1,ea,-,hy,⟨vb,vr,rfl,h1,h2,-⟩,-,hrg⟩:=(HL.out.keep Rep.ev HF.out).at_ Rep.ev (i:=j) hlt
   subst ea
   obtain ⟨a1,c1,rfl⟩:=Sl.shape h1
   obtain ⟨a2,c2,rfl⟩:=Sl.shape h2
   rw [List.length_map] at hrg
   rw [List.length_map] at hrg
   have HRG:=Hd hrg;have HY:=Hd hy
   obtain ⟨wa,ea,hFa,hBa,hsa⟩:=one_new wr (evc y (.slice a1 y.b.length c1) (.slice a2 y.r.bt.body.length c2)) 40
   have EA:=Hd ea;have HX:=Hd hBa;have HF:=Hd (HF.out.trans hFa)
   clear hrg hy ea hFa hBa hsa h1 h2
   have x1:=HX.out.cell 1;have x13:=HX.out.cell 13
   simp only [evc,zz7,zz8,zz9] at x1 x13
   obtain ⟨nb,hnb⟩ : ∃ m,y.b.length = m:=⟨_,rfl⟩
   obtain ⟨nr,hnr⟩ : ∃ m,y.r.bt.body.length = m:=⟨_,rfl⟩
   rw [hnb] at x1
   rw [hnr] at x13
   have HNB:=Hd hnb;have HNR:=Hd hnr
   clear hnb hnr
   by_cases h0 : nb ≤ 300
   rotate_left
   ·have t0 : decide ((300 : Int) < ((nb : Nat) : Int)) = true:=decide_eq_true (by omega)
    have HX2 : Hid (smallE xs = false):=Hd (smallE_no (List.mem_of_getElem? HY.out) (by unfold smE;rw [HNB.out,decide_eq_false h0];rfl))
    clear h0
    go_upto_region 4 with (refine wpList_load_midA rfl 40 (.tmp 9) rfl b (o + j * 14) rfl (evc y (.slice a1 y.b.length c1) (.slice a2 y.r.bt.body.length c2)) _ HRG.out Tryz.underlying40 rfl (by kernel_rfl) ?_)
    rw [EA.out]
    clear EA
    go_wp2_with fail
    go_ret
    exact ⟨ret_bool HX2.out.symm,HF.out⟩
   have t0 : decide ((300 : Int) < ((nb : Nat) : Int)) = false:=decide_eq_false (by omega)
   by_cases h1 : nr ≤ 300
   rotate_left
   ·have t1 : decide ((300 : Int) < ((nr : Nat) : Int)) = true:=decide_eq_true (by omega)
    have HX2 : Hid (smallE xs = false):=Hd (smallE_no (List.mem_of_getElem? HY.out) (by unfold smE;rw [HNR.out,decide_eq_false h1,Bool.and_false]))
    clear h0 h1
    go_upto_region 4 with (refine wpList_load_midA rfl 40 (.tmp 9) rfl b (o + j * 14) rfl (evc y (.slice a1 y.b.length c1) (.slice a2 y.r.bt.body.length c2)) _ HRG.out Tryz.underlying40 rfl (by kernel_rfl) ?_)
    rw [EA.out]
    clear EA
    go_wp2_with fail
    go_ret
    exact ⟨ret_bool HX2.out.symm,HF.out⟩
   have t1 : decide ((300 : Int) < ((nr : Nat) : Int)) = false:=decide_eq_false (by omega)
   have HE : Hid (smE y = true):=Hd (by unfold smE;rw [HNB.out,HNR.out,decide_eq_true h0,decide_eq_true h1];rfl)
   clear h0 h1
   go_upto_region 4 with (refine wpList_load_midA rfl 40 (.tmp 9) rfl b (o + j * 14) rfl (evc y (.slice a1 y.b.length c1) (.slice a2 y.r.bt.body.length c2)) _ HRG.out Tryz.underlying40 rfl (by kernel_rfl) ?_)
   rw [EA.out]
   clear EA
   go_wp2_with fail
   go_roundw
   case rel => refine ⟨j + 1,by omega,by go_num,all_take_next16 HY.out HT.out HE.out,HF.out⟩
   case measure => simp [Go.RowKit.intOf];omega
  ·obtain rfl : j = n:=by omega
   have hT:=HT.out
   rw [List.take_of_length_le (by rw [HN.out];exact Nat.le_refl _)] at hT
   have HX2 : Hid (smallE xs = decide ((j : Int) ≤ 40)):=Hd (by rw [smallE_eq,hT,HN.out,Bool.true_and];exact decide_eq_decide.2 (by omega))
   clear hT
   go_wp2_with fail
   go_ret
   exact ⟨ret_bool HX2.out.symm,HF.out⟩
theorem l16same_any {w : World} {v1 v2 : Value} {xs : List (UInt16 × List UInt8 × Bool)} {B1 B2 : List Nat} (h1 : SlEls 3 GotR w v1 xs B1) (h2 : SlEls 3 DGR w v2 xs B2) (hb : ∀ x ∈ xs,x.2.1.length ≤ 1099511627776) :
  Calls Tryz.prog 14 #[v1,v2] w fun e w' => e = .returned (.bool true) ∧ Fr [] w w':=by
 obtain ⟨aa,ca,rfl⟩:=h1.shape
 obtain ⟨ab,cb,rfl⟩:=h2.shape
 have hlen:=(h1.len).2.2;have hlen1:=(h1.len).2.1
 unfold maxLen at hlen
 have HL:=Hd h1;have HL2:=Hd h2;have HB:=Hd hb
 clear h1 h2 hb
 obtain ⟨n,hnn⟩ : ∃ n,xs.length = n:=⟨_,rfl⟩
 rw [hnn] at HL HL2 hlen1
 rw [hnn]
 have HN:=Hd hnn
 clear hnn
 go_enter Tryz.func14,Tryz.ntmps14
 go_upto_region 4 with fail
 go_loopw [13] (fun i wr => ∃ j : Nat,j ≤ n ∧ i = .int .i64 j ∧ Fr [] w wr) (fun i _ => n - (Go.RowKit.intOf i).toNat)
 case atStart => exact ⟨0,Nat.zero_le _,rfl,Fr.refl _ _⟩
 case round =>
  obtain ⟨j,hj,rfl,hF⟩:=hrel
  have HF:=Hd hF;have HL:=Hd (HL.out.keep Rep.got hF);have HL2:=Hd (HL2.out.keep Rep.dgr hF)
  clear hF
  by_cases hlt : j < n
  ·obtain ⟨b,o,c,x,B3,ea,-,hy,⟨va,rfl,g1,-⟩,-,hrg⟩:=HL.out.at_ Rep.got (i:=j) hlt
   obtain ⟨b2,o2,c2,x2,B4,ea2,-,hy2,⟨vb,rfl,g2,-⟩,-,hrg2⟩:=HL2.out.at_ Rep.dgr (i:=j) hlt
   subst ea ea2
   obtain rfl : x = x2:=Option.some.inj (hy.symm.trans hy2)
   obtain ⟨al,cl,rfl⟩:=Sl.shape g1.bytes
   obtain ⟨al2,cl2,rfl⟩:=Sl.shape g2
   rw [List.length_map] at hrg hrg2 g1 g2
   have HLX : Hid (x.2.1.length ≤ 1099511627776):=Hd (HB.out x (List.mem_of_getElem? hy))
   have HRx:=Hd g1.bytes;have HRy : Hid (Bytes wr (.slice al2 x.2.1.length cl2) x.2.1):=Hd g2
   have H10:=Hd (hrg 0 _ rfl);have H11:=Hd (hrg 1 _ rfl);have H12:=Hd (hrg 2 _ rfl)
   have H20:=Hd (hrg2 0 _ rfl);have H21:=Hd (hrg2 1 _ rfl);have H22:=Hd (hrg2 2 _ rfl)
   clear hrg hrg2 hy hy2 g1 g2
   simp only [Nat.add_zero] at H10 H20
   go_upto_region 6 with fail
   refine wp_region_T (fun w' => Fr [] wr.drew w') [] 38 #[false,false,false,false,false,false,false,false,false,false,false,false,false,false,false,false,false,false,false,false,false,false,false,false,false,false,false,false,false,false,false,false,false,false,false,false,false,false] (by kernel_rfl) rfl rfl ?_
   try simp only [List.append_eq,List.cons_append,List.nil_append]
   have hF:=(Fr.refl [] wr).drew
   have HL:=Hd (HL.out.keep Rep.got hF)
   have HL2:=Hd (HL2.out.keep Rep.dgr hF)
   have HF:=Hd (HF.out.trans hF)
   have H10:=Hd (hF.cellSome H10.out (by simp))
   have H11:=Hd (hF.cellSome H11.out (by simp))
   have H12:=Hd (hF.cellSome H12.out (by simp))
   have H20:=Hd (hF.cellSome H20.out (by simp))
   have H21:=Hd (hF.cellSome H21.out (by simp))
   have H22:=Hd (hF.cellSome H22.out (by simp))
   have HRx : Hid (Bytes wr.drew (.slice al x.2.1.length cl) x.2.1):=Hd (HRx.out.keep hF)
   have HRy : Hid (Bytes wr.drew (.slice al2 x.2.1.length cl2) x.2.1):=Hd (HRy.out.keep hF)
   clear hF
   have HSS : Hid (Fr [] wr.drew wr.drew):=Hd (Fr.refl _ _)
   generalize wr.drew = wd at *
   refine wL 0 ?_ rfl (by kernel_rfl) (fun _ _ _ h => h) HSS.out (by rfl) ?_ ?_
   rotate_left
   ·intro w hSw;have x0:=hSw.cellSome H10.out (by simp);have x1:=hSw.cellSome H11.out (by simp);have x2:=hSw.cellSome H12.out (by simp);have x3:=hSw.cellSome H20.out (by simp);have x4:=hSw.cellSome H21.out (by simp);have x5:=hSw.cellSome H22.out (by simp);go_simp;try with_reducible rfl
   simp only [Act.put,zz1,zz2,zz3,zz4,zz5,zz6]
   refine wL 1 ?_ rfl (by kernel_rfl) (fun _ _ _ h => h) HSS.out (by rfl) ?_ ?_
   rotate_left
   ·intro w hSw;have x0:=hSw.cellSome H10.out (by simp);have x1:=hSw.cellSome H11.out (by simp);have x2:=hSw.cellSome H12.out (by simp);have x3:=hSw.cellSome H20.out (by simp);have x4:=hSw.cellSome H21.out (by simp);have x5:=hSw.cellSome H22.out (by simp);go_simp;try with_reducible rfl
   simp only [Act.put,zz1,zz2,zz3,zz4,zz5,zz6]
   refine wL 2 ?_ rfl (by kernel_rfl) (fun _ _ _ h => h) HSS.out (by rfl) ?_ ?_
   rotate_left
   ·intro w hSw;have x0:=hSw.cellSome H10.out (by simp);have x1:=hSw.cellSome H11.out (by simp);have x2:=hSw.cellSome H12.out (by simp);have x3:=hSw.cellSome H20.out (by simp);have x4:=hSw.cellSome H21.out (by simp);have x5:=hSw.cellSome H22.out (by simp);go_simp;try with_reducible rfl
   simp only [Act.put,zz1,zz2,zz3,zz4,zz5,zz6]
   refine wL 3 ?_ rfl (by kernel_rfl) (fun _ _ _ h => h) HSS.out (by rfl) ?_ ?_
   rotate_left
   ·intro w hSw;have x0:=hSw.cellSome H10.out (by simp);have x1:=hSw.cellSome H11.out (by simp);have x2:=hSw.cellSome H12.out (by simp);have x3:=hSw.cellSome H20.out (by simp);have x4:=hSw.cellSome H21.out (by simp);have x5:=hSw.cellSome H22.out (by simp);go_simp;try with_reducible rfl
   simp only [Act.put,zz1,zz2,zz3,zz4,zz5,zz6]
   refine wL 4 ?_ rfl (by kernel_rfl) (fun _ _ _ h => h) HSS.out (by rfl) ?_ ?_
   rotate_left
   ·intro w hSw;have x0:=hSw.cellSome H10.out (by simp);have x1:=hSw.cellSome H11.out (by simp);have x2:=hSw.cellSome H12.out (by simp);have x3:=hSw.cellSome H20.out (by simp);have x4:=hSw.cellSome H21.out (by simp);have x5:=hSw.cellSome H22.out (by simp);go_simp;try with_reducible rfl
   simp only [Act.put,zz1,zz2,zz3,zz4,zz5,zz6]
   refine wL 5 ?_ rfl (by kernel_rfl) (fun _ _ _ h => h) HSS.out (by rfl) ?_ ?_
   rotate_left
   ·intro w hSw;have x0:=hSw.cellSome H10.out (by simp);have x1:=hSw.cellSome H11.out (by simp);have x2:=hSw.cellSome H12.out (by simp);have x3:=hSw.cellSome H20.out (by simp);have x4:=hSw.cellSome H21.out (by simp);have x5:=hSw.cellSome H22.out (by simp);go_simp;try with_reducible rfl
   simp only [Act.put,zz1,zz2,zz3,zz4,zz5,zz6]
   refine wL 6 ?_ rfl (by kernel_rfl) (fun _ _ _ h => h) HSS.out (by rfl) ?_ ?_
   rotate_left
   ·intro w hSw;have x0:=hSw.cellSome H10.out (by simp);have x1:=hSw.cellSome H11.out (by simp);have x2:=hSw.cellSome H12.out (by simp);have x3:=hSw.cellSome H20.out (by simp);have x4:=hSw.cellSome H21.out (by simp);have x5:=hSw.cellSome H22.out (by simp);go_simp;try with_reducible rfl
   simp only [Act.put,zz1,zz2,zz3,zz4,zz5,zz6]
   refine wL 7 ?_ rfl (by kernel_rfl) (fun _ _ _ h => h) HSS.out (by rfl) ?_ ?_
   rotate_left
   ·intro w hSw;have x0:=hSw.cellSome H10.out (by simp);have x1:=hSw.cellSome H11.out (by simp);have x2:=hSw.cellSome H12.out (by simp);have x3:=hSw.cellSome H20.out (by simp);have x4:=hSw.cellSome H21.out (by simp);have x5:=hSw.cellSome H22.out (by simp);go_simp;try with_reducible rfl
   simp only [Act.put,zz1,zz2,zz3,zz4,zz5,zz6]
   refine wL 8 ?_ rfl (by kernel_rfl) (fun _ _ _ h => h) HSS.out (by rfl) ?_ ?_
   rotate_left
   ·intro w hSw;have x0:=hSw.cellSome H10.out (by simp);have x1:=hSw.cellSome H11.out (by simp);have x2:=hSw.cellSome H12.out (by simp);have x3:=hSw.cellSome H20.out (by simp);have x4:=hSw.cellSome H21.out (by simp);have x5:=hSw.cellSome H22.out (by simp);go_simp;try with_reducible rfl
   simp only [Act.put,zz1,zz2,zz3,zz4,zz5,zz6]
   refine wL 9 ?_ rfl (by kernel_rfl) (fun _ _ _ h => h) HSS.out (by rfl) ?_ ?_
   rotate_left
   ·intro w hSw;have x0:=hSw.cellSome H10.out (by simp);have x1:=hSw.cellSome H11.out (by simp);have x2:=hSw.cellSome H12.out (by simp);have x3:=hSw.cellSome H20.out (by simp);have x4:=hSw.cellSome H21.out (by simp);have x5:=hSw.cellSome H22.out (by simp);go_simp;try with_reducible rfl
   simp only [Act.put,zz1,zz2,zz3,zz4,zz5,zz6]
   refine wL 10 ?_ rfl (by kernel_rfl) (fun _ _ _ h => h) HSS.out (by rfl) ?_ ?_
   rotate_left
   ·intro w hSw;have x0:=hSw.cellSome H10.out (by simp);have x1:=hSw.cellSome H11.out (by simp);have x2:=hSw.cellSome H12.out (by simp);have x3:=hSw.cellSome H20.out (by simp);have x4:=hSw.cellSome H21.out (by simp);have x5:=hSw.cellSome H22.out (by simp);go_simp;try with_reducible rfl
   simp only [Act.put,zz1,zz2,zz3,zz4,zz5,zz6]
   refine wL 11 ?_ rfl (by kernel_rfl) (fun _ _ _ h => h) HSS.out (by rfl) ?_ ?_
   rotate_left
   ·intro w hSw;have x0:=hSw.cellSome H10.out (by simp);have x1:=hSw.cellSome H11.out (by simp);have x2:=hSw.cellSome H12.out (by simp);have x3:=hSw.cellSome H20.out (by simp);have x4:=hSw.cellSome H21.out (by simp);have x5:=hSw.cellSome H22.out (by simp);go_simp;try with_reducible rfl
   simp only [Act.put,zz1,zz2,zz3,zz4,zz5,zz6]
   refine wL 12 ?_ rfl (by kernel_rfl) (fun _ _ _ h => h) HSS.out (by rfl) ?_ ?_
   rotate_left
   ·intro w hSw;have x0:=hSw.cellSome H10.out (by simp);have x1:=hSw.cellSome H11.out (by simp);have x2:=hSw.cellSome H12.out (by simp);have x3:=hSw.cellSome H20.out (by simp);have x4:=hSw.cellSome H21.out (by simp);have x5:=hSw.cellSome H22.out (by simp);go_simp;try with_reducible rfl
   simp only [Act.put,zz1,zz2,zz3,zz4,zz5,zz6]
   refine wL 13 ?_ rfl (by kernel_rfl) (fun _ _ _ h => h) HSS.out (by rfl) ?_ ?_
   rotate_left
   ·intro w hSw;have x0:=hSw.cellSome H10.out (by simp);have x1:=hSw.cellSome H11.out (by simp);have x2:=hSw.cellSome H12.out (by simp);have x3:=hSw.cellSome H20.out (by simp);have x4:=hSw.cellSome H21.out (by simp);have x5:=hSw.cellSome H22.out (by simp);go_simp;try with_reducible rfl
   simp only [Act.put,zz1,zz2,zz3,zz4,zz5,zz6]
   refine wL 14 ?_ rfl (by kernel_rfl) (fun _ _ _ h => h) HSS.out (by rfl) ?_ ?_
   rotate_left
   ·intro w hSw;have x0:=hSw.cellSome H10.out (by simp);have x1:=hSw.cellSome H11.out (by simp);have x2:=hSw.cellSome H12.out (by simp);have x3:=hSw.cellSome H20.out (by simp);have x4:=hSw.cellSome H21.out (by simp);have x5:=hSw.cellSome H22.out (by simp);go_simp;try with_reducible rfl
   simp only [Act.put,zz1,zz2,zz3,zz4,zz5,zz6]
   refine wL 15 ?_ rfl (by kernel_rfl) (fun _ _ _ h => h) HSS.out (by rfl) ?_ ?_
   rotate_left
   ·intro w hSw;have x0:=hSw.cellSome H10.out (by simp);have x1:=hSw.cellSome H11.out (by simp);have x2:=hSw.cellSome H12.out (by simp);have x3:=hSw.cellSome H20.out (by simp);have x4:=hSw.cellSome H21.out (by simp);have x5:=hSw.cellSome H22.out (by simp);go_simp;try with_reducible rfl
   simp only [Act.put,zz1,zz2,zz3,zz4,zz5,zz6]
   refine wL 16 ?_ rfl (by kernel_rfl) (fun _ _ _ h => h) HSS.out (by rfl) ?_ ?_
   rotate_left
   ·intro w hSw;have x0:=hSw.cellSome H10.out (by simp);have x1:=hSw.cellSome H11.out (by simp);have x2:=hSw.cellSome H12.out (by simp);have x3:=hSw.cellSome H20.out (by simp);have x4:=hSw.cellSome H21.out (by simp);have x5:=hSw.cellSome H22.out (by simp);go_simp;try with_reducible rfl
   simp only [Act.put,zz1,zz2,zz3,zz4,zz5,zz6]
   refine wL 17 ?_ rfl (by kernel_rfl) (fun _ _ _ h => h) HSS.out (by rfl) ?_ ?_
   rotate_left
   ·intro w hSw;have x0:=hSw.cellSome H10.out (by simp);have x1:=hSw.cellSome H11.out (by simp);have x2:=hSw.cellSome H12.out (by simp);have x3:=hSw.cellSome H20.out (by simp);have x4:=hSw.cellSome H21.out (by simp);have x5:=hSw.cellSome H22.out (by simp);go_simp;try with_reducible rfl
   simp only [Act.put,zz1,zz2,zz3,zz4,zz5,zz6]
   refine wL 18 ?_ rfl (by kernel_rfl) (fun _ _ _ h => h) HSS.out (by rfl) ?_ ?_
   rotate_left
   ·intro w hSw;have x0:=hSw.cellSome H10.out (by simp);have x1:=hSw.cellSome H11.out (by simp);have x2:=hSw.cellSome H12.out (by simp);have x3:=hSw.cellSome H20.out (by simp);have x4:=hSw.cellSome H21.out (by simp);have x5:=hSw.cellSome H22.out (by simp);go_simp;try with_reducible rfl
   simp only [Act.put,zz1,zz2,zz3,zz4,zz5,zz6]
   refine wL 19 ?_ rfl (by kernel_rfl) (fun _ _ _ h => h) HSS.out (by rfl) ?_ ?_
   rotate_left
   ·intro w hSw;have x0:=hSw.cellSome H10.out (by simp);have x1:=hSw.cellSome H11.out (by simp);have x2:=hSw.cellSome H12.out (by simp);have x3:=hSw.cellSome H20.out (by simp);have x4:=hSw.cellSome H21.out (by simp);have x5:=hSw.cellSome H22.out (by simp);go_simp;try with_reducible rfl
   simp only [Act.put,zz1,zz2,zz3,zz4,zz5,zz6]
   refine wL 20 ?_ rfl (by kernel_rfl) (fun _ _ _ h => h) HSS.out (by rfl) ?_ ?_
   rotate_left
   ·intro w hSw;have x0:=hSw.cellSome H10.out (by simp);have x1:=hSw.cellSome H11.out (by simp);have x2:=hSw.cellSome H12.out (by simp);have x3:=hSw.cellSome H20.out (by simp);have x4:=hSw.cellSome H21.out (by simp);have x5:=hSw.cellSome H22.out (by simp);go_simp;try with_reducible rfl
   simp only [Act.put,zz1,zz2,zz3,zz4,zz5,zz6]
   refine wL 21 ?_ rfl (by kernel_rfl) (fun _ _ _ h => h) HSS.out (by rfl) ?_ ?_
   rotate_left
   ·intro w hSw;have x0:=hSw.cellSome H10.out (by simp);have x1:=hSw.cellSome H11.out (by simp);have x2:=hSw.cellSome H12.out (by simp);have x3:=hSw.cellSome H20.out (by simp);have x4:=hSw.cellSome H21.out (by simp);have x5:=hSw.cellSome H22.out (by simp);go_simp;try with_reducible rfl
   simp only [Act.put,zz1,zz2,zz3,zz4,zz5,zz6]
   refine wL 22 ?_ rfl (by kernel_rfl) (fun _ _ _ h => h) HSS.out (by rfl) ?_ ?_
   rotate_left
   ·intro w hSw;have x0:=hSw.cellSome H10.out (by simp);have x1:=hSw.cellSome H11.out (by simp);have x2:=hSw.cellSome H12.out (by simp);have x3:=hSw.cellSome H20.out (by simp);have x4:=hSw.cellSome H21.out (by simp);have x5:=hSw.cellSome H22.out (by simp);go_simp;try with_reducible rfl
   simp only [Act.put,zz1,zz2,zz3,zz4,zz5,zz6]
   refine wL 23 ?_ rfl (by kernel_rfl) (fun _ _ _ h => h) HSS.out (by rfl) ?_ ?_
   rotate_left
   ·intro w hSw;have x0:=hSw.cellSome H10.out (by simp);have x1:=hSw.cellSome H11.out (by simp);have x2:=hSw.cellSome H12.out (by simp);have x3:=hSw.cellSome H20.out (by simp);have x4:=hSw.cellSome H21.out (by simp);have x5:=hSw.cellSome H22.out (by simp);go_simp;try with_reducible rfl
   simp only [Act.put,zz1,zz2,zz3,zz4,zz5,zz6]
   refine wL 24 ?_ rfl (by kernel_rfl) (fun _ _ _ h => h) HSS.out (by rfl) ?_ ?_
   rotate_left
   ·intro w hSw;have x0:=hSw.cellSome H10.out (by simp);have x1:=hSw.cellSome H11.out (by simp);have x2:=hSw.cellSome H12.out (by simp);have x3:=hSw.cellSome H20.out (by simp);have x4:=hSw.cellSome H21.out (by simp);have x5:=hSw.cellSome H22.out (by simp);go_simp;try with_reducible rfl
   simp only [Act.put,zz1,zz2,zz3,zz4,zz5,zz6]
   refine wL 25 ?_ rfl (by kernel_rfl) (fun _ _ _ h => h) HSS.out (by rfl) ?_ ?_
   rotate_left
   ·intro w hSw;have x0:=hSw.cellSome H10.out (by simp);have x1:=hSw.cellSome H11.out (by simp);have x2:=hSw.cellSome H12.out (by simp);have x3:=hSw.cellSome H20.out (by simp);have x4:=hSw.cellSome H21.out (by simp);have x5:=hSw.cellSome H22.out (by simp);go_simp;try with_reducible rfl
   simp only [Act.put,zz1,zz2,zz3,zz4,zz5,zz6]
   refine wL 26 ?_ rfl (by kernel_rfl) (fun _ _ _ h => h) HSS.out (by rfl) ?_ ?_
   rotate_left
   ·intro w hSw;have x0:=hSw.cellSome H10.out (by simp);have x1:=hSw.cellSome H11.out (by simp);have x2:=hSw.cellSome H12.out (by simp);have x3:=hSw.cellSome H20.out (by simp);have x4:=hSw.cellSome H21.out (by simp);have x5:=hSw.cellSome H22.out (by simp);go_simp;try with_reducible rfl
   simp only [Act.put,zz1,zz2,zz3,zz4,zz5,zz6]
   refine wL 27 ?_ rfl (by kernel_rfl) (fun _ _ _ h => h) HSS.out (by rfl) ?_ ?_
   rotate_left
   ·intro w hSw;have x0:=hSw.cellSome H10.out (by simp);have x1:=hSw.cellSome H11.out (by simp);have x2:=hSw.cellSome H12.out (by simp);have x3:=hSw.cellSome H20.out (by simp);have x4:=hSw.cellSome H21.out (by simp);have x5:=hSw.cellSome H22.out (by simp);go_simp;try with_reducible rfl
   simp only [Act.put,zz1,zz2,zz3,zz4,zz5,zz6]
   refine wL 28 ?_ rfl (by kernel_rfl) (fun _ _ _ h => h) HSS.out (by rfl) ?_ ?_
   rotate_left
   ·intro w hSw;have x0:=hSw.cellSome H10.out (by simp);have x1:=hSw.cellSome H11.out (by simp);have x2:=hSw.cellSome H12.out (by simp);have x3:=hSw.cellSome H20.out (by simp);have x4:=hSw.cellSome H21.out (by simp);have x5:=hSw.cellSome H22.out (by simp);go_simp;try with_reducible rfl
   simp only [Act.put,zz1,zz2,zz3,zz4,zz5,zz6]
   refine wL 29 ?_ rfl (by kernel_rfl) (fun _ _ _ h => h) HSS.out (by rfl) ?_ ?_
   rotate_left
   ·intro w hSw;have x0:=hSw.cellSome H10.out (by simp);have x1:=hSw.cellSome H11.out (by simp);have x2:=hSw.cellSome H12.out (by simp);have x3:=hSw.cellSome H20.out (by simp);have x4:=hSw.cellSome H21.out (by simp);have x5:=hSw.cellSome H22.out (by simp);go_simp;try with_reducible rfl
   simp only [Act.put,zz1,zz2,zz3,zz4,zz5,zz6]
   refine wL 30 ?_ rfl (by kernel_rfl) (fun _ _ _ h => h) HSS.out (by rfl) ?_ ?_
   rotate_left
   ·intro w hSw;have x0:=hSw.cellSome H10.out (by simp);have x1:=hSw.cellSome H11.out (by simp);have x2:=hSw.cellSome H12.out (by simp);have x3:=hSw.cellSome H20.out (by simp);have x4:=hSw.cellSome H21.out (by simp);have x5:=hSw.cellSome H22.out (by simp);go_simp;try with_reducible rfl
   simp only [Act.put,zz1,zz2,zz3,zz4,zz5,zz6]
   refine wL 31 ?_ rfl (by kernel_rfl) (fun _ _ _ h => h) HSS.out (by rfl) ?_ ?_
   rotate_left
   ·intro w hSw;have x0:=hSw.cellSome H10.out (by simp);have x1:=hSw.cellSome H11.out (by simp);have x2:=hSw.cellSome H12.out (by simp);have x3:=hSw.cellSome H20.out (by simp);have x4:=hSw.cellSome H21.out (by simp);have x5:=hSw.cellSome H22.out (by simp);go_simp;try with_reducible rfl
   simp only [Act.put,zz1,zz2,zz3,zz4,zz5,zz6]
   refine wL 32 ?_ rfl (by kernel_rfl) (fun _ _ _ h => h) HSS.out (by rfl) ?_ ?_
   rotate_left
   ·intro w hSw;have x0:=hSw.cellSome H10.out (by simp);have x1:=hSw.cellSome H11.out (by simp);have x2:=hSw.cellSome H12.out (by simp);have x3:=hSw.cellSome H20.out (by simp);have x4:=hSw.cellSome H21.out (by simp);have x5:=hSw.cellSome H22.out (by simp);go_simp;try with_reducible rfl
   simp only [Act.put,zz1,zz2,zz3,zz4,zz5,zz6]
   refine wL 33 ?_ rfl (by kernel_rfl) (fun _ _ _ h => h) HSS.out (by rfl) ?_ ?_
   rotate_left
   ·intro w hSw;have x0:=hSw.cellSome H10.out (by simp);have x1:=hSw.cellSome H11.out (by simp);have x2:=hSw.cellSome H12.out (by simp);have x3:=hSw.cellSome H20.out (by simp);have x4:=hSw.cellSome H21.out (by simp);have x5:=hSw.cellSome H22.out (by simp);go_simp;try with_reducible rfl
   simp only [Act.put,zz1,zz2,zz3,zz4,zz5,zz6]
   refine wL 34 ?_ rfl (by kernel_rfl) (fun _ _ _ h => h) HSS.out (by rfl) ?_ ?_
   rotate_left
   ·intro w hSw;have x0:=hSw.cellSome H10.out (by simp);have x1:=hSw.cellSome H11.out (by simp);have x2:=hSw.cellSome H12.out (by simp);have x3:=hSw.cellSome H20.out (by simp);have x4:=hSw.cellSome H21.out (by simp);have x5:=hSw.cellSome H22.out (by simp);go_simp;try with_reducible rfl
   simp only [Act.put,zz1,zz2,zz3,zz4,zz5,zz6]
   refine wpAnyT_one (i:=35) (by kernel_rfl) rfl (fun K hK => ?_)
   rw [if_pos (by rfl)]
   go_simp
   refine (RSame_any (Sl.keep HRx.out HSS.out) (Sl.keep HRy.out HSS.out) HLX.out HLX.out).mono ?_
   rintro e w6 ⟨rfl,hF6⟩
   rw [beq_self_eq_true]
   have HSS:=Hd (HSS.out.trans hF6)
   clear hF6
   go_simp
   refine hK.out _ _ (fun _ => HSS.out) ?_
   clear hK K
   simp only [Act.put,zz1,zz2,zz3,zz4,zz5,zz6]
   refine wL 36 ?_ rfl (by kernel_rfl) (fun _ _ _ h => h) HSS.out (by rfl) ?_ ?_
   rotate_left
   ·intro w hSw;have x0:=hSw.cellSome H10.out (by simp);have x1:=hSw.cellSome H11.out (by simp);have x2:=hSw.cellSome H12.out (by simp);have x3:=hSw.cellSome H20.out (by simp);have x4:=hSw.cellSome H21.out (by simp);have x5:=hSw.cellSome H22.out (by simp);go_simp;try with_reducible rfl
   simp only [Act.put,zz1,zz2,zz3,zz4,zz5,zz6]
   refine wL 37 ?_ rfl (by kernel_rfl) (fun _ _ _ h => h) HSS.out (by rfl) ?_ ?_
   rotate_left
   ·intro w hSw;have x0:=hSw.cellSome H10.out (by simp);have x1:=hSw.cellSome H11.out (by simp);have x2:=hSw.cellSome H12.out (by simp);have x3:=hSw.cellSome H20.out (by simp);have x4:=hSw.cellSome H21.out (by simp);have x5:=hSw.cellSome H22.out (by simp);go_simp;try with_reducible rfl
   simp only [Act.put,zz1,zz2,zz3,zz4,zz5,zz6]
   refine wpAnyT_done (by kernel_rfl) ?_ _
   have HF:=Hd (HF.out.trans HSS.out)
   go_wp2_with fail
   go_roundw
   case rel => exact ⟨j + 1,by omega,by go_num,HF.out⟩
   case measure => simp [Go.RowKit.intOf];omega
  ·obtain rfl : j = n:=by omega
   go_wp2_with fail
   go_ret
   exact ⟨rfl,HF.out⟩
end Go.Proofs.YtcngfbjmpemehaaGreat

/- Law 16: what is told may be written over;what stays as it was. -/
namespace Go.Proofs.YtcngfbjmpemehaaGreat
open Go.RowKit

theorem OwnB.setAny {w : World} {g base : Nat} {cur : Array Value} {t : TypeId} (hB : Box w g t cur) (i : Nat) (c : UInt8) {v : Value} {l : List UInt8} (h : OwnB w base v l) : ∃ l',l'.length = l.length ∧ OwnB (w.setCell ⟨g,i,none⟩ (B8 c)) base v l':=by
 have hf : Fr [g] w (w.setCell ⟨g,i,none⟩ (B8 c)):=(Fr.refl [g] w).set (.inl (by simp)) _
 by_cases hg : blockOf v = some g
 ·by_cases hi : i < l.length
  ·obtain ⟨g',cap,rfl,-,-,-,-,-,hset⟩:=h.live (by omega)
   simp only [blockOf,Option.some.injEq] at hg
   subst hg
   exact ⟨l.set i c,by simp,(hset i c hi).1⟩
  ·refine ⟨l,rfl,?_⟩
   rcases h.2 with ⟨rfl,hn⟩ | ⟨g',cap,cur',rfl,hbg,hg',hnc,hcm,hcs,htake⟩
   ·cases hg
   ·simp only [blockOf,Option.some.injEq] at hg
    subst hg
    refine ⟨h.1,.inr ⟨_,cap,cur'.setIfInBounds i (B8 c),rfl,hbg,heap_setCell_same w _ i cur' _ _ hg',hnc,hcm,by simpa using hcs,?_⟩⟩
    rw [Array.toList_setIfInBounds,← htake,List.take_set_of_le (by omega)]
 ·exact ⟨l,rfl,h.fr hf (fun b hb hm => by rw [List.mem_singleton] at hm;exact hg (hm ▸ hb))⟩
theorem els_got_set {w : World} {g : Nat} {cur : Array Value} {t : TypeId} (hB : Box w g t cur) (i : Nat) (c : UInt8) : ∀ {ys : List (UInt16 × List UInt8 × Bool)} {cells : List Value} {B : List Nat},Els GotR ys w cells B → ∃ ys',ys'.length = ys.length ∧ Els GotR ys' (w.setCell ⟨g,i,none⟩ (B8 c)) cells B
 | [],_,_,h => ⟨[],rfl,h⟩
 | y :: ys,cells,B,h => by
  obtain ⟨c0,rest,B1,B2,rfl,rfl,⟨v,rfl,h1,rfl⟩,h2⟩:=h
  obtain ⟨ys',hl,h3⟩:=els_got_set hB i c h2
  obtain ⟨l',hl',h4⟩:=h1.setAny hB i c
  exact ⟨(y.1,l',y.2.2) :: ys',by simp [hl],_,rest,_,B2,rfl,rfl,⟨v,rfl,h4,rfl⟩,h3⟩
theorem els_got_no8 {w : World} : ∀ {ys : List (UInt16 × List UInt8 × Bool)} {cells : List Value} {B : List Nat},Els GotR ys w cells B → ∀ (c : UInt8) (j : Nat),cells[j]? ≠ some (B8 c)
 | [],_,_,h,c,j => by
  obtain ⟨rfl,-⟩:=h
  simp
 | y :: ys,cells,B,h,c,j => by
  obtain ⟨c0,rest,B1,B2,rfl,rfl,⟨v,rfl,h1,rfl⟩,h2⟩:=h
  obtain ⟨a,n,cp,rfl⟩:=h1.isSlice
  match j with
  | 0 => simp [B8]
  | 1 => simp [B8]
  | 2 => simp [B8]
  | j + 3 => simpa using els_got_no8 h2 c j
def GotM (w : World) (v : Value) (n : Nat) (cells : List Value) (B : List Nat) : Prop:=∃ ys a cap,ys.length = n ∧ v = .slice a n cap ∧ n ≤ cap ∧ cap ≤ maxLen ∧ (a = none → cap = 0) ∧ Els GotR ys w cells B ∧
  ∀ p,a = some p → 0 < cap → p.spot = none ∧ p.block < w.heap.size ∧ ∀ i x,cells[i]? = some x → w.cell? ⟨p.block,p.off + i,none⟩ = some x
theorem GotM.of {w : World} {v : Value} {ys : List (UInt16 × List UInt8 × Bool)} {B : List Nat} (h : SlEls 3 GotR w v ys B) : ∃ cells,GotM w v ys.length cells B:=by
 obtain ⟨cells,a,cap,rfl,h1,h2,h3,h4,h5⟩:=h
 exact ⟨cells,ys,a,cap,rfl,rfl,h1,h2,h3,h4,h5⟩
theorem GotM.at_ {w : World} {a : Option Addr} {n cap : Nat} {cells : List Value} {B : List Nat} (h : GotM w (.slice a n cap) n cells B) {i : Nat} (hi : i < n) :
  ∃ b o al nl cl l,a = some ⟨b,o,none⟩ ∧ cells[i * 3 + 1]? = some (.slice al nl cl) ∧ w.cell? ⟨b,o + i * 3 + 1,none⟩ = some (.slice al nl cl) ∧ OwnB w 0 (.slice al nl cl) l ∧ l.length = nl ∧ ∀ z,blockOf (.slice al nl cl) = some z → z ∈ B:=by
 obtain ⟨ys,a',cap',hl,e,h1,h2,h3,h4,h5⟩:=h
 simp only [Value.slice.injEq,true_and] at e
 obtain ⟨rfl,rfl⟩:=e
 cases a with
 | none => have:=h3 rfl;omega
 | some p =>
  obtain ⟨b,o,s⟩:=p
  obtain ⟨g1,g2,g3⟩:=h5 _ rfl (by omega)
  simp only at g1
  subst g1
  obtain ⟨c,B1,⟨v,rfl,q1,rfl⟩,q2,q3⟩:=h4.at_ Rep.got i (by omega)
  obtain ⟨al,nl,cl,rfl⟩:=q1.isSlice
  have k1:=q3 1 (.slice al nl cl) rfl
  have k2:=g3 _ _ k1
  exact ⟨b,o,al,nl,cl,_,rfl,k1,by simpa [Nat.add_assoc] using k2,q1,q1.len.symm,fun z hz => q2 z (mem_toList.2 hz)⟩
theorem GotM.set {w : World} {v : Value} {n : Nat} {cells : List Value} {B : List Nat} (h : GotM w v n cells B) {g : Nat} {cur : Array Value} {t : TypeId} (hB : Box w g t cur) {i : Nat} {c0 : UInt8} (hc : w.cell? ⟨g,i,none⟩ = some (B8 c0)) (c : UInt8) : GotM (w.setCell ⟨g,i,none⟩ (B8 c)) v n cells B:=by
 obtain ⟨ys,a,cap,hl,e,h1,h2,h3,h4,h5⟩:=h
 obtain ⟨ys',hl',h6⟩:=els_got_set hB i c h4
 have hf : Fr [g] w (w.setCell ⟨g,i,none⟩ (B8 c)):=(Fr.refl [g] w).set (.inl (by simp)) _
 refine ⟨ys',a,cap,by omega,e,h1,h2,h3,h6,fun p hp h0 => ?_⟩
 obtain ⟨g1,g2,g3⟩:=h5 p hp h0
 refine ⟨g1,Nat.lt_of_lt_of_le g2 hf.size,fun j x hx => ?_⟩
 have hx2:=g3 j x hx
 by_cases hpg : p.block = g
 ·rw [hpg] at hx2 ⊢
  have hne : i ≠ p.off + j:=by
   rintro rfl
   rw [hc] at hx2
   exact els_got_no8 h4 c0 j (by rw [hx,hx2])
  rw [(hB.set i (B8 c)).cell,Array.getElem?_setIfInBounds,if_neg hne,← hB.cell]
  exact hx2
 ·exact (hf.cell (p:=⟨p.block,p.off + j,none⟩) g2 (by simpa using hpg)).trans hx2
theorem byte_up (x : UInt8) : ∃ c : UInt8,Value.int .u8 (IntKind.u8.wrap ((x.toNat : Int) + 1)) = B8 c:=by
 refine ⟨x + 1,?_⟩
 unfold B8
 congr 1
end Go.Proofs.YtcngfbjmpemehaaGreat
