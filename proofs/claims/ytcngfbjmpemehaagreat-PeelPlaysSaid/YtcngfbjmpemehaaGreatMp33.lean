import Derived.Test.YtcngfbjmpemehaaGreatMp32
import Derived.Test.YtcngfbjmpemehaaGreatMp8
set_option maxRecDepth 100000
set_option maxHeartbeats 16000000
open List renaming getElem_toArray → zz1, getElem_cons_zero → zz2, getElem_cons_succ → zz3, setIfInBounds_toArray → zz4, set_cons_zero → zz5, set_cons_succ → zz6, getElem?_toArray → zz7, getElem?_cons_succ → zz8, getElem?_cons_zero → zz9
open Go.Lib renaming hid → Hd
/- The walk of peel's there (printed by gen_pk3.py). -/
namespace Go.Proofs.YtcngfbjmpemehaaGreat
open Go.RowKit Go.Maps

theorem pkThere_any {w : World} {base g mb : Nat} {no : List Nat} {D : DataW Value} {d : PkD} {vr : Value} {turn : Int} (hB : Box w g 90 (pkc d mb vr turn)) (hM : MapB w base mb no D d.med)
  (hb : ∀ h,d.hi = some h → 40000 ≤ h ∧ h ≤ 4611686018427300000) (s : UInt16) :
  Calls Tryz.prog 41 #[.pointer (some ⟨g,0,none⟩),.int .u16 (s.toNat : Nat)] w fun e w' => ∃ v,e = .returned (.tuple #[v,.bool (d.has s).isSome]) ∧ Bytes w' v ((d.has s).getD []) ∧ (∀ y,liveOf v = some y → base ≤ y ∧ y ∉ no) ∧ Fr [] w w':=by
 have HB:=Hd hB;have HM:=Hd hM;have HI:=Hd hb
 have x0:=hB.cell 0
 have HC : Hid (w.cell? ⟨g,5,none⟩ = some (.map (some mb))):=Hd (by rw [hB.cell];rfl)
 have HW : Hid (WideAt_ w g 3 d.hi):=Hd ⟨by rw [hB.cell];rfl,by rw [hB.cell];rfl⟩
 have HN:=Hd (peek_bd hb s)
 have HF : Hid (Fr [] w w):=Hd (Fr.refl _ _)
 clear hB hM hb x0
 go_enter Tryz.func41,Tryz.ntmps41
 go_upto_region 1 with fail
 refine wp_region_T (fun w' => Fr [] w.drew w') [] 15 #[false,false,false,false,false,false,false,false,false,false,false,false,false,false,false] (by kernel_rfl) rfl rfl ?_
 try simp only [List.append_eq,List.cons_append,List.nil_append]
 have hF:=(Fr.refl [] w).drew
 have HB:=Hd (HB.out.keep hF)
 have HM:=Hd (HM.out.keep hF)
 have HC:=Hd (hF.cellSome HC.out (by simp))
 have HF:=Hd (HF.out.trans hF)
 clear hF
 have HSS : Hid (Fr [] w.drew w.drew):=Hd (Fr.refl _ _)
 generalize w.drew = wd at *
 refine wL 0 ?_ rfl (by kernel_rfl) (fun _ _ _ h => h) HSS.out (by rfl) ?_ ?_
 rotate_left
 ·intro w hSw;have n0:=hSw.cellSome HC.out (by simp);go_simp;try with_reducible rfl
 simp only [Act.put,zz1,zz2,zz3,zz4,zz5,zz6]
 refine wL 1 ?_ rfl (by kernel_rfl) (fun _ _ _ h => h) HSS.out (by rfl) ?_ ?_
 rotate_left
 ·intro w hSw;have n0:=hSw.cellSome HC.out (by simp);go_simp;try with_reducible rfl
 simp only [Act.put,zz1,zz2,zz3,zz4,zz5,zz6]
 refine wL 2 ?_ rfl (by kernel_rfl) (fun _ _ _ h => h) HSS.out (by rfl) ?_ ?_
 rotate_left
 ·intro w hSw;have n0:=hSw.cellSome HC.out (by simp);go_simp;try with_reducible rfl
 simp only [Act.put,zz1,zz2,zz3,zz4,zz5,zz6]
 refine wL 3 ?_ rfl (by kernel_rfl) (fun _ _ _ h => h) HSS.out (by rfl) ?_ ?_
 rotate_left
 ·intro w hSw;have n0:=hSw.cellSome HC.out (by simp);go_simp;try with_reducible rfl
 simp only [Act.put,zz1,zz2,zz3,zz4,zz5,zz6]
 refine wL 4 ?_ rfl (by kernel_rfl) (fun _ _ _ h => h) HSS.out (by rfl) ?_ ?_
 rotate_left
 ·intro w hSw;have n0:=hSw.cellSome HC.out (by simp);go_simp;try with_reducible rfl
 simp only [Act.put,zz1,zz2,zz3,zz4,zz5,zz6]
 refine wL 5 ?_ rfl (by kernel_rfl) (fun _ _ _ h => h) HSS.out (by rfl) ?_ ?_
 rotate_left
 ·intro w hSw;have n0:=hSw.cellSome HC.out (by simp);go_simp;try with_reducible rfl
 simp only [Act.put,zz1,zz2,zz3,zz4,zz5,zz6]
 refine wL 6 ?_ rfl (by kernel_rfl) (fun _ _ _ h => h) HSS.out (by rfl) ?_ ?_
 rotate_left
 ·intro w hSw;have n0:=hSw.cellSome HC.out (by simp);go_simp;try with_reducible rfl
 simp only [Act.put,zz1,zz2,zz3,zz4,zz5,zz6]
 refine wL 7 ?_ rfl (by kernel_rfl) (fun _ _ _ h => h) HSS.out (by rfl) ?_ ?_
 rotate_left
 ·intro w hSw;have n0:=hSw.cellSome HC.out (by simp);go_simp;try with_reducible rfl
 simp only [Act.put,zz1,zz2,zz3,zz4,zz5,zz6]
 refine wpAnyT_one (i:=8) (by kernel_rfl) rfl (fun K hK => ?_)
 rw [if_pos (by rfl)]
 go_simp
 refine (widePeek_any (w:=wd) (g:=g) (o:=3) ⟨by rw [HB.out.cell];rfl,by rw [HB.out.cell];rfl⟩ HI.out s).mono ?_
 rintro e wq ⟨rfl,hF⟩
 have HSS:=Hd (HSS.out.trans hF);have HB:=Hd (HB.out.keep hF);have HM:=Hd (HM.out.keep hF)
 clear hF
 go_simp
 refine hK.out _ _ (fun _ => HSS.out) ?_
 clear hK K
 simp only [Act.put,zz1,zz2,zz3,zz4,zz5,zz6]
 obtain ⟨v,hrun,hv,hz⟩:=HM.out.run (peekW d.hi s) HN.out
 have hrun:=hrun true
 refine wpAnyT_one (i:=9) (by kernel_rfl) rfl (fun K hK => ?_)
 rw [if_pos (by rfl)]
 go_simp
 refine hK.out _ _ (fun _ => HSS.out) ?_
 clear hK K
 simp only [Act.put,zz1,zz2,zz3,zz4,zz5,zz6]
 refine wL 10 ?_ rfl (by kernel_rfl) (fun _ _ _ h => h) HSS.out (by rfl) ?_ ?_
 rotate_left
 ·intro w hSw;have n0:=hSw.cellSome HC.out (by simp);go_simp;try with_reducible rfl
 simp only [Act.put,zz1,zz2,zz3,zz4,zz5,zz6]
 refine wL 11 ?_ rfl (by kernel_rfl) (fun _ _ _ h => h) HSS.out (by rfl) ?_ ?_
 rotate_left
 ·intro w hSw;have n0:=hSw.cellSome HC.out (by simp);go_simp;try with_reducible rfl
 simp only [Act.put,zz1,zz2,zz3,zz4,zz5,zz6]
 refine wL 12 ?_ rfl (by kernel_rfl) (fun _ _ _ h => h) HSS.out (by rfl) ?_ ?_
 rotate_left
 ·intro w hSw;have n0:=hSw.cellSome HC.out (by simp);go_simp;try with_reducible rfl
 simp only [Act.put,zz1,zz2,zz3,zz4,zz5,zz6]
 refine wL 13 ?_ rfl (by kernel_rfl) (fun _ _ _ h => h) HSS.out (by rfl) ?_ ?_
 rotate_left
 ·intro w hSw;have n0:=hSw.cellSome HC.out (by simp);go_simp;try with_reducible rfl
 simp only [Act.put,zz1,zz2,zz3,zz4,zz5,zz6]
 refine wL 14 ?_ rfl (by kernel_rfl) (fun _ _ _ h => h) HSS.out (by rfl) ?_ ?_
 rotate_left
 ·intro w hSw;have n0:=hSw.cellSome HC.out (by simp);go_simp;try with_reducible rfl
 simp only [Act.put,zz1,zz2,zz3,zz4,zz5,zz6]
 refine wpAnyT_done (by kernel_rfl) ?_ _
 have HV:=Hd hv;have HZ:=Hd hz
 clear hv hz
 go_wp2_with fail
 go_ret2
 exact ⟨_,rfl,HV.out,HZ.out,HF.out.trans HSS.out⟩
theorem pk_knows {w : World} {base g mb : Nat} {no : List Nat} {D : DataW Value} {d : PkD} {vr : Value} {turn : Int} (hB : Box w g 90 (pkc d mb vr turn)) (hM : MapB w base mb no D d.med)
  (hb : ∀ h,d.hi = some h → 40000 ≤ h ∧ h ≤ 4611686018427300000) : Knows w 41 #[.pointer (some ⟨g,0,none⟩)] #[] d.has :=
 ⟨enters_of Tryz.func41 (by kernel_rfl) rfl,fun W n hW => (pkThere_any (hB.keep hW) (hM.keep hW) hb n).mono (by
  rintro e w' ⟨v,rfl,h1,-,hF⟩
  exact ⟨v,rfl,h1,hF⟩)⟩
end Go.Proofs.YtcngfbjmpemehaaGreat

/- The walks of peel's Len,Repairs. -/
namespace Go.Proofs.YtcngfbjmpemehaaGreat
open Go.RowKit Go.Maps

theorem pkLen_any {w : World} {base g mb : Nat} {no : List Nat} {D : DataW Value} {d : PkD} {vr : Value} {turn : Int} (hB : Box w g 90 (pkc d mb vr turn)) (hM : MapB w base mb no D d.med) :
  Calls Tryz.prog 15 #[.pointer (some ⟨g,0,none⟩)] w fun e w' => e = .returned (.int .i64 (d.med.length : Nat)) ∧ Fr [] w w':=by
 have x5 : w.cell? ⟨g,5,none⟩ = some (.map (some mb)):=by rw [hB.cell];rfl
 have hlen : ∀ ty,(Builtin.len_ #[85] ty #[.map (some mb)]).run Tryz.prog w = .ok (.int .i64 (d.med.length : Nat)) w:=fun ty => by rw [World.ownsMap.len hM.own Tryz.underlying85 ty,hM.size]
 clear hB hM
 go_enter Tryz.func15,Tryz.ntmps15
 go_wp2_with fail
 go_ret
 exact ⟨rfl,Fr.refl _ _⟩
theorem pkRepairs_any {w : World} {base g mb : Nat} {d : PkD} {vr : Value} {turn : Int} {hs : List (Rep_ × Int)} {B : List Nat} (hB : Box w g 90 (pkc d mb vr turn)) (hO : OwnEls 13 HdR w base 144 vr hs B) :
  Calls Tryz.prog 16 #[.pointer (some ⟨g,0,none⟩)] w fun e w' => e = .returned (.int .i64 (hs.length : Nat)) ∧ Fr [] w w':=by
 obtain ⟨a,c,rfl⟩:=hO.shape
 have x6 : w.cell? ⟨g,6,none⟩ = some (.slice a hs.length c):=by rw [hB.cell];rfl
 clear hB hO
 go_enter Tryz.func16,Tryz.ntmps16
 go_wp2_with fail
 go_ret
 exact ⟨rfl,Fr.refl _ _⟩
end Go.Proofs.YtcngfbjmpemehaaGreat

/- The walks of peel's New,old,Has,Newest,of serial's Highest and of bytes.Clone (printed by gen_pk5.py). -/
namespace Go.Proofs.YtcngfbjmpemehaaGreat
open Go.RowKit Go.Maps

theorem wideHighest_any {w : World} {g o : Nat} {hi : Option Int} (h0 : WideAt_ w g o hi) :
  Calls Tryz.prog 43 #[.pointer (some ⟨g,o,none⟩)] w fun e w' => e = .returned (.int .i64 (hi.getD 0)) ∧ w = w':=by
 obtain ⟨d0,-⟩:=h0
 generalize hi.getD 0 = b at *
 go_enter Tryz.func43,Tryz.ntmps43
 go_wp2_with fail
 go_ret
 exact ⟨rfl,rfl⟩
theorem bytesClone_any {w : World} {v : Value} {l : List UInt8} (h : Bytes w v l) (hl : l.length ≤ 1099511627776) :
  Calls Tryz.prog 42 #[v] w fun e w' => ∃ v',e = .returned v' ∧ OwnB w' w.heap.size v' l ∧ Fr [] w w':=by
 obtain ⟨a,cap,rfl⟩:=h.shape
 simp only [List.length_map] at h ⊢
 have hcap : a = none → l = []:=by
  intro ha
  obtain ⟨_,h2,_,h4⟩:=h.len
  have:=h4 ha
  exact List.eq_nil_of_length_eq_zero (by omega)
 have HC:=Hd hcap
 have H:=Hd h
 clear h hcap
 have hn:=fun (w : World) => Lib.run_eql_slice_nil (P:=Tryz.prog) w 34 5 a l.length cap 0 0 Tryz.underlying34
 cases a with
 | none =>
  obtain rfl:=HC.out rfl
  clear hl
  clear HC H
  simp only [Option.isNone_none,List.length_nil] at hn ⊢
  go_enter Tryz.func42,Tryz.ntmps42
  go_wp2_with fail
  go_ret
  exact ⟨_,rfl,World.ownsRow_nil _ _ _ _,Fr.refl _ _⟩
 | some p =>
  simp only [Option.isNone_some] at hn
  clear HC
  go_enter Tryz.func42,Tryz.ntmps42
  go_wp2_with (at_builtin;refine wpList_append_sl rfl _ _ _ rfl w.heap.size 5 _ _ Tryz.underlying34 info_u8 rfl _ 0 [] rfl (World.ownsRow_made w #[] 0 (Nat.le_refl _) (by unfold maxLen;omega) (by simp)) (.slice (some p) l.length cap) (l.map B8) rfl (Sl.keep H.out ((Fr.refl _ _).alloc _)) (oneCell_B8 l) (by unfold maxLen;simp;omega) (by simp;omega) (by simp) ?_)
  intro v' w' ho hg _
  have HO:=Hd ho
  have HG:=Hd hg
  clear ho hg
  go_wp2_with fail
  go_ret
  refine ⟨v',rfl,?_,(((Fr.refl [] w).alloc _).grown HG.out (fun k hk => .inr (by simp [blockOf] at hk;omega)))⟩
  have:=HO.out
  simpa [OwnB] using this
theorem pkHas_any {w : World} {base g mb : Nat} {no : List Nat} {D : DataW Value} {d : PkD} {vr : Value} {turn : Int} (hB : Box w g 90 (pkc d mb vr turn)) (hM : MapB w base mb no D d.med)
  (hb : ∀ h,d.hi = some h → 40000 ≤ h ∧ h ≤ 4611686018427300000) (hl : ∀ o ∈ d.med,o.b.length ≤ 1000000) (s : UInt16) :
  Calls Tryz.prog 17 #[.pointer (some ⟨g,0,none⟩),.int .u16 (s.toNat : Nat)] w fun e w' => ∃ v,e = .returned (.tuple #[v,.bool (d.has s).isSome]) ∧ OwnB w' w.heap.size v ((d.has s).getD []) ∧ Fr [] w w':=by
 have HX:=Hd (pkThere_any hB hM hb s)
 have HL : Hid (((d.has s).getD []).length ≤ 1099511627776):=Hd (by
  cases h : d.has s with
  | none => simp
  | some x =>
   obtain ⟨o,ho,-,rfl⟩:=look_some h
   have:=hl o ho
   simp only [Option.getD_some]
   omega)
 clear hB hM hb hl
 generalize (d.has s).isSome = is at *
 generalize (d.has s).getD [] = l at *
 go_enter Tryz.func17,Tryz.ntmps17
 go_wp2_with fail
 refine HX.out.mono ?_
 rintro e w1 ⟨v,rfl,h1,-,hF⟩
 obtain ⟨a,n,c,rfl⟩:=Sl.isSlice h1
 have H1:=Hd h1;have HF:=Hd hF
 clear h1 hF HX
 go_wp2_with fail
 refine (bytesClone_any H1.out HL.out).mono ?_
 rintro e w2 ⟨v,rfl,h2,hF⟩
 have H2:=Hd (h2.mono HF.out.size);have HF:=Hd (HF.out.trans hF)
 clear h2 hF
 go_wp2_with fail
 go_ret2
 exact ⟨_,rfl,H2.out,HF.out⟩
theorem pkOld_any {w : World} {g mb : Nat} {d : PkD} {vr : Value} {turn : Int} (hB : Box w g 90 (pkc d mb vr turn)) (hb : ∀ h,d.hi = some h → 40000 ≤ h ∧ h ≤ 4611686018427300000) (hw : d.w ≤ 64) (n : Int) :
  Calls Tryz.prog 56 #[.pointer (some ⟨g,0,none⟩),.int .i64 n] w fun e w' => e = .returned (.bool (d.old n)) ∧ Fr [] w w':=by
 have HB:=Hd hB
 clear hB
 cases hh : d.hi with
 | none =>
  have HH:=Hd hh
  have HO : Hid (d.old n = false):=Hd (by unfold PkD.old;rw [hh])
  clear hh hb
  go_enter Tryz.func56,Tryz.ntmps56
  go_upto_region 1 with fail
  refine wp_region_rules (fun w' => Fr [] w.drew w') (Fr []) [isV ?p1x0,isV ?p1x1,isV ?p1x2,isV (.bool false),isV (.bool false),isV undef,isV undef,isV undef,isV undef,isV undef,isV undef,isV undef,isV undef,isV undef,isV undef,isV undef,isV (.bool false),isV ?p1x17] [[],[(0,5)],[(1,6)],[(2,7)],[(3,8)],[(4,9)],[(4,9)],[(4,9),(6,11)],[(4,9),(7,12)],[(4,9),(8,13)],[(4,9)],[(4,9),(10,15)],[(4,9),(11,16)],[(4,9),(12,17)],[(4,9),(9,14),(13,18)],[(4,9),(5,10),(14,19)],[(4,9),(15,20)],[(16,21)]] 22 [0,1,2,3,4,5,6,7,8,9,10,11,12,13,14,15,16,17] [(0,5),(1,6),(2,7),(3,8),(4,9),(5,10),(6,11),(7,12),(8,13),(9,14),(10,15),(11,16),(12,17),(13,18),(14,19),(15,20),(16,21),(17,4)] (by kernel_rfl) (by kernel_rfl) rfl (by kernel_rfl) (by kernel_rfl) (by kernel_rfl) (by kernel_rfl) (by intro c a a' W h hq;cases a;cases a';cases h;exact hq) (fun w => Fr.refl _ w) (Fr.refl _ _) ⟨isV_stab,isV_stab,isV_stab,isV_stab,isV_stab,isV_stab,isV_stab,isV_stab,isV_stab,isV_stab,isV_stab,isV_stab,isV_stab,isV_stab,isV_stab,isV_stab,isV_stab,isV_stab,trivial⟩ ⟨?_,?_,?_,?_,?_,?_,?_,?_,?_,?_,?_,?_,?_,?_,?_,?_,?_,?_,trivial⟩ ?_
  rotate_left 4
  ·intro vs w' hG hd K hK
   clear hd
   simp only [canonD,Act.put,zz1,zz2,zz3,zz4,zz5,zz6] at hK ⊢
   refine Eq.mpr (if_pos (by rfl)) ?_
   go_simp
   refine hK.out _ _ (Fr.refl _ _) hG ?_
   show _ = _
   rfl
  ·intro vs w' hG hd K hK
   obtain ⟨h0,-⟩:=hd
   replace h0 : vs 0 = _:=h0
   simp only [canonD,Act.put,zz1,zz2,zz3,zz4,zz5,zz6,h0] at hK ⊢
   refine Eq.mpr (if_pos (by rfl)) ?_
   go_simp
   refine hK.out _ _ (Fr.refl _ _) hG ?_
   show _ = _
   rfl
  ·intro vs w' hG hd K hK
   obtain ⟨h1,-⟩:=hd
   replace h1 : vs 1 = _:=h1
   simp only [canonD,Act.put,zz1,zz2,zz3,zz4,zz5,zz6,h1] at hK ⊢
   refine Eq.mpr (if_pos (by rfl)) ?_
   go_simp
   refine hK.out _ _ (Fr.refl _ _) hG ?_
   show _ = _
   rfl
  ·intro vs w' hG hd K hK
   obtain ⟨h2,-⟩:=hd
   replace h2 : vs 2 = _:=h2
   simp only [canonD,Act.put,zz1,zz2,zz3,zz4,zz5,zz6,h2] at hK ⊢
   have hW : Fr [] w w':=(Fr.refl [] w).drew.trans hG
   refine Eq.mpr (if_pos (by rfl)) ?_
   go_simp
   refine (wideStarted_any (w:=w') (g:=g) (o:=3) (hi:=d.hi) ⟨by rw [(HB.out.keep hW).cell];rfl,by rw [(HB.out.keep hW).cell];rfl⟩).mono ?_
   rintro e wz ⟨rfl,rfl⟩
   go_simp
   refine hK.out _ _ (Fr.refl _ _) hG ?_
   show _ = _
   rw [HH.out]
   rfl
  ·intro vs w' hG hd K hK
   obtain ⟨h3,-⟩:=hd
   replace h3 : vs 3 = _:=h3
   simp only [canonD,Act.put,zz1,zz2,zz3,zz4,zz5,zz6,h3] at hK ⊢
   refine Eq.mpr (if_pos (by rfl)) ?_
   go_simp
   refine hK.out _ _ (Fr.refl _ _) hG ?_
   show _ = _
   rfl
  ·intro vs w' hG hd K hK
   obtain ⟨h4,-⟩:=hd
   replace h4 : vs 4 = _:=h4
   simp only [canonD,Act.put,zz1,zz2,zz3,zz4,zz5,zz6,h4] at hK ⊢
   refine Eq.mpr (if_neg (fun h => Bool.noConfusion (show false = true from h))) ?_
   rfl
  ·intro vs w' hG hd K hK
   obtain ⟨h4,-⟩:=hd
   replace h4 : vs 4 = _:=h4
   simp only [canonD,Act.put,zz1,zz2,zz3,zz4,zz5,zz6,h4] at hK ⊢
   refine Eq.mpr (if_neg (fun h => Bool.noConfusion (show false = true from h))) ?_
   rfl
  ·intro vs w' hG hd K hK
   obtain ⟨h4,h6,-⟩:=hd
   replace h4 : vs 4 = _:=h4
   replace h6 : vs 6 = _:=h6
   simp only [canonD,Act.put,zz1,zz2,zz3,zz4,zz5,zz6,h4,h6] at hK ⊢
   refine Eq.mpr (if_neg (fun h => Bool.noConfusion (show false = true from h))) ?_
   rfl
  ·intro vs w' hG hd K hK
   obtain ⟨h4,h7,-⟩:=hd
   replace h4 : vs 4 = _:=h4
   replace h7 : vs 7 = _:=h7
   simp only [canonD,Act.put,zz1,zz2,zz3,zz4,zz5,zz6,h4,h7] at hK ⊢
   refine Eq.mpr (if_neg (fun h => Bool.noConfusion (show false = true from h))) ?_
   rfl
  ·intro vs w' hG hd K hK
   obtain ⟨h4,h8,-⟩:=hd
   replace h4 : vs 4 = _:=h4
   replace h8 : vs 8 = _:=h8
   simp only [canonD,Act.put,zz1,zz2,zz3,zz4,zz5,zz6,h4,h8] at hK ⊢
   refine Eq.mpr (if_neg (fun h => Bool.noConfusion (show false = true from h))) ?_
   rfl
  ·intro vs w' hG hd K hK
   obtain ⟨h4,-⟩:=hd
   replace h4 : vs 4 = _:=h4
   simp only [canonD,Act.put,zz1,zz2,zz3,zz4,zz5,zz6,h4] at hK ⊢
   refine Eq.mpr (if_neg (fun h => Bool.noConfusion (show false = true from h))) ?_
   rfl
  ·intro vs w' hG hd K hK
   obtain ⟨h4,h10,-⟩:=hd
   replace h4 : vs 4 = _:=h4
   replace h10 : vs 10 = _:=h10
   simp only [canonD,Act.put,zz1,zz2,zz3,zz4,zz5,zz6,h4,h10] at hK ⊢
   refine Eq.mpr (if_neg (fun h => Bool.noConfusion (show false = true from h))) ?_
   rfl
  ·intro vs w' hG hd K hK
   obtain ⟨h4,h11,-⟩:=hd
   replace h4 : vs 4 = _:=h4
   replace h11 : vs 11 = _:=h11
   simp only [canonD,Act.put,zz1,zz2,zz3,zz4,zz5,zz6,h4,h11] at hK ⊢
   refine Eq.mpr (if_neg (fun h => Bool.noConfusion (show false = true from h))) ?_
   rfl
  ·intro vs w' hG hd K hK
   obtain ⟨h4,h12,-⟩:=hd
   replace h4 : vs 4 = _:=h4
   replace h12 : vs 12 = _:=h12
   simp only [canonD,Act.put,zz1,zz2,zz3,zz4,zz5,zz6,h4,h12] at hK ⊢
   refine Eq.mpr (if_neg (fun h => Bool.noConfusion (show false = true from h))) ?_
   rfl
  ·intro vs w' hG hd K hK
   obtain ⟨h4,h9,h13,-⟩:=hd
   replace h4 : vs 4 = _:=h4
   replace h9 : vs 9 = _:=h9
   replace h13 : vs 13 = _:=h13
   simp only [canonD,Act.put,zz1,zz2,zz3,zz4,zz5,zz6,h4,h9,h13] at hK ⊢
   refine Eq.mpr (if_neg (fun h => Bool.noConfusion (show false = true from h))) ?_
   rfl
  ·intro vs w' hG hd K hK
   obtain ⟨h4,h5,h14,-⟩:=hd
   replace h4 : vs 4 = _:=h4
   replace h5 : vs 5 = _:=h5
   replace h14 : vs 14 = _:=h14
   simp only [canonD,Act.put,zz1,zz2,zz3,zz4,zz5,zz6,h4,h5,h14] at hK ⊢
   refine Eq.mpr (if_neg (fun h => Bool.noConfusion (show false = true from h))) ?_
   rfl
  ·intro vs w' hG hd K hK
   obtain ⟨h4,h15,-⟩:=hd
   replace h4 : vs 4 = _:=h4
   replace h15 : vs 15 = _:=h15
   simp only [canonD,Act.put,zz1,zz2,zz3,zz4,zz5,zz6,h4,h15] at hK ⊢
   refine Eq.mpr (if_pos (by rfl)) ?_
   go_simp
   refine hK.out _ _ (Fr.refl _ _) hG ?_
   show _ = _
   rfl
  ·intro vs w' hG hd K hK
   obtain ⟨h16,-⟩:=hd
   replace h16 : vs 16 = _:=h16
   simp only [canonD,Act.put,zz1,zz2,zz3,zz4,zz5,zz6,h16] at hK ⊢
   refine Eq.mpr (if_pos (by rfl)) ?_
   go_simp
   refine hK.out _ _ (Fr.refl _ _) hG ?_
   show _ = _
   rfl
  intro vs w' hG hP
  obtain ⟨h0,h1,h2,h3,h4,h5,h6,h7,h8,h9,h10,h11,h12,h13,h14,h15,h16,h17,-⟩:=hP
  replace h0 : vs 0 = _:=h0
  replace h1 : vs 1 = _:=h1
  replace h2 : vs 2 = _:=h2
  replace h3 : vs 3 = _:=h3
  replace h4 : vs 4 = _:=h4
  replace h5 : vs 5 = _:=h5
  replace h6 : vs 6 = _:=h6
  replace h7 : vs 7 = _:=h7
  replace h8 : vs 8 = _:=h8
  replace h9 : vs 9 = _:=h9
  replace h10 : vs 10 = _:=h10
  replace h11 : vs 11 = _:=h11
  replace h12 : vs 12 = _:=h12
  replace h13 : vs 13 = _:=h13
  replace h14 : vs 14 = _:=h14
  replace h15 : vs 15 = _:=h15
  replace h16 : vs 16 = _:=h16
  replace h17 : vs 17 = _:=h17
  simp only [canonD,Act.put,zz1,zz2,zz3,zz4,zz5,zz6,h0,h1,h2,h3,h4,h5,h6,h7,h8,h9,h10,h11,h12,h13,h14,h15,h16,h17]
  clear h0 h1 h2 h3 h4 h5 h6 h7 h8 h9 h10 h11 h12 h13 h14 h15 h16 h17
  go_wp2_with fail
  go_ret
  exact ⟨by rw [HO.out];rfl,(Fr.refl [] w).drew.trans hG⟩
 | some h =>
  have HH:=Hd hh
  have hb:=hb h hh
  obtain ⟨b,hbb⟩ : ∃ b,decide (n ≤ h - (d.w : Int)) = b:=⟨_,rfl⟩
  have HO : Hid (d.old n = b):=Hd (by unfold PkD.old;rw [hh];exact hbb)
  have hwr : IntKind.i64.wrap (h - (d.w : Int)) = h - (d.w : Int):=IntWalk.i64_in _ (by omega)
  clear hh hb
  go_enter Tryz.func56,Tryz.ntmps56
  go_upto_region 1 with fail
  refine wp_region_rules (fun w' => Fr [] w.drew w') (Fr []) [isV ?p2x0,isV ?p2x1,isV ?p2x2,isV (.bool true),isV (.bool true),isV ?p2x5,isV ?p2x6,isV ?p2x7,isV ?p2x8,isV (.int .i64 h),isV ?p2x10,isV ?p2x11,isV ?p2x12,isV (.int .i64 (d.w : Nat)),isV ?p2x14,isV (.bool b),isV (.bool b),isV ?p2x17] [[],[(0,5)],[(1,6)],[(2,7)],[(3,8)],[(4,9)],[(4,9)],[(4,9),(6,11)],[(4,9),(7,12)],[(4,9),(8,13)],[(4,9)],[(4,9),(10,15)],[(4,9),(11,16)],[(4,9),(12,17)],[(4,9),(9,14),(13,18)],[(4,9),(5,10),(14,19)],[(4,9),(15,20)],[(16,21)]] 22 [0,1,2,3,4,5,6,7,8,9,10,11,12,13,14,15,16,17] [(0,5),(1,6),(2,7),(3,8),(4,9),(5,10),(6,11),(7,12),(8,13),(9,14),(10,15),(11,16),(12,17),(13,18),(14,19),(15,20),(16,21),(17,4)] (by kernel_rfl) (by kernel_rfl) rfl (by kernel_rfl) (by kernel_rfl) (by kernel_rfl) (by kernel_rfl) (by intro c a a' W h hq;cases a;cases a';cases h;exact hq) (fun w => Fr.refl _ w) (Fr.refl _ _) ⟨isV_stab,isV_stab,isV_stab,isV_stab,isV_stab,isV_stab,isV_stab,isV_stab,isV_stab,isV_stab,isV_stab,isV_stab,isV_stab,isV_stab,isV_stab,isV_stab,isV_stab,isV_stab,trivial⟩ ⟨?_,?_,?_,?_,?_,?_,?_,?_,?_,?_,?_,?_,?_,?_,?_,?_,?_,?_,trivial⟩ ?_
  rotate_left 12
  ·intro vs w' hG hd K hK
   clear hd
   simp only [canonD,Act.put,zz1,zz2,zz3,zz4,zz5,zz6] at hK ⊢
   refine Eq.mpr (if_pos (by rfl)) ?_
   go_simp
   refine hK.out _ _ (Fr.refl _ _) hG ?_
   show _ = _
   rfl
  ·intro vs w' hG hd K hK
   obtain ⟨h0,-⟩:=hd
   replace h0 : vs 0 = _:=h0
   simp only [canonD,Act.put,zz1,zz2,zz3,zz4,zz5,zz6,h0] at hK ⊢
   refine Eq.mpr (if_pos (by rfl)) ?_
   go_simp
   refine hK.out _ _ (Fr.refl _ _) hG ?_
   show _ = _
   rfl
  ·intro vs w' hG hd K hK
   obtain ⟨h1,-⟩:=hd
   replace h1 : vs 1 = _:=h1
   simp only [canonD,Act.put,zz1,zz2,zz3,zz4,zz5,zz6,h1] at hK ⊢
   refine Eq.mpr (if_pos (by rfl)) ?_
   go_simp
   refine hK.out _ _ (Fr.refl _ _) hG ?_
   show _ = _
   rfl
  ·intro vs w' hG hd K hK
   obtain ⟨h2,-⟩:=hd
   replace h2 : vs 2 = _:=h2
   simp only [canonD,Act.put,zz1,zz2,zz3,zz4,zz5,zz6,h2] at hK ⊢
   have hW : Fr [] w w':=(Fr.refl [] w).drew.trans hG
   refine Eq.mpr (if_pos (by rfl)) ?_
   go_simp
   refine (wideStarted_any (w:=w') (g:=g) (o:=3) (hi:=d.hi) ⟨by rw [(HB.out.keep hW).cell];rfl,by rw [(HB.out.keep hW).cell];rfl⟩).mono ?_
   rintro e wz ⟨rfl,rfl⟩
   go_simp
   refine hK.out _ _ (Fr.refl _ _) hG ?_
   show _ = _
   rw [HH.out]
   rfl
  ·intro vs w' hG hd K hK
   obtain ⟨h3,-⟩:=hd
   replace h3 : vs 3 = _:=h3
   simp only [canonD,Act.put,zz1,zz2,zz3,zz4,zz5,zz6,h3] at hK ⊢
   refine Eq.mpr (if_pos (by rfl)) ?_
   go_simp
   refine hK.out _ _ (Fr.refl _ _) hG ?_
   show _ = _
   rfl
  ·intro vs w' hG hd K hK
   obtain ⟨h4,-⟩:=hd
   replace h4 : vs 4 = _:=h4
   simp only [canonD,Act.put,zz1,zz2,zz3,zz4,zz5,zz6,h4] at hK ⊢
   refine Eq.mpr (if_pos (by rfl)) ?_
   go_simp
   refine hK.out _ _ (Fr.refl _ _) hG ?_
   show _ = _
   rfl
  ·intro vs w' hG hd K hK
   obtain ⟨h4,-⟩:=hd
   replace h4 : vs 4 = _:=h4
   simp only [canonD,Act.put,zz1,zz2,zz3,zz4,zz5,zz6,h4] at hK ⊢
   refine Eq.mpr (if_pos (by rfl)) ?_
   go_simp
   refine hK.out _ _ (Fr.refl _ _) hG ?_
   show _ = _
   rfl
  ·intro vs w' hG hd K hK
   obtain ⟨h4,h6,-⟩:=hd
   replace h4 : vs 4 = _:=h4
   replace h6 : vs 6 = _:=h6
   simp only [canonD,Act.put,zz1,zz2,zz3,zz4,zz5,zz6,h4,h6] at hK ⊢
   refine Eq.mpr (if_pos (by rfl)) ?_
   go_simp
   refine hK.out _ _ (Fr.refl _ _) hG ?_
   show _ = _
   rfl
  ·intro vs w' hG hd K hK
   obtain ⟨h4,h7,-⟩:=hd
   replace h4 : vs 4 = _:=h4
   replace h7 : vs 7 = _:=h7
   simp only [canonD,Act.put,zz1,zz2,zz3,zz4,zz5,zz6,h4,h7] at hK ⊢
   refine Eq.mpr (if_pos (by rfl)) ?_
   go_simp
   refine hK.out _ _ (Fr.refl _ _) hG ?_
   show _ = _
   rfl
  ·intro vs w' hG hd K hK
   obtain ⟨h4,h8,-⟩:=hd
   replace h4 : vs 4 = _:=h4
   replace h8 : vs 8 = _:=h8
   simp only [canonD,Act.put,zz1,zz2,zz3,zz4,zz5,zz6,h4,h8] at hK ⊢
   have hW : Fr [] w w':=(Fr.refl [] w).drew.trans hG
   refine Eq.mpr (if_pos (by rfl)) ?_
   go_simp
   refine (wideHighest_any (w:=w') (g:=g) (o:=3) (hi:=d.hi) ⟨by rw [(HB.out.keep hW).cell];rfl,by rw [(HB.out.keep hW).cell];rfl⟩).mono ?_
   rintro e wz ⟨rfl,rfl⟩
   go_simp
   refine hK.out _ _ (Fr.refl _ _) hG ?_
   show _ = _
   rw [HH.out]
   rfl
  ·intro vs w' hG hd K hK
   obtain ⟨h4,-⟩:=hd
   replace h4 : vs 4 = _:=h4
   simp only [canonD,Act.put,zz1,zz2,zz3,zz4,zz5,zz6,h4] at hK ⊢
   refine Eq.mpr (if_pos (by rfl)) ?_
   go_simp
   refine hK.out _ _ (Fr.refl _ _) hG ?_
   show _ = _
   rfl
  ·intro vs w' hG hd K hK
   obtain ⟨h4,h10,-⟩:=hd
   replace h4 : vs 4 = _:=h4
   replace h10 : vs 10 = _:=h10
   simp only [canonD,Act.put,zz1,zz2,zz3,zz4,zz5,zz6,h4,h10] at hK ⊢
   refine Eq.mpr (if_pos (by rfl)) ?_
   go_simp
   refine hK.out _ _ (Fr.refl _ _) hG ?_
   show _ = _
   rfl
  ·intro vs w' hG hd K hK
   obtain ⟨h4,h11,-⟩:=hd
   replace h4 : vs 4 = _:=h4
   replace h11 : vs 11 = _:=h11
   simp only [canonD,Act.put,zz1,zz2,zz3,zz4,zz5,zz6,h4,h11] at hK ⊢
   refine Eq.mpr (if_pos (by rfl)) ?_
   go_simp
   refine hK.out _ _ (Fr.refl _ _) hG ?_
   show _ = _
   rfl
  ·intro vs w' hG hd K hK
   obtain ⟨h4,h12,-⟩:=hd
   replace h4 : vs 4 = _:=h4
   replace h12 : vs 12 = _:=h12
   simp only [canonD,Act.put,zz1,zz2,zz3,zz4,zz5,zz6,h4,h12] at hK ⊢
   have hW : Fr [] w w':=(Fr.refl [] w).drew.trans hG
   have x1:=(HB.out.keep hW).cell 1
   simp only [zz7,zz8,zz9] at x1
   refine Eq.mpr (if_pos (by rfl)) ?_
   go_simp
   refine hK.out _ _ (Fr.refl _ _) hG ?_
   show _ = _
   rfl
  ·intro vs w' hG hd K hK
   obtain ⟨h4,h9,h13,-⟩:=hd
   replace h4 : vs 4 = _:=h4
   replace h9 : vs 9 = _:=h9
   replace h13 : vs 13 = _:=h13
   simp only [canonD,Act.put,zz1,zz2,zz3,zz4,zz5,zz6,h4,h9,h13] at hK ⊢
   refine Eq.mpr (if_pos (by rfl)) ?_
   go_simp
   refine hK.out _ _ (Fr.refl _ _) hG ?_
   show _ = _
   rfl
  ·intro vs w' hG hd K hK
   obtain ⟨h4,h5,h14,-⟩:=hd
   replace h4 : vs 4 = _:=h4
   replace h5 : vs 5 = _:=h5
   replace h14 : vs 14 = _:=h14
   simp only [canonD,Act.put,zz1,zz2,zz3,zz4,zz5,zz6,h4,h5,h14] at hK ⊢
   refine Eq.mpr (if_pos (by rfl)) ?_
   go_simp
   refine hK.out _ _ (Fr.refl _ _) hG ?_
   show _ = _
   first | rfl | exact congrArg Value.bool (by simp)
  ·intro vs w' hG hd K hK
   obtain ⟨h4,h15,-⟩:=hd
   replace h4 : vs 4 = _:=h4
   replace h15 : vs 15 = _:=h15
   simp only [canonD,Act.put,zz1,zz2,zz3,zz4,zz5,zz6,h4,h15] at hK ⊢
   refine Eq.mpr (if_pos (by rfl)) ?_
   go_simp
   refine hK.out _ _ (Fr.refl _ _) hG ?_
   show _ = _
   rfl
  ·intro vs w' hG hd K hK
   obtain ⟨h16,-⟩:=hd
   replace h16 : vs 16 = _:=h16
   simp only [canonD,Act.put,zz1,zz2,zz3,zz4,zz5,zz6,h16] at hK ⊢
   refine Eq.mpr (if_pos (by rfl)) ?_
   go_simp
   refine hK.out _ _ (Fr.refl _ _) hG ?_
   show _ = _
   rfl
  intro vs w' hG hP
  obtain ⟨h0,h1,h2,h3,h4,h5,h6,h7,h8,h9,h10,h11,h12,h13,h14,h15,h16,h17,-⟩:=hP
  replace h0 : vs 0 = _:=h0
  replace h1 : vs 1 = _:=h1
  replace h2 : vs 2 = _:=h2
  replace h3 : vs 3 = _:=h3
  replace h4 : vs 4 = _:=h4
  replace h5 : vs 5 = _:=h5
  replace h6 : vs 6 = _:=h6
  replace h7 : vs 7 = _:=h7
  replace h8 : vs 8 = _:=h8
  replace h9 : vs 9 = _:=h9
  replace h10 : vs 10 = _:=h10
  replace h11 : vs 11 = _:=h11
  replace h12 : vs 12 = _:=h12
  replace h13 : vs 13 = _:=h13
  replace h14 : vs 14 = _:=h14
  replace h15 : vs 15 = _:=h15
  replace h16 : vs 16 = _:=h16
  replace h17 : vs 17 = _:=h17
  simp only [canonD,Act.put,zz1,zz2,zz3,zz4,zz5,zz6,h0,h1,h2,h3,h4,h5,h6,h7,h8,h9,h10,h11,h12,h13,h14,h15,h16,h17]
  clear h0 h1 h2 h3 h4 h5 h6 h7 h8 h9 h10 h11 h12 h13 h14 h15 h16 h17
  go_wp2_with fail
  go_ret
  exact ⟨by rw [HO.out];rfl,(Fr.refl [] w).drew.trans hG⟩
theorem pkNewest_any {w : World} {g mb : Nat} {d : PkD} {vr : Value} {turn : Int} (hB : Box w g 90 (pkc d mb vr turn)) :
  Calls Tryz.prog 19 #[.pointer (some ⟨g,0,none⟩)] w fun e w' => e = .returned (.tuple #[.int .u16 ((low16 (d.hi.getD 0)).toNat : Nat),.bool d.hi.isSome]) ∧ Fr [] w w':=by
 have HB:=Hd hB
 have hwr:=wrap_low16 (d.hi.getD 0)
 clear hB
 go_enter Tryz.func19,Tryz.ntmps19
 go_upto_region 1 with fail
 refine wp_region_rules (fun w' => Fr [] w.drew w') (Fr []) [isV ?p3x0,isV ?p3x1,isV ?p3x2,isV (.int .i64 (d.hi.getD 0)),isV (.int .u16 ((low16 (d.hi.getD 0)).toNat : Nat)),isV ?p3x5,isV ?p3x6,isV ?p3x7,isV (.bool d.hi.isSome),isV ?p3x9,isV ?p3x10] [[],[(0,4)],[(1,5)],[(2,6)],[(3,7)],[],[(5,9)],[(6,10)],[(7,11)],[(4,8)],[(8,12)]] 13 [0,1,2,3,4,5,6,7,8,9,10] [(0,4),(1,5),(2,6),(3,7),(4,8),(5,9),(6,10),(7,11),(8,12),(9,2),(10,3)] (by kernel_rfl) (by kernel_rfl) rfl (by kernel_rfl) (by kernel_rfl) (by kernel_rfl) (by kernel_rfl) (by intro c a a' W h hq;cases a;cases a';cases h;exact hq) (fun w => Fr.refl _ w) (Fr.refl _ _) ⟨isV_stab,isV_stab,isV_stab,isV_stab,isV_stab,isV_stab,isV_stab,isV_stab,isV_stab,isV_stab,isV_stab,trivial⟩ ⟨?_,?_,?_,?_,?_,?_,?_,?_,?_,?_,?_,trivial⟩ ?_
 rotate_left 8
 ·intro vs w' hG hd K hK
  clear hd
  simp only [canonD,Act.put,zz1,zz2,zz3,zz4,zz5,zz6] at hK ⊢
  refine Eq.mpr (if_pos (by rfl)) ?_
  go_simp
  refine hK.out _ _ (Fr.refl _ _) hG ?_
  show _ = _
  rfl
 ·intro vs w' hG hd K hK
  obtain ⟨h0,-⟩:=hd
  replace h0 : vs 0 = _:=h0
  simp only [canonD,Act.put,zz1,zz2,zz3,zz4,zz5,zz6,h0] at hK ⊢
  refine Eq.mpr (if_pos (by rfl)) ?_
  go_simp
  refine hK.out _ _ (Fr.refl _ _) hG ?_
  show _ = _
  rfl
 ·intro vs w' hG hd K hK
  obtain ⟨h1,-⟩:=hd
  replace h1 : vs 1 = _:=h1
  simp only [canonD,Act.put,zz1,zz2,zz3,zz4,zz5,zz6,h1] at hK ⊢
  refine Eq.mpr (if_pos (by rfl)) ?_
  go_simp
  refine hK.out _ _ (Fr.refl _ _) hG ?_
  show _ = _
  rfl
 ·intro vs w' hG hd K hK
  obtain ⟨h2,-⟩:=hd
  replace h2 : vs 2 = _:=h2
  simp only [canonD,Act.put,zz1,zz2,zz3,zz4,zz5,zz6,h2] at hK ⊢
  have hW : Fr [] w w':=(Fr.refl [] w).drew.trans hG
  refine Eq.mpr (if_pos (by rfl)) ?_
  go_simp
  refine (wideHighest_any (w:=w') (g:=g) (o:=3) (hi:=d.hi) ⟨by rw [(HB.out.keep hW).cell];rfl,by rw [(HB.out.keep hW).cell];rfl⟩).mono ?_
  rintro e wz ⟨rfl,rfl⟩
  go_simp
  refine hK.out _ _ (Fr.refl _ _) hG ?_
  show _ = _
  rfl
 ·intro vs w' hG hd K hK
  obtain ⟨h3,-⟩:=hd
  replace h3 : vs 3 = _:=h3
  simp only [canonD,Act.put,zz1,zz2,zz3,zz4,zz5,zz6,h3] at hK ⊢
  refine Eq.mpr (if_pos (by rfl)) ?_
  go_simp
  refine hK.out _ _ (Fr.refl _ _) hG ?_
  show _ = _
  rfl
 ·intro vs w' hG hd K hK
  clear hd
  simp only [canonD,Act.put,zz1,zz2,zz3,zz4,zz5,zz6] at hK ⊢
  refine Eq.mpr (if_pos (by rfl)) ?_
  go_simp
  refine hK.out _ _ (Fr.refl _ _) hG ?_
  show _ = _
  rfl
 ·intro vs w' hG hd K hK
  obtain ⟨h5,-⟩:=hd
  replace h5 : vs 5 = _:=h5
  simp only [canonD,Act.put,zz1,zz2,zz3,zz4,zz5,zz6,h5] at hK ⊢
  refine Eq.mpr (if_pos (by rfl)) ?_
  go_simp
  refine hK.out _ _ (Fr.refl _ _) hG ?_
  show _ = _
  rfl
 ·intro vs w' hG hd K hK
  obtain ⟨h6,-⟩:=hd
  replace h6 : vs 6 = _:=h6
  simp only [canonD,Act.put,zz1,zz2,zz3,zz4,zz5,zz6,h6] at hK ⊢
  refine Eq.mpr (if_pos (by rfl)) ?_
  go_simp
  refine hK.out _ _ (Fr.refl _ _) hG ?_
  show _ = _
  rfl
 ·intro vs w' hG hd K hK
  obtain ⟨h7,-⟩:=hd
  replace h7 : vs 7 = _:=h7
  simp only [canonD,Act.put,zz1,zz2,zz3,zz4,zz5,zz6,h7] at hK ⊢
  have hW : Fr [] w w':=(Fr.refl [] w).drew.trans hG
  refine Eq.mpr (if_pos (by rfl)) ?_
  go_simp
  refine (wideStarted_any (w:=w') (g:=g) (o:=3) (hi:=d.hi) ⟨by rw [(HB.out.keep hW).cell];rfl,by rw [(HB.out.keep hW).cell];rfl⟩).mono ?_
  rintro e wz ⟨rfl,rfl⟩
  go_simp
  refine hK.out _ _ (Fr.refl _ _) hG ?_
  show _ = _
  rfl
 ·intro vs w' hG hd K hK
  obtain ⟨h4,-⟩:=hd
  replace h4 : vs 4 = _:=h4
  simp only [canonD,Act.put,zz1,zz2,zz3,zz4,zz5,zz6,h4] at hK ⊢
  refine Eq.mpr (if_pos (by rfl)) ?_
  go_simp
  refine hK.out _ _ (Fr.refl _ _) hG ?_
  show _ = _
  rfl
 ·intro vs w' hG hd K hK
  obtain ⟨h8,-⟩:=hd
  replace h8 : vs 8 = _:=h8
  simp only [canonD,Act.put,zz1,zz2,zz3,zz4,zz5,zz6,h8] at hK ⊢
  refine Eq.mpr (if_pos (by rfl)) ?_
  go_simp
  refine hK.out _ _ (Fr.refl _ _) hG ?_
  show _ = _
  rfl
 intro vs w' hG hP
 obtain ⟨h0,h1,h2,h3,h4,h5,h6,h7,h8,h9,h10,-⟩:=hP
 replace h0 : vs 0 = _:=h0
 replace h1 : vs 1 = _:=h1
 replace h2 : vs 2 = _:=h2
 replace h3 : vs 3 = _:=h3
 replace h4 : vs 4 = _:=h4
 replace h5 : vs 5 = _:=h5
 replace h6 : vs 6 = _:=h6
 replace h7 : vs 7 = _:=h7
 replace h8 : vs 8 = _:=h8
 replace h9 : vs 9 = _:=h9
 replace h10 : vs 10 = _:=h10
 simp only [canonD,Act.put,zz1,zz2,zz3,zz4,zz5,zz6,h0,h1,h2,h3,h4,h5,h6,h7,h8,h9,h10]
 clear h0 h1 h2 h3 h4 h5 h6 h7 h8 h9 h10
 go_wp2_with fail
 go_ret2
 exact ⟨rfl,(Fr.refl [] w).drew.trans hG⟩
theorem pkNew_any {w : World} (ss : UInt32) (a b : Int) :
  Calls Tryz.prog 9 #[.int .u32 (ss.toNat : Nat),.int .i64 a,.int .i64 b] w fun e w' => ∃ mb g,e = .returned (.pointer (some ⟨g,0,none⟩)) ∧ Box w' g 90 (pkc (PkD.new ss a b) mb (.slice none 0 0) 0) ∧ MapB w' w.heap.size mb [g,mb] (.map []) [] ∧ g ≠ mb ∧ w.heap.size ≤ g ∧ w.heap.size ≤ mb ∧ Fr [] w w':=by
 have hw : ((min (max a 1) 64).toNat : Int) = min (max a 1) 64:=by omega
 have hr : ((min (max b 1) 16).toNat : Int) = min (max b 1) 16:=by omega
 have HWR : Hid (PkD.new ss a b = ⟨ss,(min (max a 1) 64).toNat,(min (max b 1) 16).toNat,none,[],[]⟩):=Hd rfl
 have hmm:=@run_makeMap Tryz.prog
 have h8 : Hid (pkc (PkD.new ss a b) w.heap.size (.slice none 0 0) 0 = #[.int .u32 (ss.toNat : Nat),.int .i64 (min (max a 1) 64),.int .i64 (min (max b 1) 16),.int .i64 0,.bool false,.map (some w.heap.size),.slice none 0 0,.int .i64 0]):=Hd (by
  unfold pkc PkD.new
  simp only [hw,hr]
  rfl)
 clear hw hr HWR
 go_enter Tryz.func9,Tryz.ntmps9
 go_wp2_with fail
 go_ret
 refine ⟨w.heap.size,w.heap.size + 1,rfl,?_,(MapB.made w _ _).keep ((Fr.refl [] _).alloc _),by omega,by omega,Nat.le_refl _,((Fr.refl [] w).alloc _).alloc _⟩
 rw [h8.out]
 simpa using Box.new (w.alloc (.map #[] 0)) 90 #[.int .u32 (ss.toNat : Nat),.int .i64 (min (max a 1) 64),.int .i64 (min (max b 1) 16),.int .i64 0,.bool false,.map (some w.heap.size),.slice none 0 0,.int .i64 0]
end Go.Proofs.YtcngfbjmpemehaaGreat

/- The walks of slices.IndexFunc,ContainsFunc,DeleteFunc at held repairs. -/
namespace Go.Proofs.YtcngfbjmpemehaaGreat
open Go.RowKit Go.Maps

structure PredH (w : World) (S : List Nat) (gf : Nat) (bd lb : Array Value) (p : Rep_ × Int → Bool) : Prop where
 eg : ∀ args W,(callFunc gf args).run Tryz.prog W = .ok (.enter gf args) W
 ask : ∀ (W : World) (ca : Array Value) (y : Rep_ × Int) (B1 : List Nat),Fr S w W → HdR W ca.toList y B1 → Calls Tryz.prog gf (bd.push (.agg ca) ++ lb) W fun e w' => e = .returned (.bool (p y)) ∧ Fr [] W w'
def IfR (ys : List (Rep_ × Int)) (p : Rep_ × Int → Bool) (i : Int) : Prop:=(i = -1 ∧ ∀ y ∈ ys,p y = false) ∨ ∃ j : Nat,i = j ∧ j < ys.length ∧ (∀ y ∈ ys.take j,p y = false) ∧ ∃ y,ys[j]? = some y ∧ p y = true
theorem IfR.any {ys : List (Rep_ × Int)} {p : Rep_ × Int → Bool} {i : Int} (h : IfR ys p i) : decide (0 ≤ i) = ys.any p:=by
 rcases h with ⟨rfl,h⟩ | ⟨j,rfl,hj,-,y,hy,hp⟩
 ·rw [decide_eq_false (by omega)]
  exact (List.any_eq_false.2 (fun y hy => by rw [h y hy];simp)).symm
 ·rw [decide_eq_true (by omega)]
  exact (List.any_eq_true.2 ⟨y,List.mem_of_getElem? hy,hp⟩).symm
theorem SlEls.ca {w : World} {a : Option Addr} {n cap : Nat} {ys : List (Rep_ × Int)} {B : List Nat} (h : SlEls 13 HdR w (.slice a n cap) ys B) {i : Nat} (hi : i < n) :
  ∃ (b o : Nat) (ca : Array Value) (y : Rep_ × Int) (B1 : List Nat),a = some ⟨b,o,none⟩ ∧ ca.size = 13 ∧ ys[i]? = some y ∧ HdR w ca.toList y B1 ∧ (∀ x ∈ B1,x ∈ B) ∧ w.rangeAt b (o + i * 13) ca.toList:=by
 obtain ⟨b,o,c,y,B1,h1,-,h2,h3,h4,h5⟩:=h.at_ Rep.held hi
 exact ⟨b,o,c.toArray,y,B1,h1,by simpa using Rep.held.len h3,h2,by simpa using h3,h4,by simpa using h5⟩
theorem ifHeld_any {w : World} {v : Value} {ys : List (Rep_ × Int)} {B : List Nat} {gf : Nat} {bd lb : Array Value} {p : Rep_ × Int → Bool} (h : SlEls 13 HdR w v ys B) (hp : PredH w [] gf bd lb p) (hl : ys.length ≤ 1099511627776) :
  Calls Tryz.prog 115 #[v,.func (.func gf) bd lb] w fun e w' => ∃ i : Int,e = .returned (.int .i64 i) ∧ IfR ys p i ∧ Fr [] w w':=by
 obtain ⟨av,cv,rfl⟩:=h.shape
 have HL:=Hd h;have HP:=Hd hp
 have eg:=hp.eg
 clear h hp
 go_enter Tryz.func115,Tryz.ntmps115
 go_upto_region 2 with fail
 go_loopw [8] (fun iv wr => ∃ j : Nat,j ≤ ys.length ∧ iv = .int .i64 j ∧ (∀ x ∈ ys.take j,p x = false) ∧ Fr [] w wr) (fun iv _ => ys.length - (intOf iv).toNat)
 case atStart => exact ⟨0,Nat.zero_le _,rfl,by simp,Fr.refl _ _⟩
 case round =>
  obtain ⟨j,hj,rfl,hno,hF⟩:=hrel
  have HNO:=Hd hno;have HF:=Hd hF
  clear hno hF
  by_cases hlt : j < ys.length
  ·obtain ⟨b,o,ca,y,B1,ea,hsz,hy,hR,-,hrg⟩:=(HL.out.keep Rep.held HF.out).ca (i:=j) hlt
   subst ea
   have HRG:=Hd hrg;have HY:=Hd hy;have HR:=Hd hR;have HSZ:=Hd hsz
   have HT : Hid (ys.take (j + 1) = ys.take j ++ [y]):=Hd (by rw [List.take_add_one,hy];rfl)
   clear hrg hy hR hsz
   go_wp2_with (refine wpList_load_midA rfl 144 (.tmp 14) rfl b (o + j * 13) rfl ca _ HRG.out Tryz.underlying144 rfl (by rw [HSZ.out];kernel_rfl) ?_)
   refine (HP.out.ask wr ca y B1 HF.out HR.out).mono ?_
   rintro e w2 ⟨rfl,hF⟩
   have HF:=Hd (HF.out.trans hF)
   clear hF
   cases hb : p y
   rotate_left
   ·have HBB:=Hd hb
    clear hb
    go_wp2_with fail
    go_ret
    exact ⟨j,rfl,.inr ⟨j,rfl,by omega,HNO.out,y,HY.out,HBB.out⟩,HF.out⟩
   ·have HBB:=Hd hb
    clear hb
    go_wp2_with fail
    exact ⟨⟨j + 1,by omega,by go_num,by rw [HT.out];intro x hx;rcases List.mem_append.1 hx with hx | hx;(· exact HNO.out x hx);(· simp at hx;subst hx;exact HBB.out),HF.out⟩,by simp [intOf];omega⟩
  ·obtain rfl : j = ys.length:=by omega
   have HNN : Hid (∀ x ∈ ys,p x = false):=Hd (by have:=HNO.out;rw [List.take_length] at this;exact this)
   clear hj hlt
   go_wp2_with fail
   go_ret
   exact ⟨-1,rfl,.inl ⟨rfl,HNN.out⟩,HF.out⟩
theorem cfHeld_any {w : World} {v : Value} {ys : List (Rep_ × Int)} {B : List Nat} {gf : Nat} {bd lb : Array Value} {p : Rep_ × Int → Bool} (h : SlEls 13 HdR w v ys B) (hp : PredH w [] gf bd lb p) (hl : ys.length ≤ 1099511627776) :
  Calls Tryz.prog 142 #[v,.func (.func gf) bd lb] w fun e w' => e = .returned (.bool (ys.any p)) ∧ Fr [] w w':=by
 obtain ⟨av,cv,rfl⟩:=h.shape
 have HL:=Hd h;have HP:=Hd hp
 clear h hp
 go_enter Tryz.func142,Tryz.ntmps142
 go_wp2_with fail
 refine (ifHeld_any HL.out HP.out hl).mono ?_
 rintro e w2 ⟨i,rfl,hi,hF⟩
 have HI:=Hd hi;have HF:=Hd hF
 clear hi hF
 go_wp2_with fail
 go_ret
 exact ⟨by rw [← HI.out.any];rfl,HF.out⟩
theorem info_held : (Tryz.prog.info? 144).map (fun i => (i.zero,i.size,i.bytes)) = some (some (.agg #[.int .u8 0,.int .u8 0,.int .u8 0,.int .u8 0,.int .u8 0,.int .u8 0,.int .u8 0,.int .u8 0,.int .u16 0,.int .u64 0,.int .u64 0,.slice none 0 0,.int .i64 0]),13,64):=by kernel_rfl
theorem delHeld_any {w : World} {base : Nat} {v : Value} {ys : List (Rep_ × Int)} {B : List Nat} {gf : Nat} {bd lb : Array Value} {p : Rep_ × Int → Bool} (h : OwnEls 13 HdR w base 144 v ys B) (hp : PredH w (blockOf v).toList gf bd lb p) (hl : ys.length ≤ 1000) :
  Calls Tryz.prog 82 #[v,.func (.func gf) bd lb] w fun e w' => ∃ v' B',e = .returned v' ∧ OwnEls 13 HdR w' base 144 v' (ys.filter fun y => !p y) B' ∧ (∀ b ∈ B',b ∈ B) ∧ blockOf v' = blockOf v ∧ Fr (blockOf v).toList w w':=by
 obtain ⟨av,cv,ev⟩:=h.shape
 subst ev
 have HS:=Hd h.sl
 have HP:=Hd hp
 have HPQ : Hid (PredH w [] gf bd lb p):=Hd ⟨hp.eg,fun W ca y B1 hW hy => hp.ask W ca y B1 hW.any hy⟩
 have HO:=Hd h
 have eg:=hp.eg
 clear h hp
 go_enter Tryz.func82,Tryz.ntmps82
 go_wp2_with fail
 refine (ifHeld_any HS.out HPQ.out (by omega)).mono ?_
 rintro e w1 ⟨i,rfl,hi,hF⟩
 have HF:=Hd hF
 clear hF
 rcases hi with ⟨rfl,hi⟩ | ⟨i,rfl,hi,hno,hyes⟩
 ·have HI:=Hd hi
  clear hi
  go_wp2_with fail
  go_ret
  exact ⟨_,B,rfl,by rw [List.filter_eq_self.2 (fun y hy => by rw [HI.out y hy];rfl)];exact HO.out.keep Rep.held HF.out,fun b hb => hb,rfl,HF.out.any⟩
 ·obtain ⟨cells,⟨hcl,h0 | ⟨g,cap,cur,hv,hb,hg,hc,hm,hs,ht⟩⟩,hE,hnB⟩:=HO.out
  ·have:=h0.2;omega
  simp only [Value.slice.injEq] at hv
  obtain ⟨rfl,-,rfl⟩:=hv
  have hgB : g ∉ B:=hnB g rfl
  have hB : Box w g 144 cur:=hg
  have HP : Hid (PredH w [g] gf bd lb p):=HP
  have HDI : Hid (DelI HdR 13 w1 g 144 cv cells ys B p i (i + 1)):=Hd (DelI.start Rep.held (hB.keep HF.out) hs hc ht (hE.fr Rep.held HF.out (by simp)) hi hno hyes)
  have HE:=Hd hE;have HGB:=Hd hgB;have HM:=Hd hm;have HBB:=Hd hb
  clear hcl hb hg hc hm hs ht hE hnB hgB hB hno hyes HO HS HPQ cur
  go_upto_region 5 with fail
  have HF : Hid (Fr [g] w w1):=Hd HF.out.any
  go_loopw [5,6] (fun iv jv wr => ∃ a j : Nat,iv = .int .i64 a ∧ jv = .int .i64 j ∧ a < j ∧ j ≤ ys.length ∧ DelI HdR 13 wr g 144 cv cells ys B p a j ∧ Fr [g] w wr) (fun _ jv _ => ys.length - (intOf jv).toNat)
  case atStart => exact ⟨i,i + 1,rfl,by go_num,by omega,by omega,HDI.out,HF.out⟩
  case round =>
   clear HDI HF hi
   obtain ⟨a,j,rfl,rfl,haj,hjn,hD,hF⟩:=hrel
   have HD:=Hd hD;have HF:=Hd hF
   clear hD hF
   by_cases hlt : j < ys.length
   ·obtain ⟨c,y,B1,hy,hR,hB1,hrg⟩:=HD.out.at_ Rep.held HE.out HF.out HGB.out hlt
    obtain ⟨ca,rfl⟩ : ∃ ca : Array Value,c = ca.toList:=⟨c.toArray,by simp⟩
    have hsz : ca.size = 13:=by simpa using Rep.held.len hR
    have HSZ:=Hd hsz;have HRG : Hid (wr.rangeAt g (j * 13) ca.toList):=Hd hrg;have HR:=Hd hR;have HY:=Hd hy;have HB1:=Hd hB1
    clear hsz hrg hR hy hB1
    go_upto_region 8 with (first | (refine wpList_load_midA rfl 144 (.tmp 24) rfl g (j * 13) rfl ca _ HRG.out Tryz.underlying144 rfl (by rw [HSZ.out];kernel_rfl) ?_) | (refine wpList_store_row rfl 144 (.tmp 7) (.tmp 25) rfl wr.heap.size rfl #[.int .u8 0,.int .u8 0,.int .u8 0,.int .u8 0,.int .u8 0,.int .u8 0,.int .u8 0,.int .u8 0,.int .u16 0,.int .u64 0,.int .u64 0,.slice none 0 0,.int .i64 0] ca rfl 144 (Box.new wr 144 #[.int .u8 0,.int .u8 0,.int .u8 0,.int .u8 0,.int .u8 0,.int .u8 0,.int .u8 0,.int .u8 0,.int .u16 0,.int .u64 0,.int .u64 0,.slice none 0 0,.int .i64 0]) (by rw [HSZ.out];kernel_rfl) (by rw [HSZ.out];rfl) (Rep.held.one HR.out) ?_;intro w3 hY hG;have hFn:=((Fr.refl [] wr).alloc _).step hG (by simp);have HFn:=Hd hFn;have HYB:=Hd hY;clear hG hFn hY))
    have hz:=HYB.out.lt
    have HD:=Hd (HD.out.fr Rep.held HFn.out);have HR:=Hd (Rep.held.fr HR.out HFn.out (by simp));have HF:=Hd (HF.out.quiet HFn.out)
    generalize hq : wr.heap.size = q at *
    clear hq HFn hz
    go_wp2_with (refine wpList_load_row_w rfl 144 (.tmp 7) rfl q rfl 144 _ _ HYB.out Tryz.underlying144 rfl (by rw [HSZ.out];kernel_rfl) ?_)
    refine (HP.out.ask w3 ca y B1 HF.out HR.out).mono ?_
    rintro e w4 ⟨rfl,hF⟩
    have HYB:=Hd (HYB.out.keep hF);have HD:=Hd (HD.out.fr Rep.held hF);have HR:=Hd (Rep.held.fr HR.out hF (by simp));have HF:=Hd (HF.out.quiet hF)
    clear hF
    cases hb : p y
    rotate_left
    ·have HBB2:=Hd hb
     have HD:=Hd (HD.out.skip HY.out hb)
     clear hb
     go_wp2_with fail
     go_roundw
     case rel => (repeat apply Exists.intro);refine ⟨⟨a,j + 1,?_,?_,by omega,by omega,HD.out,HF.out⟩,rfl⟩ <;> go_num
     case measure => simp [intOf];omega
    ·have HD2:=Hd (HD.out.put Rep.held haj HGB.out HY.out hb HR.out HB1.out)
     have ht:=HD.out.there (m:=1) (by omega)
     have HTH : Hid (w4.there g (a * 13) ca.size):=Hd (by rw [HSZ.out];simpa using ht)
     have HF:=Hd (HF.out.trans (Fr.setCells g ca.toList (a * 13) w4))
     clear hb ht
     go_wp2_with (first | (refine wpList_load_row_w rfl 144 (.tmp 7) rfl q rfl 144 _ _ HYB.out Tryz.underlying144 rfl (by rw [HSZ.out];kernel_rfl) ?_) | (refine wpList_store_mid rfl 144 (.tmp 33) (.tmp 32) rfl g (a * 13) ca rfl rfl HTH.out (by rw [HSZ.out];kernel_rfl) (by have:=all_oneCell_toArray (Rep.held.one HR.out);simpa using this) ?_))
     go_roundw
     case rel => (repeat apply Exists.intro);refine ⟨⟨a + 1,j + 1,?_,?_,by omega,by omega,HD2.out,HF.out⟩,rfl⟩ <;> go_num
     case measure => simp [intOf];omega
   ·obtain rfl : j = ys.length:=by omega
    have hth:=HD.out.there (m:=ys.length - a) (by omega)
    obtain ⟨Z,hZ,hcl⟩:=run_clear_rows (P:=Tryz.prog) wr 88 144 0 (.agg #[.int .u8 0,.int .u8 0,.int .u8 0,.int .u8 0,.int .u8 0,.int .u8 0,.int .u8 0,.int .u8 0,.int .u16 0,.int .u64 0,.int .u64 0,.slice none 0 0,.int .i64 0]) 13 Tryz.underlying88 (fun w => by rfl) rfl (by omega) (by simp [Value.cells,Value.oneCell']) g (a * 13) (ys.length - a) (cv - a) (by omega) hth
    obtain ⟨B',hO,hB'⟩:=HD.out.done Rep.held HGB.out HBB.out HM.out Z hZ
    have HO:=Hd hO;have HB':=Hd hB'
    clear hth hO hB'
    have HF:=Hd (HF.out.trans (Fr.setCells g Z (a * 13) wr))
    have hcv:=HD.out.cap
    have hne : ¬ cv = a:=by omega
    go_upto_region 12 with fail
    clear hcl
    generalize wr.setCells g (a * 13) Z = wz at *
    go_wp2_with fail
    go_ret
    exact ⟨_,B',rfl,HO.out,HB'.out,rfl,HF.out⟩
end Go.Proofs.YtcngfbjmpemehaaGreat

/- The walks of peel's lost,its closure and of slices.IndexFunc,ContainsFunc at numbers (printed by gen_pk7.py). -/
namespace Go.Proofs.YtcngfbjmpemehaaGreat
open Go.RowKit Go.Maps

structure PredU (w : World) (gf : Nat) (bd lb : Array Value) (p : UInt16 → Bool) : Prop where
 eg : ∀ args W,(callFunc gf args).run Tryz.prog W = .ok (.enter gf args) W
 ask : ∀ (W : World) (n : UInt16),Fr [] w W → Calls Tryz.prog gf (bd.push (.int .u16 (n.toNat : Nat)) ++ lb) W fun e w' => e = .returned (.bool (p n)) ∧ Fr [] W w'
theorem ifU16_any {w : World} {v : Value} {xs : List UInt16} {gf : Nat} {bd lb : Array Value} {p : UInt16 → Bool} (h : Sl w v (xs.map W16)) (hp : PredU w gf bd lb p) (hmx : xs.length ≤ 1099511627776) :
  Calls Tryz.prog 119 #[v,.func (.func gf) bd lb] w fun e w' => ∃ i : Int,e = .returned (.int .i64 i) ∧ decide (0 ≤ i) = xs.any p ∧ Fr [] w w':=by
 obtain ⟨a,c,rfl⟩:=h.shape
 have hlen:=h.len
 simp only [List.length_map] at h hlen ⊢
 have HL:=Hd h;have HP:=Hd hp
 have eg:=hp.eg
 clear h hp hlen
 go_enter Tryz.func119,Tryz.ntmps119
 go_upto_region 2 with fail
 go_loopw [8] (fun iv wr => ∃ j : Nat,j ≤ xs.length ∧ iv = .int .i64 j ∧ (∀ x ∈ xs.take j,p x = false) ∧ Fr [] w wr) (fun iv _ => xs.length - (intOf iv).toNat)
 case atStart => exact ⟨0,Nat.zero_le _,rfl,by simp,Fr.refl _ _⟩
 case round =>
  obtain ⟨j,hj,rfl,hno,hF⟩:=hrel
  have HNO:=Hd hno;have HF:=Hd hF
  clear hno hF
  by_cases hlt : j < xs.length
  ·obtain ⟨b,o,ea,hb,hcl⟩:=Sl.at_ HL.out hlt
   subst ea
   have d:=HF.out.cellSome (hcl j (W16 xs[j]) (by rw [List.getElem?_map,List.getElem?_eq_getElem hlt];rfl)) (by simp)
   have HY : Hid (xs[j]? = some xs[j]):=Hd (List.getElem?_eq_getElem hlt)
   have HT : Hid (xs.take (j + 1) = xs.take j ++ [xs[j]]):=Hd (List.take_succ_eq_append_getElem hlt)
   clear hcl
   generalize xs[j] = y at *
   unfold W16 at d
   go_wp2_with fail
   refine (HP.out.ask wr y HF.out).mono ?_
   rintro e w2 ⟨rfl,hF⟩
   have HF:=Hd (HF.out.trans hF)
   clear hF d
   cases hb : p y
   rotate_left
   ·have HBB:=Hd hb
    clear hb
    go_wp2_with fail
    go_ret
    exact ⟨j,rfl,by rw [decide_eq_true (by omega)];exact (List.any_eq_true.2 ⟨y,List.mem_of_getElem? HY.out,HBB.out⟩).symm,HF.out⟩
   ·have HBB:=Hd hb
    clear hb
    go_wp2_with fail
    exact ⟨⟨j + 1,by omega,by go_num,by rw [HT.out];intro x hx;rcases List.mem_append.1 hx with hx | hx;(· exact HNO.out x hx);(· simp at hx;subst hx;exact HBB.out),HF.out⟩,by simp [intOf];omega⟩
  ·obtain rfl : j = xs.length:=by omega
   have HNN : Hid (∀ x ∈ xs,p x = false):=Hd (by have:=HNO.out;rw [List.take_length] at this;exact this)
   clear hj hlt
   go_wp2_with fail
   go_ret
   exact ⟨-1,rfl,by rw [decide_eq_false (by omega)];exact (List.any_eq_false.2 (fun x hx => by rw [HNN.out x hx];simp)).symm,HF.out⟩
theorem cfU16_any {w : World} {v : Value} {xs : List UInt16} {gf : Nat} {bd lb : Array Value} {p : UInt16 → Bool} (h : Sl w v (xs.map W16)) (hp : PredU w gf bd lb p) (hmx : xs.length ≤ 1099511627776) :
  Calls Tryz.prog 85 #[v,.func (.func gf) bd lb] w fun e w' => e = .returned (.bool (xs.any p)) ∧ Fr [] w w':=by
 obtain ⟨av,cv,rfl⟩:=h.shape
 simp only [List.length_map] at h ⊢
 have HL:=Hd h;have HP:=Hd hp
 clear h hp
 go_enter Tryz.func85,Tryz.ntmps85
 go_wp2_with fail
 refine (ifU16_any HL.out HP.out hmx).mono ?_
 rintro e w2 ⟨i,rfl,hi,hF⟩
 have HI:=Hd hi;have HF:=Hd hF
 clear hi hF
 go_wp2_with fail
 go_ret
 exact ⟨by rw [← HI.out];rfl,HF.out⟩
theorem pkLost1_any {w : World} {base g mb : Nat} {no : List Nat} {D : DataW Value} {d : PkD} {vr : Value} {turn : Int} (hB : Box w g 90 (pkc d mb vr turn)) (hM : MapB w base mb no D d.med)
  (hb : ∀ h,d.hi = some h → 40000 ≤ h ∧ h ≤ 4611686018427300000) (hw : d.w ≤ 64) {x : Nat} (hx : Box w x 27 #[.pointer (some ⟨g,0,none⟩)]) (s : UInt16) :
  Calls Tryz.prog 87 #[.int .u16 (s.toNat : Nat),.pointer (some ⟨x,0,none⟩)] w fun e w' => e = .returned (.bool ((d.has s).isNone && d.old (d.peek s))) ∧ Fr [] w w':=by
 have HB:=Hd hB;have HI:=Hd hb;have HX:=Hd hx;have HW:=Hd hw
 have HT:=Hd (pkThere_any hB hM hb s)
 have x0:=hx.cell 0
 simp only [zz7,zz9] at x0
 clear hB hM hb hx hw
 go_enter Tryz.func87,Tryz.ntmps87
 go_wp2_with fail
 refine HT.out.mono ?_
 rintro e w1 ⟨v,rfl,h1,-,hF⟩
 obtain ⟨a,n,c,rfl⟩:=Sl.isSlice h1
 have HB:=Hd (HB.out.keep hF);have HX:=Hd (HX.out.keep hF);have HF:=Hd hF
 clear h1 hF x0 HT
 cases hs : d.has s with
 | some l =>
  have HS0:=Hd hs
  clear hs
  simp only [Option.isSome_some]
  go_upto_region 2 with fail
  refine wp_region_rules (fun w' => Fr [] w1.drew w') (Fr []) [isV ?p1x0,isV (.bool false),isV (.bool false),isV undef,isV undef,isV undef,isV undef,isV undef,isV undef,isV undef,isV (.bool false),isV ?p1x11] [[],[(0,12)],[(1,13)],[(2,14)],[(2,14)],[(2,14),(4,16)],[(2,14),(5,17)],[(2,14)],[(2,14),(6,18),(7,19)],[(2,14),(3,15),(8,20)],[(2,14),(9,21)],[(10,22)]] 23 [0,1,2,3,4,5,6,7,8,9,10,11] [(0,12),(1,13),(2,14),(3,15),(4,16),(5,17),(6,18),(7,19),(8,20),(9,21),(10,22),(11,3)] (by kernel_rfl) (by kernel_rfl) rfl (by kernel_rfl) (by kernel_rfl) (by kernel_rfl) (by kernel_rfl) (by intro c a a' W h hq;cases a;cases a';cases h;exact hq) (fun w => Fr.refl _ w) (Fr.refl _ _) ⟨isV_stab,isV_stab,isV_stab,isV_stab,isV_stab,isV_stab,isV_stab,isV_stab,isV_stab,isV_stab,isV_stab,isV_stab,trivial⟩ ⟨?_,?_,?_,?_,?_,?_,?_,?_,?_,?_,?_,?_,trivial⟩ ?_
  rotate_left 2
  ·intro vs w' hG hd K hK
   clear hd
   simp only [canonD,Act.put,zz1,zz2,zz3,zz4,zz5,zz6] at hK ⊢
   refine Eq.mpr (if_pos (by rfl)) ?_
   go_simp
   refine hK.out _ _ (Fr.refl _ _) hG ?_
   show _ = _
   rfl
  ·intro vs w' hG hd K hK
   obtain ⟨h0,-⟩:=hd
   replace h0 : vs 0 = _:=h0
   simp only [canonD,Act.put,zz1,zz2,zz3,zz4,zz5,zz6,h0] at hK ⊢
   refine Eq.mpr (if_pos (by rfl)) ?_
   go_simp
   refine hK.out _ _ (Fr.refl _ _) hG ?_
   show _ = _
   rfl
  ·intro vs w' hG hd K hK
   obtain ⟨h1,-⟩:=hd
   replace h1 : vs 1 = _:=h1
   simp only [canonD,Act.put,zz1,zz2,zz3,zz4,zz5,zz6,h1] at hK ⊢
   refine Eq.mpr (if_pos (by rfl)) ?_
   go_simp
   refine hK.out _ _ (Fr.refl _ _) hG ?_
   show _ = _
   rfl
  ·intro vs w' hG hd K hK
   obtain ⟨h2,-⟩:=hd
   replace h2 : vs 2 = _:=h2
   simp only [canonD,Act.put,zz1,zz2,zz3,zz4,zz5,zz6,h2] at hK ⊢
   refine Eq.mpr (if_neg (fun h => Bool.noConfusion (show false = true from h))) ?_
   rfl
  ·intro vs w' hG hd K hK
   obtain ⟨h2,-⟩:=hd
   replace h2 : vs 2 = _:=h2
   simp only [canonD,Act.put,zz1,zz2,zz3,zz4,zz5,zz6,h2] at hK ⊢
   refine Eq.mpr (if_neg (fun h => Bool.noConfusion (show false = true from h))) ?_
   rfl
  ·intro vs w' hG hd K hK
   obtain ⟨h2,h4,-⟩:=hd
   replace h2 : vs 2 = _:=h2
   replace h4 : vs 4 = _:=h4
   simp only [canonD,Act.put,zz1,zz2,zz3,zz4,zz5,zz6,h2,h4] at hK ⊢
   refine Eq.mpr (if_neg (fun h => Bool.noConfusion (show false = true from h))) ?_
   rfl
  ·intro vs w' hG hd K hK
   obtain ⟨h2,h5,-⟩:=hd
   replace h2 : vs 2 = _:=h2
   replace h5 : vs 5 = _:=h5
   simp only [canonD,Act.put,zz1,zz2,zz3,zz4,zz5,zz6,h2,h5] at hK ⊢
   refine Eq.mpr (if_neg (fun h => Bool.noConfusion (show false = true from h))) ?_
   rfl
  ·intro vs w' hG hd K hK
   obtain ⟨h2,-⟩:=hd
   replace h2 : vs 2 = _:=h2
   simp only [canonD,Act.put,zz1,zz2,zz3,zz4,zz5,zz6,h2] at hK ⊢
   refine Eq.mpr (if_neg (fun h => Bool.noConfusion (show false = true from h))) ?_
   rfl
  ·intro vs w' hG hd K hK
   obtain ⟨h2,h6,h7,-⟩:=hd
   replace h2 : vs 2 = _:=h2
   replace h6 : vs 6 = _:=h6
   replace h7 : vs 7 = _:=h7
   simp only [canonD,Act.put,zz1,zz2,zz3,zz4,zz5,zz6,h2,h6,h7] at hK ⊢
   refine Eq.mpr (if_neg (fun h => Bool.noConfusion (show false = true from h))) ?_
   rfl
  ·intro vs w' hG hd K hK
   obtain ⟨h2,h3,h8,-⟩:=hd
   replace h2 : vs 2 = _:=h2
   replace h3 : vs 3 = _:=h3
   replace h8 : vs 8 = _:=h8
   simp only [canonD,Act.put,zz1,zz2,zz3,zz4,zz5,zz6,h2,h3,h8] at hK ⊢
   refine Eq.mpr (if_neg (fun h => Bool.noConfusion (show false = true from h))) ?_
   rfl
  ·intro vs w' hG hd K hK
   obtain ⟨h2,h9,-⟩:=hd
   replace h2 : vs 2 = _:=h2
   replace h9 : vs 9 = _:=h9
   simp only [canonD,Act.put,zz1,zz2,zz3,zz4,zz5,zz6,h2,h9] at hK ⊢
   refine Eq.mpr (if_pos (by rfl)) ?_
   go_simp
   refine hK.out _ _ (Fr.refl _ _) hG ?_
   show _ = _
   rfl
  ·intro vs w' hG hd K hK
   obtain ⟨h10,-⟩:=hd
   replace h10 : vs 10 = _:=h10
   simp only [canonD,Act.put,zz1,zz2,zz3,zz4,zz5,zz6,h10] at hK ⊢
   refine Eq.mpr (if_pos (by rfl)) ?_
   go_simp
   refine hK.out _ _ (Fr.refl _ _) hG ?_
   show _ = _
   rfl
  intro vs w' hG hP
  obtain ⟨h0,h1,h2,h3,h4,h5,h6,h7,h8,h9,h10,h11,-⟩:=hP
  replace h0 : vs 0 = _:=h0
  replace h1 : vs 1 = _:=h1
  replace h2 : vs 2 = _:=h2
  replace h3 : vs 3 = _:=h3
  replace h4 : vs 4 = _:=h4
  replace h5 : vs 5 = _:=h5
  replace h6 : vs 6 = _:=h6
  replace h7 : vs 7 = _:=h7
  replace h8 : vs 8 = _:=h8
  replace h9 : vs 9 = _:=h9
  replace h10 : vs 10 = _:=h10
  replace h11 : vs 11 = _:=h11
  simp only [canonD,Act.put,zz1,zz2,zz3,zz4,zz5,zz6,h0,h1,h2,h3,h4,h5,h6,h7,h8,h9,h10,h11]
  clear h0 h1 h2 h3 h4 h5 h6 h7 h8 h9 h10 h11
  go_wp2_with fail
  go_ret
  exact ⟨by rw [HS0.out];rfl,HF.out.trans ((Fr.refl [] w1).drew.trans hG)⟩
 | none =>
  have HS0:=Hd hs
  clear hs
  simp only [Option.isSome_none]
  go_upto_region 2 with fail
  refine wp_region_rules (fun w' => Fr [] w1.drew w') (Fr []) [isV ?p2x0,isV (.bool true),isV (.bool true),isV (.pointer (some ⟨g,0,none⟩)),isV (.pointer (some ⟨g,0,none⟩)),isV ?p2x5,isV ?p2x6,isV ?p2x7,isV (.int .i64 (peekW d.hi s)),isV (.bool (d.old (peekW d.hi s))),isV (.bool (d.old (peekW d.hi s))),isV ?p2x11] [[],[(0,12)],[(1,13)],[(2,14)],[(2,14)],[(2,14),(4,16)],[(2,14),(5,17)],[(2,14)],[(2,14),(6,18),(7,19)],[(2,14),(3,15),(8,20)],[(2,14),(9,21)],[(10,22)]] 23 [0,1,2,3,4,5,6,7,8,9,10,11] [(0,12),(1,13),(2,14),(3,15),(4,16),(5,17),(6,18),(7,19),(8,20),(9,21),(10,22),(11,3)] (by kernel_rfl) (by kernel_rfl) rfl (by kernel_rfl) (by kernel_rfl) (by kernel_rfl) (by kernel_rfl) (by intro c a a' W h hq;cases a;cases a';cases h;exact hq) (fun w => Fr.refl _ w) (Fr.refl _ _) ⟨isV_stab,isV_stab,isV_stab,isV_stab,isV_stab,isV_stab,isV_stab,isV_stab,isV_stab,isV_stab,isV_stab,isV_stab,trivial⟩ ⟨?_,?_,?_,?_,?_,?_,?_,?_,?_,?_,?_,?_,trivial⟩ ?_
  rotate_left 5
  ·intro vs w' hG hd K hK
   clear hd
   simp only [canonD,Act.put,zz1,zz2,zz3,zz4,zz5,zz6] at hK ⊢
   refine Eq.mpr (if_pos (by rfl)) ?_
   go_simp
   refine hK.out _ _ (Fr.refl _ _) hG ?_
   show _ = _
   rfl
  ·intro vs w' hG hd K hK
   obtain ⟨h0,-⟩:=hd
   replace h0 : vs 0 = _:=h0
   simp only [canonD,Act.put,zz1,zz2,zz3,zz4,zz5,zz6,h0] at hK ⊢
   refine Eq.mpr (if_pos (by rfl)) ?_
   go_simp
   refine hK.out _ _ (Fr.refl _ _) hG ?_
   show _ = _
   rfl
  ·intro vs w' hG hd K hK
   obtain ⟨h1,-⟩:=hd
   replace h1 : vs 1 = _:=h1
   simp only [canonD,Act.put,zz1,zz2,zz3,zz4,zz5,zz6,h1] at hK ⊢
   refine Eq.mpr (if_pos (by rfl)) ?_
   go_simp
   refine hK.out _ _ (Fr.refl _ _) hG ?_
   show _ = _
   rfl
  ·intro vs w' hG hd K hK
   obtain ⟨h2,-⟩:=hd
   replace h2 : vs 2 = _:=h2
   simp only [canonD,Act.put,zz1,zz2,zz3,zz4,zz5,zz6,h2] at hK ⊢
   have hW : Fr [] w1 w':=(Fr.refl [] w1).drew.trans hG
   have x0:=(HX.out.keep hW).cell 0
   simp only [zz7,zz9] at x0
   refine Eq.mpr (if_pos (by rfl)) ?_
   go_simp
   refine hK.out _ _ (Fr.refl _ _) hG ?_
   show _ = _
   rfl
  ·intro vs w' hG hd K hK
   obtain ⟨h2,-⟩:=hd
   replace h2 : vs 2 = _:=h2
   simp only [canonD,Act.put,zz1,zz2,zz3,zz4,zz5,zz6,h2] at hK ⊢
   have hW : Fr [] w1 w':=(Fr.refl [] w1).drew.trans hG
   have x0:=(HX.out.keep hW).cell 0
   simp only [zz7,zz9] at x0
   refine Eq.mpr (if_pos (by rfl)) ?_
   go_simp
   refine hK.out _ _ (Fr.refl _ _) hG ?_
   show _ = _
   rfl
  ·intro vs w' hG hd K hK
   obtain ⟨h2,h4,-⟩:=hd
   replace h2 : vs 2 = _:=h2
   replace h4 : vs 4 = _:=h4
   simp only [canonD,Act.put,zz1,zz2,zz3,zz4,zz5,zz6,h2,h4] at hK ⊢
   refine Eq.mpr (if_pos (by rfl)) ?_
   go_simp
   refine hK.out _ _ (Fr.refl _ _) hG ?_
   show _ = _
   rfl
  ·intro vs w' hG hd K hK
   obtain ⟨h2,h5,-⟩:=hd
   replace h2 : vs 2 = _:=h2
   replace h5 : vs 5 = _:=h5
   simp only [canonD,Act.put,zz1,zz2,zz3,zz4,zz5,zz6,h2,h5] at hK ⊢
   refine Eq.mpr (if_pos (by rfl)) ?_
   go_simp
   refine hK.out _ _ (Fr.refl _ _) hG ?_
   show _ = _
   rfl
  ·intro vs w' hG hd K hK
   obtain ⟨h2,-⟩:=hd
   replace h2 : vs 2 = _:=h2
   simp only [canonD,Act.put,zz1,zz2,zz3,zz4,zz5,zz6,h2] at hK ⊢
   refine Eq.mpr (if_pos (by rfl)) ?_
   go_simp
   refine hK.out _ _ (Fr.refl _ _) hG ?_
   show _ = _
   rfl
  ·intro vs w' hG hd K hK
   obtain ⟨h2,h6,h7,-⟩:=hd
   replace h2 : vs 2 = _:=h2
   replace h6 : vs 6 = _:=h6
   replace h7 : vs 7 = _:=h7
   simp only [canonD,Act.put,zz1,zz2,zz3,zz4,zz5,zz6,h2,h6,h7] at hK ⊢
   have hW : Fr [] w1 w':=(Fr.refl [] w1).drew.trans hG
   refine Eq.mpr (if_pos (by rfl)) ?_
   go_simp
   refine (widePeek_any (w:=w') (g:=g) (o:=3) (hi:=d.hi) ⟨by rw [(HB.out.keep hW).cell];rfl,by rw [(HB.out.keep hW).cell];rfl⟩ HI.out s).mono ?_
   rintro e wz ⟨rfl,hF⟩
   go_simp
   refine hK.out _ _ hF (hG.trans hF) ?_
   show _ = _
   rfl
  ·intro vs w' hG hd K hK
   obtain ⟨h2,h3,h8,-⟩:=hd
   replace h2 : vs 2 = _:=h2
   replace h3 : vs 3 = _:=h3
   replace h8 : vs 8 = _:=h8
   simp only [canonD,Act.put,zz1,zz2,zz3,zz4,zz5,zz6,h2,h3,h8] at hK ⊢
   have hW : Fr [] w1 w':=(Fr.refl [] w1).drew.trans hG
   refine Eq.mpr (if_pos (by rfl)) ?_
   go_simp
   refine (pkOld_any (HB.out.keep hW) HI.out HW.out (peekW d.hi s)).mono ?_
   rintro e wz ⟨rfl,hF⟩
   go_simp
   refine hK.out _ _ hF (hG.trans hF) ?_
   show _ = _
   rfl
  ·intro vs w' hG hd K hK
   obtain ⟨h2,h9,-⟩:=hd
   replace h2 : vs 2 = _:=h2
   replace h9 : vs 9 = _:=h9
   simp only [canonD,Act.put,zz1,zz2,zz3,zz4,zz5,zz6,h2,h9] at hK ⊢
   refine Eq.mpr (if_pos (by rfl)) ?_
   go_simp
   refine hK.out _ _ (Fr.refl _ _) hG ?_
   show _ = _
   rfl
  ·intro vs w' hG hd K hK
   obtain ⟨h10,-⟩:=hd
   replace h10 : vs 10 = _:=h10
   simp only [canonD,Act.put,zz1,zz2,zz3,zz4,zz5,zz6,h10] at hK ⊢
   refine Eq.mpr (if_pos (by rfl)) ?_
   go_simp
   refine hK.out _ _ (Fr.refl _ _) hG ?_
   show _ = _
   rfl
  intro vs w' hG hP
  obtain ⟨h0,h1,h2,h3,h4,h5,h6,h7,h8,h9,h10,h11,-⟩:=hP
  replace h0 : vs 0 = _:=h0
  replace h1 : vs 1 = _:=h1
  replace h2 : vs 2 = _:=h2
  replace h3 : vs 3 = _:=h3
  replace h4 : vs 4 = _:=h4
  replace h5 : vs 5 = _:=h5
  replace h6 : vs 6 = _:=h6
  replace h7 : vs 7 = _:=h7
  replace h8 : vs 8 = _:=h8
  replace h9 : vs 9 = _:=h9
  replace h10 : vs 10 = _:=h10
  replace h11 : vs 11 = _:=h11
  simp only [canonD,Act.put,zz1,zz2,zz3,zz4,zz5,zz6,h0,h1,h2,h3,h4,h5,h6,h7,h8,h9,h10,h11]
  clear h0 h1 h2 h3 h4 h5 h6 h7 h8 h9 h10 h11
  go_wp2_with fail
  go_ret
  exact ⟨by rw [HS0.out];rfl,HF.out.trans ((Fr.refl [] w1).drew.trans hG)⟩
theorem lost1_pred {w : World} {base g mb : Nat} {no : List Nat} {D : DataW Value} {d : PkD} {vr : Value} {turn : Int} (hB : Box w g 90 (pkc d mb vr turn)) (hM : MapB w base mb no D d.med)
  (hb : ∀ h,d.hi = some h → 40000 ≤ h ∧ h ≤ 4611686018427300000) (hw : d.w ≤ 64) {x : Nat} (hx : Box w x 27 #[.pointer (some ⟨g,0,none⟩)]) : PredU w 87 #[] #[.pointer (some ⟨x,0,none⟩)] (fun s => (d.has s).isNone && d.old (d.peek s)) :=
 ⟨enters_of Tryz.func87 (by kernel_rfl) rfl,fun W n hW => pkLost1_any (hB.keep hW) (hM.keep hW) hb hw (hx.keep hW) n⟩
theorem pkLost_any {w : World} {base g mb : Nat} {no : List Nat} {D : DataW Value} {d : PkD} {vr : Value} {turn : Int} (hB : Box w g 90 (pkc d mb vr turn)) (hM : MapB w base mb no D d.med)
  (hb : ∀ h,d.hi = some h → 40000 ≤ h ∧ h ≤ 4611686018427300000) (hw : d.w ≤ 64) (r : Rep_) (a : Option Addr) (n c : Nat) :
  Calls Tryz.prog 60 #[.pointer (some ⟨g,0,none⟩),.agg (rpc r (.slice a n c))] w fun e w' => e = .returned (.bool (d.lost r)) ∧ Fr [] w w':=by
 obtain ⟨w1,e1,hF1,hB1,hB2,hs1⟩:=two_new w #[.pointer (some ⟨g,0,none⟩)] 27 (rpc r (.slice a n c)) 38
 have HB:=Hd (hB.keep hF1);have HM:=Hd (hM.keep hF1);have HI:=Hd hb;have HW:=Hd hw;have HX:=Hd hB1;have HR:=Hd hB2;have E1:=Hd e1;have HF:=Hd hF1
 clear hB hM hb hw hF1 hB1 hB2 e1 hs1
 go_enter Tryz.func60,Tryz.ntmps60
 go_upto_region 1 with fail
 rw [E1.out]
 clear E1
 go_wp2_with (refine wpList_load_row_w rfl 38 (.tmp 3) rfl (w.heap.size + 1) rfl 38 _ _ HR.out Tryz.underlying38 rfl (by kernel_rfl) ?_)
 refine (cvRepair_any r a n c).mono ?_
 rintro e w2 ⟨v,rfl,hO,hF⟩
 have hS:=Sl.ofOwn hO
 obtain ⟨a2,n2,c2,rfl⟩:=Sl.isSlice hS
 have HS:=Hd hS
 have HB:=Hd (HB.out.keep hF);have HM:=Hd (HM.out.keep hF);have HX:=Hd (HX.out.keep hF);have HF:=Hd (HF.out.trans hF)
 clear hF hO hS
 go_wp2_with fail
 refine (cfU16_any HS.out (lost1_pred HB.out HM.out HI.out HW.out HX.out) (by unfold seqsOf;rw [List.length_map];exact Nat.le_trans (Msk.list_len _) (by omega))).mono ?_
 rintro e w3 ⟨rfl,hF⟩
 have HF:=Hd (HF.out.trans hF)
 clear hF
 obtain ⟨q,hq⟩ : ∃ q,((seqsOf r.base r.m).any fun s => (d.has s).isNone && d.old (d.peek s)) = q:=⟨_,rfl⟩
 have HQ : Hid (d.lost r = q):=Hd hq
 rw [hq]
 clear hq
 go_wp2_with fail
 go_ret
 exact ⟨by rw [HQ.out];rfl,HF.out⟩
end Go.Proofs.YtcngfbjmpemehaaGreat

/- Peel: the decoder in memory;the closures of put,drop and gone;gone,drop (printed by gen_pk8.py). -/
namespace Go.Proofs.YtcngfbjmpemehaaGreat
open Go.RowKit Go.Maps

abbrev hdc (y : Rep_ × Int) (vb : Value) : Array Value:=#[.int .u8 (y.1.bt.h0.toNat : Nat),.int .u8 (y.1.bt.h1.toNat : Nat),.int .u8 (y.1.bt.h2.toNat : Nat),.int .u8 (y.1.bt.h3.toNat : Nat),.int .u8 (y.1.bt.h4.toNat : Nat),.int .u8 (y.1.bt.h5.toNat : Nat),.int .u8 (y.1.bt.h6.toNat : Nat),.int .u8 (y.1.bt.h7.toNat : Nat),.int .u16 (y.1.base.toNat : Nat),.int .u64 (y.1.m.hi.toNat : Nat),.int .u64 (y.1.m.lo.toNat : Nat),vb,.int .i64 y.2]
theorem HdR.lit {w : World} {ca : Array Value} {y : Rep_ × Int} {B : List Nat} (h : HdR w ca.toList y B) : ∃ a n c,ca = hdc y (.slice a n c) ∧ Bytes w (.slice a n c) y.1.bt.body ∧ B = (liveOf (.slice a n c)).toList:=by
 obtain ⟨vb,hca,hb,hB⟩:=h
 obtain ⟨a,n,c,rfl⟩:=Sl.isSlice hb
 exact ⟨a,n,c,by rw [← Array.toList_inj];exact hca,hb,hB⟩
structure PkW (w : World) (base : Nat) (own no : List Nat) (g mb : Nat) (d : PkD) (hs : List (Rep_ × Int)) (turn : Int) : Prop where
 ex : ∃ vr B D,Box w g 90 (pkc d mb vr turn) ∧ OwnEls 13 HdR w base 144 vr hs B ∧ MapB w base mb no D d.med ∧ (∀ b,blockOf vr = some b → b ∈ own ∧ b ≠ g ∧ b ≠ mb) ∧ (∀ b ∈ B,base ≤ b ∧ b ∉ no)
 sub : ∀ b ∈ own,b ∈ no
 gin : g ∈ own
 mbin : mb ∈ own
 ne : g ≠ mb
 low : base ≤ w.heap.size
 lt : ∀ b ∈ no,b < w.heap.size
theorem PkW.fr {w w' : World} {base : Nat} {own no S : List Nat} {g mb : Nat} {d : PkD} {hs : List (Rep_ × Int)} {turn : Int} (h : PkW w base own no g mb d hs turn) (hf : Fr S w w') (h1 : ∀ s ∈ S,s ∉ own) (h2 : ∀ s ∈ S,s ∈ no ∨ s < base) : PkW w' base own no g mb d hs turn:=by
 obtain ⟨⟨vr,B,D,hB,hO,hM,hv,hBB⟩,q1,q2,q3,q4,q5,q6⟩:=h
 refine ⟨⟨vr,B,D,hB.fr hf (fun hm => h1 _ hm q2),hO.fr Rep.held hf (fun b hb hm => ?_) (fun b hb hm => h1 _ hm (hv b hb).1),hM.fr hf (fun hm => h1 _ hm q3) h2,hv,hBB⟩,q1,q2,q3,q4,Nat.le_trans q5 hf.size,fun b hb => Nat.lt_of_lt_of_le (q6 b hb) hf.size⟩
 rcases h2 b hm with h3 | h3
 ·exact (hBB b hb).2 h3
 ·have:=(hBB b hb).1;omega
theorem PkW.keep {w w' : World} {base : Nat} {own no : List Nat} {g mb : Nat} {d : PkD} {hs : List (Rep_ × Int)} {turn : Int} (h : PkW w base own no g mb d hs turn) (hf : Fr [] w w') : PkW w' base own no g mb d hs turn:=h.fr hf (by simp) (by simp)
theorem pkPut1_any {w : World} {base g mb : Nat} {no : List Nat} {D : DataW Value} {d : PkD} {vr : Value} {turn : Int} (hB : Box w g 90 (pkc d mb vr turn)) (hM : MapB w base mb no D d.med)
  (hb : ∀ h,d.hi = some h → 40000 ≤ h ∧ h ≤ 4611686018427300000) (hw : d.w ≤ 64) {x : Nat} (hx : Box w x 27 #[.pointer (some ⟨g,0,none⟩)]) (y : Rep_ × Int) (a : Option Addr) (n c : Nat) :
  Calls Tryz.prog 83 #[.agg (hdc y (.slice a n c)),.pointer (some ⟨x,0,none⟩)] w fun e w' => e = .returned (.bool (d.lost y.1)) ∧ Fr [] w w':=by
 obtain ⟨w1,e1,hF1,hB1,hs1⟩:=one_new w (hdc y (.slice a n c)) 144
 have HB:=Hd (hB.keep hF1);have HM:=Hd (hM.keep hF1);have HI:=Hd hb;have HW:=Hd hw;have HF:=Hd hF1;have E1:=Hd e1
 have HRG : Hid (w1.rangeAt w.heap.size 0 (rpc y.1 (.slice a n c)).toList):=Hd (fun j u hj => box_range hB1 j u (by
  have hlt:=(List.getElem?_eq_some_iff.1 hj).1
  have e : (hdc y (.slice a n c)).toList = (rpc y.1 (.slice a n c)).toList ++ [.int .i64 y.2]:=rfl
  rw [e,List.getElem?_append_left hlt]
  exact hj))
 have x0:=(hx.keep hF1).cell 0
 simp only [zz7,zz9] at x0
 clear hB hM hb hw hF1 hB1 e1 hs1 hx
 go_enter Tryz.func83,Tryz.ntmps83
 go_upto_region 1 with fail
 rw [E1.out]
 clear E1
 go_wp2_with (refine wpList_load_midA rfl 38 (.tmp 5) rfl w.heap.size 0 rfl (rpc y.1 (.slice a n c)) _ HRG.out Tryz.underlying38 rfl (by kernel_rfl) ?_)
 refine (pkLost_any HB.out HM.out HI.out HW.out y.1 a n c).mono ?_
 rintro e w3 ⟨rfl,hF⟩
 have HF:=Hd (HF.out.trans hF)
 clear hF
 obtain ⟨q,hq⟩ : ∃ q,d.lost y.1 = q:=⟨_,rfl⟩
 have HQ:=Hd hq
 rw [hq]
 clear hq
 go_wp2_with fail
 go_ret
 exact ⟨by rw [HQ.out];rfl,HF.out⟩
theorem put1_pred {w : World} {base g mb : Nat} {no : List Nat} {D : DataW Value} {d : PkD} {vr : Value} {turn : Int} (hB : Box w g 90 (pkc d mb vr turn)) (hM : MapB w base mb no D d.med)
  (hb : ∀ h,d.hi = some h → 40000 ≤ h ∧ h ≤ 4611686018427300000) (hw : d.w ≤ 64) {x : Nat} (hx : Box w x 27 #[.pointer (some ⟨g,0,none⟩)]) {S : List Nat} (h1 : g ∉ S) (h2 : mb ∉ S) (h3 : x ∉ S) (h4 : ∀ s ∈ S,s ∈ no ∨ s < base) : PredH w S 83 #[] #[.pointer (some ⟨x,0,none⟩)] (fun y => d.lost y.1) :=
 ⟨enters_of Tryz.func83 (by kernel_rfl) rfl,fun W ca y B1 hW hy => by
  obtain ⟨a,n,c,rfl,-,-⟩:=hy.lit
  exact pkPut1_any (hB.fr hW h1) (hM.fr hW h2 h4) hb hw (hx.fr hW h3) y a n c⟩
theorem pkDrop1_any {w : World} {x : Nat} {k : Int} (hx : Box w x 3 #[.int .i64 k]) (y : Rep_ × Int) (a : Option Addr) (n c : Nat) :
  Calls Tryz.prog 125 #[.agg (hdc y (.slice a n c)),.pointer (some ⟨x,0,none⟩)] w fun e w' => e = .returned (.bool (y.2 == k)) ∧ Fr [] w w':=by
 obtain ⟨w1,e1,hF1,hB1,hs1⟩:=one_new w (hdc y (.slice a n c)) 144
 have HF:=Hd hF1;have E1:=Hd e1
 have x12:=hB1.cell 12
 simp only [hdc,zz7,zz8,zz9] at x12
 have x0:=(hx.keep hF1).cell 0
 simp only [zz7,zz9] at x0
 clear hF1 hB1 e1 hs1 hx
 generalize hyk : (y.2 == k) = q
 go_enter Tryz.func125,Tryz.ntmps125
 go_upto_region 1 with fail
 rw [E1.out]
 clear E1
 go_wp2_with fail
 go_ret
 exact ⟨by rw [← hyk];rfl,HF.out⟩
theorem pkDrop1_pred {w : World} {x : Nat} {k : Int} (hx : Box w x 3 #[.int .i64 k]) {S : List Nat} (h3 : x ∉ S) : PredH w S 125 #[] #[.pointer (some ⟨x,0,none⟩)] (fun y => y.2 == k) :=
 ⟨enters_of Tryz.func125 (by kernel_rfl) rfl,fun W ca y B1 hW hy => by
  obtain ⟨a,n,c,rfl,-,-⟩:=hy.lit
  exact pkDrop1_any (hx.fr hW h3) y a n c⟩
theorem pkGone1_any {w : World} {x : Nat} {k : Int} (hx : Box w x 3 #[.int .i64 k]) (y : Rep_ × Int) (a : Option Addr) (n c : Nat) :
  Calls Tryz.prog 143 #[.agg (hdc y (.slice a n c)),.pointer (some ⟨x,0,none⟩)] w fun e w' => e = .returned (.bool (y.2 == k)) ∧ Fr [] w w':=by
 obtain ⟨w1,e1,hF1,hB1,hs1⟩:=one_new w (hdc y (.slice a n c)) 144
 have HF:=Hd hF1;have E1:=Hd e1
 have x12:=hB1.cell 12
 simp only [hdc,zz7,zz8,zz9] at x12
 have x0:=(hx.keep hF1).cell 0
 simp only [zz7,zz9] at x0
 clear hF1 hB1 e1 hs1 hx
 generalize hyk : (y.2 == k) = q
 go_enter Tryz.func143,Tryz.ntmps143
 go_upto_region 1 with fail
 rw [E1.out]
 clear E1
 go_wp2_with fail
 go_ret
 exact ⟨by rw [← hyk];rfl,HF.out⟩
theorem pkGone1_pred {w : World} {x : Nat} {k : Int} (hx : Box w x 3 #[.int .i64 k]) {S : List Nat} (h3 : x ∉ S) : PredH w S 143 #[] #[.pointer (some ⟨x,0,none⟩)] (fun y => y.2 == k) :=
 ⟨enters_of Tryz.func143 (by kernel_rfl) rfl,fun W ca y B1 hW hy => by
  obtain ⟨a,n,c,rfl,-,-⟩:=hy.lit
  exact pkGone1_any (hx.fr hW h3) y a n c⟩
theorem pkGone_any {w : World} {base : Nat} {own no : List Nat} {g mb : Nat} {d : PkD} {hs : List (Rep_ × Int)} {turn : Int} (h : PkW w base own no g mb d hs turn) (hl : hs.length ≤ 1000) (k : Int) :
  Calls Tryz.prog 117 #[.pointer (some ⟨g,0,none⟩),.int .i64 k] w fun e w' => e = .returned (.bool (!hs.any fun y => y.2 == k)) ∧ Fr [] w w':=by
 obtain ⟨vr,B,D,hB,hO,-,-,-⟩:=h.ex
 obtain ⟨a,c,rfl⟩:=hO.shape
 obtain ⟨w1,e1,hF1,hB1,hs1⟩:=one_new w #[.int .i64 k] 3
 have x6:=(hB.keep hF1).cell 6
 simp only [pkc,zz7,zz8,zz9] at x6
 have HS:=Hd (hO.keep Rep.held hF1).sl;have HF:=Hd hF1;have E1:=Hd e1;have HX:=Hd hB1
 clear hB hO hF1 hB1 e1 hs1 h
 go_enter Tryz.func117,Tryz.ntmps117
 go_upto_region 1 with fail
 rw [E1.out]
 clear E1
 go_wp2_with fail
 refine (cfHeld_any HS.out (pkGone1_pred HX.out (by simp)) (by omega)).mono ?_
 rintro e w3 ⟨rfl,hF⟩
 have HF:=Hd (HF.out.trans hF)
 clear hF
 obtain ⟨q,hq⟩ : ∃ q,(hs.any fun y => y.2 == k) = q:=⟨_,rfl⟩
 have HQ:=Hd hq
 rw [hq]
 clear hq
 go_wp2_with fail
 go_ret
 exact ⟨by rw [HQ.out];rfl,HF.out⟩
theorem pkDrop_any {w : World} {base : Nat} {own no : List Nat} {g mb : Nat} {d : PkD} {hs : List (Rep_ × Int)} {turn : Int} (h : PkW w base own no g mb d hs turn) (hl : hs.length ≤ 1000) (k : Int) :
  Calls Tryz.prog 92 #[.pointer (some ⟨g,0,none⟩),.int .i64 k] w fun e w' => e = .returned (.tuple #[]) ∧ PkW w' base own no g mb { d with rep:=(hs.filter fun y => !(y.2 == k)).map Prod.fst } (hs.filter fun y => !(y.2 == k)) turn ∧ Fr own w w':=by
 have HH:=Hd h
 obtain ⟨vr,B,D,hB,hO,hM,hv,hBB⟩:=h.ex
 obtain ⟨a,c,rfl⟩:=hO.shape
 obtain ⟨w1,e1,hF1,hB1,hs1⟩:=one_new w #[.int .i64 k] 3
 have x6:=(hB.keep hF1).cell 6
 simp only [pkc,zz7,zz8,zz9] at x6
 have hbl:=hO.block
 have HO:=Hd (hO.keep Rep.held hF1);have HF:=Hd hF1;have E1:=Hd e1;have HX:=Hd hB1
 have HB:=Hd (hB.keep hF1);have HM:=Hd (hM.keep hF1);have HV:=Hd hv;have HBB:=Hd hBB
 have HXN : Hid (w.heap.size ∉ (blockOf (.slice a hs.length c)).toList):=Hd (fun hm => by have:=(hbl _ (mem_toList.1 hm)).2;omega)
 clear hB hO hF1 hB1 e1 hs1 h hM hv hBB hbl
 go_enter Tryz.func92,Tryz.ntmps92
 go_upto_region 1 with fail
 rw [E1.out]
 clear E1
 go_wp2_with fail
 refine (delHeld_any HO.out (pkDrop1_pred HX.out HXN.out) hl).mono ?_
 rintro e w3 ⟨v',B',rfl,hO',hB',hbv,hF⟩
 obtain ⟨a',c',rfl⟩:=hO'.shape
 have hgn : g ∉ (blockOf (.slice a hs.length c)).toList:=fun hm => (HV.out _ (mem_toList.1 hm)).2.1 rfl
 have hmn : mb ∉ (blockOf (.slice a hs.length c)).toList:=fun hm => (HV.out _ (mem_toList.1 hm)).2.2 rfl
 have hSn : ∀ s ∈ (blockOf (.slice a hs.length c)).toList,s ∈ no ∨ s < base:=fun s hm => .inl (HH.out.sub _ (HV.out _ (mem_toList.1 hm)).1)
 have HB:=Hd (HB.out.fr hF hgn);have HM:=Hd (HM.out.fr hF hmn hSn)
 have HO:=Hd hO';have HB':=Hd hB';have HBV:=Hd hbv
 have HF : Hid (Fr own w w3):=Hd (HF.out.any.trans (hF.mono (fun b hm => (HV.out _ (mem_toList.1 hm)).1)))
 obtain ⟨w4,e4,hF4,hB4,hs4⟩:=set_new HB.out 6 (.slice a' (hs.filter fun y => !(y.2 == k)).length c')
 have f6:=HB.out.free 6
 have x6:=HB.out.cell 6
 simp only [pkc,zz7,zz8,zz9] at x6
 have E4:=Hd e4;have HF4:=Hd hF4;have HB4:=Hd hB4
 clear hgn hmn hSn hF hO' hB' hbv e4 hF4 hB4 hs4
 go_wp2_with fail
 rw [E4.out]
 go_end0
 refine ⟨rfl,⟨⟨_,B',D,?_,HO.out.fr Rep.held HF4.out (fun b hb hm => ?_) (fun b hb hm => ?_),HM.out.fr HF4.out (fun hm => ?_) (fun s hm => ?_),fun b hb => HV.out b (HBV.out ▸ hb),fun b hb => HBB.out b (HB'.out b hb)⟩,HH.out.sub,HH.out.gin,HH.out.mbin,HH.out.ne,?_,?_⟩,?_⟩
 ·exact HB4.out
 ·rw [List.mem_singleton] at hm
  exact (HBB.out b (HB'.out b hb)).2 (hm ▸ HH.out.sub _ HH.out.gin)
 ·rw [List.mem_singleton] at hm
  exact (HV.out b (HBV.out ▸ hb)).2.1 hm
 ·rw [List.mem_singleton] at hm
  exact HH.out.ne hm.symm
 ·rw [List.mem_singleton] at hm
  exact .inl (hm ▸ HH.out.sub _ HH.out.gin)
 ·exact Nat.le_trans HH.out.low (HF.out.trans (HF4.out.mono (fun b hm => by rw [List.mem_singleton] at hm;exact hm ▸ HH.out.gin))).size
 ·exact fun b hb => Nat.lt_of_lt_of_le (HH.out.lt b hb) (HF.out.trans (HF4.out.mono (fun b hm => by rw [List.mem_singleton] at hm;exact hm ▸ HH.out.gin))).size
 ·exact HF.out.trans (HF4.out.mono (fun b hm => by rw [List.mem_singleton] at hm;exact hm ▸ HH.out.gin))
end Go.Proofs.YtcngfbjmpemehaaGreat
