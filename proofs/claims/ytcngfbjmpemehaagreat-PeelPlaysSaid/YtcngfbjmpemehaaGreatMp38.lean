import Derived.Test.YtcngfbjmpemehaaGreatMp37
import Derived.Test.YtcngfbjmpemehaaGreatMp22
import Derived.Test.YtcngfbjmpemehaaGreatMp30
set_option maxRecDepth 100000
set_option maxHeartbeats 16000000
open List renaming getElem_toArray → zz1, getElem_cons_zero → zz2, getElem_cons_succ → zz3, setIfInBounds_toArray → zz4, set_cons_zero → zz5, set_cons_succ → zz6, getElem?_toArray → zz7, getElem?_cons_succ → zz8, getElem?_cons_zero → zz9
open Go.Lib renaming hid → Hd
/- The walks of slices.MinFunc of held repairs and of peel's room (printed by gen_pk16.py). -/
namespace Go.Proofs.YtcngfbjmpemehaaGreat
open Go.RowKit Go.Maps

theorem minAtF_lt {f : Rep_ → Int} {r : Rep_} {l : List Rep_} {i a : Nat} {m : Int} (h : f r < m) : minAtF f (r :: l) i a m = minAtF f l (i + 1) i (f r):=if_pos h
theorem minAtF_ge {f : Rep_ → Int} {r : Rep_} {l : List Rep_} {i a : Nat} {m : Int} (h : ¬ f r < m) : minAtF f (r :: l) i a m = minAtF f l (i + 1) a m:=if_neg h
theorem drop_map {ys : List (Rep_ × Int)} {j : Nat} {y : Rep_ × Int} (h : ys[j]? = some y) : (ys.map Prod.fst).drop j = y.1 :: (ys.map Prod.fst).drop (j + 1):=by
 obtain ⟨hj,e⟩:=List.getElem?_eq_some_iff.1 h
 rw [List.drop_eq_getElem_cons (by simpa using hj)]
 simp [e]
theorem SlEls.hd {w : World} {a : Option Addr} {n cap : Nat} {ys : List (Rep_ × Int)} {B : List Nat} (h : SlEls 13 HdR w (.slice a n cap) ys B) {i : Nat} (hi : i < n) :
  ∃ (b o : Nat) (y : Rep_ × Int) (a3 : Option Addr) (n3 c3 : Nat),a = some ⟨b,o,none⟩ ∧ ys[i]? = some y ∧ w.rangeAt b (o + i * 13) (hdc y (.slice a3 n3 c3)).toList:=by
 obtain ⟨b,o,ca,y,B1,h1,-,h2,h3,h4,h5⟩:=h.ca hi
 obtain ⟨a3,n3,c3,rfl,-,-⟩:=h3.lit
 exact ⟨b,o,y,a3,n3,c3,h1,h2,h5⟩
theorem one_hdc (y : Rep_ × Int) (a : Option Addr) (n c : Nat) : ∀ u ∈ (hdc y (.slice a n c)).toList,u.oneCell' = true:=by
 intro u hu
 simp only [hdc,List.mem_cons,List.not_mem_nil,or_false] at hu
 rcases hu with rfl | rfl | rfl | rfl | rfl | rfl | rfl | rfl | rfl | rfl | rfl | rfl | rfl <;> rfl
theorem minHeld_any {w : World} {g mb : Nat} {d : PkD} {vr : Value} {turn : Int} (hB : Box w g 90 (pkc d mb vr turn)) (hb : ∀ h,d.hi = some h → 40000 ≤ h ∧ h ≤ 4611686018427300000) {x : Nat} (hx : Box w x 27 #[.pointer (some ⟨g,0,none⟩)]) {v : Value} {ys : List (Rep_ × Int)} {B : List Nat} (hs : SlEls 13 HdR w v ys B) (hnz : ∀ y ∈ ys,¬(y.1.m.hi = 0 ∧ y.1.m.lo = 0)) (hpos : 0 < ys.length) (hl : ys.length ≤ 1000) :
  Calls Tryz.prog 89 #[v,.func (.func 90) #[] #[.pointer (some ⟨x,0,none⟩)]] w fun e w' => ∃ v',e = .returned v' ∧ (∃ (y : Rep_ × Int) (a : Option Addr) (n c : Nat),v' = .agg (hdc y (.slice a n c)) ∧ ys[minAt d.first (ys.map Prod.fst)]? = some y) ∧ Fr [] w w':=by
 obtain ⟨av,cv,rfl⟩:=hs.shape
 obtain ⟨w1,e1,hF1,hG1,hs1⟩:=one_new w #[.int .u8 0,.int .u8 0,.int .u8 0,.int .u8 0,.int .u8 0,.int .u8 0,.int .u8 0,.int .u8 0,.int .u16 0,.int .u64 0,.int .u64 0,.slice none 0 0,.int .i64 0] 144
 have HB:=Hd (hB.keep hF1);have HX:=Hd (hx.keep hF1);have HS:=Hd (hs.keep Rep.held hF1);have HF:=Hd hF1;have E1:=Hd e1;have HI:=Hd hb;have HNZ:=Hd hnz;have HG4:=Hd hG1
 have HZ1 : Hid (w1.heap.size = w.heap.size + 1):=Hd hs1
 have HLT0 : Hid (g < w.heap.size ∧ x < w.heap.size):=Hd ⟨hB.lt,hx.lt⟩
 clear hB hx hs hF1 e1 hs1 hb hnz hG1
 go_enter Tryz.func89,Tryz.ntmps89
 go_upto_region 1 with fail
 rw [E1.out]
 clear E1
 obtain ⟨b,o,y,a3,n3,c3,ea,hy,hrg⟩:=HS.out.hd hpos
 subst ea
 have HRG:=Hd hrg;have HY0:=Hd hy
 clear hrg hy
 rw [Nat.zero_mul,Nat.add_zero] at HRG
 go_upto_region 4 with (first | (refine wpList_load_midA rfl 144 (.tmp 12) rfl b o rfl (hdc y (.slice a3 n3 c3)) _ HRG.out Tryz.underlying144 rfl (by kernel_rfl) ?_) | (refine wpList_store_row rfl 144 (.tmp 5) (.tmp 13) rfl w1.heap.size rfl #[.int .u8 0,.int .u8 0,.int .u8 0,.int .u8 0,.int .u8 0,.int .u8 0,.int .u8 0,.int .u8 0,.int .u16 0,.int .u64 0,.int .u64 0,.slice none 0 0,.int .i64 0] (hdc y (.slice a3 n3 c3)) rfl 144 (Box.new w1 144 #[.int .u8 0,.int .u8 0,.int .u8 0,.int .u8 0,.int .u8 0,.int .u8 0,.int .u8 0,.int .u8 0,.int .u16 0,.int .u64 0,.int .u64 0,.slice none 0 0,.int .i64 0]) (by kernel_rfl) rfl (one_hdc y a3 n3 c3) ?_;intro w3 hY hG;have hFn:=((Fr.refl [] w1).alloc _).step hG (by simp);have HFn:=Hd hFn;have HYB:=Hd hY;clear hG hFn hY))
 have HSL0 : Hid (∀ z,(z ∈ B ∨ liveOf (.slice (some ⟨b,o,none⟩) ys.length cv) = some z) → z < w1.heap.size):=Hd (fun z hz => by
  rcases hz with hz | hz
  ·exact (HS.out.lt Rep.held).1 z hz
  ·exact (HS.out.lt Rep.held).2 z hz)
 have HG4:=Hd (HG4.out.keep HFn.out)
 have HB:=Hd (HB.out.keep HFn.out);have HX:=Hd (HX.out.keep HFn.out);have HS:=Hd (HS.out.keep Rep.held HFn.out);have HF:=Hd (HF.out.trans HFn.out)
 have HLT : Hid (g < w1.heap.size ∧ x < w1.heap.size ∧ w.heap.size < w1.heap.size):=Hd (by
  have:=HZ1.out
  have:=HLT0.out
  omega)
 have HSL : Hid (∀ z,(z ∈ B ∨ liveOf (.slice (some ⟨b,o,none⟩) ys.length cv) = some z) → z < w1.heap.size):=Hd (fun z hz => HSL0.out z hz)
 generalize w1.heap.size = X at *
 clear HFn HRG
 have HST : Hid (minAtF d.first ((ys.map Prod.fst).drop 1) 1 0 (d.first y.1) = minAt d.first (ys.map Prod.fst)):=Hd (by
  have h1:=drop_map HY0.out
  rw [List.drop_zero] at h1
  rw [h1]
  rfl)
 go_upto_region 5 with fail
 go_loopw [6] (fun iv wr => ∃ (j a : Nat) (y : Rep_ × Int) (a0 : Option Addr) (n0 c0 : Nat),iv = .int .i64 j ∧ 1 ≤ j ∧ j ≤ ys.length ∧ ys[a]? = some y ∧ minAtF d.first ((ys.map Prod.fst).drop j) j a (d.first y.1) = minAt d.first (ys.map Prod.fst) ∧ Box wr X 144 (hdc y (.slice a0 n0 c0)) ∧ Fr [X] w3 wr) (fun iv _ => ys.length - (Go.RowKit.intOf iv).toNat)
 case atStart => exact ⟨1,0,y,a3,n3,c3,rfl,Nat.le_refl _,hpos,HY0.out,HST.out,HYB.out,Fr.refl _ _⟩
 case round =>
  clear HST HYB HY0
  obtain ⟨j,a,y1,a0,n0,c0,rfl,h1j,hjn,hya,hmin,hbox,hF⟩:=hrel
  have HYA:=Hd hya;have HMIN:=Hd hmin;have HY:=Hd hbox;have HFX:=Hd hF
  have HB:=Hd (HB.out.fr hF (by have:=HLT.out;simp;omega));have HX:=Hd (HX.out.fr hF (by have:=HLT.out;simp;omega));have HG4:=Hd (HG4.out.fr hF (by have:=HLT.out;simp;omega))
  have HS:=Hd (HS.out.fr Rep.held hF (fun z hz hm => by rw [List.mem_singleton] at hm;subst hm;have:=HSL.out z (.inl hz);omega) (fun z hz hm => by rw [List.mem_singleton] at hm;subst hm;have:=HSL.out z (.inr hz);omega))
  have HF:=Hd (HF.out.step hF (fun z hz => by rw [List.mem_singleton] at hz;subst hz;exact .inr (by have:=HLT.out;omega)))
  have HFW:=HFX
  clear hya hmin hbox hF HFX
  by_cases hlt : j < ys.length
  ·obtain ⟨b',o',y,a3,n3,c3,ea,hy,hrg⟩:=HS.out.hd hlt
   simp only [Option.some.injEq,Addr.mk.injEq,and_true] at ea
   obtain ⟨rfl,rfl⟩:=ea
   have HRG:=Hd hrg;have HYJ:=Hd hy
   have HNJ:=Hd (HNZ.out y (List.mem_of_getElem? hy));have HNA:=Hd (HNZ.out y1 (List.mem_of_getElem? HYA.out))
   have HDJ:=Hd (drop_map hy)
   clear hrg hy
   go_upto_region 7 with fail
   refine wp_region_T (fun w' => Fr [] wr.drew w') [] 8 #[false,false,false,false,false,false,false,false] (by kernel_rfl) rfl rfl ?_
   try simp only [List.append_eq,List.cons_append,List.nil_append]
   have hF:=(Fr.refl [] wr).drew
   have HB:=Hd (HB.out.keep hF);have HX:=Hd (HX.out.keep hF);have HY:=Hd (HY.out.keep hF);have HF:=Hd (HF.out.quiet hF);have HFW:=Hd (HFW.out.quiet hF);have HS:=Hd (HS.out.keep Rep.held hF);have HRG:=Hd (fr_rngB hF HRG.out (by simp))
   clear hF
   have HSS : Hid (Fr [] wr.drew wr.drew):=Hd (Fr.refl _ _)
   generalize wr.drew = wd at *
   refine wL 0 ?_ rfl (by kernel_rfl) (fun _ _ _ h => h) HSS.out (by rfl) ?_ ?_
   rotate_left
   ·intro w hSw;go_simp;try with_reducible rfl
   simp only [Act.put,zz1,zz2,zz3,zz4,zz5,zz6]
   refine wL 1 ?_ rfl (by kernel_rfl) (fun _ _ _ h => h) HSS.out (by rfl) ?_ ?_
   rotate_left
   ·intro w hSw;go_simp;try with_reducible rfl
   simp only [Act.put,zz1,zz2,zz3,zz4,zz5,zz6]
   refine wL 2 ?_ rfl (by kernel_rfl) (fun _ _ _ h => h) HSS.out (by rfl) ?_ ?_
   rotate_left
   ·intro w hSw;go_simp;try with_reducible rfl
   simp only [Act.put,zz1,zz2,zz3,zz4,zz5,zz6]
   refine wL 3 ?_ rfl (by kernel_rfl) (fun _ _ _ h => h) HSS.out (by rfl) ?_ ?_
   rotate_left
   ·intro w hSw;go_simp;try with_reducible rfl
   simp only [Act.put,zz1,zz2,zz3,zz4,zz5,zz6]
   refine wL 4 ?_ rfl (by kernel_rfl) (fun _ _ _ h => h) HSS.out (by rfl) ?_ ?_
   rotate_left
   ·intro w' hSw;refine run_load_mid_ask 144 (.tmp 23) ?_ b (o + j * 13) ?_ (hdc y (.slice a3 n3 c3)) _ (fr_rngB hSw HRG.out (by simp)) Tryz.underlying144 rfl (by kernel_rfl) <;> rfl
   simp only [Act.put,zz1,zz2,zz3,zz4,zz5,zz6]
   refine wL 5 ?_ rfl (by kernel_rfl) (fun _ _ _ h => h) HSS.out (by rfl) ?_ ?_
   rotate_left
   ·intro w' hSw;refine run_load_row 144 (.tmp 5) ?_ X ?_ 144 _ _ (HY.out.keep hSw) Tryz.underlying144 rfl (by kernel_rfl) <;> rfl
   simp only [Act.put,zz1,zz2,zz3,zz4,zz5,zz6]
   refine wpAnyT_one (i:=6) (by kernel_rfl) rfl (fun K hK => ?_)
   rw [if_pos (by rfl)]
   go_simp
   refine (pkRoom1_any HB.out HI.out HX.out HNJ.out HNA.out a3 a0 n3 c3 n0 c0).mono ?_
   rintro e wq ⟨rfl,hF⟩
   have HSS:=Hd (HSS.out.trans hF)
   have HB:=Hd (HB.out.keep hF);have HX:=Hd (HX.out.keep hF);have HY:=Hd (HY.out.keep hF);have HF:=Hd (HF.out.quiet hF);have HFW:=Hd (HFW.out.quiet hF);have HS:=Hd (HS.out.keep Rep.held hF);have HRG:=Hd (fr_rngB hF HRG.out (by simp))
   clear hF
   go_simp
   refine hK.out _ _ (fun _ => HSS.out) ?_
   clear hK K
   simp only [Act.put,zz1,zz2,zz3,zz4,zz5,zz6]
   refine wL 7 ?_ rfl (by kernel_rfl) (fun _ _ _ h => h) HSS.out (by rfl) ?_ ?_
   rotate_left
   ·intro w hSw;go_simp;try with_reducible rfl
   simp only [Act.put,zz1,zz2,zz3,zz4,zz5,zz6]
   refine wpAnyT_done (by kernel_rfl) ?_ _
   obtain ⟨tb,htb⟩ : ∃ tb,decide (d.first y.1 - d.first y1.1 < 0) = tb:=⟨_,rfl⟩
   rw [htb]
   cases tb
   rotate_left
   ·have HFL : Hid (d.first y.1 < d.first y1.1):=Hd (by have:=of_decide_eq_true htb;omega)
    have HM2 : Hid (minAtF d.first ((ys.map Prod.fst).drop (j + 1)) (j + 1) j (d.first y.1) = minAt d.first (ys.map Prod.fst)):=Hd (by rw [← HMIN.out,HDJ.out,minAtF_lt HFL.out])
    clear htb
    go_wp2_with (first | (refine wpList_load_midA rfl 144 (.tmp 30) rfl b (o + j * 13) rfl (hdc y (.slice a3 n3 c3)) _ HRG.out Tryz.underlying144 rfl (by kernel_rfl) ?_) | (refine wpList_store_row rfl 144 (.tmp 5) (.tmp 31) rfl X rfl _ (hdc y (.slice a3 n3 c3)) rfl 144 HY.out (by kernel_rfl) rfl (one_hdc y a3 n3 c3) ?_;intro w9 hY hG;have HY9:=Hd hY;have HG9:=Hd hG;clear hY hG))
    go_roundw
    case rel => refine ⟨j + 1,j,y,a3,n3,c3,?_,by omega,by omega,HYJ.out,HM2.out,HY9.out,HFW.out.trans HG9.out⟩;go_num
    case measure => simp [Go.RowKit.intOf];omega
   ·have HFL : Hid (¬ d.first y.1 < d.first y1.1):=Hd (by have:=of_decide_eq_false htb;omega)
    have HM2 : Hid (minAtF d.first ((ys.map Prod.fst).drop (j + 1)) (j + 1) a (d.first y1.1) = minAt d.first (ys.map Prod.fst)):=Hd (by rw [← HMIN.out,HDJ.out,minAtF_ge HFL.out])
    clear htb
    go_wp2_with fail
    go_roundw
    case rel => refine ⟨j + 1,a,y1,a0,n0,c0,?_,by omega,by omega,HYA.out,HM2.out,HY.out,HFW.out⟩;go_num
    case measure => simp [Go.RowKit.intOf];omega
  ·obtain rfl : j = ys.length:=by omega
   have HME : Hid (minAt d.first (ys.map Prod.fst) = a):=Hd (by
    rw [← HMIN.out,List.drop_of_length_le (by simp)]
    rfl)
   clear hlt
   go_wp2_with (first | (refine wpList_load_row_w rfl 144 (.tmp 5) rfl X rfl 144 _ _ HY.out Tryz.underlying144 rfl (by kernel_rfl) ?_) | (refine wpList_store_row rfl 144 (.tmp 4) (.tmp 32) rfl w.heap.size rfl _ (hdc y1 (.slice a0 n0 c0)) rfl 144 HG4.out (by kernel_rfl) rfl (one_hdc y1 a0 n0 c0) ?_;intro w9 hY hG;have HY9:=Hd hY;have HG9:=Hd hG;clear hY hG))
   refine bodyPost_ret (results_cell_row rfl _ _ w.heap.size 144 _ (0,0) _ rfl HY9.out Tryz.underlying144 rfl (by kernel_rfl)) rfl ⟨_,rfl,⟨y1,a0,n0,c0,rfl,by rw [HME.out];exact HYA.out⟩,HF.out.step HG9.out (fun z hz => by rw [List.mem_singleton] at hz;subst hz;exact .inr (Nat.le_refl _))⟩
end Go.Proofs.YtcngfbjmpemehaaGreat

/- The walk of peel's room (printed by gen_pk17.py). -/
namespace Go.Proofs.YtcngfbjmpemehaaGreat
open Go.RowKit Go.Maps

theorem map_erase : ∀ (hs : List (Rep_ × Int)) (i : Nat),(hs.eraseIdx i).map Prod.fst = (hs.map Prod.fst).eraseIdx i
 | [],_ => rfl
 | x :: hs,0 => rfl
 | x :: hs,i + 1 => by rw [List.eraseIdx_cons_succ,List.map_cons,map_erase hs i];rfl
theorem filter_erase : ∀ {hs : List (Rep_ × Int)} {i : Nat} {y : Rep_ × Int},(hs.map Prod.snd).Nodup → hs[i]? = some y → hs.filter (fun x => !(x.2 == y.2)) = hs.eraseIdx i
 | [],i,y,_,h => by simp at h
 | x :: hs,0,y,hn,h => by
  simp only [zz9,Option.some.injEq] at h
  subst h
  rw [List.map_cons,List.nodup_cons] at hn
  rw [List.filter_cons_of_neg (by simp),List.eraseIdx_zero,List.tail_cons]
  refine List.filter_eq_self.2 fun z hz => ?_
  have : z.2 ≠ x.2:=fun e => hn.1 (List.mem_map.2 ⟨z,hz,e⟩)
  simpa using this
 | x :: hs,i + 1,y,hn,h => by
  rw [zz8] at h
  rw [List.map_cons,List.nodup_cons] at hn
  have hy:=List.mem_of_getElem? h
  have : x.2 ≠ y.2:=fun e => hn.1 (List.mem_map.2 ⟨y,hy,e.symm⟩)
  rw [List.filter_cons_of_pos (by simpa using this),List.eraseIdx_cons_succ,filter_erase hn.2 h]
def RoomR (base : Nat) (own no : List Nat) (g mb : Nat) (d : PkD) (hs : List (Rep_ × Int)) (turn : Int) (r : Rep_) (w' : World) : Prop :=
 (∀ l,d.room r = some l → ∃ hs',PkW w' base own no g mb { d with rep:=l } hs' turn ∧ l = hs'.map Prod.fst ∧ hs'.Sublist hs ∧ hs'.length < d.r) ∧ (d.room r = none → PkW w' base own no g mb d hs turn)
theorem room_less {d : PkD} {hs : List (Rep_ × Int)} (hr : d.rep = hs.map Prod.fst) (h : hs.length < d.r) (r : Rep_) : d.room r = some d.rep:=by
 unfold PkD.room
 rw [if_pos (by rw [hr,List.length_map];exact h)]
theorem room_more {d : PkD} {hs : List (Rep_ × Int)} (hr : d.rep = hs.map Prod.fst) (h : ¬ hs.length < d.r) {y : Rep_ × Int} (hy : hs[minAt d.first (hs.map Prod.fst)]? = some y) (r : Rep_) : d.room r = if d.first r < d.first y.1 then none else some ((hs.eraseIdx (minAt d.first (hs.map Prod.fst))).map Prod.fst):=by
 unfold PkD.room
 rw [if_neg (by rw [hr,List.length_map];exact h),hr]
 have : (hs.map Prod.fst)[minAt d.first (hs.map Prod.fst)]? = some y.1:=by rw [List.getElem?_map,hy];rfl
 rw [this]
 simp only
 rw [map_erase]
theorem pkRoom_any {w : World} {base : Nat} {own no : List Nat} {g mb N : Nat} {d : PkD} {hs : List (Rep_ × Int)} {turn : Int} (h : PkW w base own no g mb d hs turn) (hp : PkP d hs turn N) (hN : N < 1000000) {r : Rep_} (hnz : ¬(r.m.hi = 0 ∧ r.m.lo = 0)) (a : Option Addr) (n c : Nat) :
  Calls Tryz.prog 62 #[.pointer (some ⟨g,0,none⟩),.agg (rpc r (.slice a n c))] w fun e w' => e = .returned (.bool (d.room r).isSome) ∧ RoomR base own no g mb d hs turn r w' ∧ Fr own w w':=by
 have HP:=Hd hp
 obtain ⟨vr,B,D,hB,hO,hM,hv,hBB⟩:=h.ex
 obtain ⟨ar,cr,rfl⟩:=hO.shape
 obtain ⟨w1,e1,hF1,hX1,hR1,hs1⟩:=two_new w #[.pointer (some ⟨g,0,none⟩)] 27 (rpc r (.slice a n c)) 38
 have HH:=Hd (h.keep hF1);have HB:=Hd (hB.keep hF1);have HS:=Hd (hO.keep Rep.held hF1).sl;have HX:=Hd hX1;have HR:=Hd hR1;have HF:=Hd hF1;have E1:=Hd e1
 have HI:=Hd (hp.bd (by omega));have HNZ:=Hd hnz;have HNS:=Hd hp.nz
 have HL : Hid (hs.length ≤ 1000):=Hd (by have:=hp.len;have:=hp.r;omega)
 have hln:=HL.out
 have hrl : d.r ≤ 16:=hp.r
 clear hB hO hM hv hBB hX1 hR1 hF1 e1 hs1 h hnz hp
 go_enter Tryz.func62,Tryz.ntmps62
 go_upto_region 1 with fail
 rw [E1.out]
 clear E1
 generalize w.heap.size = q at *
 refine wp_region_T (fun w' => Fr [] w1.drew w') [] 10 #[false,false,false,false,false,false,false,false,false,false] (by kernel_rfl) rfl rfl ?_
 try simp only [List.append_eq,List.cons_append,List.nil_append]
 have hF:=(Fr.refl [] w1).drew
 have HH:=Hd (HH.out.keep hF)
 have HB:=Hd (HB.out.keep hF)
 have HX:=Hd (HX.out.keep hF)
 have HR:=Hd (HR.out.keep hF)
 have HF:=Hd (HF.out.trans hF);have HS:=Hd (HS.out.keep Rep.held hF)
 clear hF
 have HSS : Hid (Fr [] w1.drew w1.drew):=Hd (Fr.refl _ _)
 generalize w1.drew = wd at *
 have HX0 : Hid (wd.cell? ⟨q,0,none⟩ = some (.pointer (some ⟨g,0,none⟩))):=Hd (by rw [HX.out.cell];rfl)
 have HB2 : Hid (wd.cell? ⟨g,2,none⟩ = some (.int .i64 (d.r : Nat))):=Hd (by rw [HB.out.cell];rfl)
 have HB6 : Hid (wd.cell? ⟨g,6,none⟩ = some (.slice ar hs.length cr)):=Hd (by rw [HB.out.cell];rfl)
 refine wL 0 ?_ rfl (by kernel_rfl) (fun _ _ _ h => h) HSS.out (by rfl) ?_ ?_
 rotate_left
 ·intro w hSw;have n0:=hSw.cellSome HX0.out (by simp);have n1:=hSw.cellSome HB2.out (by simp);have n2:=hSw.cellSome HB6.out (by simp);go_simp;try with_reducible rfl
 simp only [Act.put,zz1,zz2,zz3,zz4,zz5,zz6]
 refine wL 1 ?_ rfl (by kernel_rfl) (fun _ _ _ h => h) HSS.out (by rfl) ?_ ?_
 rotate_left
 ·intro w hSw;have n0:=hSw.cellSome HX0.out (by simp);have n1:=hSw.cellSome HB2.out (by simp);have n2:=hSw.cellSome HB6.out (by simp);go_simp;try with_reducible rfl
 simp only [Act.put,zz1,zz2,zz3,zz4,zz5,zz6]
 refine wL 2 ?_ rfl (by kernel_rfl) (fun _ _ _ h => h) HSS.out (by rfl) ?_ ?_
 rotate_left
 ·intro w hSw;have n0:=hSw.cellSome HX0.out (by simp);have n1:=hSw.cellSome HB2.out (by simp);have n2:=hSw.cellSome HB6.out (by simp);go_simp;try with_reducible rfl
 simp only [Act.put,zz1,zz2,zz3,zz4,zz5,zz6]
 refine wL 3 ?_ rfl (by kernel_rfl) (fun _ _ _ h => h) HSS.out (by rfl) ?_ ?_
 rotate_left
 ·intro w hSw;have n0:=hSw.cellSome HX0.out (by simp);have n1:=hSw.cellSome HB2.out (by simp);have n2:=hSw.cellSome HB6.out (by simp);go_simp;try with_reducible rfl
 simp only [Act.put,zz1,zz2,zz3,zz4,zz5,zz6]
 refine wL 4 ?_ rfl (by kernel_rfl) (fun _ _ _ h => h) HSS.out (by rfl) ?_ ?_
 rotate_left
 ·intro w hSw;have n0:=hSw.cellSome HX0.out (by simp);have n1:=hSw.cellSome HB2.out (by simp);have n2:=hSw.cellSome HB6.out (by simp);go_simp;try with_reducible rfl
 simp only [Act.put,zz1,zz2,zz3,zz4,zz5,zz6]
 refine wL 5 ?_ rfl (by kernel_rfl) (fun _ _ _ h => h) HSS.out (by rfl) ?_ ?_
 rotate_left
 ·intro w hSw;have n0:=hSw.cellSome HX0.out (by simp);have n1:=hSw.cellSome HB2.out (by simp);have n2:=hSw.cellSome HB6.out (by simp);go_simp;try with_reducible rfl
 simp only [Act.put,zz1,zz2,zz3,zz4,zz5,zz6]
 refine wL 6 ?_ rfl (by kernel_rfl) (fun _ _ _ h => h) HSS.out (by rfl) ?_ ?_
 rotate_left
 ·intro w hSw;have n0:=hSw.cellSome HX0.out (by simp);have n1:=hSw.cellSome HB2.out (by simp);have n2:=hSw.cellSome HB6.out (by simp);go_simp;try with_reducible rfl
 simp only [Act.put,zz1,zz2,zz3,zz4,zz5,zz6]
 refine wL 7 ?_ rfl (by kernel_rfl) (fun _ _ _ h => h) HSS.out (by rfl) ?_ ?_
 rotate_left
 ·intro w hSw;have n0:=hSw.cellSome HX0.out (by simp);have n1:=hSw.cellSome HB2.out (by simp);have n2:=hSw.cellSome HB6.out (by simp);go_simp;try with_reducible rfl
 simp only [Act.put,zz1,zz2,zz3,zz4,zz5,zz6]
 refine wL 8 ?_ rfl (by kernel_rfl) (fun _ _ _ h => h) HSS.out (by rfl) ?_ ?_
 rotate_left
 ·intro w hSw;have n0:=hSw.cellSome HX0.out (by simp);have n1:=hSw.cellSome HB2.out (by simp);have n2:=hSw.cellSome HB6.out (by simp);go_simp;try with_reducible rfl
 simp only [Act.put,zz1,zz2,zz3,zz4,zz5,zz6]
 refine wL 9 ?_ rfl (by kernel_rfl) (fun _ _ _ h => h) HSS.out (by rfl) ?_ ?_
 rotate_left
 ·intro w hSw;have n0:=hSw.cellSome HX0.out (by simp);have n1:=hSw.cellSome HB2.out (by simp);have n2:=hSw.cellSome HB6.out (by simp);go_simp;try with_reducible rfl
 simp only [Act.put,zz1,zz2,zz3,zz4,zz5,zz6]
 refine wpAnyT_done (by kernel_rfl) ?_ _
 by_cases htb : hs.length < d.r
 ·have HLE : Hid (d.room r = some d.rep):=Hd (room_less HP.out.rep htb r)
  have HLT : Hid (hs.length < d.r):=Hd htb
  have hd1 : decide (((hs.length : Nat) : Int) < ((d.r : Nat) : Int)) = true:=decide_eq_true (by omega)
  have hd2 : decide (hs.length < d.r) = true:=decide_eq_true htb
  clear HSS HB2 HB6
  go_wp2_with fail
  go_ret
  refine ⟨by rw [HLE.out];rfl,⟨fun l hl => ?_,fun e => (by rw [HLE.out] at e;cases e)⟩,HF.out.any⟩
  rw [HLE.out] at hl
  cases hl
  exact ⟨hs,HH.out,HP.out.rep,List.Sublist.refl _,HLT.out⟩
 have HLN : Hid (¬ hs.length < d.r):=Hd htb
 have HPO : Hid (0 < hs.length):=Hd (by have:=HP.out.r1;omega)
 have hd1 : decide (((hs.length : Nat) : Int) < ((d.r : Nat) : Int)) = false:=decide_eq_false (by omega)
 have hd2 : decide (hs.length < d.r) = false:=decide_eq_false htb
 clear HSS HB2
 have x0:=HX0.out
 have x6:=HB6.out
 go_wp2_with fail
 refine (minHeld_any HB.out HI.out HX.out HS.out HNS.out HPO.out HL.out).mono ?_
 rintro e w2 ⟨v',rfl,⟨y,a3,n3,c3,rfl,hy⟩,hF⟩
 have HY0:=Hd hy
 have HNY:=Hd (HNS.out y (List.mem_of_getElem? hy))
 have HH:=Hd (HH.out.keep hF);have HB:=Hd (HB.out.keep hF);have HX:=Hd (HX.out.keep hF);have HR:=Hd (HR.out.keep hF);have HF:=Hd (HF.out.trans hF)
 have HRM:=Hd (room_more HP.out.rep HLN.out hy r)
 clear hF hy x0 x6 HX0 HB6
 go_upto_region 4 with (refine wpList_store_row rfl 144 (.tmp 5) (.tmp 21) rfl w2.heap.size rfl #[.int .u8 0,.int .u8 0,.int .u8 0,.int .u8 0,.int .u8 0,.int .u8 0,.int .u8 0,.int .u8 0,.int .u16 0,.int .u64 0,.int .u64 0,.slice none 0 0,.int .i64 0] (hdc y (.slice a3 n3 c3)) rfl 144 (Box.new w2 144 #[.int .u8 0,.int .u8 0,.int .u8 0,.int .u8 0,.int .u8 0,.int .u8 0,.int .u8 0,.int .u8 0,.int .u16 0,.int .u64 0,.int .u64 0,.slice none 0 0,.int .i64 0]) (by kernel_rfl) rfl (one_hdc y a3 n3 c3) ?_;intro w4 hY hG;have hFn:=((Fr.refl [] w2).alloc _).step hG (by simp);have HFn:=Hd hFn;have HY:=Hd hY;clear hG hFn hY)
 have hF:=HFn.out
 have HH:=Hd (HH.out.keep hF);have HB:=Hd (HB.out.keep hF);have HX:=Hd (HX.out.keep hF);have HR:=Hd (HR.out.keep hF);have HF:=Hd (HF.out.trans hF)
 clear hF HFn
 generalize w2.heap.size = G at *
 refine wp_region_T (fun w' => Fr [] w4.drew w') [] 8 #[false,false,false,false,false,false,false,false] (by kernel_rfl) rfl rfl ?_
 try simp only [List.append_eq,List.cons_append,List.nil_append]
 have hF:=(Fr.refl [] w4).drew
 have HH:=Hd (HH.out.keep hF);have HB:=Hd (HB.out.keep hF);have HX:=Hd (HX.out.keep hF);have HR:=Hd (HR.out.keep hF);have HY:=Hd (HY.out.keep hF);have HF:=Hd (HF.out.trans hF)
 clear hF
 have HSS : Hid (Fr [] w4.drew w4.drew):=Hd (Fr.refl _ _)
 generalize w4.drew = we at *
 have HX0 : Hid (we.cell? ⟨q,0,none⟩ = some (.pointer (some ⟨g,0,none⟩))):=Hd (by rw [HX.out.cell];rfl)
 have HRY:=Hd (held_range HY.out);have HR0:=HR
 refine wL 0 ?_ rfl (by kernel_rfl) (fun _ _ _ h => h) HSS.out (by rfl) ?_ ?_
 rotate_left
 ·intro w hSw;have n0:=hSw.cellSome HX0.out (by simp);go_simp;try with_reducible rfl
 simp only [Act.put,zz1,zz2,zz3,zz4,zz5,zz6]
 refine wL 1 ?_ rfl (by kernel_rfl) (fun _ _ _ h => h) HSS.out (by rfl) ?_ ?_
 rotate_left
 ·intro w' hSw;refine run_load_row 38 (.tmp 3) ?_ (q + 1) ?_ 38 _ _ (HR0.out.keep hSw) Tryz.underlying38 rfl (by kernel_rfl) <;> rfl
 simp only [Act.put,zz1,zz2,zz3,zz4,zz5,zz6]
 refine wL 3 ?_ rfl (by kernel_rfl) (fun _ _ _ h => h) HSS.out (by rfl) ?_ ?_
 rotate_left
 ·intro w hSw;have n0:=hSw.cellSome HX0.out (by simp);go_simp;try with_reducible rfl
 simp only [Act.put,zz1,zz2,zz3,zz4,zz5,zz6]
 refine wL 4 ?_ rfl (by kernel_rfl) (fun _ _ _ h => h) HSS.out (by rfl) ?_ ?_
 rotate_left
 ·intro w hSw;have n0:=hSw.cellSome HX0.out (by simp);go_simp;try with_reducible rfl
 simp only [Act.put,zz1,zz2,zz3,zz4,zz5,zz6]
 refine wL 5 ?_ rfl (by kernel_rfl) (fun _ _ _ h => h) HSS.out (by rfl) ?_ ?_
 rotate_left
 ·intro w' hSw;refine run_load_mid_ask 38 (.tmp 26) ?_ G 0 ?_ (rpc y.1 (.slice a3 n3 c3)) _ (fr_rngB hSw HRY.out (by simp)) Tryz.underlying38 rfl (by kernel_rfl) <;> rfl
 simp only [Act.put,zz1,zz2,zz3,zz4,zz5,zz6]
 refine wpAnyT_one (i:=2) (by kernel_rfl) rfl (fun K hK => ?_)
 rw [if_pos (by rfl)]
 go_simp
 refine (pkFirst_any HB.out HI.out HNZ.out a n c).mono ?_
 rintro e wq2 ⟨rfl,hF⟩
 have HSS:=Hd (HSS.out.trans hF)
 have HH:=Hd (HH.out.keep hF);have HB:=Hd (HB.out.keep hF);have HX:=Hd (HX.out.keep hF);have HR:=Hd (HR.out.keep hF);have HY:=Hd (HY.out.keep hF);have HF:=Hd (HF.out.trans hF)
 clear hF
 go_simp
 refine hK.out _ _ (fun _ => HSS.out) ?_
 clear hK K
 simp only [Act.put,zz1,zz2,zz3,zz4,zz5,zz6]
 refine wpAnyT_one (i:=6) (by kernel_rfl) rfl (fun K hK => ?_)
 rw [if_pos (by rfl)]
 go_simp
 refine (pkFirst_any HB.out HI.out HNY.out a3 n3 c3).mono ?_
 rintro e wq6 ⟨rfl,hF⟩
 have HSS:=Hd (HSS.out.trans hF)
 have HH:=Hd (HH.out.keep hF);have HB:=Hd (HB.out.keep hF);have HX:=Hd (HX.out.keep hF);have HR:=Hd (HR.out.keep hF);have HY:=Hd (HY.out.keep hF);have HF:=Hd (HF.out.trans hF)
 clear hF
 go_simp
 refine hK.out _ _ (fun _ => HSS.out) ?_
 clear hK K
 simp only [Act.put,zz1,zz2,zz3,zz4,zz5,zz6]
 refine wL 7 ?_ rfl (by kernel_rfl) (fun _ _ _ h => h) HSS.out (by rfl) ?_ ?_
 rotate_left
 ·intro w hSw;go_simp;try with_reducible rfl
 simp only [Act.put,zz1,zz2,zz3,zz4,zz5,zz6]
 refine wpAnyT_done (by kernel_rfl) ?_ _
 clear HSS HRY HR0
 have x0:=(HX.out.cell 0)
 simp only [zz7,zz9] at x0
 obtain ⟨tb,htb⟩ : ∃ tb,decide (d.first r < d.first y.1) = tb:=⟨_,rfl⟩
 rw [htb]
 cases tb
 rotate_left
 ·have HLE : Hid (d.room r = none):=Hd (HRM.out.trans (if_pos (of_decide_eq_true htb)))
  clear htb
  go_wp2_with fail
  go_ret
  exact ⟨by rw [HLE.out];rfl,⟨fun l hl => (by rw [HLE.out] at hl;cases hl),fun _ => HH.out⟩,HF.out.any⟩
 ·have HLE:=Hd (HRM.out.trans (if_neg (of_decide_eq_false htb)))
  have x12:=HY.out.cell 12
  simp only [hdc,zz7,zz8,zz9] at x12
  clear htb
  go_wp2_with fail
  refine (pkDrop_any HH.out HL.out y.2).mono ?_
  rintro e w6 ⟨rfl,hH,hF⟩
  have HFE:=Hd (filter_erase HP.out.nodup HY0.out)
  have HH6:=Hd hH;have HF:=Hd (HF.out.any.trans hF)
  clear hH hF x0 x12
  go_wp2_with fail
  go_ret
  refine ⟨by rw [HLE.out];rfl,⟨fun l hl => ?_,fun e => (by rw [HLE.out] at e;cases e)⟩,HF.out⟩
  rw [HLE.out] at hl
  cases hl
  have h6:=HH6.out
  rw [HFE.out] at h6
  refine ⟨_,h6,rfl,List.eraseIdx_sublist _ _,?_⟩
  rw [List.length_eraseIdx_of_lt (List.getElem?_eq_some_iff.1 HY0.out).1]
  have:=HP.out.len
  have:=HPO.out
  omega
end Go.Proofs.YtcngfbjmpemehaaGreat

/- The walk of peel's Repair (printed by gen_pk18.py). -/
namespace Go.Proofs.YtcngfbjmpemehaaGreat
open Go.RowKit Go.Maps

def GotPost2 (w : World) (base : Nat) (own no : List Nat) (g mb : Nat) (d : PkD) (hs : List (Rep_ × Int)) (turn : Int) (out : List (UInt16 × List UInt8 × Bool)) (v : Value) (w' : World) : Prop :=
 ∃ own' Bo no',PkW w' base own' no' g mb d hs turn ∧ SlEls 3 GotR w' v out Bo ∧ (∀ b ∈ Bo,w.heap.size ≤ b ∧ b ∈ no' ∧ b ∉ own') ∧ (∀ b,liveOf v = some b → w.heap.size ≤ b ∧ b ∈ no' ∧ b ∉ own') ∧ (∀ y ∈ own',y ∈ own ∨ w.heap.size ≤ y) ∧ (∀ b ∈ no,b ∈ no')
theorem GotPost.two {w : World} {base : Nat} {own no : List Nat} {g mb : Nat} {d : PkD} {hs : List (Rep_ × Int)} {turn : Int} {out : List (UInt16 × List UInt8 × Bool)} {v : Value} {w' : World} (h : GotPost w base own no g mb d hs turn out v w') (hl : ∀ b ∈ own,b < w.heap.size) : GotPost2 w base own no g mb d hs turn out v w':=by
 obtain ⟨Bo,no',h1,h2,h3,h4,h5⟩:=h
 exact ⟨own,Bo,no',h1,h2,fun b hb => ⟨(h3 b hb).1,(h3 b hb).2,fun hm => by have:=hl b hm;have:=(h3 b hb).1;omega⟩,fun b hb => ⟨(h4 b hb).1,(h4 b hb).2,fun hm => by have:=hl b hm;have:=(h4 b hb).1;omega⟩,fun y hy => .inl hy,h5⟩
theorem PkW.setTurn {w : World} {base : Nat} {own no : List Nat} {g mb : Nat} {d : PkD} {hs : List (Rep_ × Int)} {turn : Int} (h : PkW w base own no g mb d hs turn) (t' : Int) :
  ∃ w2,w.setCell ⟨g,7,none⟩ (.int .i64 t') = w2 ∧ Fr [g] w w2 ∧ PkW w2 base own no g mb d hs t' ∧ w.cell? ⟨g,7,none⟩ = some (.int .i64 turn) ∧ w.frozen? ⟨g,7,none⟩ = false:=by
 obtain ⟨⟨vr,B,D,hB,hO,hM,hv,hBB⟩,q1,q2,q3,q4,q5,q6⟩:=h
 obtain ⟨w2,e2,hF,hB2,hs2⟩:=set_new hB 7 (.int .i64 t')
 refine ⟨w2,e2,hF,⟨⟨vr,B,D,hB2,hO.fr Rep.held hF (fun b hb hm => ?_) (fun b hb hm => ?_),hM.fr hF (fun hm => ?_) (fun s hs => ?_),hv,hBB⟩,q1,q2,q3,q4,by omega,fun b hb => by have:=q6 b hb;omega⟩,by rw [hB.cell];rfl,hB.free 7⟩
 ·rw [List.mem_singleton] at hm
  exact (hBB b hb).2 (hm ▸ q1 _ q2)
 ·rw [List.mem_singleton] at hm
  exact (hv b hb).2.1 hm
 ·rw [List.mem_singleton] at hm
  exact q4 hm.symm
 ·rw [List.mem_singleton] at hs
  exact .inl (hs ▸ q1 _ q2)
theorem PkP.addRep {d : PkD} {hs : List (Rep_ × Int)} {turn : Int} {N : Nat} (h : PkP d hs turn N) {r : Rep_} (hlt : hs.length < d.r) (hno : d.lost r = false) (hnz : ¬(r.m.hi = 0 ∧ r.m.lo = 0)) (hsz : r.bt.body.length ≤ 1000000) : PkP { d with rep:=d.rep ++ [r] } (hs ++ [(r,turn + 1)]) (turn + 1) (N + 1) where
 good:=⟨h.good.pkt,h.good.win,h.good.uniq⟩
 rep:=by
  show d.rep ++ [r] = _
  rw [h.rep,List.map_append]
  rfl
 w1:=h.w1
 w:=h.w
 r1:=h.r1
 r:=h.r
 hi:=by
  obtain ⟨K,h1,h2⟩:=h.hi
  exact ⟨K,h1,by rw [List.length_append];simp;omega⟩
 sz:=h.sz
 rsz:=fun y hy => by
  rcases List.mem_append.1 hy with hy | hy
  ·exact h.rsz y hy
  ·rw [List.mem_singleton] at hy
   subst hy
   exact hsz
 nodup:=by
  rw [List.map_append]
  refine List.nodup_append.2 ⟨h.nodup,by simp,fun a ha b hb e => ?_⟩
  obtain ⟨y,hy,rfl⟩:=List.mem_map.1 ha
  have h1:=h.turns y hy
  simp at hb
  omega
 turns:=fun y hy => by
  rcases List.mem_append.1 hy with hy | hy
  ·have:=h.turns y hy;omega
  ·rw [List.mem_singleton] at hy
   subst hy
   exact Int.le_refl _
 len:=by rw [List.length_append];exact hlt
 nolost:=fun y hy => by
  rcases List.mem_append.1 hy with hy | hy
  ·exact h.nolost y hy
  ·rw [List.mem_singleton] at hy
   subst hy
   exact hno
 nz:=fun y hy => by
  rcases List.mem_append.1 hy with hy | hy
  ·exact h.nz y hy
  ·rw [List.mem_singleton] at hy
   subst hy
   exact hnz
 top:=h.top
theorem PkW.addHeld {w w3 w4 : World} {base : Nat} {own no : List Nat} {g mb : Nat} {d : PkD} {hs : List (Rep_ × Int)} {turn : Int} {vr vr' : Value} {B : List Nat} {D : DataW Value} {r : Rep_} {vb : Value} (h : PkW w base own no g mb d hs turn) (hB : Box w g 90 (pkc d mb vr turn)) (hM : MapB w base mb no D d.med) (hO : OwnEls 13 HdR w base 144 vr hs B) (hv : ∀ b,blockOf vr = some b → b ∈ own ∧ b ≠ g ∧ b ≠ mb) (hBB : ∀ b ∈ B,base ≤ b ∧ b ∉ no)
  (hvb : ∀ b,liveOf vb = some b → base ≤ b ∧ b ∉ no) (hF : Fr (blockOf vr).toList w w3) (hO3 : OwnEls 13 HdR w3 base 144 vr' (hs ++ [(r,turn)]) (B ++ (liveOf vb).toList)) (hv' : ∀ b,blockOf vr' = some b → blockOf vr = some b ∨ w.heap.size ≤ b)
  (hw4 : w3.setCell ⟨g,6,none⟩ vr' = w4) : PkW w4 base ((blockOf vr').toList ++ own) ((blockOf vr').toList ++ no) g mb { d with rep:=d.rep ++ [r] } (hs ++ [(r,turn)]) turn ∧ Fr ((blockOf vr).toList ++ [g]) w w4:=by
 have hgS : g ∉ (blockOf vr).toList:=fun hm => (hv _ (mem_toList.1 hm)).2.1 rfl
 have hmS : mb ∉ (blockOf vr).toList:=fun hm => (hv _ (mem_toList.1 hm)).2.2 rfl
 have hB3:=hB.fr hF hgS
 obtain ⟨w5,e5,hF5,hB5,hs5⟩:=set_new hB3 6 vr'
 rw [hw4] at e5
 subst e5
 have hglt:=hB.lt
 have hmlt:=hM.own.lt
 have hvg : ∀ b,blockOf vr' = some b → b ≠ g ∧ b ≠ mb:=fun b hb => by
  rcases hv' b hb with h1 | h1
  ·exact (hv b h1).2
  ·omega
 have hF4 : Fr ((blockOf vr).toList ++ [g]) w w4:=(hF.mono (fun x hx => List.mem_append_left _ hx)).trans (hF5.mono (fun x hx => List.mem_append_right _ hx))
 refine ⟨⟨⟨vr',_,D,hB5,hO3.fr Rep.held hF5 (fun b hb hm => ?_) (fun b hb hm => ?_),((hM.more (no':=(blockOf vr').toList ++ no) (fun y hy => ?_)).fr hF hmS (fun s hs => ?_)).fr hF5 (fun hm => ?_) (fun s hs => ?_),fun b hb => ⟨List.mem_append_left _ (mem_toList.2 hb),hvg b hb⟩,fun b hb => ?_⟩,fun b hb => ?_,List.mem_append_right _ h.gin,List.mem_append_right _ h.mbin,h.ne,Nat.le_trans h.low hF4.size,fun b hb => ?_⟩,hF4⟩
 ·rw [List.mem_singleton] at hm
  subst hm
  rcases List.mem_append.1 hb with hb | hb
  ·exact (hBB _ hb).2 (h.sub _ h.gin)
  ·exact (hvb _ (mem_toList.1 hb)).2 (h.sub _ h.gin)
 ·rw [List.mem_singleton] at hm
  exact (hvg b hb).1 hm
 ·rcases List.mem_append.1 hy with hy | hy
  ·rcases hv' y (mem_toList.1 hy) with h1 | h1
   ·exact .inl (h.sub _ (hv y h1).1)
   ·exact .inr (.inl h1)
  ·exact .inl hy
 ·exact .inl (List.mem_append_right _ (h.sub _ (hv s (mem_toList.1 hs)).1))
 ·rw [List.mem_singleton] at hm
  exact h.ne hm.symm
 ·rw [List.mem_singleton] at hs
  exact .inl (List.mem_append_right _ (hs ▸ h.sub _ h.gin))
 ·obtain ⟨c3,k1,k2,k3⟩:=hO3
  have hnb : ∀ z,blockOf vr' = some z → z ≠ b:=fun z hz e => k3 z hz (e ▸ hb)
  rcases List.mem_append.1 hb with hb2 | hb2
  ·refine ⟨(hBB b hb2).1,fun hm => ?_⟩
   rcases List.mem_append.1 hm with hm | hm
   ·exact hnb b (mem_toList.1 hm) rfl
   ·exact (hBB b hb2).2 hm
  ·refine ⟨(hvb b (mem_toList.1 hb2)).1,fun hm => ?_⟩
   rcases List.mem_append.1 hm with hm | hm
   ·exact hnb b (mem_toList.1 hm) rfl
   ·exact (hvb b (mem_toList.1 hb2)).2 hm
 ·rcases List.mem_append.1 hb with hb | hb
  ·exact List.mem_append_left _ hb
  ·exact List.mem_append_right _ (h.sub b hb)
 ·rcases List.mem_append.1 hb with hb | hb
  ·have:=(hO3.block b (mem_toList.1 hb)).2
   omega
  ·exact Nat.lt_of_lt_of_le (h.lt b hb) hF4.size
theorem els_one {w : World} {c : List Value} {y : Rep_ × Int} {B : List Nat} (h : HdR w c y B) : Els HdR [y] w c B:=⟨c,[],B,[],by simp,by simp,h,rfl,rfl⟩
theorem box_row {w : World} {g : Nat} {t : TypeId} {c : Array Value} (h : Box w g t c) : ∀ (j : Nat) (u : Value),c.toList[j]? = some u → w.cell? ((⟨g,0,none⟩ : Addr).add j) = some u:=fun j u hj => by
 rw [Addr.add_mid,Nat.zero_add,h.cell,← Array.getElem?_toList]
 exact hj
theorem pkRepair_any {w : World} {base : Nat} {own no : List Nat} {g mb N : Nat} {d : PkD} {hs : List (Rep_ × Int)} {turn : Int} (h : PkW w base own no g mb d hs turn) (hp : PkP d hs turn N) (hN : N + 1 < 1000000) (ht : 0 ≤ turn ∧ turn ≤ 1000000) {r : Rep_} {a : Option Addr} {n c : Nat} (hv : Bytes w (.slice a n c) r.bt.body) (hvo : ∀ y,liveOf (.slice a n c) = some y → y ∉ own) (hbl : r.bt.body.length ≤ 1000000) :
  Calls Tryz.prog 31 #[.pointer (some ⟨g,0,none⟩),.agg (rpc r (.slice a n c))] w fun e w' => ∃ v',e = .returned (.tuple #[v',.int .i64 (d.repair r).2.2]) ∧ (∃ hs' turn',turn ≤ turn' ∧ turn' ≤ turn + 1 ∧ GotPost2 w base own no g mb (d.repair r).1 hs' turn' (d.repair r).2.1 v' w' ∧ PkP (d.repair r).1 hs' turn' (N + 1) ∧ Fr own w w'):=by
 have HP:=Hd hp;have HVO:=Hd hvo
 obtain ⟨w1,e1,hF1,hX1,hs1⟩:=one_new w (rpc r (.slice a n c)) 38
 have HH:=Hd (h.grow hF1 (new:=[w.heap.size]) (fun y hy => by rw [List.mem_singleton] at hy;subst hy;exact ⟨Nat.le_refl _,hX1.lt⟩));have HX:=Hd hX1;have HV:=Hd (Sl.keep hv hF1);have HF:=Hd hF1;have E1:=Hd e1
 have HI:=Hd (hp.bd (by omega));have HW:=Hd hp.w
 have HBS : Hid (r.bt.body.length ≤ 1099511627776):=Hd (by omega)
 have HOL : Hid (∀ b ∈ own,b < w.heap.size):=Hd (fun b hb => h.lt b (h.sub b hb))
 have HNL : Hid (∀ b ∈ no,b < w.heap.size):=Hd h.lt
 have HQO : Hid (w.heap.size ∉ own):=Hd (fun hm => by have:=h.lt _ (h.sub _ hm);omega)
 have HLOW:=Hd h.low
 have x9:=hX1.cell 9;have x10:=hX1.cell 10
 simp only [rpc,zz7,zz8,zz9] at x9 x10
 clear h hp hv hvo hF1 hX1 hs1 e1
 go_enter Tryz.func31,Tryz.ntmps31
 go_upto_region 1 with fail
 rw [E1.out]
 clear E1
 generalize hq : w.heap.size = q at *
 have HQE:=Hd hq
 clear hq
 by_cases hz : r.m.hi = 0 ∧ r.m.lo = 0
 ·have HM : Hid (d.repair r = (d,[],30)):=Hd (by unfold PkD.repair;rw [if_pos hz])
  have t1 : (((r.m.hi.toNat : Nat) : Int) == 0) = true:=by rw [bv_beq0];simpa using hz.1
  have t2 : (((r.m.lo.toNat : Nat) : Int) == 0) = true:=by rw [bv_beq0];simpa using hz.2
  clear hz
  go_wp2_with fail
  go_ret2
  rw [HM.out]
  exact ⟨_,rfl,hs,turn,by omega,by omega,⟨own,[],_,HH.out,SlEls.nil _,by simp,(fun b hb => by cases hb),fun y hy => .inl hy,fun b hb => List.mem_append_right _ hb⟩,HP.out.mono (by omega),HF.out.any⟩
 have HNZ:=Hd hz
 go_cut [6] (fun tv wx => tv = .bool false ∧ w1 = wx)
 case first =>
  by_cases h1 : r.m.hi = 0
  ·have t1 : (((r.m.hi.toNat : Nat) : Int) == 0) = true:=by rw [bv_beq0];simpa using h1
   have t2 : (((r.m.lo.toNat : Nat) : Int) == 0) = false:=by rw [bv_beq0];simpa using fun e => hz ⟨h1,e⟩
   clear h1 hz
   go_wp2_with fail
   go_meet
   exact ⟨rfl,rfl⟩
  ·have t1 : (((r.m.hi.toNat : Nat) : Int) == 0) = false:=by rw [bv_beq0];simpa using h1
   clear h1 hz
   go_wp2_with fail
   go_meet
   exact ⟨rfl,rfl⟩
 case rest =>
  obtain ⟨rfl,rfl⟩:=hcut
  clear hz x9 x10
  go_upto_region 3 with fail
  have HRE : Hid (d.repair r = if d.lost r = true then ((d,[],50) : PkD × List (UInt16 × List UInt8 × Bool) × Int) else if (restL d.has d.ss r).2.length = 0 then (d,[],40) else match d.room r with
   | none => ((d,[],50) : PkD × List (UInt16 × List UInt8 × Bool) × Int)
   | some l => (({ d with rep:=l ++ [r] } : PkD).tell.1,({ d with rep:=l ++ [r] } : PkD).tell.2.map (fun x => (x.1,x.2,true)),0)):=Hd (by unfold PkD.repair;rw [if_neg HNZ.out];first | rfl | (cases d.room r <;> rfl))
  obtain ⟨vr0,B0,D0,hB0,-,hM0,-⟩:=HH.out.ex
  have HB0:=Hd hB0;have HM0:=Hd hM0
  clear hB0 hM0
  go_wp2_with (refine wpList_load_row_w rfl 38 (.tmp 3) rfl q rfl 38 _ _ HX.out Tryz.underlying38 rfl (by kernel_rfl) ?_)
  refine (pkLost_any HB0.out HM0.out HI.out HW.out r a n c).mono ?_
  rintro e w2 ⟨rfl,hF⟩
  have HH:=Hd (HH.out.keep hF);have HX:=Hd (HX.out.keep hF);have HV:=Hd (Sl.keep HV.out hF);have HF:=Hd (HF.out.trans hF)
  clear hF HB0 HM0
  have HLO : Hid (d.lost r = d.lost r):=Hd rfl
  generalize hlb : d.lost r = lb at *
  have HLB:=Hd hlb
  clear hlb HLO
  cases lb
  rotate_left
  ·have HM:=Hd (HRE.out.trans (if_pos rfl))
   go_wp2_with fail
   go_ret2
   rw [HM.out]
   exact ⟨_,rfl,hs,turn,by omega,by omega,⟨own,[],_,HH.out,SlEls.nil _,by simp,(fun b hb => by cases hb),fun y hy => .inl hy,fun b hb => List.mem_append_right _ hb⟩,HP.out.mono (by omega),HF.out.any⟩
  have HRE:=Hd (HRE.out.trans (if_neg (by simp)))
  go_upto_region 5 with fail
  refine wp_region_T (fun w' => Fr [] w2.drew w') [] 10 #[false,false,false,false,false,false,false,false,false,false] (by kernel_rfl) rfl rfl ?_
  try simp only [List.append_eq,List.cons_append,List.nil_append]
  have hF:=(Fr.refl [] w2).drew
  have HH:=Hd (HH.out.keep hF);have HX:=Hd (HX.out.keep hF);have HV:=Hd (Sl.keep HV.out hF);have HF:=Hd (HF.out.trans hF)
  clear hF
  have HSS : Hid (Fr [] w2.drew w2.drew):=Hd (Fr.refl _ _)
  generalize w2.drew = wd at *
  have HC0 : Hid (wd.cell? ⟨g,0,none⟩ = some (.int .u32 (d.ss.toNat : Nat))):=Hd (by
   obtain ⟨vr,B,D,hB,-⟩:=HH.out.ex
   rw [hB.cell]
   rfl)
  refine wL 0 ?_ rfl (by kernel_rfl) (fun _ _ _ h => h) HSS.out (by rfl) ?_ ?_
  rotate_left
  ·intro w' hSw;refine run_load_row 38 (.tmp 3) ?_ q ?_ 38 _ _ (HX.out.keep hSw) Tryz.underlying38 rfl (by kernel_rfl) <;> rfl
  simp only [Act.put,zz1,zz2,zz3,zz4,zz5,zz6]
  refine wL 1 ?_ rfl (by kernel_rfl) (fun _ _ _ h => h) HSS.out (by rfl) ?_ ?_
  rotate_left
  ·intro w hSw;have n0:=hSw.cellSome HC0.out (by simp);go_simp;try with_reducible rfl
  simp only [Act.put,zz1,zz2,zz3,zz4,zz5,zz6]
  refine wL 2 ?_ rfl (by kernel_rfl) (fun _ _ _ h => h) HSS.out (by rfl) ?_ ?_
  rotate_left
  ·intro w hSw;have n0:=hSw.cellSome HC0.out (by simp);go_simp;try with_reducible rfl
  simp only [Act.put,zz1,zz2,zz3,zz4,zz5,zz6]
  refine wL 3 ?_ rfl (by kernel_rfl) (fun _ _ _ h => h) HSS.out (by rfl) ?_ ?_
  rotate_left
  ·intro w hSw;have n0:=hSw.cellSome HC0.out (by simp);go_simp;try with_reducible rfl
  simp only [Act.put,zz1,zz2,zz3,zz4,zz5,zz6]
  refine wL 4 ?_ rfl (by kernel_rfl) (fun _ _ _ h => h) HSS.out (by rfl) ?_ ?_
  rotate_left
  ·intro w hSw;have n0:=hSw.cellSome HC0.out (by simp);go_simp;try with_reducible rfl
  simp only [Act.put,zz1,zz2,zz3,zz4,zz5,zz6]
  refine wL 5 ?_ rfl (by kernel_rfl) (fun _ _ _ h => h) HSS.out (by rfl) ?_ ?_
  rotate_left
  ·intro w hSw;have n0:=hSw.cellSome HC0.out (by simp);go_simp;try with_reducible rfl
  simp only [Act.put,zz1,zz2,zz3,zz4,zz5,zz6]
  refine wL 6 ?_ rfl (by kernel_rfl) (fun _ _ _ h => h) HSS.out (by rfl) ?_ ?_
  rotate_left
  ·intro w hSw;have n0:=hSw.cellSome HC0.out (by simp);go_simp;try with_reducible rfl
  simp only [Act.put,zz1,zz2,zz3,zz4,zz5,zz6]
  refine wpAnyT_one (i:=7) (by kernel_rfl) rfl (fun K hK => ?_)
  rw [if_pos (by rfl)]
  go_simp
  obtain ⟨vr,B,D,hB,-,hM,-⟩:=HH.out.ex
  refine (svCount_any (r:=r) ⟨_,rfl,HV.out⟩ HBS.out (pk_knows hB hM HI.out) d.ss).mono ?_
  rintro e wq ⟨rfl,hF⟩
  have HSS:=Hd (HSS.out.trans hF)
  have HH:=Hd (HH.out.keep hF);have HX:=Hd (HX.out.keep hF);have HV:=Hd (Sl.keep HV.out hF);have HF:=Hd (HF.out.trans hF)
  clear hF hB hM HC0
  go_simp
  refine hK.out _ _ (fun _ => HSS.out) ?_
  clear hK K
  simp only [Act.put,zz1,zz2,zz3,zz4,zz5,zz6]
  refine wL 8 ?_ rfl (by kernel_rfl) (fun _ _ _ h => h) HSS.out (by rfl) ?_ ?_
  rotate_left
  ·intro w hSw;go_simp;try with_reducible rfl
  simp only [Act.put,zz1,zz2,zz3,zz4,zz5,zz6]
  refine wL 9 ?_ rfl (by kernel_rfl) (fun _ _ _ h => h) HSS.out (by rfl) ?_ ?_
  rotate_left
  ·intro w hSw;go_simp;try with_reducible rfl
  simp only [Act.put,zz1,zz2,zz3,zz4,zz5,zz6]
  refine wpAnyT_done (by kernel_rfl) ?_ _
  clear HSS
  generalize (restL d.has d.ss r).2.length = k at *
  by_cases hk : k = 0
  ·have HM:=Hd (HRE.out.trans (if_pos hk))
   subst hk
   go_wp2_with fail
   go_ret2
   rw [HM.out]
   exact ⟨_,rfl,hs,turn,by omega,by omega,⟨own,[],_,HH.out,SlEls.nil _,by simp,(fun b hb => by cases hb),fun y hy => .inl hy,fun b hb => List.mem_append_right _ hb⟩,HP.out.mono (by omega),HF.out.any⟩
  have HRE:=Hd (HRE.out.trans (if_neg hk))
  have hkb : (((k : Nat) : Int) == 0) = false:=beq_eq_false_iff_ne.2 (by omega)
  clear hk
  go_wp2_with (refine wpList_load_row_w rfl 38 (.tmp 3) rfl q rfl 38 _ _ HX.out Tryz.underlying38 rfl (by kernel_rfl) ?_)
  refine (pkRoom_any HH.out HP.out (by omega) HNZ.out a n c).mono ?_
  rintro e w3 ⟨rfl,hR,hF⟩
  have HX:=Hd (HX.out.fr hF HQO.out);have HV:=Hd (Sl.frL HV.out hF (fun y hy => HVO.out y hy));have HF : Hid (Fr own w w3):=Hd (HF.out.any.trans hF)
  have HRR:=Hd hR
  clear hF hR hkb HH
  cases hro : d.room r with
  | none =>
   have HM : Hid (d.repair r = (d,[],50)):=Hd (by rw [HRE.out,hro])
   have HH:=Hd (HRR.out.2 hro)
   clear hro
   simp only [Option.isSome_none]
   go_wp2_with fail
   go_ret2
   rw [HM.out]
   exact ⟨_,rfl,hs,turn,by omega,by omega,⟨own,[],_,HH.out,SlEls.nil _,by simp,(fun b hb => by cases hb),fun y hy => .inl hy,fun b hb => List.mem_append_right _ hb⟩,HP.out.mono (by omega),HF.out⟩
  | some l =>
   have HM : Hid (d.repair r = (({ d with rep:=l ++ [r] } : PkD).tell.1,({ d with rep:=l ++ [r] } : PkD).tell.2.map (fun x => (x.1,x.2,true)),0)):=Hd (by rw [HRE.out,hro])
   obtain ⟨hs',hW,hl,hsub,hlt⟩:=HRR.out.1 l hro
   have HP1 : Hid (PkP { d with rep:=l } hs' turn N):=Hd (by rw [hl];exact HP.out.sub hsub)
   have HP2 : Hid (PkP { d with rep:=l ++ [r] } (hs' ++ [(r,turn + 1)]) (turn + 1) (N + 1)):=Hd (HP1.out.addRep hlt HLB.out HNZ.out hbl)
   have HLS : Hid (hs'.length ≤ 1000):=Hd (by have h1:=HP.out.r;omega)
   clear hro hl hsub hlt HRE HRR
   simp only [Option.isSome_some]
   obtain ⟨w4,e4,hF4,hW4,c7,f7⟩:=hW.setTurn (turn + 1)
   have hwr : IntKind.i64.wrap (turn + 1) = turn + 1:=IntWalk.i64_in _ (by omega)
   have E4:=Hd e4;have HH:=Hd hW4;have HF4:=Hd hF4
   have HX:=Hd (HX.out.fr hF4 (fun hm => by rw [List.mem_singleton] at hm;exact HQO.out (hm ▸ HH.out.gin)))
   have HV:=Hd (Sl.frL HV.out hF4 (fun y hy hm => by rw [List.mem_singleton] at hm;exact HVO.out y hy (hm ▸ HH.out.gin)))
   have HF : Hid (Fr own w w4):=Hd (HF.out.trans (hF4.mono (fun y hm => by rw [List.mem_singleton] at hm;exact hm ▸ HH.out.gin)))
   clear e4 hW4 hF4 hW HF4
   go_upto_region 10 with fail
   rw [E4.out]
   clear E4 c7 f7 hwr
   have x11:=HX.out.cell 11
   simp only [rpc,zz7,zz8,zz9] at x11
   have HQ4 : Hid (q ≤ w4.heap.size):=Hd (by have:=HF.out.size;have:=HQE.out;omega)
   go_wp2_with fail
   refine (bytesClone_any HV.out HBS.out).mono ?_
   rintro e w5 ⟨v5,rfl,h5,hF⟩
   obtain ⟨a5,n5,c5,rfl⟩:=h5.isSlice
   have H5L : Hid (∀ b,blockOf (.slice a5 n5 c5) = some b → q < b):=Hd (fun b hb => by have h1:=(h5.block b hb).1;have h2:=HX.out.lt;omega)
   have H5:=Hd (h5.mono HQ4.out)
   have HH:=Hd (HH.out.keep hF);have HX:=Hd (HX.out.keep hF);have HF:=Hd (HF.out.quiet hF)
   have x11:=HX.out.cell 11;have f11:=HX.out.free 11
   simp only [rpc,zz7,zz8,zz9] at x11
   obtain ⟨w6,e6,hF6,hX6,hs6⟩:=set_new HX.out 11 (.slice a5 n5 c5)
   have E6:=Hd e6;have HX6 : Hid (Box w6 q 38 (rpc r (.slice a5 n5 c5))):=Hd hX6
   have HH:=Hd (HH.out.fr hF6 (fun y hm => by rw [List.mem_singleton] at hm;exact hm ▸ HQO.out) (fun y hm => .inl (List.mem_append_left _ hm)))
   have H5:=Hd (H5.out.fr hF6 (fun y hy hm => by rw [List.mem_singleton] at hm;have:=H5L.out y hy;omega))
   have HF : Hid (Fr own w w6):=Hd (HF.out.step hF6 (fun y hm => by rw [List.mem_singleton] at hm;exact .inr (by have:=HQE.out;omega)))
   clear h5 hF e6 hF6 hX6 hs6 HX HV
   go_upto_region 11 with fail
   rw [E6.out]
   clear E6 x11 f11
   have HX:=HX6
   clear HX6
   obtain ⟨vr,B,D,hB,hO,hM,hvr,hBB⟩:=HH.out.ex
   obtain ⟨ar,cr,rfl⟩:=hO.shape
   have HB:=Hd hB;have HO:=Hd hO;have HM6:=Hd hM;have HVR:=Hd hvr;have HBB:=Hd hBB
   have HDJ : Hid (∀ b,blockOf (.slice ar hs'.length cr) = some b → b ∉ (liveOf (.slice a5 n5 c5)).toList):=Hd (fun b hb hm => by
    have h1:=(H5.out.block b (live_block (mem_toList.1 hm))).1
    have h2:=HOL.out b (hvr b hb).1
    have:=HQE.out
    omega)
   clear hB hO hM hvr hBB
   refine wp_region_T (fun w' => w'.cell? ⟨g,6,none⟩ = some (.slice ar hs'.length cr) ∧ w'.cell? ⟨g,7,none⟩ = some (.int .i64 (turn + 1)) ∧ w'.rangeAt q 0 (rpc r (.slice a5 n5 c5)).toList) [15] 16 #[false,false,false,false,false,false,false,false,false,false,false,false,false,false,false,false] (by kernel_rfl) rfl rfl ?_
   try simp only [List.append_eq,List.cons_append,List.nil_append]
   have hF:=(Fr.refl [] w6).drew
   have HH:=Hd (HH.out.keep hF);have HX:=Hd (HX.out.keep hF);have H5:=Hd (H5.out.keep hF);have HF:=Hd (HF.out.quiet hF);have HB:=Hd (HB.out.keep hF);have HO:=Hd (HO.out.keep Rep.held hF);have HM6:=Hd (HM6.out.keep hF)
   clear hF
   generalize w6.drew = wd at *
   have HSS : Hid (wd.cell? ⟨g,6,none⟩ = some (.slice ar hs'.length cr) ∧ wd.cell? ⟨g,7,none⟩ = some (.int .i64 (turn + 1)) ∧ wd.rangeAt q 0 (rpc r (.slice a5 n5 c5)).toList):=Hd ⟨by rw [HB.out.cell];rfl,by rw [HB.out.cell];rfl,box_range HX.out⟩
   refine wL 0 ?_ rfl (by kernel_rfl) (fun _ _ _ h => h) HSS.out (by rfl) ?_ ?_
   rotate_left
   ·intro w hSw;have n0:=hSw.1;have n1:=hSw.2.1;go_simp;try with_reducible rfl
   simp only [Act.put,zz1,zz2,zz3,zz4,zz5,zz6]
   refine wL 1 ?_ rfl (by kernel_rfl) (fun _ _ _ h => h) HSS.out (by rfl) ?_ ?_
   rotate_left
   ·intro w hSw;have n0:=hSw.1;have n1:=hSw.2.1;go_simp;try with_reducible rfl
   simp only [Act.put,zz1,zz2,zz3,zz4,zz5,zz6]
   refine wL 2 ?_ rfl (by kernel_rfl) (fun _ _ _ h => h) HSS.out (by rfl) ?_ ?_
   rotate_left
   ·intro w hSw;have n0:=hSw.1;have n1:=hSw.2.1;go_simp;try with_reducible rfl
   simp only [Act.put,zz1,zz2,zz3,zz4,zz5,zz6]
   refine wL 3 ?_ rfl (by kernel_rfl) (fun _ _ _ h => h) HSS.out (by rfl) ?_ ?_
   rotate_left
   ·intro w hSw;have n0:=hSw.1;have n1:=hSw.2.1;go_simp;try with_reducible rfl
   simp only [Act.put,zz1,zz2,zz3,zz4,zz5,zz6]
   refine wL 4 ?_ rfl (by kernel_rfl) (fun _ _ _ h => h) HSS.out (by rfl) ?_ ?_
   rotate_left
   ·intro w hSw;have n0:=hSw.1;have n1:=hSw.2.1;go_simp;try with_reducible rfl
   simp only [Act.put,zz1,zz2,zz3,zz4,zz5,zz6]
   refine wL 5 ?_ rfl (by kernel_rfl) (fun _ _ _ h => h) HSS.out (by rfl) ?_ ?_
   rotate_left
   ·intro w' hSw;refine run_load_mid_ask 38 (.tmp 3) ?_ q 0 ?_ (rpc r (.slice a5 n5 c5)) _ hSw.2.2 Tryz.underlying38 rfl (by kernel_rfl) <;> rfl
   simp only [Act.put,zz1,zz2,zz3,zz4,zz5,zz6]
   refine wL 6 ?_ rfl (by kernel_rfl) (fun _ _ _ h => h) HSS.out (by rfl) ?_ ?_
   rotate_left
   ·intro w hSw;have n0:=hSw.1;have n1:=hSw.2.1;go_simp;try with_reducible rfl
   simp only [Act.put,zz1,zz2,zz3,zz4,zz5,zz6]
   refine wL 7 ?_ rfl (by kernel_rfl) (fun _ _ _ h => h) HSS.out (by rfl) ?_ ?_
   rotate_left
   ·intro w hSw;have n0:=hSw.1;have n1:=hSw.2.1;go_simp;try with_reducible rfl
   simp only [Act.put,zz1,zz2,zz3,zz4,zz5,zz6]
   refine wL 8 ?_ rfl (by kernel_rfl) (fun _ _ _ h => h) HSS.out (by rfl) ?_ ?_
   rotate_left
   ·intro w hSw;have n0:=hSw.1;have n1:=hSw.2.1;go_simp;try with_reducible rfl
   simp only [Act.put,zz1,zz2,zz3,zz4,zz5,zz6]
   refine wL 9 ?_ rfl (by kernel_rfl) (fun _ _ _ h => h) HSS.out (by rfl) ?_ ?_
   rotate_left
   ·intro w hSw;have n0:=hSw.1;have n1:=hSw.2.1;go_simp;try with_reducible rfl
   simp only [Act.put,zz1,zz2,zz3,zz4,zz5,zz6]
   refine wL 10 ?_ rfl (by kernel_rfl) (fun _ _ _ h => h) HSS.out (by rfl) ?_ ?_
   rotate_left
   ·intro w hSw;have n0:=hSw.1;have n1:=hSw.2.1;go_simp;try with_reducible rfl
   simp only [Act.put,zz1,zz2,zz3,zz4,zz5,zz6]
   refine wpAnyT_one (i:=11) (by kernel_rfl) rfl (fun K hK => ?_)
   rw [if_pos (by rfl)]
   obtain ⟨wb,eb,hF,hBb,-⟩:=one_new wd (hdc (r,turn + 1) (.slice a5 n5 c5)) 144
   have EB:=Hd eb;have HGB:=Hd hBb
   have HH:=Hd (HH.out.keep hF);have HX:=Hd (HX.out.keep hF);have H5:=Hd (H5.out.keep hF);have HF:=Hd (HF.out.quiet hF);have HB:=Hd (HB.out.keep hF);have HO:=Hd (HO.out.keep Rep.held hF);have HM6:=Hd (HM6.out.keep hF)
   have HSS : Hid (wb.cell? ⟨g,6,none⟩ = some (.slice ar hs'.length cr) ∧ wb.cell? ⟨g,7,none⟩ = some (.int .i64 (turn + 1)) ∧ wb.rangeAt q 0 (rpc r (.slice a5 n5 c5)).toList):=Hd ⟨by rw [HB.out.cell];rfl,by rw [HB.out.cell];rfl,box_range HX.out⟩
   clear hF hBb eb
   go_simp
   simp only [EB.out]
   refine hK.out _ _ (fun _ => HSS.out) ?_
   clear hK K
   simp only [Act.put,zz1,zz2,zz3,zz4,zz5,zz6]
   clear EB
   generalize wd.heap.size = gq at *
   refine wpAnyT_one (i:=12) (by kernel_rfl) rfl (fun K hK => ?_)
   refine step_append_els Rep.held (by decide) rfl (.tmp 49) (.tmp 56) 88 rfl base 144 (.agg #[.int .u8 0,.int .u8 0,.int .u8 0,.int .u8 0,.int .u8 0,.int .u8 0,.int .u8 0,.int .u8 0,.int .u16 0,.int .u64 0,.int .u64 0,.slice none 0 0,.int .i64 0]) 64 Tryz.underlying88 info_held rfl (.slice ar hs'.length cr) hs' B rfl HO.out ⟨gq,0,none⟩ 1 1 rfl [(r,turn + 1)] rfl (hdc (r,turn + 1) (.slice a5 n5 c5)).toList (liveOf (.slice a5 n5 c5)).toList (els_one ⟨_,rfl,H5.out.bytes,rfl⟩) (box_row HGB.out) HDJ.out (by have:=HLS.out;unfold maxLen;omega) (by have:=HLS.out;omega) (Nat.le_trans HH.out.low (Nat.le_refl _)) ?_
   intro v9 w9 hown9 hfr9 hv9
   obtain ⟨a9,c9,ev9⟩:=hown9.shape
   have el9 : (hs' ++ [(r,turn + 1)]).length = hs'.length + 1:=by simp
   rw [el9] at ev9
   subst ev9
   have HO9:=Hd hown9;have HF9:=Hd hfr9;have HV9:=Hd hv9
   have HSS : Hid (w9.cell? ⟨g,6,none⟩ = some (.slice ar hs'.length cr) ∧ w9.cell? ⟨g,7,none⟩ = some (.int .i64 (turn + 1)) ∧ w9.rangeAt q 0 (rpc r (.slice a5 n5 c5)).toList):=Hd ⟨hfr9.cellSome HSS.out.1 (fun hm => (HVR.out _ (mem_toList.1 hm)).2.1 rfl),hfr9.cellSome HSS.out.2.1 (fun hm => (HVR.out _ (mem_toList.1 hm)).2.1 rfl),fr_rngB hfr9 HSS.out.2.2 (fun hm => HQO.out (HVR.out _ (mem_toList.1 hm)).1)⟩
   have f6 : w9.frozen? ⟨g,6,none⟩ = false:=(HB.out.fr hfr9 (fun hm => (HVR.out _ (mem_toList.1 hm)).2.1 rfl)).free 6
   have F6:=Hd f6
   clear hown9 hfr9 hv9 el9 f6
   refine hK.out _ _ (fun _ => HSS.out) ?_
   clear hK K
   simp only [Act.put,zz1,zz2,zz3,zz4,zz5,zz6]
   refine wL 13 ?_ rfl (by kernel_rfl) (fun _ _ _ h => h) HSS.out (by rfl) ?_ ?_
   rotate_left
   ·intro w hSw;go_simp;try with_reducible rfl
   simp only [Act.put,zz1,zz2,zz3,zz4,zz5,zz6]
   refine wL 14 ?_ rfl (by kernel_rfl) (fun _ _ _ h => h) HSS.out (by rfl) ?_ ?_
   rotate_left
   ·intro w hSw;go_simp;try with_reducible rfl
   simp only [Act.put,zz1,zz2,zz3,zz4,zz5,zz6]
   refine wpAnyT_one (i:=15) (by kernel_rfl) rfl (fun K hK => ?_)
   rw [if_pos (by rfl)]
   obtain ⟨w10,e10⟩ : ∃ w10,w9.setCell ⟨g,6,none⟩ (.slice a9 (hs'.length + 1) c9) = w10:=⟨_,rfl⟩
   have f6:=F6.out
   have n0:=HSS.out.1
   have E10:=Hd e10
   clear e10
   go_simp
   simp only [E10.out]
   refine hK.out _ _ (fun _ => by rename_i h;exact absurd (by simp) h) ?_
   clear hK K
   simp only [Act.put,zz1,zz2,zz3,zz4,zz5,zz6]
   refine wpAnyT_done (by kernel_rfl) ?_ _
   have HVB : Hid (∀ b,liveOf (.slice a5 n5 c5) = some b → base ≤ b ∧ b ∉ ([q] ++ no)):=Hd (fun b hb => by
    have h1:=H5L.out b (live_block hb)
    have h2:=HLOW.out
    have h3:=HQE.out
    refine ⟨by omega,fun hm => ?_⟩
    rcases List.mem_append.1 hm with hm | hm
    ·rw [List.mem_singleton] at hm;omega
    ·have:=HNL.out b hm;omega)
   obtain ⟨hH,hF10⟩:=PkW.addHeld HH.out HB.out HM6.out HO.out HVR.out HBB.out HVB.out HF9.out HO9.out HV9.out E10.out
   have HH10:=Hd hH
   have HO10 : Hid (∀ b ∈ (blockOf (.slice a9 (hs'.length + 1) c9)).toList ++ own,b ∈ own ∨ w.heap.size ≤ b):=Hd (fun b hb => by
    rcases List.mem_append.1 hb with hb | hb
    ·rcases HV9.out b (mem_toList.1 hb) with h1 | h1
     ·exact .inl (HVR.out b h1).1
     ·exact .inr (by have:=HF.out.size;omega)
    ·exact .inl hb)
   have HF10 : Hid (Fr own w w10):=Hd (HF.out.trans (hF10.mono (fun b hb => by
    rcases List.mem_append.1 hb with hb | hb
    ·exact (HVR.out b (mem_toList.1 hb)).1
    ·rw [List.mem_singleton] at hb
     exact hb ▸ HH.out.gin)))
   clear hH hF10
   go_wp2_with fail
   refine (pkTell_any HH10.out HP2.out hN).mono ?_
   rintro e w11 ⟨v11,rfl,hs3,Bo,no3,hp3,hW3,hO3,hBo,hvo3,hno3,hF3,-,-⟩
   obtain ⟨a11,c11,rfl⟩:=hO3.shape
   rw [List.length_map] at hO3 hvo3
   rw [List.length_map]
   have HG : Hid (GotPost2 w base own no g mb ({ d with rep:=l ++ [r] } : PkD).tell.1 hs3 (turn + 1) (({ d with rep:=l ++ [r] } : PkD).tell.2.map toldT) (.slice a11 ({ d with rep:=l ++ [r] } : PkD).tell.2.length c11) w11):=Hd (by
    have hlt10:=fun b hb => HH10.out.lt b (HH10.out.sub b hb)
    have hs10:=HF10.out.size
    refine ⟨_,Bo,no3,hW3,hO3.sl,fun b hb => ⟨by have:=(hBo b hb).1;omega,(hBo b hb).2,fun hm => by have:=hlt10 b hm;have:=(hBo b hb).1;omega⟩,fun b hb => ?_,HO10.out,fun b hb => hno3 b (List.mem_append_right _ (List.mem_append_right _ hb))⟩
    have h1:=(hO3.block b (live_block hb)).1
    exact ⟨by omega,hvo3 b (live_block hb),fun hm => by have:=hlt10 b hm;omega⟩)
   have HP3:=Hd hp3
   have HF11 : Hid (Fr own w w11):=Hd (HF10.out.step hF3 (fun b hb => HO10.out b hb))
   clear hp3 hW3 hO3 hBo hvo3 hno3 hF3
   go_wp2_with fail
   go_ret2
   rw [HM.out]
   exact ⟨_,rfl,hs3,turn + 1,by omega,by omega,HG.out,HP3.out,HF11.out⟩
end Go.Proofs.YtcngfbjmpemehaaGreat

/- Law 16: events;its small and step. -/
namespace Go.Proofs.YtcngfbjmpemehaaGreat
open Go.RowKit

structure Ev where
 rp : Bool
 b : List UInt8
 r : Rep_
abbrev evc (e : Ev) (vb vr : Value) : Array Value:=#[.bool e.rp,vb,.int .u8 (e.r.bt.h0.toNat : Nat),.int .u8 (e.r.bt.h1.toNat : Nat),.int .u8 (e.r.bt.h2.toNat : Nat),.int .u8 (e.r.bt.h3.toNat : Nat),.int .u8 (e.r.bt.h4.toNat : Nat),.int .u8 (e.r.bt.h5.toNat : Nat),.int .u8 (e.r.bt.h6.toNat : Nat),.int .u8 (e.r.bt.h7.toNat : Nat),.int .u16 (e.r.base.toNat : Nat),.int .u64 (e.r.m.hi.toNat : Nat),.int .u64 (e.r.m.lo.toNat : Nat),vr]
def EvR (w : World) (c : List Value) (e : Ev) (B : List Nat) : Prop:=∃ vb vr,c = (evc e vb vr).toList ∧ Bytes w vb e.b ∧ Bytes w vr e.r.bt.body ∧ B = (liveOf vb).toList ++ (liveOf vr).toList
theorem one_evc (e : Ev) (a1 : Option Addr) (n1 c1 : Nat) (a2 : Option Addr) (n2 c2 : Nat) : ∀ u ∈ (evc e (.slice a1 n1 c1) (.slice a2 n2 c2)).toList,u.oneCell' = true:=by
 intro u hu
 simp only [evc,List.mem_cons,List.not_mem_nil,or_false] at hu
 rcases hu with rfl | rfl | rfl | rfl | rfl | rfl | rfl | rfl | rfl | rfl | rfl | rfl | rfl | rfl <;> rfl
theorem Rep.ev : Rep 14 EvR where
 len:=by rintro w c y B ⟨vb,vr,rfl,-,-,-⟩;rfl
 one:=by
  rintro w c y B ⟨vb,vr,rfl,h1,h2,-⟩
  obtain ⟨a1,n1,c1,rfl⟩:=Sl.isSlice h1
  obtain ⟨a2,n2,c2,rfl⟩:=Sl.isSlice h2
  exact one_evc y a1 n1 c1 a2 n2 c2
 lt:=by
  rintro w c y B ⟨vb,vr,rfl,h1,h2,rfl⟩ b hb
  rcases List.mem_append.1 hb with hb | hb
  ·exact Sl.lt h1 b (mem_toList.1 hb)
  ·exact Sl.lt h2 b (mem_toList.1 hb)
 fr:=by
  rintro w w' c y B S ⟨vb,vr,rfl,h1,h2,rfl⟩ hf hS
  exact ⟨vb,vr,rfl,Sl.frL h1 hf (fun b hb => hS b (List.mem_append_left _ (mem_toList.2 hb))),Sl.frL h2 hf (fun b hb => hS b (List.mem_append_right _ (mem_toList.2 hb))),rfl⟩
def PkD.step (d : PkD) (e : Ev) : PkD × List (UInt16 × List UInt8 × Bool) × Int:=if e.rp = true then d.repair e.r else d.media e.b
theorem ev_range {w : World} {g : Nat} {t : TypeId} {e : Ev} {vb vr : Value} (hB : Box w g t (evc e vb vr)) : w.rangeAt g 2 (rpc e.r vr).toList:=fun j u hj => by
 have h1:=box_range hB (2 + j) u (by
  have he : (evc e vb vr).toList = [.bool e.rp,vb] ++ (rpc e.r vr).toList:=rfl
  rw [he,List.getElem?_append_right (by simp)]
  simpa using hj)
 rw [Nat.zero_add] at h1
 exact h1
theorem l16step_any {w : World} {base : Nat} {own no : List Nat} {g mb N : Nat} {d : PkD} {hs : List (Rep_ × Int)} {turn : Int} (h : PkW w base own no g mb d hs turn) (hp : PkP d hs turn N) (hN : N + 1 < 1000000) (ht : 0 ≤ turn ∧ turn ≤ 1000000) {e : Ev} {a1 : Option Addr} {n1 c1 : Nat} {a2 : Option Addr} {n2 c2 : Nat} (hv1 : Bytes w (.slice a1 n1 c1) e.b) (hv2 : Bytes w (.slice a2 n2 c2) e.r.bt.body) (hvo1 : ∀ y,liveOf (.slice a1 n1 c1) = some y → y ∉ own) (hvo2 : ∀ y,liveOf (.slice a2 n2 c2) = some y → y ∉ own) (hb1 : e.b.length ≤ 1000000) (hb2 : e.r.bt.body.length ≤ 1000000) :
  Calls Tryz.prog 11 #[.pointer (some ⟨g,0,none⟩),.agg (evc e (.slice a1 n1 c1) (.slice a2 n2 c2))] w fun en w' => ∃ v',en = .returned (.tuple #[v',.int .i64 (d.step e).2.2]) ∧ (∃ hs' turn',turn ≤ turn' ∧ turn' ≤ turn + 1 ∧ GotPost2 w base own no g mb (d.step e).1 hs' turn' (d.step e).2.1 v' w' ∧ PkP (d.step e).1 hs' turn' (N + 1) ∧ Fr own w w'):=by
 obtain ⟨w1,e1,hF1,hX1,hs1⟩:=one_new w (evc e (.slice a1 n1 c1) (.slice a2 n2 c2)) 40
 have HH:=Hd (h.keep hF1);have HP:=Hd hp;have HF:=Hd hF1;have E1:=Hd e1
 have HV1:=Hd (Sl.keep hv1 hF1);have HV2:=Hd (Sl.keep hv2 hF1);have HVO1:=Hd hvo1;have HVO2:=Hd hvo2
 have HRG:=Hd (ev_range hX1)
 have HOL : Hid (∀ b ∈ own,b < w.heap.size):=Hd (fun b hb => h.lt b (h.sub b hb))
 have x0:=hX1.cell 0;have x1:=hX1.cell 1
 simp only [evc,zz7,zz8,zz9] at x0 x1
 have HPO : Hid (∀ {d' : PkD} {hs' : List (Rep_ × Int)} {turn' : Int} {out : List (UInt16 × List UInt8 × Bool)} {v' : Value} {w' : World},GotPost2 w1 base own no g mb d' hs' turn' out v' w' → GotPost2 w base own no g mb d' hs' turn' out v' w'):=Hd (fun hg => by
  obtain ⟨own',Bo,no',k1,k2,k3,k4,k5,k6⟩:=hg
  have hs:=hF1.size
  exact ⟨own',Bo,no',k1,k2,fun b hb => ⟨by have:=(k3 b hb).1;omega,(k3 b hb).2⟩,fun b hb => ⟨by have:=(k4 b hb).1;omega,(k4 b hb).2⟩,fun y hy => (k5 y hy).imp id (fun k => by omega),k6⟩)
 clear h hp hF1 hX1 e1 hv1 hv2 hvo1 hvo2 hs1
 cases hrp : e.rp with
 | true =>
  have HST : Hid (d.step e = d.repair e.r):=Hd (by unfold PkD.step;rw [if_pos hrp])
  rw [hrp] at x0
  clear hrp
  go_enter Tryz.func11,Tryz.ntmps11
  go_upto_region 1 with fail
  rw [E1.out]
  clear E1
  go_wp2_with (refine wpList_load_midA rfl 38 (.tmp 9) rfl w.heap.size 2 rfl (rpc e.r (.slice a2 n2 c2)) _ HRG.out Tryz.underlying38 rfl (by kernel_rfl) ?_)
  refine (pkRepair_any HH.out HP.out hN ht HV2.out HVO2.out hb2).mono ?_
  rintro en w3 ⟨v3,rfl,hs3,turn3,ht1,ht2,hg3,hp3,hF3⟩
  obtain ⟨own3,Bo3,no3,k1,k2,k3⟩:=hg3
  obtain ⟨a3,c3,rfl⟩:=k2.shape
  have HG3 : Hid (GotPost2 w base own no g mb (d.repair e.r).1 hs3 turn3 (d.repair e.r).2.1 (.slice a3 (d.repair e.r).2.1.length c3) w3):=Hd (HPO.out ⟨own3,Bo3,no3,k1,k2,k3⟩)
  have HP3:=Hd hp3;have HF3 : Hid (Fr own w w3):=Hd (HF.out.any.trans hF3);have HT1:=Hd ht1;have HT2:=Hd ht2
  clear k1 k2 k3 hp3 hF3 ht1 ht2 x0 x1
  generalize d.repair e.r = z at *
  go_wp2_with fail
  go_ret2
  rw [HST.out]
  exact ⟨_,rfl,hs3,turn3,HT1.out,HT2.out,HG3.out,HP3.out,HF3.out⟩
 | false =>
  have HST : Hid (d.step e = d.media e.b):=Hd (by unfold PkD.step;rw [if_neg (by rw [hrp];simp)])
  rw [hrp] at x0
  clear hrp
  go_enter Tryz.func11,Tryz.ntmps11
  go_upto_region 1 with fail
  rw [E1.out]
  clear E1
  go_wp2_with fail
  refine (pkMedia_any HH.out HP.out hN HV1.out HVO1.out hb1).mono ?_
  rintro en w3 ⟨v3,rfl,hs3,hg3,hp3,hF3⟩
  have hg2:=hg3.two (fun b hb => by have h1:=HOL.out b hb;have h2:=HF.out.size;omega)
  obtain ⟨own3,Bo3,no3,k1,k2,k3⟩:=hg2
  obtain ⟨a3,c3,rfl⟩:=k2.shape
  have HG3 : Hid (GotPost2 w base own no g mb (d.media e.b).1 hs3 turn (d.media e.b).2.1 (.slice a3 (d.media e.b).2.1.length c3) w3):=Hd (HPO.out ⟨own3,Bo3,no3,k1,k2,k3⟩)
  have HP3:=Hd hp3;have HF3 : Hid (Fr own w w3):=Hd (HF.out.any.trans hF3)
  clear k1 k2 k3 hp3 hF3 hg3 x0 x1
  generalize d.media e.b = z at *
  go_wp2_with fail
  go_ret2
  rw [HST.out]
  exact ⟨_,rfl,hs3,turn,by omega,by omega,HG3.out,HP3.out,HF3.out⟩
def smallE (es : List Ev) : Bool:=es.all (fun e => decide (e.b.length ≤ 300) && decide (e.r.bt.body.length ≤ 300)) && decide (es.length ≤ 40)
end Go.Proofs.YtcngfbjmpemehaaGreat

/- The events of package confluxlaw16,opened out of a law's arguments. -/
namespace Go.Proofs.YtcngfbjmpemehaaGreat
open Go.RowKit Go.ChangeShapes Go.WideShapes Go.Deep

instance : Inhabited Ev:=⟨⟨false,[],⟨Bt.zero,0,⟨0,0⟩⟩⟩⟩
section
variable {H : Type} {enc : TypeId × Value → H} {w : World} {base b0 : Nat}
theorem open_rep_cells {n : Nat} {cs : List Value} {d : DataW H} {ps : List MemPlace} (h : DataW.trod enc Tryz.prog w base (fun _ => true) true n 38 cs = some (d,ps)) (hl : cs.length = 12) : ∃ (r : Rep_) (vb : Value),cs = (rpc r vb).toList ∧ Bytes w vb r.bt.body:=by
 match cs,hl with
 | [e0,e1,e2,e3,e4,e5,e6,e7,e8,e9,e10,e11],_ =>
  obtain ⟨xs,n,_,hx,_,hlen,hg⟩:=DataW.trod_struct Tryz.underlying38 h
  match xs,hlen with
  | [y0,y1,y2,y3,y4],_ =>
   have c1 : Tryz.prog.cellsOf 35 = 8:=by kernel_rfl
   have c2 : Tryz.prog.cellsOf 34 = 1:=by kernel_rfl
   have c3 : Tryz.prog.cellsOf 5 = 1:=by kernel_rfl
   have c4 : Tryz.prog.cellsOf 24 = 1:=by kernel_rfl
   have c5 : Tryz.prog.cellsOf 36 = 1:=by kernel_rfl
   have g0:=hg 0 _ rfl;have g1:=hg 1 _ rfl;have g2:=hg 2 _ rfl;have g3:=hg 3 _ rfl;have g4:=hg 4 _ rfl
   clear hg
   simp [c1,c2,c4,c5] at g0 g1 g2 g3 g4
   obtain ⟨ys,m,_,_,_,hl2,hel⟩:=DataW.trod_array Tryz.underlying35 g0
   match ys,hl2 with
   | [z0,z1,z2,z3,z4,z5,z6,z7],_ =>
    have k0:=hel 0 (by omega);have k1:=hel 1 (by omega);have k2:=hel 2 (by omega);have k3:=hel 3 (by omega);have k4:=hel 4 (by omega);have k5:=hel 5 (by omega);have k6:=hel 6 (by omega);have k7:=hel 7 (by omega)
    clear hel g0
    simp [c3] at k0 k1 k2 k3 k4 k5 k6 k7
    obtain ⟨n0,q0,-,r0⟩:=DataW.trod_int Tryz.underlying5 k0
    obtain ⟨n1,q1,-,r1⟩:=DataW.trod_int Tryz.underlying5 k1
    obtain ⟨n2,q2,-,r2⟩:=DataW.trod_int Tryz.underlying5 k2
    obtain ⟨n3,q3,-,r3⟩:=DataW.trod_int Tryz.underlying5 k3
    obtain ⟨n4,q4,-,r4⟩:=DataW.trod_int Tryz.underlying5 k4
    obtain ⟨n5,q5,-,r5⟩:=DataW.trod_int Tryz.underlying5 k5
    obtain ⟨n6,q6,-,r6⟩:=DataW.trod_int Tryz.underlying5 k6
    obtain ⟨n7,q7,-,r7⟩:=DataW.trod_int Tryz.underlying5 k7
    obtain ⟨n8,q8,-,r8⟩:=DataW.trod_int Tryz.underlying24 g1
    obtain ⟨n9,q9,-,r9⟩:=DataW.trod_int Tryz.underlying36 g2
    obtain ⟨n10,q10,-,r10⟩:=DataW.trod_int Tryz.underlying36 g3
    obtain ⟨lb,hb⟩:=open_u8s' g4
    simp only [List.cons.injEq,and_true] at q0 q1 q2 q3 q4 q5 q6 q7 q8 q9 q10
    subst q0 q1 q2 q3 q4 q5 q6 q7 q8 q9 q10
    have B : ∀ k : Int,(Lit.int .u8 k).wf = true → (((UInt8.ofNat k.toNat).toNat : Nat) : Int) = k:=fun k hk => by have:=wf_u8 hk;rw [UInt8.toNat_ofNat'];omega
    have B16 : (((UInt16.ofNat n8.toNat).toNat : Nat) : Int) = n8:=by have:=wf_u16 r8;rw [UInt16.toNat_ofNat'];omega
    have B64 : ∀ k : Int,(Lit.int .u64 k).wf = true → (((BitVec.ofNat 64 k.toNat).toNat : Nat) : Int) = k:=fun k hk => by have:=wf_u64 hk;rw [BitVec.toNat_ofNat];omega
    refine ⟨⟨⟨UInt8.ofNat n0.toNat,UInt8.ofNat n1.toNat,UInt8.ofNat n2.toNat,UInt8.ofNat n3.toNat,UInt8.ofNat n4.toNat,UInt8.ofNat n5.toNat,UInt8.ofNat n6.toNat,UInt8.ofNat n7.toNat,lb⟩,UInt16.ofNat n8.toNat,⟨BitVec.ofNat 64 n9.toNat,BitVec.ofNat 64 n10.toNat⟩⟩,e11,?_,hb⟩
    show _ = [_,_,_,_,_,_,_,_,_,_,_,_]
    simp only [B _ r0,B _ r1,B _ r2,B _ r3,B _ r4,B _ r5,B _ r6,B _ r7,B16,B64 _ r9,B64 _ r10]
theorem open_ev {n : Nat} {cs : List Value} {d : DataW H} {ps : List MemPlace} (h : DataW.trod enc Tryz.prog w base (fun _ => true) true n 40 cs = some (d,ps)) (hl : cs.length = 14) : ∃ y B,EvR w cs y B ∧ True:=by
 have c1 : Tryz.prog.cellsOf 4 = 1:=by kernel_rfl
 have c2 : Tryz.prog.cellsOf 34 = 1:=by kernel_rfl
 have c3 : Tryz.prog.cellsOf 38 = 12:=by kernel_rfl
 match cs,hl with
 | [e0,e1,f0,f1,f2,f3,f4,f5,f6,f7,f8,f9,f10,f11],_ =>
  obtain ⟨xs,n',_,_,_,hlen2,hg⟩:=DataW.trod_struct Tryz.underlying40 h
  match xs,hlen2 with
  | [y0,y1,(d2,p2)],_ =>
   have g0:=hg 0 _ rfl;have g1:=hg 1 _ rfl;have g2:=hg 2 _ rfl
   simp [c1,c2,c3] at g0 g1 g2
   obtain ⟨z0,q0,-⟩:=DataW.trod_bool Tryz.underlying4 g0
   obtain ⟨lb,hb⟩:=open_u8s' g1
   obtain ⟨r,vb,e,hr⟩:=open_rep_cells g2 rfl
   simp only [List.cons.injEq,and_true] at q0
   subst q0
   refine ⟨⟨z0,lb,r⟩,_,⟨e1,vb,?_,hb,hr,rfl⟩,trivial⟩
   show _ :: _ :: [f0,f1,f2,f3,f4,f5,f6,f7,f8,f9,f10,f11] = _
   rw [e]
theorem open_evs_arg {v : Value} {d : DataW H} {ps : List MemPlace} (hok : Value.okWide Tryz.prog w .any b0 23 v) (h : DataW.Trod enc Tryz.prog w base (fun _ => true) true 23 v d ps) : ∃ (xs : List Ev) (B : List Nat),SlEls 14 EvR w v xs B:=by
 obtain ⟨a,len,cap,rfl⟩:=okWide_slice Tryz.underlying23 hok
 obtain ⟨fuel,hf⟩:=h
 obtain ⟨xs,B,hS,-⟩:=open_els0 (Q:=fun _ => True) Rep.ev Tryz.underlying23 (by kernel_rfl) (by decide) (fun n cs d ps h hl => open_ev h hl) hf
 exact ⟨xs,B,hS⟩
end
end Go.Proofs.YtcngfbjmpemehaaGreat
