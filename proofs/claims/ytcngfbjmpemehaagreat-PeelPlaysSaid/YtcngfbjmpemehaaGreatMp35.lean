import Derived.Maps.RangeWalk
import Derived.Shelf.SlIterI.Nil
import Derived.Test.YtcngfbjmpemehaaGreatMp33
import Derived.Test.YtcngfbjmpemehaaGreatMp30
import Derived.Test.YtcngfbjmpemehaaGreatMp32
import Derived.Test.YtcngfbjmpemehaaGreatMp29
import Derived.Test.YtcngfbjmpemehaaGreatMp12
set_option maxRecDepth 100000
set_option maxHeartbeats 16000000
open List renaming getElem_toArray → zz1, getElem_cons_zero → zz2, getElem_cons_succ → zz3, setIfInBounds_toArray → zz4, set_cons_zero → zz5, set_cons_succ → zz6, getElem?_toArray → zz7, getElem?_cons_succ → zz8, getElem?_cons_zero → zz9
open Go.Lib renaming hid → Hd
/- The walk of peel's put (printed by gen_pk9.py). -/
namespace Go.Proofs.YtcngfbjmpemehaaGreat
open Go.RowKit Go.Maps

theorem wp_mapUpdate_at {H : Type} {P : Program} {w : World} {ops : Array Oper} {o : Oper} {a : Act} {K : Act → World → Prop} {Q : Exit → Act → World → Prop} {E : Prop}
  (hg : o.guard = none) (m x v : Operand) (t : TypeId) (hop : o.op = Op.mapUpdate t m x v)
  (k e : TypeId) (KK : Keyed P k) (ht : P.underlying t = some (.map k e)) (R : Value → Option (DataW H × List MemPlace)) (b n : Nat) (D : DataW H)
  (hm : a.eval m = .map (some b)) (hown : w.ownsMap P k R b n D) (hn : n < maxLen) (key val : Value) (kl : Lit) (hx : a.eval x = key) (hv : a.eval v = val) (hkey : keyOf P k key = some kl)
  (d : DataW H) (ps : List MemPlace) (hval : R val = some (d,ps))
  (h : ∀ w',w'.ownsMap P k R b (n + 1) (D.put kl d) → w.grownBy w' (some b) → K (a.put o.dst undef) w') : if Region.wanted o (yielded ops a.tmps) = true then Oper.wp P o a w K Q else E:=by
 rw [if_pos (by simp [Region.wanted,hg])]
 obtain ⟨w',hrun,r1,r2⟩:=hown.update KK ht hn hkey hval
 unfold Oper.wp
 simp [execOp,hop,hm,hx,hv,hrun,Result.andThen]
 exact h _ r1 r2
theorem ofTurnedB {w w' : World} {b : Nat} (h : w.mapTurned w' b) : Fr [b] w w':=by
 have:=Fr.ofGrown h.grown
 simpa using this
theorem ofGrownB {w w' : World} {b : Nat} (h : w.grownBy w' (some b)) : Fr [b] w w':=by have:=Fr.ofGrown h;simpa using this
theorem Fr.rangesB {k : TypeId} {R : Value → Option (DataW Value × List MemPlace)} {w w' : World} {b r n cnt : Nat} {D : DataW Value} {left : Lit → Bool} {S : List Nat} (hf : Fr S w w') (h : w.ranges Tryz.prog k R b r n D left cnt) (hb : b ∉ S) (hr : r ∉ S) : w'.ranges Tryz.prog k R b r n D left cnt:=by
 have h1:=h.owns.lt;have h2:=h.lt
 obtain ⟨es,clock,since,seen,c0,g1,g2,g3,g4,g5,g6⟩:=h
 exact ⟨es,clock,since,seen,c0,(hf.block b h1 hb).trans g1,g2,g3,g4,(hf.block r h2 hr).trans g5,g6⟩
theorem heldR_inv (v : Value) (y : DataW Value × List MemPlace) (h : heldR v = some y) : ∃ c,v = id c:=⟨v,rfl⟩
theorem keyB_inv (key : Value) (kl : Lit) (h : keyOf Tryz.prog 2 key = some kl) : ∃ x,key = Value.int .i64 x:=by
 obtain ⟨x,hx,-,-⟩:=Maps.keyOf_i64 Tryz.underlying2 h
 exact ⟨x,hx⟩
theorem MapB.entry {w : World} {base b : Nat} {no : List Nat} {D : DataW Value} {l : List PkO} (h : MapB w base b no D l) {x : Int} {kl : Lit} {y : DataW Value} (hk : keyOf Tryz.prog 2 (.int .i64 x) = some kl) (hne : y ≠ .nil) (hat : ∀ zd,D.atKey kl zd = y) : (∃ o ∈ l,o.n = x) ∧ kl = lkey x ∧ (-9223372036854775808 ≤ x ∧ x < 9223372036854775808):=by
 obtain ⟨x',hx,hkl,hw⟩:=Maps.keyOf_i64 Tryz.underlying2 hk
 cases hx
 have hkl2 : kl = lkey x:=hkl
 subst hkl2
 refine ⟨?_,rfl,?_⟩
 ·cases hf : findP l x with
  | none => exact absurd ((hat .nil).symm.trans (h.none_ x hf .nil)) hne
  | some b =>
   unfold findP at hf
   rw [Option.map_eq_some_iff] at hf
   obtain ⟨o,ho,-⟩:=hf
   exact ⟨o,List.mem_of_find?_eq_some ho,by simpa using List.find?_some ho⟩
 ·simp [Lit.wf,IntKind.min,IntKind.max,IntKind.signed,IntKind.bits] at hw
  omega
theorem note_hi (d : PkD) (s : UInt16) : (d.note (d.peek s)).hi = some (hiOf d.hi s):=by
 unfold PkD.note hiOf hiMax PkD.peek
 cases d.hi <;> rfl
def leftL (A : List PkO) (e : PkD) (left : Lit → Bool) : List PkO:=A.filter fun o => left (lkey o.n) || !e.old o.n
theorem leftL_keep {A : List PkO} {e : PkD} {left : Lit → Bool} {x : Int} (h : e.old x = false) : leftL A e (fun z => left z && !z.sameKey (lkey x)) = leftL A e left:=by
 unfold leftL
 refine List.filter_congr fun o _ => ?_
 by_cases e1 : o.n = x
 ·rw [e1,h];simp
 ·have h3 : (lkey o.n).sameKey (lkey x) = false:=sameKey_ne (lkey_ne e1)
  simp only [h3];simp
theorem leftL_del {A : List PkO} {e : PkD} {left : Lit → Bool} {x : Int} (h : e.old x = true) : leftL A e (fun z => (left z && !z.sameKey (lkey x)) && !z.sameKey (lkey x)) = delP (leftL A e left) x:=by
 unfold leftL delP
 rw [List.filter_filter]
 refine List.filter_congr fun o _ => ?_
 by_cases e1 : o.n = x
 ·have h4 : (lkey x).sameKey (lkey x) = true:=WideAt.sameKey_self (lkey_is x)
  simp only [e1,h,h4];simp
 ·have h3 : (lkey o.n).sameKey (lkey x) = false:=sameKey_ne (lkey_ne e1)
  have h5 : (o.n == x) = false:=beq_eq_false_iff_ne.2 e1
  simp only [h3,h5];simp
theorem leftL_start {A : List PkO} {e : PkD} {D : DataW Value} {w : World} {base b : Nat} {no : List Nat} (h : MapB w base b no D A) : leftL A e (Maps.has D) = A:=by
 unfold leftL
 refine List.filter_eq_self.2 fun o ho => ?_
 rw [h.has]
 have : findP A o.n ≠ none:=fun e => findP_none.1 e o ho rfl
 cases hf : findP A o.n with
 | none => exact absurd hf this
 | some _ => rfl
theorem leftL_end {A : List PkO} {e : PkD} {left : Lit → Bool} (h : ∀ k,left k = false) : leftL A e left = A.filter fun o => !e.old o.n:=by
 unfold leftL
 refine List.filter_congr fun o _ => ?_
 rw [h];simp
theorem pkPut_any {w : World} {base : Nat} {own no : List Nat} {g mb N : Nat} {d : PkD} {hs : List (Rep_ × Int)} {turn : Int} (h : PkW w base own no g mb d hs turn) (hp : PkP d hs turn N) (hN : N < 1000000) (s : UInt16) {v : Value} {b : List UInt8} (hv : Bytes w v b) (hz : ∀ y,liveOf v = some y → base ≤ y ∧ y ∉ no)
  (ho : d.old (d.peek s) = false) (hn : d.has s = none) :
  Calls Tryz.prog 58 #[.pointer (some ⟨g,0,none⟩),.int .u16 (s.toNat : Nat),v] w fun e w' => e = .returned (.tuple #[]) ∧ PkW w' base own no g mb (d.put s b) (hs.filter fun y => !(d.add s b).lost y.1) turn ∧ Fr own w w':=by
 have HH:=Hd h;have HP:=Hd hp
 obtain ⟨vr,B,D,hB,hO,hM,hvr,hBB⟩:=h.ex
 obtain ⟨av,nv,cv,rfl⟩:=Sl.isSlice hv
 obtain ⟨ar,cr,rfl⟩:=hO.shape
 obtain ⟨w1,e1,hF1,hX1,hs1⟩:=one_new w #[.pointer (some ⟨g,0,none⟩)] 27
 have HB:=Hd (hB.keep hF1);have HO:=Hd (hO.keep Rep.held hF1);have HM:=Hd (hM.keep hF1);have HVR:=Hd hvr;have HBB:=Hd hBB
 have HX:=Hd hX1;have HV:=Hd (Sl.keep hv hF1);have HZ:=Hd hz;have HF:=Hd hF1;have E1:=Hd e1;have HI:=Hd (hp.bd (by omega));have HOLD:=Hd ho;have HNO:=Hd hn
 have HXL : Hid (∀ y ∈ no,y < w.heap.size):=Hd h.lt
 have HLOW:=Hd h.low;have HNE:=Hd h.ne;have HGN:=Hd (h.sub _ h.gin);have HMN:=Hd (h.sub _ h.mbin)
 have HXS : Hid (w.heap.size < w1.heap.size):=Hd (by omega)
 have HBD:=Hd (peek_bd (hp.bd (by omega)) s)
 have HRL : Hid (hs.length ≤ 1000):=Hd (by have:=hp.len;have:=hp.r;omega)
 have HML : Hid (d.med.length < maxLen):=Hd (by have:=hp.medlen;have:=hp.w;unfold maxLen;omega)
 clear h hp hB hO hM hvr hBB hv hz hF1 hX1 hs1 e1 ho hn
 go_enter Tryz.func58,Tryz.ntmps58
 go_upto_region 1 with fail
 rw [E1.out]
 clear E1
 generalize hx : w.heap.size = x at *
 have HXE:=Hd hx
 clear hx
 refine wp_region_T (fun w' => w'.cell? ⟨x,0,none⟩ = some (.pointer (some ⟨g,0,none⟩)) ∧ w'.cell? ⟨g,5,none⟩ = some (.map (some mb))) [10] 11 #[false,false,false,false,false,false,false,false,false,false,false] (by kernel_rfl) rfl rfl ?_
 try simp only [List.append_eq,List.cons_append,List.nil_append]
 have hF:=(Fr.refl [] w1).drew
 have HB:=Hd (HB.out.keep hF)
 have HM:=Hd (HM.out.keep hF)
 have HX:=Hd (HX.out.keep hF)
 have HV:=Hd (Sl.keep HV.out hF)
 have HF:=Hd (HF.out.trans hF)
 have HO:=Hd (HO.out.keep Rep.held hF)
 have HXS : Hid (x < w1.drew.heap.size):=Hd HXS.out
 clear hF
 generalize w1.drew = wd at *
 have HSS : Hid (wd.cell? ⟨x,0,none⟩ = some (.pointer (some ⟨g,0,none⟩)) ∧ wd.cell? ⟨g,5,none⟩ = some (.map (some mb))):=Hd ⟨by rw [HX.out.cell];rfl,by rw [HB.out.cell];rfl⟩
 refine wL 0 ?_ rfl (by kernel_rfl) (fun _ _ _ h => h) HSS.out (by rfl) ?_ ?_
 rotate_left
 ·intro w hSw;have n0:=hSw.1;have n1:=hSw.2;go_simp;try with_reducible rfl
 simp only [Act.put,zz1,zz2,zz3,zz4,zz5,zz6]
 refine wL 1 ?_ rfl (by kernel_rfl) (fun _ _ _ h => h) HSS.out (by rfl) ?_ ?_
 rotate_left
 ·intro w hSw;have n0:=hSw.1;have n1:=hSw.2;go_simp;try with_reducible rfl
 simp only [Act.put,zz1,zz2,zz3,zz4,zz5,zz6]
 refine wL 2 ?_ rfl (by kernel_rfl) (fun _ _ _ h => h) HSS.out (by rfl) ?_ ?_
 rotate_left
 ·intro w hSw;have n0:=hSw.1;have n1:=hSw.2;go_simp;try with_reducible rfl
 simp only [Act.put,zz1,zz2,zz3,zz4,zz5,zz6]
 refine wL 3 ?_ rfl (by kernel_rfl) (fun _ _ _ h => h) HSS.out (by rfl) ?_ ?_
 rotate_left
 ·intro w hSw;have n0:=hSw.1;have n1:=hSw.2;go_simp;try with_reducible rfl
 simp only [Act.put,zz1,zz2,zz3,zz4,zz5,zz6]
 refine wL 4 ?_ rfl (by kernel_rfl) (fun _ _ _ h => h) HSS.out (by rfl) ?_ ?_
 rotate_left
 ·intro w hSw;have n0:=hSw.1;have n1:=hSw.2;go_simp;try with_reducible rfl
 simp only [Act.put,zz1,zz2,zz3,zz4,zz5,zz6]
 refine wL 5 ?_ rfl (by kernel_rfl) (fun _ _ _ h => h) HSS.out (by rfl) ?_ ?_
 rotate_left
 ·intro w hSw;have n0:=hSw.1;have n1:=hSw.2;go_simp;try with_reducible rfl
 simp only [Act.put,zz1,zz2,zz3,zz4,zz5,zz6]
 refine wL 6 ?_ rfl (by kernel_rfl) (fun _ _ _ h => h) HSS.out (by rfl) ?_ ?_
 rotate_left
 ·intro w hSw;have n0:=hSw.1;have n1:=hSw.2;go_simp;try with_reducible rfl
 simp only [Act.put,zz1,zz2,zz3,zz4,zz5,zz6]
 refine wL 7 ?_ rfl (by kernel_rfl) (fun _ _ _ h => h) HSS.out (by rfl) ?_ ?_
 rotate_left
 ·intro w hSw;have n0:=hSw.1;have n1:=hSw.2;go_simp;try with_reducible rfl
 simp only [Act.put,zz1,zz2,zz3,zz4,zz5,zz6]
 refine wL 9 ?_ rfl (by kernel_rfl) (fun _ _ _ h => h) HSS.out (by rfl) ?_ ?_
 rotate_left
 ·intro w hSw;have n0:=hSw.1;have n1:=hSw.2;go_simp;try with_reducible rfl
 simp only [Act.put,zz1,zz2,zz3,zz4,zz5,zz6]
 refine wpAnyT_one (i:=8) (by kernel_rfl) rfl (fun K hK => ?_)
 rw [if_pos (by rfl)]
 go_simp
 refine (wideOf_any (o:=3) HB.out (by rfl) (by rfl) HI.out s).mono ?_
 rintro e wq ⟨rfl,hB,hF⟩
 have HX:=Hd (HX.out.fr hF (by have:=HXL.out _ HGN.out;simp;omega))
 have HO:=Hd (HO.out.fr Rep.held hF (fun b hb hm => (HBB.out b hb).2 (by rw [List.mem_singleton] at hm;exact hm ▸ HGN.out)) (fun b hb hm => (HVR.out b hb).2.1 (by rw [List.mem_singleton] at hm;exact hm)))
 have HM:=Hd (HM.out.fr hF (by have:=HNE.out;simp;omega) (fun y hy => by rw [List.mem_singleton] at hy;exact .inl (hy ▸ HGN.out)))
 have HV:=Hd (Sl.frL HV.out hF (fun y hy hm => (HZ.out y hy).2 (by rw [List.mem_singleton] at hm;exact hm ▸ HGN.out)))
 have HF : Hid (Fr [g] w wq):=Hd (HF.out.any.trans hF)
 have HXS:=Hd (Nat.lt_of_lt_of_le HXS.out hF.size)
 have HB : Hid (Box wq g 90 (pkc (d.note (d.peek s)) mb (.slice ar hs.length cr) turn)):=Hd (by
  have h1:=note_hi d s
  refine Box.as_ hB ?_
  unfold pkc
  rw [h1]
  rfl)
 have HSS : Hid (wq.cell? ⟨x,0,none⟩ = some (.pointer (some ⟨g,0,none⟩)) ∧ wq.cell? ⟨g,5,none⟩ = some (.map (some mb))):=Hd ⟨by rw [HX.out.cell];rfl,by rw [HB.out.cell];rfl⟩
 clear hF hB
 go_simp
 refine hK.out _ _ (fun _ => HSS.out) ?_
 clear hK K
 simp only [Act.put,zz1,zz2,zz3,zz4,zz5,zz6]
 refine wpAnyT_one (i:=10) (by kernel_rfl) rfl (fun K hK => ?_)
 have HOWN:=Hd HM.out.own
 refine wp_mapUpdate_at rfl _ _ _ 85 rfl 2 34 keyI64 Tryz.underlying85 heldR mb d.med.length D rfl HOWN.out HML.out (.int .i64 (peekW d.hi s)) (.slice av nv cv) (lkey (peekW d.hi s)) rfl rfl (keyOf_int_mk Tryz.underlying2 (lkey_wf HBD.out)) (.held (.slice av nv cv)) [] rfl ?_
 intro wf hown hgr
 have hF:=ofGrownB hgr
 have HM2 : Hid (MapB wf base mb no (D.put (lkey (peekW d.hi s)) (.held (.slice av nv cv))) (d.med ++ [⟨peekW d.hi s,s,b⟩])):=Hd (HM.out.put (o:=⟨peekW d.hi s,s,b⟩) (findP_none.1 (by
  have:=HNO.out
  exact this)) HV.out HZ.out HMN.out hown hF)
 have HX:=Hd (HX.out.fr hF (by have:=HXL.out _ HMN.out;simp;omega))
 have HO:=Hd (HO.out.fr Rep.held hF (fun b hb hm => (HBB.out b hb).2 (by rw [List.mem_singleton] at hm;exact hm ▸ HMN.out)) (fun b hb hm => (HVR.out b hb).2.2 (by rw [List.mem_singleton] at hm;exact hm)))
 have HB:=Hd (HB.out.fr hF (by have:=HNE.out;simp;omega))
 have HF : Hid (Fr own w wf):=Hd ((HF.out.mono (T:=own) (fun y hy => by rw [List.mem_singleton] at hy;exact hy ▸ HH.out.gin)).trans (hF.mono (fun y hy => by rw [List.mem_singleton] at hy;exact hy ▸ HH.out.mbin)))
 have HXS:=Hd (Nat.lt_of_lt_of_le HXS.out hF.size)
 clear hown hgr hF HM HSS HOWN HV HZ
 refine hK.out _ _ (fun _ => by rename_i h;exact absurd (by simp) h) ?_
 clear hK K
 simp only [Act.put,zz1,zz2,zz3,zz4,zz5,zz6]
 refine wpAnyT_done (by kernel_rfl) ?_ _
 generalize hA : d.med ++ [(⟨peekW d.hi s,s,b⟩ : PkO)] = A at *
 have HA:=Hd hA
 generalize hD2 : D.put (lkey (peekW d.hi s)) (.held (.slice av nv cv)) = D2 at *
 clear hA hD2
 obtain ⟨e0,he0⟩ : ∃ e0,d.note (d.peek s) = e0:=⟨_,rfl⟩
 have HE0:=Hd he0
 have HB : Hid (Box wf g 90 (pkc e0 mb (.slice ar hs.length cr) turn)):=Hd (he0 ▸ HB.out)
 have HIE : Hid (∀ h,e0.hi = some h → 40000 ≤ h ∧ h ≤ 4611686018427300000):=Hd (by
  obtain ⟨K,k1,k2⟩:=HP.out.hi
  rw [← he0]
  exact (k1.note s).bd (by have:=hN;omega))
 have HWE : Hid (e0.w ≤ 64):=Hd (by rw [← he0];exact HP.out.w)
 clear he0
 have x0:=HX.out.cell 0
 have x5:=HB.out.cell 5
 simp only [zz7,zz9] at x0
 simp only [pkc,zz7,zz8,zz9] at x5
 have HPW : Hid (A.Pairwise fun a b => a.n ≠ b.n):=Hd (by
  rw [← HA.out]
  refine List.pairwise_append.2 ⟨HP.out.good.uniq,List.pairwise_singleton _ _,fun a ha c hc => ?_⟩
  rw [List.mem_singleton] at hc
  subst hc
  exact findP_none.1 (show findP d.med (peekW d.hi s) = none from HNO.out) a ha)
 go_upto_region 3 with (at_range;refine wpList_range_own _ rfl _ 85 rfl 2 34 keyI64 Tryz.underlying85 heldR mb A.length D2 rfl HM2.out.own ?_;intro w3 hrg0 hg0 hs0;have HRG:=Hd hrg0;have HF0:=Hd (show Fr [] wf w3 by have:=Fr.ofGrown hg0;simpa using this);have HS3 : Hid (w3.heap.size = wf.heap.size + 1):=Hd (by first | exact hs0 | simpa using hs0);clear hrg0 hg0 hs0)
 go_frame
 clear x0 x5
 have HOL0 : Hid (∀ y ∈ B,y < wf.heap.size):=Hd (fun y hy => HO.out.lt Rep.held y hy)
 generalize hr : wf.heap.size = r at *
 have hxr : x < r:=HXS.out
 have HXR:=Hd hxr
 have HRN : Hid (∀ y ∈ no,y < r):=Hd (fun y hy => by have:=HXL.out y hy;omega)
 have hmr : mb < r:=HRN.out _ HMN.out
 have hgr : g < r:=HRN.out _ HGN.out
 have HMR:=Hd hmr;have HGR:=Hd hgr
 have HM3 : Hid (MapB w3 base mb (r :: no) D2 A):=Hd ((HM2.out.more (no':=r :: no) (fun y hy => by
  rcases List.mem_cons.1 hy with rfl | hy
  ·exact .inr (.inl (by omega))
  ·exact .inl hy)).keep HF0.out)
 have HX:=Hd (HX.out.keep HF0.out);have HB:=Hd (HB.out.keep HF0.out);have HO:=Hd (HO.out.keep Rep.held HF0.out);have HF:=Hd (HF.out.quiet HF0.out)
 have HRS:=Hd hr
 have HO1L : Hid (∀ y ∈ B,y < r):=Hd (fun y hy => HOL0.out y hy)
 clear hr HF0 HM2 hxr hmr hgr
 go_loopw [] (fun wr => ∃ (left : Lit → Bool) (cnt : Nat) (D3 : DataW Value),wr.ranges Tryz.prog 2 heldR mb r A.length D3 left cnt ∧ MapB wr base mb (r :: no) D3 (leftL A e0 left) ∧ Fr [mb,r] w3 wr) (fun wr => wr.rangeLeft mb r)
 case atStart => exact ⟨_,_,_,HRG.out,by rw [leftL_start HM3.out];exact HM3.out,Fr.refl _ _⟩
 case round =>
  clear HRG HM3
  obtain ⟨left,cnt,D3,hrg,hm3,hF⟩:=hrel
  have HRG:=Hd hrg;have HM3:=Hd hm3;have HFL:=Hd hF
  clear hrg hm3 hF
  go_upto_region 4 with (at_next;refine wpList_next_ranges (α:=Int) (β:=Value) _ rfl _ rfl 2 keyI64 heldR (Value.int .i64) id keyB_inv heldR_inv mb r A.length D3 left cnt rfl HRG.out ?_ ?_)
  ·intro hc0 hl0
   have HL0:=Hd hl0
   clear hl0 hc0
   have HXq:=Hd (HX.out.fr HFL.out (by have:=HXR.out;have:=HXL.out _ HMN.out;simp;omega))
   have HBq:=Hd (HB.out.fr HFL.out (by have:=HGR.out;have:=HNE.out;simp;omega))
   have HOq:=Hd (HO.out.fr Rep.held HFL.out (fun y hy hm => by
    have h1:=HO1L.out y hy
    have h2:=HBB.out y hy
    simp at hm
    rcases hm with rfl | rfl
    ·exact h2.2 HMN.out
    ·omega) (fun y hy hm => by
    have h1:=HVR.out y hy
    have h2:=HRN.out _ (HH.out.sub _ h1.1)
    simp at hm
    rcases hm with rfl | rfl
    ·exact h1.2.2 rfl
    ·omega))
   have HADD : Hid (d.add s b = { e0 with med:=A.filter fun o => !e0.old o.n }):=Hd (by
    have h1 : ([(⟨peekW d.hi s,s,b⟩ : PkO)]).filter (fun o => !e0.old o.n) = [⟨peekW d.hi s,s,b⟩]:=by
     have h2:=note_self HP.out.w1 HOLD.out
     rw [← HE0.out]
     have h3 : (d.note (d.peek s)).old (peekW d.hi s) = false:=h2
     simp [h3]
    rw [← HA.out,List.filter_append,h1,← HE0.out]
    rfl)
   have HM5 : Hid (MapB wr base mb no D3 (d.add s b).med):=Hd (by
    have h1:=HM3.out
    rw [leftL_end HL0.out] at h1
    rw [HADD.out]
    exact h1.more (fun y hy => .inl (List.mem_cons_of_mem _ hy)))
   have HB5 : Hid (Box wr g 90 (pkc (d.add s b) mb (.slice ar hs.length cr) turn)):=Hd (by
    rw [HADD.out]
    exact HBq.out)
   have HFQ : Hid (Fr own w wr):=Hd (HF.out.step HFL.out (fun y hy => by
    simp at hy
    rcases hy with rfl | rfl
    ·exact .inl HH.out.mbin
    ·exact .inr (by have:=HXE.out;have:=HXR.out;omega)))
   have HI5 : Hid (∀ h,(d.add s b).hi = some h → 40000 ≤ h ∧ h ≤ 4611686018427300000):=Hd (by rw [HADD.out];exact HIE.out)
   have HW5 : Hid ((d.add s b).w ≤ 64):=Hd HP.out.w
   clear HX HB HO HM3 HFL HF HRG HIE HWE HBq HADD HL0 HPW HA HE0 HI HOLD HNO HBD HML
   obtain ⟨d2,hd2⟩ : ∃ d2,d.add s b = d2:=⟨_,rfl⟩
   have HD2:=Hd hd2
   rw [hd2] at HM5 HB5 HI5 HW5
   clear hd2
   go_upto_region 7 with fail
   refine wp_region_T (fun w' => w'.cell? ⟨x,0,none⟩ = some (.pointer (some ⟨g,0,none⟩)) ∧ w'.cell? ⟨g,6,none⟩ = some (.slice ar hs.length cr)) [9] 10 #[false,false,false,false,false,false,false,false,false,false] (by kernel_rfl) rfl rfl ?_
   try simp only [List.append_eq,List.cons_append,List.nil_append]
   have hF:=(Fr.refl [] wr).drew
   have HB5:=Hd (HB5.out.keep hF)
   have HM5:=Hd (HM5.out.keep hF)
   have HXq:=Hd (HXq.out.keep hF)
   have HFQ:=Hd (HFQ.out.quiet hF)
   have HOq:=Hd (HOq.out.keep Rep.held hF)
   clear hF
   generalize wr.drew = wd at *
   have HSS : Hid (wd.cell? ⟨x,0,none⟩ = some (.pointer (some ⟨g,0,none⟩)) ∧ wd.cell? ⟨g,6,none⟩ = some (.slice ar hs.length cr)):=Hd ⟨by rw [HXq.out.cell];rfl,by rw [HB5.out.cell];rfl⟩
   refine wL 0 ?_ rfl (by kernel_rfl) (fun _ _ _ h => h) HSS.out (by rfl) ?_ ?_
   rotate_left
   ·intro w hSw;have n0:=hSw.1;have n1:=hSw.2;go_simp;try with_reducible rfl
   simp only [Act.put,zz1,zz2,zz3,zz4,zz5,zz6]
   refine wL 1 ?_ rfl (by kernel_rfl) (fun _ _ _ h => h) HSS.out (by rfl) ?_ ?_
   rotate_left
   ·intro w hSw;have n0:=hSw.1;have n1:=hSw.2;go_simp;try with_reducible rfl
   simp only [Act.put,zz1,zz2,zz3,zz4,zz5,zz6]
   refine wL 2 ?_ rfl (by kernel_rfl) (fun _ _ _ h => h) HSS.out (by rfl) ?_ ?_
   rotate_left
   ·intro w hSw;have n0:=hSw.1;have n1:=hSw.2;go_simp;try with_reducible rfl
   simp only [Act.put,zz1,zz2,zz3,zz4,zz5,zz6]
   refine wL 3 ?_ rfl (by kernel_rfl) (fun _ _ _ h => h) HSS.out (by rfl) ?_ ?_
   rotate_left
   ·intro w hSw;have n0:=hSw.1;have n1:=hSw.2;go_simp;try with_reducible rfl
   simp only [Act.put,zz1,zz2,zz3,zz4,zz5,zz6]
   refine wL 4 ?_ rfl (by kernel_rfl) (fun _ _ _ h => h) HSS.out (by rfl) ?_ ?_
   rotate_left
   ·intro w hSw;have n0:=hSw.1;have n1:=hSw.2;go_simp;try with_reducible rfl
   simp only [Act.put,zz1,zz2,zz3,zz4,zz5,zz6]
   refine wL 5 ?_ rfl (by kernel_rfl) (fun _ _ _ h => h) HSS.out (by rfl) ?_ ?_
   rotate_left
   ·intro w hSw;have n0:=hSw.1;have n1:=hSw.2;go_simp;try with_reducible rfl
   simp only [Act.put,zz1,zz2,zz3,zz4,zz5,zz6]
   refine wpAnyT_one (i:=6) (by kernel_rfl) rfl (fun K hK => ?_)
   rw [if_pos (by rfl)]
   go_simp
   refine (delHeld_any HOq.out (put1_pred HB5.out HM5.out HI5.out HW5.out HXq.out (fun hm => (HVR.out _ (mem_toList.1 hm)).2.1 rfl) (fun hm => (HVR.out _ (mem_toList.1 hm)).2.2 rfl) (fun hm => by have:=HXL.out _ (HH.out.sub _ (HVR.out _ (mem_toList.1 hm)).1);omega) (fun y hm => .inl (HH.out.sub _ (HVR.out _ (mem_toList.1 hm)).1))) HRL.out).mono ?_
   rintro e wq ⟨v',B',rfl,hO',hB',hbv,hF⟩
   obtain ⟨a',c',rfl⟩:=hO'.shape
   have HB6:=Hd (HB5.out.fr hF (fun hm => (HVR.out _ (mem_toList.1 hm)).2.1 rfl))
   have HX6:=Hd (HXq.out.fr hF (fun hm => by have:=HXL.out _ (HH.out.sub _ (HVR.out _ (mem_toList.1 hm)).1);omega))
   have HM6:=Hd (HM5.out.fr hF (fun hm => (HVR.out _ (mem_toList.1 hm)).2.2 rfl) (fun y hm => .inl (HH.out.sub _ (HVR.out _ (mem_toList.1 hm)).1)))
   have HO6:=Hd hO';have HB':=Hd hB';have HBV:=Hd hbv
   have HF6 : Hid (Fr own w wq):=Hd (HFQ.out.trans (hF.mono (fun y hm => (HVR.out _ (mem_toList.1 hm)).1)))
   have HSS : Hid (wq.cell? ⟨x,0,none⟩ = some (.pointer (some ⟨g,0,none⟩)) ∧ wq.cell? ⟨g,6,none⟩ = some (.slice ar hs.length cr)):=Hd ⟨by rw [HX6.out.cell];rfl,by rw [HB6.out.cell];rfl⟩
   clear hF hO' hB' hbv HB5 HXq HM5 HOq HFQ
   go_simp
   refine hK.out _ _ (fun _ => HSS.out) ?_
   clear hK K
   simp only [Act.put,zz1,zz2,zz3,zz4,zz5,zz6]
   refine wL 7 ?_ rfl (by kernel_rfl) (fun _ _ _ h => h) HSS.out (by rfl) ?_ ?_
   rotate_left
   ·intro w hSw;have n0:=hSw.1;have n1:=hSw.2;go_simp;try with_reducible rfl
   simp only [Act.put,zz1,zz2,zz3,zz4,zz5,zz6]
   refine wL 8 ?_ rfl (by kernel_rfl) (fun _ _ _ h => h) HSS.out (by rfl) ?_ ?_
   rotate_left
   ·intro w hSw;have n0:=hSw.1;have n1:=hSw.2;go_simp;try with_reducible rfl
   simp only [Act.put,zz1,zz2,zz3,zz4,zz5,zz6]
   refine wpAnyT_one (i:=9) (by kernel_rfl) rfl (fun K hK => ?_)
   rw [if_pos (by rfl)]
   obtain ⟨wf9,ef9,hF9,hB9,hs9⟩:=set_new HB6.out 6 (.slice a' (hs.filter fun y => !d2.lost y.1).length c')
   have f6:=HB6.out.free 6
   have n1:=HSS.out.2
   have E9:=Hd ef9;have HF9:=Hd hF9;have HB9:=Hd hB9
   clear ef9 hF9 hB9 hs9
   go_simp
   simp only [E9.out]
   refine hK.out _ _ (fun _ => by rename_i h;exact absurd (by simp) h) ?_
   clear hK K
   simp only [Act.put,zz1,zz2,zz3,zz4,zz5,zz6]
   refine wpAnyT_done (by kernel_rfl) ?_ _
   go_wp2_with fail
   go_end0
   have hg9 : ∀ y ∈ [g],y ∈ own:=fun y hy => by rw [List.mem_singleton] at hy;exact hy ▸ HH.out.gin
   have HFZ:=HF6.out.trans (HF9.out.mono hg9)
   have hdp : d.put s b = { d2 with rep:=(d2.keepR d.rep) }:=by rw [← HD2.out];rfl
   rw [HD2.out,hdp]
   refine ⟨rfl,⟨⟨_,B',D3,?_,HO6.out.fr Rep.held HF9.out (fun y hy hm => ?_) (fun y hy hm => ?_),HM6.out.fr HF9.out (fun hm => ?_) (fun y hm => ?_),fun y hy => HVR.out y (HBV.out ▸ hy),fun y hy => HBB.out y (HB'.out y hy)⟩,HH.out.sub,HH.out.gin,HH.out.mbin,HH.out.ne,?_,?_⟩,HFZ⟩
   ·exact HB9.out
   ·rw [List.mem_singleton] at hm
    exact (HBB.out y (HB'.out y hy)).2 (hm ▸ HGN.out)
   ·rw [List.mem_singleton] at hm
    exact (HVR.out y (HBV.out ▸ hy)).2.1 hm
   ·rw [List.mem_singleton] at hm
    exact HNE.out hm.symm
   ·rw [List.mem_singleton] at hm
    exact .inl (hm ▸ HGN.out)
   ·exact Nat.le_trans HH.out.low HFZ.size
   ·exact fun y hy => Nat.lt_of_lt_of_le (HH.out.lt y hy) HFZ.size
  ·intro k v kl y1 y2 w4 cnt4 hk hlk hR hat hrg4 hlt4 hg4 hs4 hen
   obtain ⟨-,hkl,hkb⟩:=HM3.out.entry hk (by cases hR;intro e;cases e) hat
   subst hkl
   have hF4 : Fr [r] wr w4:=ofGrownB hg4
   have HRG4:=Hd hrg4;have HKB:=Hd hkb;have HLT:=Hd hlt4;have HEN:=Hd hen
   have HM4:=Hd (HM3.out.fr hF4 (by have:=HMR.out;simp;omega) (fun y hy => by rw [List.mem_singleton] at hy;exact .inl (by simp [hy])))
   have HFL:=Hd (HFL.out.trans (hF4.mono (T:=[mb,r]) (by simp)))
   have HX4:=Hd (HX.out.fr HFL.out (by have:=HXR.out;have:=HXL.out _ HMN.out;simp;omega))
   have HB4:=Hd (HB.out.fr HFL.out (by have:=HGR.out;have:=HNE.out;simp;omega))
   have x0:=HX4.out.cell 0
   have x5:=HB4.out.cell 5
   simp only [zz7,zz9] at x0
   simp only [pkc,zz7,zz8,zz9] at x5
   clear hk hlk hR hat hrg4 hlt4 hg4 hs4 hF4 hkb
   try simp only [id_eq] at hen
   go_upto_region 5 with fail
   try go_frame
   clear hen HEN
   go_wp2_with fail
   refine (pkOld_any HB4.out HIE.out HWE.out k).mono ?_
   rintro e w5 ⟨rfl,hF⟩
   have HRG4:=Hd (Fr.rangesB hF HRG4.out (by simp) (by simp));have HM4:=Hd (HM4.out.keep hF);have HFL:=Hd (HFL.out.quiet hF)
   have x0:=hF.cellSome x0 (by simp)
   have x5:=hF.cellSome x5 (by simp)
   clear hF
   cases ho : e0.old k
   ·have HO2:=Hd ho
    clear ho
    go_wp2_with fail
    go_roundw
    case rel => exact ⟨_,_,_,HRG4.out,by rw [leftL_keep HO2.out];exact HM4.out,HFL.out⟩
    case measure => rw [HRG4.out.left_eq,HRG.out.left_eq];exact HLT.out
   ·have HO2:=Hd ho
    clear ho
    go_upto_region 3 with (at_delete;refine wpList_delete_ranges _ rfl _ _ 85 2 rfl 34 keyI64 Tryz.underlying85 heldR mb r A.length D3 _ cnt4 rfl HRG4.out (.int .i64 k) (lkey k) rfl (keyOf_int_mk Tryz.underlying2 (lkey_wf HKB.out)) ?_;intro w6 cnt6 hrg6 hle6 ht6;have HRG6:=Hd hrg6;have HLE6:=Hd hle6;have HF6:=Hd (ofTurnedB ht6);clear hrg6 hle6 ht6)
    go_roundw
    case rel => (repeat apply Exists.intro);refine ⟨⟨_,_,_,HRG6.out,(by rw [leftL_del HO2.out];exact HM4.out.del (HPW.out.filter _) (by have:=HMN.out;simp [this]) HRG6.out.owns HF6.out),HFL.out.trans (HF6.out.mono (by simp))⟩,rfl⟩
    case measure => rw [HRG6.out.left_eq,HRG.out.left_eq];have:=HLT.out;have:=HLE6.out;omega
end Go.Proofs.YtcngfbjmpemehaaGreat

/- The walks of slices.Clone of held repairs and of peel's ask (printed by gen_pk10.py). -/
namespace Go.Proofs.YtcngfbjmpemehaaGreat
open Go.RowKit Go.Maps

theorem wpList_append_elsN {α : Type} {k : Nat} {R : World → List Value → α → List Nat → Prop} {P : Program} {w : World} {ops : Array Oper} {rest : List Oper} {o : Oper} {a : Act} {Q : Exit → Act → World → Prop} (hR : Rep k R) (hk : 0 < k) (hgd : o.guard = none) (s x : Operand) (t : TypeId)
  (ho : o.op = .call { callee:=.builtin .append,args:=#[s,x],argTypes:=#[t,t] })
  (base : Nat) (e : TypeId) (z : Value) (bytes : Nat) (ht : P.underlying t = some (.slice e)) (hi : (P.info? e).map (fun i => (i.zero,i.size,i.bytes)) = some (some z,k,bytes)) (hz : z.cells.size = k)
  (v : Value) (ys : List α) (B : List Nat) (hs : a.eval s = v) (hown : OwnEls k R w base e v ys B)
  (ad : Option Addr) (n cp : Nat) (hx : a.eval x = .slice ad n cp) (zs : List α) (B2 : List Nat) (hzs : SlEls k R w (.slice ad n cp) zs B2) (hdis : ∀ b,blockOf v = some b → b ∉ B2)
  (h63 : ys.length + n ≤ maxLen) (hbytes : (ys.length + n) * bytes ≤ 140737488355328) (hbase : base ≤ w.heap.size)
  (h : ∀ v' w',OwnEls k R w' base e v' (ys ++ zs) (B ++ B2) → Fr (blockOf v).toList w w' → (∀ b,blockOf v' = some b → blockOf v = some b ∨ w.heap.size ≤ b) → wpList P ops Q rest (a.put o.dst v') w') : wpList P ops Q (o :: rest) a w:=by
 obtain ⟨i,hi1,hi2,hi3,hi4⟩:=info_parts hi
 cases ad with
 | none =>
  obtain ⟨c2,a2,cap2,g1,g2,g3,g4,g5,g6⟩:=hzs
  simp only [Value.slice.injEq] at g1
  obtain ⟨rfl,rfl,rfl⟩:=g1
  obtain rfl:=g4 rfl
  have hn : zs = []:=List.eq_nil_of_length_eq_zero (by omega)
  subst hn
  obtain ⟨rfl,rfl⟩:=g5
  obtain ⟨cells,h1,h2,h3⟩:=hown
  exact wpList_append_own_none hgd s x t ho base e i k ht hi1 v _ cells hs h1 hx (h v w ⟨cells,by simpa using h1,by simpa using h2,by simpa using h3⟩ (Fr.refl _ _) (fun b hb => .inl hb))
 | some p =>
  by_cases hn0 : 0 < n
  ·have hp : p.spot = none:=by
    obtain ⟨c2,a2,cap2,g1,g2,g3,g4,g5,g6⟩:=hzs
    simp only [Value.slice.injEq] at g1
    obtain ⟨rfl,rfl,rfl⟩:=g1
    exact (g6 p rfl (by omega)).1
   obtain ⟨b,off,sp⟩:=p
   simp only at hp
   subst hp
   exact wpList_append_els hR hk hgd s x t ho base e z bytes ht hi hz v ys B hs hown b off n cp hx zs hn0 B2 hzs hdis h63 hbytes hbase h
  ·obtain rfl : n = 0:=by omega
   obtain ⟨c2,a2,cap2,g1,g2,g3,g4,g5,g6⟩:=hzs
   simp only [Value.slice.injEq] at g1
   obtain ⟨-,hl0,-⟩:=g1
   have hn : zs = []:=List.eq_nil_of_length_eq_zero (by omega)
   subst hn
   obtain ⟨rfl,rfl⟩:=g5
   obtain ⟨cells,h1,h2,h3⟩:=hown
   refine wpList_append_fr hgd s x t ho base e z k bytes ht hi hz hk v ys.length cells hs h1 p 0 cp [] hx (by simp) (by simp) (by simp) h63 hbytes hbase ?_
   intro v' w' q1 q2 q3 q4
   refine h v' w' ⟨cells,by simpa using q1,by simpa using h2.fr hR q2 (fun b hb hm => h3 b (by simpa using hm) hb),?_⟩ q2 q3
   intro b hb hm
   have hm : b ∈ B:=by simpa using hm
   rcases q3 b hb with hv | hn
   ·exact h3 b hv hm
   ·have:=h2.lt hR b hm;omega
def GotR (w : World) (c : List Value) (y : UInt16 × List UInt8 × Bool) (B : List Nat) : Prop:=∃ v,c = [.int .u16 (y.1.toNat : Nat),v,.bool y.2.2] ∧ OwnB w 0 v y.2.1 ∧ B = (blockOf v).toList
theorem Rep.got : Rep 3 GotR where
 len:=by rintro w c y B ⟨v,rfl,-,-⟩;rfl
 one:=by
  rintro w c y B ⟨v,rfl,h,-⟩ u hu
  obtain ⟨a,n,cp,rfl⟩:=h.isSlice
  simp only [List.mem_cons,List.not_mem_nil,or_false] at hu
  rcases hu with rfl | rfl | rfl <;> rfl
 lt:=by
  rintro w c y B ⟨v,rfl,h,rfl⟩ b hb
  exact (h.block b (by simpa using hb)).2
 fr:=by
  rintro w w' c y B S ⟨v,rfl,h,rfl⟩ hf hS
  exact ⟨v,rfl,h.fr hf (fun b hb => hS b (by simp [hb])),rfl⟩
theorem PkW.grow {w w' : World} {base : Nat} {own no new : List Nat} {g mb : Nat} {d : PkD} {hs : List (Rep_ × Int)} {turn : Int} (h : PkW w base own no g mb d hs turn) (hf : Fr [] w w') (hn : ∀ b ∈ new,w.heap.size ≤ b ∧ b < w'.heap.size) : PkW w' base own (new ++ no) g mb d hs turn:=by
 obtain ⟨⟨vr,B,D,hB,hO,hM,hv,hBB⟩,q1,q2,q3,q4,q5,q6⟩:=h
 refine ⟨⟨vr,B,D,hB.keep hf,hO.keep Rep.held hf,(hM.more (no':=new ++ no) (fun y hy => ?_)).keep hf,hv,fun b hb => ⟨(hBB b hb).1,fun hm => ?_⟩⟩,fun b hb => List.mem_append_right _ (q1 b hb),q2,q3,q4,Nat.le_trans q5 hf.size,fun b hb => ?_⟩
 ·rcases List.mem_append.1 hy with hy | hy
  ·exact .inr (.inl (hn y hy).1)
  ·exact .inl hy
 ·have:=hO.lt Rep.held b hb
  rcases List.mem_append.1 hm with hm | hm
  ·have:=(hn b hm).1;omega
  ·exact (hBB b hb).2 hm
 ·rcases List.mem_append.1 hb with hb | hb
  ·exact (hn b hb).2
  ·exact Nat.lt_of_lt_of_le (q6 b hb) hf.size
theorem cloneHeld_any {w : World} {v : Value} {ys : List (Rep_ × Int)} {B : List Nat} (h : SlEls 13 HdR w v ys B) (hl : ys.length ≤ 1000) :
  Calls Tryz.prog 116 #[v] w fun e w' => ∃ v',e = .returned v' ∧ OwnEls 13 HdR w' w.heap.size 144 v' ys B ∧ Fr [] w w':=by
 obtain ⟨a,cap,rfl⟩:=h.shape
 have hcap : a = none → ys = []:=by
  intro ha
  obtain ⟨_,h2,_,h4⟩:=h.len
  have:=h4 ha
  exact List.eq_nil_of_length_eq_zero (by omega)
 have HC:=Hd hcap
 have H:=Hd h
 clear h hcap
 have hn:=fun (w : World) => Lib.run_eql_slice_nil (P:=Tryz.prog) w 88 144 a ys.length cap 0 0 Tryz.underlying88
 cases a with
 | none =>
  obtain rfl:=HC.out rfl
  have HB0 : Hid (B = []):=Hd (by
   obtain ⟨cells,a2,cap2,-,-,-,-,g5,-⟩:=H.out
   exact g5.2)
  clear hl
  clear HC H
  simp only [Option.isNone_none,List.length_nil] at hn ⊢
  go_enter Tryz.func116,Tryz.ntmps116
  go_wp2_with fail
  go_ret
  exact ⟨_,rfl,by rw [HB0.out];exact OwnEls.nil _ _ _,Fr.refl _ _⟩
 | some p =>
  simp only [Option.isNone_some] at hn
  clear HC
  have HH : Hid (∀ o,SlEls 13 HdR (w.alloc o) (.slice (some p) ys.length cap) ys B):=Hd (fun o => H.out.keep Rep.held ((Fr.refl _ _).alloc o))
  have HDJ : Hid (∀ b,blockOf (.slice (some ⟨w.heap.size,0,none⟩) 0 0) = some b → b ∉ B):=Hd (fun b hb hm => by
   have h1:=(H.out.lt Rep.held).1 b hm
   simp [blockOf] at hb
   omega)
  go_enter Tryz.func116,Tryz.ntmps116
  go_wp2_with (at_builtin;refine wpList_append_elsN Rep.held (by decide) rfl (.tmp 5) (.tmp 6) 88 rfl w.heap.size 144 (.agg #[.int .u8 0,.int .u8 0,.int .u8 0,.int .u8 0,.int .u8 0,.int .u8 0,.int .u8 0,.int .u8 0,.int .u16 0,.int .u64 0,.int .u64 0,.slice none 0 0,.int .i64 0]) 64 Tryz.underlying88 info_held rfl (.slice (some ⟨w.heap.size,0,none⟩) 0 0) [] [] rfl (OwnEls.made w w.heap.size 144 (Nat.le_refl _)) (some p) ys.length cap rfl ys B (HH.out _) HDJ.out (by unfold maxLen;simp;omega) (by simp;omega) (by simp) ?_)
  intro v' w' ho hg hfr
  have HO:=Hd ho
  have HG:=Hd hg
  obtain ⟨a',c',rfl⟩:=ho.shape
  clear ho hg hfr
  go_wp2_with fail
  go_ret
  exact ⟨_,rfl,HO.out,((Fr.refl [] w).alloc _).step HG.out (fun y hy => .inr (by simp [blockOf] at hy;omega))⟩
end Go.Proofs.YtcngfbjmpemehaaGreat

/- The walk of peel's ask (printed by gen_pk11.py). -/
namespace Go.Proofs.YtcngfbjmpemehaaGreat
open Go.RowKit Go.Maps

theorem run_load_mid_ask {P : Program} {w : World} {o : Oper} {a : Act} (ty : TypeId) (x : Operand) (ho : o.op = .load ty x) (b off : Nat) (hx : a.eval x = .pointer (some ⟨b,off,none⟩)) (cs : Array Value) (d : TypeDesc) (hc : w.rangeAt b off cs.toList)
  (hu : P.underlying ty = some d) (hd : d.isRow = true) (hi : (P.info? ty).map (·.size) = some cs.size) : (execOp a.eval o).run P w = .ok (.value (.agg cs)) w:=by
 unfold execOp
 simp only [ho,hx,Instr.loadAt,Instr.sureAddr,Sem.run_bind,Sem.run_pure,Result.andThen_ok,run_loadVar_mid w b off ty cs.toList d hc hu hd hi]
theorem held_range {w : World} {g : Nat} {y : Rep_ × Int} {v : Value} (hB : Box w g 144 (hdc y v)) : w.rangeAt g 0 (rpc y.1 v).toList:=fun j u hj => box_range hB j u (by
 have hlt:=(List.getElem?_eq_some_iff.1 hj).1
 have e : (hdc y v).toList = (rpc y.1 v).toList ++ [.int .i64 y.2]:=rfl
 rw [e,List.getElem?_append_left hlt]
 exact hj)
theorem fr_rngB {S : List Nat} {a b : World} {g o : Nat} {cs : List Value} (h : Fr S a b) (hc : a.rangeAt g o cs) (hS : g ∉ S) : b.rangeAt g o cs:=fun j v hv => h.cellSome (hc j v hv) hS
def GotPost (w : World) (base : Nat) (own no : List Nat) (g mb : Nat) (d : PkD) (hs : List (Rep_ × Int)) (turn : Int) (out : List (UInt16 × List UInt8 × Bool)) (v : Value) (w' : World) : Prop :=
 ∃ Bo no',PkW w' base own no' g mb d hs turn ∧ SlEls 3 GotR w' v out Bo ∧ (∀ b ∈ Bo,w.heap.size ≤ b ∧ b ∈ no') ∧ (∀ b,liveOf v = some b → w.heap.size ≤ b ∧ b ∈ no') ∧ (∀ b ∈ no,b ∈ no')
def askD (d : PkD) (hs : List (Rep_ × Int)) (y : Rep_ × Int) : PkD × List (Rep_ × Int) × List (UInt16 × List UInt8 × Bool) :=
 if (oneL d.has d.ss y.1).2.2 = 41 then (d,hs,[])
 else if (oneL d.has d.ss y.1).2.2 ≠ 0 then ({ d with rep:=(hs.filter fun x => !(x.2 == y.2)).map Prod.fst },hs.filter fun x => !(x.2 == y.2),[])
 else (({ d with rep:=(hs.filter fun x => !(x.2 == y.2)).map Prod.fst } : PkD).put (oneL d.has d.ss y.1).1 (oneL d.has d.ss y.1).2.1,
  (hs.filter fun x => !(x.2 == y.2)).filter (fun x => !(({ d with rep:=(hs.filter fun x => !(x.2 == y.2)).map Prod.fst } : PkD).add (oneL d.has d.ss y.1).1 (oneL d.has d.ss y.1).2.1).lost x.1),[((oneL d.has d.ss y.1).1,(oneL d.has d.ss y.1).2.1,true)])
theorem filter_turn_lt {hs : List (Rep_ × Int)} {y : Rep_ × Int} (hy : y ∈ hs) : (hs.filter fun x => !(x.2 == y.2)).length < hs.length:=by
 rcases Nat.lt_or_ge (hs.filter fun x => !(x.2 == y.2)).length hs.length with h | h
 ·exact h
 ·have h1:=List.filter_sublist (p:=fun x : Rep_ × Int => !(x.2 == y.2)) (l:=hs)
  have h2:=h1.eq_of_length (by have:=h1.length_le;omega)
  have h3 : y ∈ hs.filter fun x => !(x.2 == y.2):=by rw [h2];exact hy
  have:=(List.mem_filter.1 h3).2
  simp at this
theorem got_lit {w : World} {g : Nat} {s : UInt16} {v : Value} {b : List UInt8} {t : Bool} (hB : Box w g 52 #[.int .u16 (s.toNat : Nat),v,.bool t]) (hv : OwnB w 0 v b) : SlEls 3 GotR w (.slice (some ⟨g,0,none⟩) 1 1) [(s,b,t)] (blockOf v).toList:=by
 refine ⟨[.int .u16 (s.toNat : Nat),v,.bool t],_,1,rfl,by simp,by unfold maxLen;omega,(fun e => by cases e),⟨_,[],_,[],by simp,by simp,⟨v,rfl,hv,rfl⟩,rfl,rfl⟩,?_⟩
 rintro p hp -
 simp only [Option.some.injEq] at hp
 subst hp
 exact ⟨rfl,hB.lt,fun i x hx => by rw [Nat.zero_add];rw [hB.cell,← Array.getElem?_toList];exact hx⟩
theorem pkAsk_any {w : World} {base : Nat} {own no : List Nat} {g mb N : Nat} {d : PkD} {hs : List (Rep_ × Int)} {turn : Int} (h : PkW w base own no g mb d hs turn) (hp : PkP d hs turn N) (hN : N < 1000000) {y : Rep_ × Int} (hy : y ∈ hs) {a : Option Addr} {n c : Nat} (hb : Bytes w (.slice a n c) y.1.bt.body) :
  Calls Tryz.prog 118 #[.pointer (some ⟨g,0,none⟩),.agg (hdc y (.slice a n c))] w fun e w' => ∃ v,e = .returned v ∧ GotPost w base own no g mb (askD d hs y).1 (askD d hs y).2.1 turn (askD d hs y).2.2 v w' ∧ PkP (askD d hs y).1 (askD d hs y).2.1 turn N ∧ Fr own w w':=by
 have HP:=Hd hp;have HY:=Hd hy
 obtain ⟨w1,e1,hF1,hX1,hs1⟩:=one_new w (hdc y (.slice a n c)) 144
 have HH:=Hd (h.keep hF1);have HX:=Hd hX1;have HBY:=Hd (Sl.keep hb hF1);have HF:=Hd hF1;have E1:=Hd e1
 have HON : Hid (w.heap.size ∉ own):=Hd (fun hm => by have:=h.lt _ (h.sub _ hm);omega)
 have HNL : Hid (∀ b ∈ no,b < w.heap.size):=Hd h.lt
 have HH0:=Hd h
 have HBS : Hid (y.1.bt.body.length ≤ 1099511627776):=Hd (by have:=hp.rsz y hy;omega)
 have HI:=Hd (hp.bd (by omega))
 have HL : Hid (hs.length ≤ 1000):=Hd (by have:=hp.len;have:=hp.r;omega)
 clear h hp hb hF1 hX1 hs1 e1 hy
 go_enter Tryz.func118,Tryz.ntmps118
 go_upto_region 1 with fail
 rw [E1.out]
 clear E1
 generalize hq : w.heap.size = q at *
 have HQ:=Hd hq
 clear hq
 refine wp_region_T (fun w' => Fr [] w1.drew w') [] 16 #[false,false,false,false,false,false,false,false,false,false,false,false,false,false,false,false] (by kernel_rfl) rfl rfl ?_
 try simp only [List.append_eq,List.cons_append,List.nil_append]
 have hF:=(Fr.refl [] w1).drew
 have HH:=Hd (HH.out.keep hF)
 have HX:=Hd (HX.out.keep hF)
 have HBY:=Hd (Sl.keep HBY.out hF)
 have HF:=Hd (HF.out.trans hF)
 clear hF
 have HSS : Hid (Fr [] w1.drew w1.drew):=Hd (Fr.refl _ _)
 generalize w1.drew = wd at *
 have HRG:=Hd (held_range HX.out)
 have HC0 : Hid (wd.cell? ⟨g,0,none⟩ = some (.int .u32 (d.ss.toNat : Nat))):=Hd (by
  obtain ⟨vr,B,D,hB,-⟩:=HH.out.ex
  rw [hB.cell]
  rfl)
 refine wL 0 ?_ rfl (by kernel_rfl) (fun _ _ _ h => h) HSS.out (by rfl) ?_ ?_
 rotate_left
 ·intro w hSw;have n0:=hSw.cellSome HC0.out (by simp);go_simp;try with_reducible rfl
 simp only [Act.put,zz1,zz2,zz3,zz4,zz5,zz6]
 refine wL 1 ?_ rfl (by kernel_rfl) (fun _ _ _ h => h) HSS.out (by rfl) ?_ ?_
 rotate_left
 ·intro w' hSw;refine run_load_mid_ask 38 (.tmp 9) ?_ q 0 ?_ (rpc y.1 (.slice a n c)) _ (fr_rngB hSw HRG.out (by simp)) Tryz.underlying38 rfl (by kernel_rfl) <;> rfl
 simp only [Act.put,zz1,zz2,zz3,zz4,zz5,zz6]
 refine wL 2 ?_ rfl (by kernel_rfl) (fun _ _ _ h => h) HSS.out (by rfl) ?_ ?_
 rotate_left
 ·intro w hSw;have n0:=hSw.cellSome HC0.out (by simp);go_simp;try with_reducible rfl
 simp only [Act.put,zz1,zz2,zz3,zz4,zz5,zz6]
 refine wL 3 ?_ rfl (by kernel_rfl) (fun _ _ _ h => h) HSS.out (by rfl) ?_ ?_
 rotate_left
 ·intro w hSw;have n0:=hSw.cellSome HC0.out (by simp);go_simp;try with_reducible rfl
 simp only [Act.put,zz1,zz2,zz3,zz4,zz5,zz6]
 refine wL 4 ?_ rfl (by kernel_rfl) (fun _ _ _ h => h) HSS.out (by rfl) ?_ ?_
 rotate_left
 ·intro w hSw;have n0:=hSw.cellSome HC0.out (by simp);go_simp;try with_reducible rfl
 simp only [Act.put,zz1,zz2,zz3,zz4,zz5,zz6]
 refine wL 5 ?_ rfl (by kernel_rfl) (fun _ _ _ h => h) HSS.out (by rfl) ?_ ?_
 rotate_left
 ·intro w hSw;have n0:=hSw.cellSome HC0.out (by simp);go_simp;try with_reducible rfl
 simp only [Act.put,zz1,zz2,zz3,zz4,zz5,zz6]
 refine wL 6 ?_ rfl (by kernel_rfl) (fun _ _ _ h => h) HSS.out (by rfl) ?_ ?_
 rotate_left
 ·intro w hSw;have n0:=hSw.cellSome HC0.out (by simp);go_simp;try with_reducible rfl
 simp only [Act.put,zz1,zz2,zz3,zz4,zz5,zz6]
 refine wL 7 ?_ rfl (by kernel_rfl) (fun _ _ _ h => h) HSS.out (by rfl) ?_ ?_
 rotate_left
 ·intro w hSw;have n0:=hSw.cellSome HC0.out (by simp);go_simp;try with_reducible rfl
 simp only [Act.put,zz1,zz2,zz3,zz4,zz5,zz6]
 refine wpAnyT_one (i:=8) (by kernel_rfl) rfl (fun K hK => ?_)
 rw [if_pos (by rfl)]
 go_simp
 obtain ⟨vr,B,D,hB,-,hM,-⟩:=HH.out.ex
 refine (svOne_own (r:=y.1) ⟨_,rfl,HBY.out⟩ HBS.out (pk_knows hB hM HI.out) d.ss).mono ?_
 rintro e wq ⟨v2,rfl,h2,hF⟩
 obtain ⟨a2,n2,c2,rfl⟩:=h2.isSlice
 have H2:=Hd (h2.mono HF.out.size)
 have HSS:=Hd (HSS.out.trans hF);have HH:=Hd (HH.out.keep hF);have HX:=Hd (HX.out.keep hF);have HF:=Hd (HF.out.trans hF)
 clear hF h2 hB hM HBY HRG HC0
 go_simp
 refine hK.out _ _ (fun _ => HSS.out) ?_
 clear hK K
 simp only [Act.put,zz1,zz2,zz3,zz4,zz5,zz6]
 refine wL 9 ?_ rfl (by kernel_rfl) (fun _ _ _ h => h) HSS.out (by rfl) ?_ ?_
 rotate_left
 ·intro w hSw;go_simp;try with_reducible rfl
 simp only [Act.put,zz1,zz2,zz3,zz4,zz5,zz6]
 refine wL 10 ?_ rfl (by kernel_rfl) (fun _ _ _ h => h) HSS.out (by rfl) ?_ ?_
 rotate_left
 ·intro w hSw;go_simp;try with_reducible rfl
 simp only [Act.put,zz1,zz2,zz3,zz4,zz5,zz6]
 refine wL 11 ?_ rfl (by kernel_rfl) (fun _ _ _ h => h) HSS.out (by rfl) ?_ ?_
 rotate_left
 ·intro w hSw;go_simp;try with_reducible rfl
 simp only [Act.put,zz1,zz2,zz3,zz4,zz5,zz6]
 refine wL 12 ?_ rfl (by kernel_rfl) (fun _ _ _ h => h) HSS.out (by rfl) ?_ ?_
 rotate_left
 ·intro w hSw;go_simp;try with_reducible rfl
 simp only [Act.put,zz1,zz2,zz3,zz4,zz5,zz6]
 refine wL 13 ?_ rfl (by kernel_rfl) (fun _ _ _ h => h) HSS.out (by rfl) ?_ ?_
 rotate_left
 ·intro w hSw;go_simp;try with_reducible rfl
 simp only [Act.put,zz1,zz2,zz3,zz4,zz5,zz6]
 refine wL 14 ?_ rfl (by kernel_rfl) (fun _ _ _ h => h) HSS.out (by rfl) ?_ ?_
 rotate_left
 ·intro w hSw;go_simp;try with_reducible rfl
 simp only [Act.put,zz1,zz2,zz3,zz4,zz5,zz6]
 refine wL 15 ?_ rfl (by kernel_rfl) (fun _ _ _ h => h) HSS.out (by rfl) ?_ ?_
 rotate_left
 ·intro w hSw;go_simp;try with_reducible rfl
 simp only [Act.put,zz1,zz2,zz3,zz4,zz5,zz6]
 refine wpAnyT_done (by kernel_rfl) ?_ _
 have H2 : Hid (OwnB wq q (.slice a2 n2 c2) (oneL d.has d.ss y.1).2.1):=Hd (H2.out.mono (by have:=HQ.out;omega))
 have HAD : Hid (∀ zs zb ze,oneL d.has d.ss y.1 = (zs,zb,ze) → askD d hs y = if ze = 41 then (d,hs,[]) else if ze ≠ 0 then ({ d with rep:=(hs.filter fun x => !(x.2 == y.2)).map Prod.fst },hs.filter fun x => !(x.2 == y.2),[]) else (({ d with rep:=(hs.filter fun x => !(x.2 == y.2)).map Prod.fst } : PkD).put zs zb,(hs.filter fun x => !(x.2 == y.2)).filter (fun x => !(({ d with rep:=(hs.filter fun x => !(x.2 == y.2)).map Prod.fst } : PkD).add zs zb).lost x.1),[(zs,zb,true)])):=Hd (fun zs zb ze e => by unfold askD;rw [e])
 have HTO : Hid (∀ zs zb,oneL d.has d.ss y.1 = (zs,zb,0) → isPk d.ss zs zb ∧ zb.length ≤ 1000000 ∧ d.old (d.peek zs) = false ∧ d.has zs = none):=Hd (fun zs zb e => HP.out.told HY.out e)
 generalize oneL d.has d.ss y.1 = z at *
 obtain ⟨zs,zb,ze⟩:=z
 have HAD:=Hd (HAD.out zs zb ze rfl)
 dsimp only at H2 ⊢
 by_cases h41 : ze = 41
 ·subst h41
  have HAD:=Hd (HAD.out.trans (if_pos rfl))
  go_wp2_with fail
  go_ret
  rw [HAD.out]
  exact ⟨_,rfl,⟨[],no,HH.out,SlEls.nil _,by simp,(fun b hb => by cases hb),fun b hb => hb⟩,HP.out,HF.out.any⟩
 have HAD:=Hd (HAD.out.trans (if_neg h41))
 have h41b : (ze == 41) = false:=beq_eq_false_iff_ne.2 h41
 clear h41
 have x12:=HX.out.cell 12
 simp only [hdc,zz7,zz8,zz9] at x12
 go_wp2_with fail
 refine (pkDrop_any HH.out HL.out y.2).mono ?_
 rintro e w3 ⟨rfl,hH,hF⟩
 have HSUB : Hid ((hs.filter fun x => !(x.2 == y.2)).Sublist hs):=Hd List.filter_sublist
 have HLT:=Hd (filter_turn_lt HY.out)
 have HP1:=Hd (HP.out.sub1 HSUB.out HLT.out)
 have HL1 : Hid (1 ≤ N):=Hd (by
  obtain ⟨K,h1,h2⟩:=HP.out.hi
  have:=HLT.out
  omega)
 have HH:=Hd hH
 have H2 : Hid (OwnB w3 q (.slice a2 n2 c2) zb):=Hd (H2.out.fr hF (fun b hb hm => by
  have h1:=(H2.out.block b hb).1
  have h2:=HNL.out b (HH0.out.sub b hm)
  omega))
 have HF:=Hd (HF.out.any.trans hF)
 have HSQ : Hid (q ≤ w3.heap.size):=Hd (by have:=HF.out.size;have:=HQ.out;omega)
 clear hF hH x12 h41b HX
 generalize hg1 : (hs.filter fun x => !(x.2 == y.2)) = hs1 at *
 clear hg1
 generalize hg2 : ({ d with rep:=hs1.map Prod.fst } : PkD) = d1 at *
 have HD1 : Hid (d1.ss = d.ss ∧ d1.old = d.old ∧ d1.peek = d.peek ∧ d1.has = d.has):=Hd (by rw [← hg2];exact ⟨rfl,rfl,rfl,rfl⟩)
 clear hg2
 by_cases h0 : ze = 0
 rotate_left
 ·have HAD:=Hd (HAD.out.trans (if_pos h0))
  have h0b : (ze == 0) = false:=beq_eq_false_iff_ne.2 h0
  have h0c : (ze != 0) = true:=by simpa using h0
  clear h0
  go_wp2_with fail
  go_ret
  rw [HAD.out]
  exact ⟨_,rfl,⟨[],no,HH.out,SlEls.nil _,by simp,(fun b hb => by cases hb),fun b hb => hb⟩,HP1.out.mono (by omega),HF.out⟩
 ·subst h0
  have HAD:=Hd (HAD.out.trans (if_neg (by simp)))
  have HT:=Hd (HTO.out zs zb rfl)
  clear HTO
  have HPP : Hid (PkP (d1.put zs zb) (hs1.filter fun y => !(d1.add zs zb).lost y.1) turn N):=Hd (by
   obtain ⟨t1,t2,t3,t4⟩:=HT.out
   obtain ⟨e1,e2,e3,e4⟩:=HD1.out
   have h1:=HP1.out.put (s:=zs) (b:=zb) (by rw [e1];exact t1) t2 (by rw [e2,e3];exact t3) (by rw [e4];exact t4)
   have h2:=HL1.out
   have h3 : N - 1 + 1 = N:=by omega
   rw [h3] at h1
   exact h1)
  go_wp2_with fail
  refine (pkPut_any HH.out HP1.out (by omega) zs H2.out.bytes (fun b hb => ?_) ?_ ?_).mono ?_
  ·have h1:=(H2.out.block b (live_block hb)).1
   have h2:=HH0.out.low
   have h3:=HQ.out
   exact ⟨by omega,fun hm => by have:=HNL.out b hm;omega⟩
  ·obtain ⟨e1,e2,e3,e4⟩:=HD1.out
   rw [e2,e3]
   exact HT.out.2.2.1
  ·obtain ⟨e1,e2,e3,e4⟩:=HD1.out
   rw [e4]
   exact HT.out.2.2.2
  rintro e w4 ⟨rfl,hH,hF⟩
  have HH:=Hd hH
  have H2 : Hid (OwnB w4 q (.slice a2 n2 c2) zb):=Hd (H2.out.fr hF (fun b hb hm => by
   have h1:=(H2.out.block b hb).1
   have h2:=HNL.out b (HH0.out.sub b hm)
   omega))
  have HSQ : Hid (q ≤ w4.heap.size):=Hd (Nat.le_trans HSQ.out hF.size)
  have HF:=Hd (HF.out.trans hF)
  clear hF hH HP1
  generalize (hs1.filter fun y => !(d1.add zs zb).lost y.1) = hs2 at *
  generalize d1.put zs zb = d2 at *
  clear HD1
  go_wp2_with fail
  refine (bytesClone_any H2.out.bytes (by have:=HT.out.2.1;omega)).mono ?_
  rintro e w5 ⟨v5,rfl,h5,hF⟩
  obtain ⟨a5,n5,c5,rfl⟩:=h5.isSlice
  have H5:=Hd h5;have HF5:=Hd hF
  clear hF h5
  obtain ⟨w6,e6,hF6,hB6,hs6⟩:=one_new w5 #[.int .u16 (zs.toNat : Nat),.slice a5 n5 c5,.bool true] 52
  have E6:=Hd e6;have HF6:=Hd hF6;have HB6:=Hd hB6;have HS6:=Hd hs6
  clear e6 hF6 hB6 hs6
  go_wp2_with fail
  rw [E6.out]
  go_ret
  rw [HAD.out]
  have hF46:=HF5.out.trans HF6.out
  have h50:=HF5.out.size
  have h60:=HF6.out.size
  refine ⟨_,rfl,⟨(blockOf (.slice a5 n5 c5)).toList,(w5.heap.size :: (blockOf (.slice a5 n5 c5)).toList) ++ no,HH.out.grow hF46 (fun b hb => ?_),got_lit HB6.out ((H5.out.keep HF6.out).mono (Nat.zero_le _)),fun b hb => ⟨?_,?_⟩,fun b hb => ⟨?_,?_⟩,fun b hb => List.mem_append_right _ hb⟩,HPP.out,HF.out.quiet hF46⟩
  ·rcases List.mem_cons.1 hb with rfl | hb
   ·exact ⟨h50,HB6.out.lt⟩
   ·have h1:=H5.out.block b (mem_toList.1 hb)
    exact ⟨h1.1,by omega⟩
  ·have h1:=(H5.out.block b (mem_toList.1 hb)).1
   have:=HSQ.out
   have:=HQ.out
   omega
  ·exact List.mem_append_left _ (List.mem_cons_of_mem _ hb)
  ·simp [liveOf] at hb
   subst hb
   have:=HSQ.out
   have:=HQ.out
   omega
  ·simp [liveOf] at hb
   subst hb
   simp
end Go.Proofs.YtcngfbjmpemehaaGreat

/- Peeling,plain: a round of the program over a copy of the repairs with turns is the document's round. No program in sight. -/
namespace Go.Proofs.YtcngfbjmpemehaaGreat

theorem goT_rep (l : List Rep_) : ∀ (k : Nat) (d : PkD) (vis rest : List Rep_) (out : List (UInt16 × List UInt8)),goT k { d with rep:=l } vis rest out = goT k d vis rest out
 | 0,d,vis,rest,out => rfl
 | k + 1,d,vis,[],out => rfl
 | k + 1,d,vis,r :: rest,out => by
  have e1 : (oneL ({ d with rep:=l } : PkD).has ({ d with rep:=l } : PkD).ss r) = oneL d.has d.ss r:=rfl
  simp only [goT]
  rw [e1]
  split
  ·exact goT_rep l k d _ _ _
  split
  ·exact goT_rep l k d _ _ _
  ·exact goT_rep l k (d.add (oneL d.has d.ss r).1 (oneL d.has d.ss r).2.1) _ _ _
theorem goR_rep (l : List Rep_) (d : PkD) (vis rest : List Rep_) (out : List (UInt16 × List UInt8)) : goR { d with rep:=l } vis rest out = goR d vis rest out:=goT_rep l _ _ _ _ _
theorem keepR_map (d : PkD) (l : List (Rep_ × Int)) : d.keepR (l.map Prod.fst) = (l.filter fun y => !d.lost y.1).map Prod.fst:=by
 unfold PkD.keepR
 rw [List.filter_map]
 rfl
def toldT (x : UInt16 × List UInt8) : UInt16 × List UInt8 × Bool:=(x.1,x.2,true)
def RInvP (d0 : PkD) (cs : List (Rep_ × Int)) (i : Nat) (d : PkD) (hs : List (Rep_ × Int)) (outs : List (UInt16 × List UInt8)) : Prop :=
 ∃ vis rest,hs = vis ++ rest ∧ TInv cs i vis rest ∧ goR d (vis.map Prod.fst) (rest.map Prod.fst) outs = goR d0 [] (cs.map Prod.fst) []
theorem RInvP.start (d0 : PkD) (cs : List (Rep_ × Int)) : RInvP d0 cs 0 d0 cs []:=⟨[],cs,rfl,TInv.start cs,rfl⟩
theorem RInvP.gone {d0 d : PkD} {cs hs : List (Rep_ × Int)} {i : Nat} {outs : List (UInt16 × List UInt8)} {x : Rep_ × Int} (h : RInvP d0 cs i d hs outs) (hx : cs[i]? = some x) (hg : (hs.any fun y => y.2 == x.2) = false) : RInvP d0 cs (i + 1) d hs outs:=by
 obtain ⟨vis,rest,rfl,h1,h2⟩:=h
 rw [List.any_eq_false] at hg
 exact ⟨vis,rest,rfl,h1.gone hx (fun y hy e => hg y hy (by simpa using e)),h2⟩
theorem RInvP.ask {d0 d : PkD} {cs hs : List (Rep_ × Int)} {i : Nat} {outs : List (UInt16 × List UInt8)} {x : Rep_ × Int} (h : RInvP d0 cs i d hs outs) (hn : (cs.map Prod.snd).Nodup) (hx : cs[i]? = some x) (hg : (hs.any fun y => y.2 == x.2) = true) :
  x ∈ hs ∧ ∃ more,more.length ≤ 1 ∧ (askD d hs x).2.2 = more.map toldT ∧ RInvP d0 cs (i + 1) (askD d hs x).1 (askD d hs x).2.1 (outs ++ more):=by
 obtain ⟨vis,rest,rfl,h1,h2⟩:=h
 rw [List.any_eq_true] at hg
 obtain ⟨y,hy,hyx⟩:=hg
 obtain ⟨rest',rfl,k1,k2,k3⟩:=h1.here hn hx ⟨y,hy,by simpa using hyx⟩
 refine ⟨by simp,?_⟩
 rw [List.map_cons] at h2
 by_cases h41 : (oneL d.has d.ss x.1).2.2 = 41
 ·rw [goR_less h41] at h2
  refine ⟨[],by simp,by unfold askD;rw [if_pos h41];rfl,vis ++ [x],rest',by unfold askD;rw [if_pos h41];simp,k1,?_⟩
  have e : (askD d (vis ++ x :: rest') x).1 = d:=by unfold askD;rw [if_pos h41]
  rw [e,List.append_nil,List.map_append]
  exact h2
 by_cases h0 : (oneL d.has d.ss x.1).2.2 = 0
 rotate_left
 ·rw [goR_err h41 h0] at h2
  refine ⟨[],by simp,by unfold askD;rw [if_neg h41,if_pos h0];rfl,vis,rest',?_,k2,?_⟩
  ·unfold askD
   rw [if_neg h41,if_pos h0]
   exact k3
  ·have e : (askD d (vis ++ x :: rest') x).1 = { d with rep:=(vis ++ rest').map Prod.fst }:=by
    unfold askD
    rw [if_neg h41,if_pos h0,k3]
   rw [e,List.append_nil,goR_rep]
   exact h2
 ·obtain ⟨s,b,e0,ho⟩ : ∃ s b e,oneL d.has d.ss x.1 = (s,b,e):=⟨_,_,_,rfl⟩
  rw [ho] at h0
  simp only at h0
  subst h0
  rw [goR_ok ho] at h2
  have ea : askD d (vis ++ x :: rest') x = (({ d with rep:=(vis ++ rest').map Prod.fst } : PkD).put s b,(vis ++ rest').filter (fun y => !(d.add s b).lost y.1),[(s,b,true)]):=by
   unfold askD
   rw [if_neg h41,ho,if_neg (by simp),k3]
   rfl
  rw [ea]
  refine ⟨[(s,b)],by simp,rfl,vis.filter (fun y => !(d.add s b).lost y.1),rest'.filter (fun y => !(d.add s b).lost y.1),List.filter_append _ _,k2.filter _,?_⟩
  rw [keepR_map,keepR_map] at h2
  have e : (({ d with rep:=(vis ++ rest').map Prod.fst } : PkD).put s b) = { d.add s b with rep:=(d.add s b).keepR ((vis ++ rest').map Prod.fst) }:=rfl
  show goR (({ d with rep:=(vis ++ rest').map Prod.fst } : PkD).put s b) _ _ _ = _
  rw [e,goR_rep]
  exact h2
theorem RInvP.done {d0 d : PkD} {cs hs : List (Rep_ × Int)} {outs : List (UInt16 × List UInt8)} (h : RInvP d0 cs cs.length d hs outs) (hr : d.rep = hs.map Prod.fst) (h0 : d0.rep = cs.map Prod.fst) : d0.round = (d,outs):=by
 obtain ⟨vis,rest,rfl,h1,h2⟩:=h
 have h3:=h1.rest
 rw [List.drop_length] at h3
 obtain rfl:=List.sublist_nil.1 h3
 rw [List.map_nil,goR_nil] at h2
 have e : d0.round = goR d0 [] d0.rep []:=rfl
 rw [e,h0,← h2]
 rw [List.append_nil] at hr
 rw [← hr]
theorem tellF_len : ∀ (k : Nat) (d : PkD) (out : List (UInt16 × List UInt8)),(tellF k d out).1.rep.length + (tellF k d out).2.length ≤ d.rep.length + out.length
 | 0,d,out => Nat.le_refl _
 | k + 1,d,out => by
  have h1:=round_len d
  simp only [tellF]
  split
  ·show d.round.1.rep.length + out.length ≤ _
   omega
  ·have h2:=tellF_len k d.round.1 (out ++ d.round.2)
   rw [List.length_append] at h2
   omega
theorem tell_len (d : PkD) : d.tell.1.rep.length + d.tell.2.length ≤ d.rep.length:=by
 have:=tellF_len (d.rep.length + 1) d []
 simpa [PkD.tell] using this
end Go.Proofs.YtcngfbjmpemehaaGreat

/- The document's decoder of layer 16;its Peek,old,Has (printed by gen_dc1.py). -/
namespace Go.Proofs.YtcngfbjmpemehaaGreat
open Go.RowKit

def OneR (w : World) (c : List Value) (o : PkO) (B : List Nat) : Prop:=∃ v,c = [.int .i64 o.n,.int .u16 (o.s.toNat : Nat),v] ∧ Bytes w v o.b ∧ B = (liveOf v).toList
theorem Rep.oneP : Rep 3 OneR where
 len:=by rintro w c y B ⟨v,rfl,-,-⟩;rfl
 one:=by
  rintro w c y B ⟨v,rfl,h,-⟩ u hu
  obtain ⟨a,n,cp,rfl⟩:=Sl.isSlice h
  simp only [List.mem_cons,List.not_mem_nil,or_false] at hu
  rcases hu with rfl | rfl | rfl <;> rfl
 lt:=by
  rintro w c y B ⟨v,rfl,h,rfl⟩ b hb
  exact Sl.lt h b (mem_toList.1 hb)
 fr:=by
  rintro w w' c y B S ⟨v,rfl,h,rfl⟩ hf hS
  exact ⟨v,rfl,Sl.frL h hf (fun b hb => hS b (mem_toList.2 hb)),rfl⟩
abbrev dcc (d : PkD) (vm vr : Value) : Array Value:=#[.int .u32 (d.ss.toNat : Nat),.int .i64 (d.w : Nat),.int .i64 (d.r : Nat),.int .i64 (d.hi.getD (-1)),vm,vr]
theorem oD (d : PkD) (a : Option Addr) (n c : Nat) (a2 : Option Addr) (n2 c2 : Nat) : ∀ u ∈ (dcc d (.slice a n c) (.slice a2 n2 c2)).toList,u.oneCell' = true:=by
 intro u hu;simp only [dcc,List.mem_cons,List.not_mem_nil,or_false] at hu;rcases hu with rfl | rfl | rfl | rfl | rfl | rfl <;> rfl
def DocV (w : World) (P : Nat → Prop) (vm vr : Value) (d : PkD) : Prop :=
 ∃ Bm Br,SlEls 3 OneR w vm d.med Bm ∧ SlEls 12 RpR w vr d.rep Br ∧ (∀ b ∈ Bm,P b) ∧ (∀ b ∈ Br,P b) ∧ (∀ b,liveOf vm = some b → P b) ∧ (∀ b,liveOf vr = some b → P b)
theorem DocV.fr {w w' : World} {P : Nat → Prop} {vm vr : Value} {d : PkD} {S : List Nat} (h : DocV w P vm vr d) (hf : Fr S w w') (hS : ∀ b,P b → b ∉ S) : DocV w' P vm vr d:=by
 obtain ⟨Bm,Br,h1,h2,h3,h4,h5,h6⟩:=h
 exact ⟨Bm,Br,h1.fr Rep.oneP hf (fun b hb => hS b (h3 b hb)) (fun b hb => hS b (h5 b hb)),h2.fr Rep.rp hf (fun b hb => hS b (h4 b hb)) (fun b hb => hS b (h6 b hb)),h3,h4,h5,h6⟩
theorem DocV.keep {w w' : World} {P : Nat → Prop} {vm vr : Value} {d : PkD} (h : DocV w P vm vr d) (hf : Fr [] w w') : DocV w' P vm vr d:=h.fr hf (by simp)
theorem DocV.imp {w : World} {P P' : Nat → Prop} {vm vr : Value} {d : PkD} (h : DocV w P vm vr d) (hp : ∀ b,b < w.heap.size → P b → P' b) : DocV w P' vm vr d:=by
 obtain ⟨Bm,Br,h1,h2,h3,h4,h5,h6⟩:=h
 exact ⟨Bm,Br,h1,h2,fun b hb => hp b ((h1.lt Rep.oneP).1 b hb) (h3 b hb),fun b hb => hp b ((h2.lt Rep.rp).1 b hb) (h4 b hb),fun b hb => hp b ((h1.lt Rep.oneP).2 b hb) (h5 b hb),fun b hb => hp b ((h2.lt Rep.rp).2 b hb) (h6 b hb)⟩
theorem DocV.shape {w : World} {P : Nat → Prop} {vm vr : Value} {d : PkD} (h : DocV w P vm vr d) : ∃ am cm ar cr,vm = .slice am d.med.length cm ∧ vr = .slice ar d.rep.length cr:=by
 obtain ⟨Bm,Br,h1,h2,-⟩:=h
 obtain ⟨am,cm,rfl⟩:=h1.shape
 obtain ⟨ar,cr,rfl⟩:=h2.shape
 exact ⟨am,cm,ar,cr,rfl,rfl⟩
theorem r16Peek_any {w : World} {d : PkD} (hb : ∀ h,d.hi = some h → 40000 ≤ h ∧ h ≤ 4611686018427300000) (am ar : Option Addr) (nm cm nr cr : Nat) (s : UInt16) :
  Calls Tryz.prog 34 #[.agg (dcc d (.slice am nm cm) (.slice ar nr cr)),.int .u16 (s.toNat : Nat)] w fun e w' => e = .returned (.int .i64 (d.peek s)) ∧ Fr [] w w':=by
 obtain ⟨w1,e1,hF1,hX1,hs1⟩:=one_new w (dcc d (.slice am nm cm) (.slice ar nr cr)) 32
 have HX:=Hd hX1;have HF:=Hd hF1;have E1:=Hd e1
 have hq:=s.toNat_lt
 have x3:=hX1.cell 3
 simp only [dcc,zz7,zz8,zz9] at x3
 clear hX1 hF1 e1 hs1
 cases hh : d.hi with
 | none =>
  have HH:=Hd hh
  have hw : IntKind.i64.wrap (4294967296 + (s.toNat : Int)) = 4294967296 + (s.toNat : Int):=IntWalk.i64_in _ (by omega)
  have HP : Hid (d.peek s = 4294967296 + (s.toNat : Int)):=Hd (by unfold PkD.peek;rw [hh];rfl)
  rw [hh] at x3
  simp only [Option.getD_none] at x3
  clear hh hb
  go_enter Tryz.func34,Tryz.ntmps34
  go_upto_region 1 with fail
  rw [E1.out]
  clear E1
  go_wp2_with fail
  go_ret
  exact ⟨by rw [HP.out];rfl,HF.out⟩
 | some h =>
  have hb:=hb h hh
  have HH:=Hd hh
  have hah:=ahd_lt s (low16 h)
  have HP : Hid (d.peek s = h + ahd s (low16 h)):=Hd (by unfold PkD.peek;rw [hh];rfl)
  have hw1 : IntKind.i64.wrap (h + ahd s (low16 h)) = h + ahd s (low16 h):=IntWalk.i64_in _ (by omega)
  have hlo : IntKind.u16.wrap (h % 65536) = ((low16 h).toNat : Nat):=by rw [IntKind.wrap_u16,low16_nat];omega
  have hm : Int.tmod h 65536 = h % 65536:=Int.tmod_eq_emod_of_nonneg (by omega)
  have hlt : ¬ h < 0:=by omega
  have HX : Hid (Box w1 w.heap.size 32 #[.int .u32 (d.ss.toNat : Nat),.int .i64 (d.w : Nat),.int .i64 (d.r : Nat),.int .i64 h,.slice am nm cm,.slice ar nr cr]):=Hd (by
   have h1:=HX.out
   unfold dcc at h1
   rw [hh] at h1
   exact h1)
  rw [hh] at x3
  simp only [Option.getD_some] at x3
  clear hh
  go_enter Tryz.func34,Tryz.ntmps34
  go_upto_region 1 with fail
  rw [E1.out]
  clear E1
  go_upto_region 3 with fail
  clear x3
  generalize w.heap.size = q at *
  refine wp_region_rules (fun w' => Fr [] w1.drew w') (Fr []) [isV ?p1x0,isV (.int .i64 h),isV ?p1x2,isV ?p1x3,isV (.int .i64 h),isV (.int .i64 (h % 65536)),isV (.int .u16 ((low16 h).toNat : Nat)),isV (.int .i64 (ahd s (low16 h))),isV (.int .i64 (h + ahd s (low16 h))),isV ?p1x9] [[],[(0,11)],[],[],[(3,14)],[(4,15)],[(5,16)],[(2,13),(6,17)],[(1,12),(7,18)],[(8,19)]] 20 [0,1,2,3,4,5,6,7,8,9] [(0,11),(1,12),(2,13),(3,14),(4,15),(5,16),(6,17),(7,18),(8,19),(9,4)] (by kernel_rfl) (by kernel_rfl) rfl (by kernel_rfl) (by kernel_rfl) (by kernel_rfl) (by kernel_rfl) (by intro c a a' W h hq;cases a;cases a';cases h;exact hq) (fun w => Fr.refl _ w) (Fr.refl _ _) ⟨isV_stab,isV_stab,isV_stab,isV_stab,isV_stab,isV_stab,isV_stab,isV_stab,isV_stab,isV_stab,trivial⟩ ⟨?_,?_,?_,?_,?_,?_,?_,?_,?_,?_,trivial⟩ ?_
  rotate_left 4
  ·intro vs w' hG hd K hK
   clear hd
   simp only [canonD,Act.put,zz1,zz2,zz3,zz4,zz5,zz6] at hK ⊢
   refine Eq.mpr (if_pos (by rfl)) ?_
   go_simp
   refine hK.out _ _ (Fr.refl _ _) hG ?_
   show _ = _
   rfl
  ·intro vs w' hG hd K hK
   obtain ⟨h0,-⟩:=hd
   replace h0 : vs 0 = _:=h0
   simp only [canonD,Act.put,zz1,zz2,zz3,zz4,zz5,zz6,h0] at hK ⊢
   have hW : Fr [] w1 w':=(Fr.refl [] w1).drew.trans hG
   have x3:=(HX.out.keep hW).cell 3
   simp only [zz7,zz8,zz9] at x3
   refine Eq.mpr (if_pos (by rfl)) ?_
   go_simp
   refine hK.out _ _ (Fr.refl _ _) hG ?_
   show _ = _
   rfl
  ·intro vs w' hG hd K hK
   clear hd
   simp only [canonD,Act.put,zz1,zz2,zz3,zz4,zz5,zz6] at hK ⊢
   refine Eq.mpr (if_pos (by rfl)) ?_
   go_simp
   refine hK.out _ _ (Fr.refl _ _) hG ?_
   show _ = _
   rfl
  ·intro vs w' hG hd K hK
   clear hd
   simp only [canonD,Act.put,zz1,zz2,zz3,zz4,zz5,zz6] at hK ⊢
   refine Eq.mpr (if_pos (by rfl)) ?_
   go_simp
   refine hK.out _ _ (Fr.refl _ _) hG ?_
   show _ = _
   rfl
  ·intro vs w' hG hd K hK
   obtain ⟨h3,-⟩:=hd
   replace h3 : vs 3 = _:=h3
   simp only [canonD,Act.put,zz1,zz2,zz3,zz4,zz5,zz6,h3] at hK ⊢
   have hW : Fr [] w1 w':=(Fr.refl [] w1).drew.trans hG
   have x3:=(HX.out.keep hW).cell 3
   simp only [zz7,zz8,zz9] at x3
   refine Eq.mpr (if_pos (by rfl)) ?_
   go_simp
   refine hK.out _ _ (Fr.refl _ _) hG ?_
   show _ = _
   rfl
  ·intro vs w' hG hd K hK
   obtain ⟨h4,-⟩:=hd
   replace h4 : vs 4 = _:=h4
   simp only [canonD,Act.put,zz1,zz2,zz3,zz4,zz5,zz6,h4] at hK ⊢
   refine Eq.mpr (if_pos (by rfl)) ?_
   go_simp
   refine hK.out _ _ (Fr.refl _ _) hG ?_
   show _ = _
   rfl
  ·intro vs w' hG hd K hK
   obtain ⟨h5,-⟩:=hd
   replace h5 : vs 5 = _:=h5
   simp only [canonD,Act.put,zz1,zz2,zz3,zz4,zz5,zz6,h5] at hK ⊢
   refine Eq.mpr (if_pos (by rfl)) ?_
   go_simp
   refine hK.out _ _ (Fr.refl _ _) hG ?_
   show _ = _
   rfl
  ·intro vs w' hG hd K hK
   obtain ⟨h2,h6,-⟩:=hd
   replace h2 : vs 2 = _:=h2
   replace h6 : vs 6 = _:=h6
   simp only [canonD,Act.put,zz1,zz2,zz3,zz4,zz5,zz6,h2,h6] at hK ⊢
   have hW : Fr [] w1 w':=(Fr.refl [] w1).drew.trans hG
   refine Eq.mpr (if_pos (by rfl)) ?_
   go_simp
   refine (r01Ahead_any s (low16 h) (w:=w')).mono ?_
   rintro e wz ⟨rfl,hF⟩
   go_simp
   refine hK.out _ _ hF (hG.trans hF) ?_
   show _ = _
   rfl
  ·intro vs w' hG hd K hK
   obtain ⟨h1,h7,-⟩:=hd
   replace h1 : vs 1 = _:=h1
   replace h7 : vs 7 = _:=h7
   simp only [canonD,Act.put,zz1,zz2,zz3,zz4,zz5,zz6,h1,h7] at hK ⊢
   refine Eq.mpr (if_pos (by rfl)) ?_
   go_simp
   refine hK.out _ _ (Fr.refl _ _) hG ?_
   show _ = _
   rfl
  ·intro vs w' hG hd K hK
   obtain ⟨h8,-⟩:=hd
   replace h8 : vs 8 = _:=h8
   simp only [canonD,Act.put,zz1,zz2,zz3,zz4,zz5,zz6,h8] at hK ⊢
   refine Eq.mpr (if_pos (by rfl)) ?_
   go_simp
   refine hK.out _ _ (Fr.refl _ _) hG ?_
   show _ = _
   rfl
  intro vs w' hG hP
  obtain ⟨h0,h1,h2,h3,h4,h5,h6,h7,h8,h9,-⟩:=hP
  replace h0 : vs 0 = _:=h0
  replace h1 : vs 1 = _:=h1
  replace h2 : vs 2 = _:=h2
  replace h3 : vs 3 = _:=h3
  replace h4 : vs 4 = _:=h4
  replace h5 : vs 5 = _:=h5
  replace h6 : vs 6 = _:=h6
  replace h7 : vs 7 = _:=h7
  replace h8 : vs 8 = _:=h8
  replace h9 : vs 9 = _:=h9
  simp only [canonD,Act.put,zz1,zz2,zz3,zz4,zz5,zz6,h0,h1,h2,h3,h4,h5,h6,h7,h8,h9]
  clear h0 h1 h2 h3 h4 h5 h6 h7 h8 h9
  go_wp2_with fail
  go_ret
  exact ⟨by rw [HP.out];rfl,HF.out.trans ((Fr.refl [] w1).drew.trans hG)⟩
theorem r16old_any {w : World} {d : PkD} (hb : ∀ h,d.hi = some h → 40000 ≤ h ∧ h ≤ 4611686018427300000) (hw : d.w ≤ 64) (am ar : Option Addr) (nm cm nr cr : Nat) (n : Int) :
  Calls Tryz.prog 33 #[.agg (dcc d (.slice am nm cm) (.slice ar nr cr)),.int .i64 n] w fun e w' => e = .returned (.bool (d.old n)) ∧ Fr [] w w':=by
 obtain ⟨w1,e1,hF1,hX1,hs1⟩:=one_new w (dcc d (.slice am nm cm) (.slice ar nr cr)) 32
 have HF:=Hd hF1;have E1:=Hd e1
 have x3:=hX1.cell 3;have x1:=hX1.cell 1
 simp only [dcc,zz7,zz8,zz9] at x3 x1
 clear hX1 hF1 e1 hs1
 cases hh : d.hi with
 | none =>
  have HP : Hid (d.old n = false):=Hd (by unfold PkD.old;rw [hh])
  rw [hh] at x3
  simp only [Option.getD_none] at x3
  clear hh hb
  go_enter Tryz.func33,Tryz.ntmps33
  go_upto_region 1 with fail
  rw [E1.out]
  clear E1
  go_wp2_with fail
  go_ret
  exact ⟨by rw [HP.out];rfl,HF.out⟩
 | some h =>
  have hb:=hb h hh
  obtain ⟨tb,htb⟩ : ∃ tb,decide (n ≤ h - (d.w : Int)) = tb:=⟨_,rfl⟩
  have HP : Hid (d.old n = tb):=Hd (by unfold PkD.old;rw [hh];exact htb)
  have hw1 : IntKind.i64.wrap (h - (d.w : Int)) = h - (d.w : Int):=IntWalk.i64_in _ (by omega)
  have hge : (0 : Int) ≤ h:=by omega
  have hgd : decide (h ≥ 0) = true:=decide_eq_true (by omega)
  rw [hh] at x3
  simp only [Option.getD_some] at x3
  clear hh
  go_enter Tryz.func33,Tryz.ntmps33
  go_upto_region 1 with fail
  rw [E1.out]
  clear E1
  go_wp2_with fail
  go_ret
  refine ⟨?_,HF.out⟩
  rw [HP.out,← htb]
  rfl
theorem oneR_cells {w : World} {b o : Nat} {c : List Value} {y : PkO} {B1 : List Nat} (h : OneR w c y B1) (hr : w.rangeAt b o c) : ∃ a n cp,w.cell? ⟨b,o,none⟩ = some (.int .i64 y.n) ∧ w.cell? ⟨b,o + 1,none⟩ = some (.int .u16 (y.s.toNat : Nat)) ∧ w.cell? ⟨b,o + 2,none⟩ = some (.slice a n cp) ∧ Bytes w (.slice a n cp) y.b ∧ (∀ z,liveOf (.slice a n cp) = some z → z ∈ B1):=by
 obtain ⟨v,rfl,hb,rfl⟩:=h
 obtain ⟨a,n,cp,rfl⟩:=Sl.isSlice hb
 exact ⟨a,n,cp,hr 0 _ rfl,hr 1 _ rfl,hr 2 _ rfl,hb,fun z hz => mem_toList.2 hz⟩
theorem look_take_none {d : PkD} {n : Int} {i : Nat} (h : ∀ o ∈ d.med.take i,o.n ≠ n) (hi : d.med.length ≤ i) : d.look n = none:=by
 unfold PkD.look
 rw [Option.map_eq_none_iff,List.find?_eq_none]
 intro o ho
 have:=h o (by rw [List.take_of_length_le hi];exact ho)
 simpa using this
theorem look_take_some {d : PkD} {n : Int} {i : Nat} {y : PkO} (h : ∀ o ∈ d.med.take i,o.n ≠ n) (hy : d.med[i]? = some y) (hn : y.n = n) : d.look n = some y.b:=by
 obtain ⟨hi,he⟩:=List.getElem?_eq_some_iff.1 hy
 unfold PkD.look
 have : d.med.find? (fun o => o.n == n) = some y:=by
  rw [List.find?_eq_some_iff_append]
  exact ⟨by simpa using hn,d.med.take i,d.med.drop (i + 1),by rw [← he,List.getElem_cons_drop,List.take_append_drop],fun o ho => by simpa using h o ho⟩
 rw [this]
 rfl
theorem r16Has_any {w : World} {P : Nat → Prop} {vm vr : Value} {d : PkD} (h : DocV w P vm vr d) (hb : ∀ h,d.hi = some h → 40000 ≤ h ∧ h ≤ 4611686018427300000) (hl : d.med.length ≤ 1000) (s : UInt16) :
  Calls Tryz.prog 18 #[.agg (dcc d vm vr),.int .u16 (s.toNat : Nat)] w fun e w' => ∃ v,e = .returned (.tuple #[v,.bool (d.has s).isSome]) ∧ Bytes w' v ((d.has s).getD []) ∧ (∀ y,liveOf v = some y → P y) ∧ Fr [] w w':=by
 obtain ⟨am,cm,ar,cr,rfl,rfl⟩:=h.shape
 obtain ⟨w1,e1,hF1,hX1,hs1⟩:=one_new w (dcc d (.slice am d.med.length cm) (.slice ar d.rep.length cr)) 32
 have HH:=Hd (h.keep hF1);have HX:=Hd hX1;have HF:=Hd hF1;have E1:=Hd e1;have HI:=Hd hb
 clear h hX1 hF1 e1 hs1 hb
 go_enter Tryz.func18,Tryz.ntmps18
 go_upto_region 1 with fail
 rw [E1.out]
 clear E1
 go_wp2_with (refine wpList_load_row_w rfl 32 (.tmp 2) rfl w.heap.size rfl 32 _ _ HX.out Tryz.underlying32 rfl (by kernel_rfl) ?_)
 refine (r16Peek_any HI.out am ar _ cm _ cr s).mono ?_
 rintro e w2 ⟨rfl,hF⟩
 have HH:=Hd (HH.out.keep hF);have HX:=Hd (HX.out.keep hF);have HF:=Hd (HF.out.trans hF)
 have HHS : Hid (d.has s = d.look (d.peek s)):=Hd rfl
 obtain ⟨n,hn⟩ : ∃ n,d.peek s = n:=⟨_,rfl⟩
 have HNE:=Hd hn
 rw [hn]
 rw [hn] at HHS
 clear hF hn
 generalize w.heap.size = q at *
 go_upto_region 3 with fail
 go_loopw [7] (fun iv wr => ∃ i : Nat,i ≤ d.med.length ∧ iv = .int .i64 i ∧ (∀ o ∈ d.med.take i,o.n ≠ n) ∧ Fr [] w2 wr) (fun iv _ => d.med.length - (Go.RowKit.intOf iv).toNat)
 case atStart => exact ⟨0,Nat.zero_le _,rfl,by simp,Fr.refl _ _⟩
 case round =>
  obtain ⟨i,hi,rfl,hno,hF⟩:=hrel
  have HNO:=Hd hno
  have HH:=Hd (HH.out.keep hF);have HX:=Hd (HX.out.keep hF);have HF:=Hd (HF.out.trans hF);have HFL:=Hd hF
  have x4:=HX.out.cell 4
  simp only [dcc,zz7,zz8,zz9] at x4
  clear hno hF
  by_cases hlt : i < d.med.length
  ·obtain ⟨Bm,Br,hm,-,hBm,-⟩:=HH.out
   obtain ⟨b,o,c,y,B1,ea,-,hy,hR,hB1,hrg⟩:=hm.at_ Rep.oneP hlt
   subst ea
   obtain ⟨a3,n3,c3,d0,-,d2,hby,hlv⟩:=oneR_cells hR hrg
   have HY:=Hd hy;have HBY:=Hd hby;have HLV : Hid (∀ z,liveOf (.slice a3 n3 c3) = some z → P z):=Hd (fun z hz => hBm z (hB1 z (hlv z hz)))
   have HT : Hid (d.med.take (i + 1) = d.med.take i ++ [y]):=Hd (by rw [List.take_add_one,hy];rfl)
   clear hm hBm hy hR hB1 hrg hby hlv
   by_cases hyn : y.n = n
   ·have t1 : (y.n == n) = true:=by simpa using hyn
    have HLK:=Hd (look_take_some HNO.out HY.out hyn)
    clear hyn
    go_wp2_with fail
    go_ret2
    rw [HHS.out,HLK.out]
    exact ⟨_,rfl,HBY.out,HLV.out,HF.out⟩
   ·have t1 : (y.n == n) = false:=beq_eq_false_iff_ne.2 hyn
    have HYN:=Hd hyn
    clear hyn
    go_wp2_with fail
    exact ⟨⟨i + 1,by omega,by go_num,by rw [HT.out];intro o ho;rcases List.mem_append.1 ho with ho | ho;(· exact HNO.out o ho);(· simp at ho;subst ho;exact HYN.out),HFL.out⟩,by simp [Go.RowKit.intOf];omega⟩
  ·have HLK:=Hd (look_take_none HNO.out (by omega))
   go_wp2_with fail
   go_ret2
   rw [HHS.out,HLK.out]
   exact ⟨_,rfl,Sl.nil _,(fun z hz => by cases hz),HF.out⟩
end Go.Proofs.YtcngfbjmpemehaaGreat
