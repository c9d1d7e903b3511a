import Derived.Sort.CutIn
import Derived.Maps.OwnSet
import Derived.Test.YtcngfbjmpemehaaGreatMp30
import Derived.Test.YtcngfbjmpemehaaGreatMp5
import Derived.Test.YtcngfbjmpemehaaGreatMp24
import Derived.Test.YtcngfbjmpemehaaGreatMp26
import Derived.Test.YtcngfbjmpemehaaGreatMp16
import Derived.Test.YtcngfbjmpemehaaGreatMp15
set_option maxRecDepth 100000
set_option maxHeartbeats 16000000
open List renaming getElem_toArray → zz1, getElem_cons_zero → zz2, getElem_cons_succ → zz3, setIfInBounds_toArray → zz4, set_cons_zero → zz5, set_cons_succ → zz6, getElem?_toArray → zz7, getElem?_cons_succ → zz8, getElem?_cons_zero → zz9
open Go.Lib renaming hid → Hd
/- The walk of solve.rest (printed by gen_rest.py). -/
namespace Go.Proofs.YtcngfbjmpemehaaGreat
open Go.RowKit Go.Shelf

attribute [local go_sem] Oper.semAt_some

def restStep (K : UInt16 → Option (List UInt8)) (ss : UInt32) (s : Bt × List UInt16) (n : UInt16) : Bt × List UInt16:=match lookB K ss n with
 | some y => (s.1.add y,s.2)
 | none => (s.1,s.2 ++ [n])
def restL (K : UInt16 → Option (List UInt8)) (ss : UInt32) (r : Rep_) : Bt × List UInt16:=(seqsOf r.base r.m).foldl (restStep K ss) (r.bt.cut,[])
theorem lookB_small {K : UInt16 → Option (List UInt8)} {ss : UInt32} {n : UInt16} {y : Bt} (h : lookB K ss n = some y) : y.body.length ≤ 1500:=by
 unfold lookB at h
 split at h
 ·cases h
 rename_i l _
 split at h
 ·rename_i p hp
  split at h
  ·cases h
   have:=(parse_len hp).2
   show (l.drop 12).length ≤ _
   rw [List.length_drop]
   omega
  ·cases h
 ·cases h
theorem rest_small {K : UInt16 → Option (List UInt8)} {ss : UInt32} {n : Nat} : ∀ (xs : List UInt16) (s : Bt × List UInt16),s.1.body.length ≤ n → 1500 ≤ n → (xs.foldl (restStep K ss) s).1.body.length ≤ n
 | [],s,h,_ => h
 | x :: xs,s,h,hn => by
  rw [List.foldl_cons]
  refine rest_small xs _ ?_ hn
  unfold restStep
  split
  ·rename_i y hy
   have:=lookB_small hy
   show (s.1.add y).body.length ≤ n
   rw [Bt.add_body_len]
   omega
  ·exact h
theorem rest_miss {K : UInt16 → Option (List UInt8)} {ss : UInt32} : ∀ (xs : List UInt16) (s : Bt × List UInt16),(xs.foldl (restStep K ss) s).2.length ≤ s.2.length + xs.length
 | [],s => by simp
 | x :: xs,s => by
  rw [List.foldl_cons,List.length_cons]
  have:=rest_miss (K:=K) (ss:=ss) xs (restStep K ss s x)
  have h2 : (restStep K ss s x).2.length ≤ s.2.length + 1:=by
   unfold restStep
   split <;> simp
  omega
def sAt (K : UInt16 → Option (List UInt8)) (ss : UInt32) (r : Rep_) (pre : List Nat) : Bt × List UInt16:=(pre.map fun (i : Nat) => add16 r.base i).foldl (restStep K ss) (r.bt.cut,[])
theorem sAt_snoc (K : UInt16 → Option (List UInt8)) (ss : UInt32) (r : Rep_) (pre : List Nat) (i : Nat) : sAt K ss r (pre ++ [i]) = restStep K ss (sAt K ss r pre) (add16 r.base i):=by
 unfold sAt
 rw [List.map_append,List.foldl_append]
 rfl
theorem sAt_small {K : UInt16 → Option (List UInt8)} {ss : UInt32} {r : Rep_} {pre : List Nat} (h : r.bt.body.length ≤ 1099511627776) : (sAt K ss r pre).1.body.length ≤ 1099511627776:=rest_small _ _ h (by omega)
theorem sAt_miss {K : UInt16 → Option (List UInt8)} {ss : UInt32} {r : Rep_} {pre : List Nat} : (sAt K ss r pre).2.length ≤ pre.length:=by
 have h:=rest_miss (K:=K) (ss:=ss) (pre.map fun (i : Nat) => add16 r.base i) (r.bt.cut,[])
 rw [List.length_map] at h
 exact Nat.le_trans h (by show 0 + _ ≤ _;omega)
structure RRel (w0 W : World) (N X M : Nat) (s : Bt × List UInt16) : Prop where
 x : ∃ vb v,Box W X 127 (bc s.1 vb) ∧ OwnB W N vb s.1.body ∧ Box W M 66 #[v] ∧ W.ownsRow w0.heap.size 24 1 v s.2.length (s.2.map W16) ∧ (∀ b,blockOf vb = some b → b ≠ X ∧ b ≠ M ∧ blockOf v ≠ some b)
 fr : Fr [X,M] w0 W
theorem RRel.abx {β : Type} {w0 : World} {N X M : Nat} (f : β → Bt × List UInt16) (hX : X < w0.heap.size) (hM : M < w0.heap.size) : AbX [(X,8),(M,0)] w0.heap.size (fun (s : β) W => RRel w0 W N X M (f s)):=fun s W W' row hs hg hr => by
 obtain ⟨⟨vb,v,h1,h2,h3,h4,h5⟩,h6⟩:=hs
 have cX:=h1.cell 8;have cM:=h3.cell 0
 simp only [bc,zz7,zz8,zz9] at cX cM
 have hn : ∀ (k : Nat) (e : TypeId) (u : Value) (cnt : Nat) (xs : List Value) (base : Nat) (p : Nat × Nat),p ∈ [(X,8),(M,0)] → W.cell? ⟨p.1,p.2,none⟩ = some u → W.ownsRow base e k u cnt xs → ∀ b,blockOf u = some b → b ∉ row.toList:=by
  intro k e u cnt xs base p hp hu ho b hb hm
  obtain ⟨hB,hc⟩:=hr b (by simpa using hm)
  rcases hc with ⟨o,hoo,hc⟩ | hc
  ·obtain ⟨-,h | ⟨g,cap,cur,rfl,hbg,hgg,-⟩⟩:=ho
   ·rw [h.1] at hb;simp [blockOf] at hb
   ·simp only [blockOf,Option.some.injEq] at hb
    subst hb
    rw [hgg] at hoo;cases hoo;cases hc
  ·exact (hc p hp).2 u hu hb
 have nX : ∀ g : Nat,g < w0.heap.size → g ∉ row.toList:=fun g hg hm => by have:=(hr g (by simpa using hm)).1;omega
 have hF : Fr row.toList W W':=Fr.ofGrown hg
 exact ⟨⟨vb,v,h1.fr hF (nX X hX),OwnB.fr h2 hF (hn _ _ _ _ _ _ (X,8) (by simp) cX h2),h3.fr hF (nX M hM),Own.fr h4 hF (hn _ _ _ _ _ _ (M,0) (by simp) cM h4),h5⟩,h6.step hF (fun x hx => .inr (by have:=(hr x (by simpa using hx)).1;exact this))⟩
theorem stepIn_load_row {F : Fence} {n : Nat} {P : Program} {o : Oper} {a : Act} {w : World} {K : Act → World → Prop} {Q : Exit → Act → World → Prop} {E : Prop} {y : Nat → Option Bool} (hw : Region.wanted o y = true) (ty : TypeId) (x : Operand) (ho : o.op = .load ty x)
  (g : Nat) (hx : a.eval x = .pointer (some ⟨g,0,none⟩)) (t : TypeId) (cs : Array Value) (d : TypeDesc) (hg : Box w g t cs)
  (hu : P.underlying ty = some d) (hd : (match d with | .struct _ | .array _ _ => true | _ => false) = true) (hi : (P.info? ty).map (·.size) = some cs.size)
  (h : K (a.put o.dst (.agg cs)) w) : if Region.wanted o y = true then Oper.wpIn F n P o a w K Q else E:=by
 rw [if_pos hw]
 unfold Oper.wpIn
 refine ⟨by simp [Oper.about,ho],?_⟩
 rw [Oper.semAt_plain F _ _ (by rw [ho];intro c hc';cases hc')]
 unfold execOp
 simp only [ho,hx,Instr.loadAt,Instr.sureAddr,Sem.run_bind,Sem.run_pure,Result.andThen_ok,run_loadVar_row w g t ty cs (0,0) d hg hu hd hi]
 exact h
theorem stepIn_store_row {F : Fence} {n : Nat} {P : Program} {w : World} {o : Oper} {a : Act} {K : Act → World → Prop} {Q : Exit → Act → World → Prop} {E : Prop} {yy : Nat → Option Bool} (hw : Region.wanted o yy = true) (ty : TypeId) (x y : Operand)
  (ho : o.op = .store ty x y) (g : Nat) (hx : a.eval x = .pointer (some ⟨g,0,none⟩)) (c c' : Array Value) (hy : a.eval y = .agg c') (t : TypeId) (hb : Box w g t c)
  (hi : (P.info? ty).map (·.size) = some c'.size) (hs : c'.size = c.size) (h1 : ∀ u ∈ c'.toList,u.oneCell' = true)
  (h : ∀ w',Box w' g t c' → Fr [g] w w' → K (a.put o.dst undef) w') : if Region.wanted o yy = true then Oper.wpIn F n P o a w K Q else E:=by
 rw [if_pos hw]
 have hst:=run_storeCells_at P g 0 t c'.toList 0 c w hb (by simp [hs]) h1
 simp only [Nat.add_zero,List.take_zero,List.nil_append,Nat.zero_add] at hst
 rw [List.drop_of_length_le (by simp [hs]),List.append_nil,Array.toArray_toList] at hst
 cases hq : P.info? ty with
 | none => simp [hq] at hi
 | some i =>
  have hsz : i.size = c'.size:=by simpa [hq] using hi
  unfold Oper.wpIn
  refine ⟨by simp [Oper.about,ho],?_⟩
  rw [Oper.semAt_plain F _ _ (by rw [ho];intro c hc';cases hc')]
  unfold execOp
  simp only [ho,hx,hy]
  simp [Instr.storeAt,Instr.sureAddr,storeVar,Sem.run_bind,sizeOf,typeInfo,hq,hsz,Value.cells,hst]
  exact h _ (hb.setRow c') (Box.frSetRow w g c')
theorem own_ne {W : World} {base : Nat} {e : TypeId} {k : Nat} {v : Value} {n : Nat} {xs : List Value} {D : Nat} {d : Option (List Deferred)} (h : W.ownsRow base e k v n xs) (hD : W.heap[D]? = some (.deferred d)) : ∀ b,blockOf v = some b → b ≠ D:=fun b hb e => by
 subst e
 obtain ⟨-,h | ⟨g,cap,cur,rfl,hbg,hgg,-⟩⟩:=h
 ·rw [h.1] at hb;simp [blockOf] at hb
 ·simp only [blockOf,Option.some.injEq] at hb
  subst hb
  rw [hgg] at hD
  cases hD
theorem svRest_any {w : World} {v : Value} {r : Rep_} {gf : Nat} {bd lb : Array Value} {K : UInt16 → Option (List UInt8)} (h : RpV w v r) (hs : r.bt.body.length ≤ 1099511627776) (hK : Knows w gf bd lb K) (ss : UInt32) :
  Calls Tryz.prog 88 #[v,.int .u32 (ss.toNat : Nat),.func (.func gf) bd lb] w fun e w' => ∃ vx vm,e = .returned (.tuple #[vx,vm]) ∧ BtV w' vx (restL K ss r).1 ∧ Sl w' vm ((restL K ss r).2.map W16) ∧ Fr [] w w':=by
 obtain ⟨vb,rfl,hb⟩:=h
 obtain ⟨a,n,c,rfl⟩:=Sl.isSlice hb
 refine (callsIn_wide (n:=12)).1 ?_
 refine callsIn_of_wp_marks Tryz.func88 rfl trivial ?_ rfl
 simp only [Tryz.ntmps88,List.size_toArray,List.length_cons,List.length_nil,Nat.reduceAdd,Nat.reduceSub,Array.replicate_succ,Array.replicate_zero,List.push_toArray,List.append_toArray,List.nil_append,List.cons_append]
 obtain ⟨wa,ea,hFa,hBa1,hBa2,hsa⟩:=two_new w (rpc r (.slice a n c)) 38 #[.int .u32 (ss.toNat : Nat)] 22
 obtain ⟨wb,eb,hFb,hBb1,hBb2,hsb⟩:=two_new wa #[.func (.func gf) bd lb] 54 (bc Bt.zero (.slice none 0 0)) 127
 rw [hsa] at hBb1 hBb2
 have EA:=Hd ea;have EB:=Hd eb
 have HF:=Hd (hFa.trans hFb)
 have HR:=Hd (hBa1.keep hFb);have HSS : Hid (Box wb (w.heap.size + 1) 22 #[.int .u32 (ss.toNat : Nat)]):=Hd (hBa2.keep hFb);have HFU : Hid (Box wb (w.heap.size + 1 + 1) 54 #[.func (.func gf) bd lb]):=Hd hBb1;have HZ : Hid (Box wb (w.heap.size + 1 + 1 + 1) 127 (bc Bt.zero (.slice none 0 0))):=Hd hBb2
 have HBD:=Hd (Sl.keep hb (hFa.trans hFb));have HK0:=Hd hK
 have HSB : Hid (wb.heap.size = w.heap.size + 4):=Hd (by omega)
 clear hFa hBa1 hBa2 hsa hFb hBb1 hBb2 hsb ea eb hb hK
 gi_upto_region 1 with fail
 rw [EA.out]
 first | rw [EB.out] | (have:=EB.out;simp only [bc_zero] at this;rw [this];clear this)
 clear EA EB
 generalize hg6 : w.heap.size + 1 + 1 + 1 = g6 at *
 generalize hg5 : w.heap.size + 1 + 1 = g5 at *
 generalize hg4 : w.heap.size + 1 = g4 at *
 have HG : Hid (g4 = w.heap.size + 1 ∧ g5 = w.heap.size + 2 ∧ g6 = w.heap.size + 3):=Hd (by omega)
 clear hg4 hg5 hg6
 gi_wp2_with (refine wpListIn_load_row_w rfl 38 (.tmp 3) rfl w.heap.size rfl 38 _ _ HR.out Tryz.underlying38 rfl (by kernel_rfl) ?_)
 refine ⟨trivial,?_⟩
 refine (callsIn_wide.2 (pBytes_any (r:=r) ⟨_,rfl,HBD.out⟩ hs)).mono ?_
 rintro e w2 ⟨v2,rfl,⟨vx,rfl,hO⟩,hF⟩
 obtain ⟨ax,nx,cx,rfl⟩:=hO.isSlice
 have HO:=Hd (OwnB.mono hO (show w.heap.size + 4 ≤ wb.heap.size by have:=HSB.out;omega))
 have HF:=Hd (HF.out.trans hF)
 have HR:=Hd (HR.out.keep hF)
 have HSS:=Hd (HSS.out.keep hF)
 have HFU:=Hd (HFU.out.keep hF)
 have HZ:=Hd (HZ.out.keep hF)
 have HZ4:=Hd hF.size
 clear hO hF HBD
 have HZ2 : Hid (w.heap.size + 4 ≤ w2.heap.size):=Hd (by have:=HSB.out;have:=HZ4.out;omega)
 gi_upto_region 2 with (refine wpListIn_store_row rfl 127 (.tmp 8) (.tmp 15) rfl w2.heap.size rfl _ (bc r.bt.cut (.slice ax nx cx)) rfl 127 (Box.new w2 127 (bc Bt.zero (.slice none 0 0))) (by kernel_rfl) rfl (by simp [bc,Value.oneCell']) ?_;intro w3 hY hG;have hFn:=((Fr.refl [] w2).alloc _).step hG (by simp);have HFn:=Hd hFn;have HY:=Hd hY;clear hG hFn hY)
 have hF:=HFn.out
 have HOB : Hid (∀ b,blockOf (.slice ax nx cx) = some b → b < w2.heap.size):=Hd (fun b hb => (HO.out.block b hb).2)
 have HF:=Hd (HF.out.trans hF)
 have HR:=Hd (HR.out.keep hF)
 have HSS:=Hd (HSS.out.keep hF)
 have HFU:=Hd (HFU.out.keep hF)
 have HZ:=Hd (HZ.out.keep hF)
 have HO:=Hd (HO.out.keep hF)
 have HX:=HY
 clear hF HFn HY
 generalize hgX : w2.heap.size = X at *
 clear hgX
 gi_upto_region 3 with fail
 have HXP:=HX
 obtain ⟨w4,e4,hF,hB4,hs4⟩:=one_new w3 #[.slice none 0 0] 66
 rw [e4]
 have HF:=Hd (HF.out.trans hF)
 have HR:=Hd (HR.out.keep hF)
 have HSS:=Hd (HSS.out.keep hF)
 have HFU:=Hd (HFU.out.keep hF)
 have HZ:=Hd (HZ.out.keep hF)
 have HO:=Hd (HO.out.keep hF)
 have HX:=Hd (HX.out.keep hF)
 have HXL:=Hd HXP.out.lt
 have HM:=Hd hB4;have HM4:=Hd hB4
 have HXM : Hid (X < w3.heap.size):=HXL
 clear e4 hF hB4 hs4 HXL
 generalize hgM : w3.heap.size = M at *
 clear hgM
 have x8:=HR.out.cell 8;have x9:=HR.out.cell 9;have x10:=HR.out.cell 10
 simp only [rpc,zz7,zz8,zz9] at x8 x9 x10
 gi_wp2_with fail
 clear x8 x9 x10
 refine ⟨trivial,?_⟩
 refine (callsIn_wide.2 (cvEach_any r.base r.m _)).mono ?_
 rintro e w5 ⟨rfl,hB3,hB4,hF⟩
 have HF:=Hd (HF.out.trans hF)
 have HR:=Hd (HR.out.keep hF)
 have HSS:=Hd (HSS.out.keep hF)
 have HFU:=Hd (HFU.out.keep hF)
 have HZ:=Hd (HZ.out.keep hF)
 have HO:=Hd (HO.out.keep hF)
 have HX:=Hd (HX.out.keep hF)
 have HM:=Hd (HM.out.keep hF)
 have HME : Hid (M < w4.heap.size):=Hd HM4.out.lt
 have HXX : Hid (∀ p ∈ [(X,8),(M,0)],p.1 < w5.heap.size):=Hd (fun p hp => by
  simp only [List.mem_cons,List.not_mem_nil,or_false] at hp
  rcases hp with rfl | rfl
  ·exact HX.out.lt
  ·exact HM.out.lt)
 have HCX : Hid (w5.cell? ⟨X,8,none⟩ = some (.slice ax nx cx)):=Hd (HX.out.cell 8)
 have HCM : Hid (w5.cell? ⟨M,0,none⟩ = some (.slice none 0 0)):=Hd (HM.out.cell 0)
 have HLow : Hid (Low [(X,8),(M,0)] w5):=Hd (fun p hp v b hv hb => by
  simp only [List.mem_cons,List.not_mem_nil,or_false] at hp
  rcases hp with rfl | rfl
  ·rw [HCX.out] at hv;cases hv;exact (HO.out.block b hb).2
  ·rw [HCM.out] at hv;cases hv;simp [blockOf] at hb)
 have HSEQ:=Hd (cvEach1_seq (w:=w5) 11 (by omega) (w4.heap.size + 1) w4.heap.size r.m r.base [(X,8),(M,0)] HXX.out hB4 hB3 (fun p hp => by
  simp only [List.mem_cons,List.not_mem_nil,or_false] at hp
  rcases hp with rfl | rfl
  ·refine ⟨by have:=HXM.out;have:=HME.out;simp;omega,fun v hv hb => ?_⟩
   rw [HCX.out] at hv;cases hv
   have:=HOB.out _ hb;have:=HXM.out;have:=HME.out;omega
  ·refine ⟨by have:=HME.out;simp;omega,fun v hv hb => ?_⟩
   rw [HCM.out] at hv;cases hv;simp [blockOf] at hb))
 have HR0 : Hid (RRel w5 w5 (w.heap.size + 4) X M (sAt K ss r [])):=Hd ⟨⟨.slice ax nx cx,.slice none 0 0,HX.out,HO.out,HM.out,World.ownsRow_nil _ _ _ _,fun b hb => by have:=HOB.out b hb;have:=HXM.out;refine ⟨by omega,by omega,by simp [blockOf]⟩⟩,Fr.refl _ _⟩
 clear hB3 hB4 hF HCX HCM
 gi_wp2
 refine wpIn_rangeAll rfl (by omega) (gf:=145) (lb:=#[.pointer (some ⟨w4.heap.size + 1,0,none⟩),.pointer (some ⟨w4.heap.size,0,none⟩)]) rfl trivial (enters_of Tryz.func145 (by kernel_rfl) rfl) HSEQ.out (Below.refl _ _) (fun _ => rfl) HXX.out HLow.out
  (fun pre W' => RRel w5 W' (w.heap.size + 4) X M (sAt K ss r pre))
  (RRel.abx (sAt K ss r) HX.out.lt HM.out.lt)
  HR0.out
  (fun i => { tmps:=#[.agg (rpc r (.slice a n c)),.int .u32 (ss.toNat : Nat),.func (.func gf) bd lb,.pointer (some ⟨w.heap.size,0,none⟩),.pointer (some ⟨g4,0,none⟩),.pointer (some ⟨g5,0,none⟩),.pointer (some ⟨g6,0,none⟩),.slice none 0 0,.pointer (some ⟨X,0,none⟩),.pointer (some ⟨M,0,none⟩),undef,.int .u16 ((add16 r.base (i : Nat)).toNat : Nat),undef,undef,.agg (rpc r (.slice a n c)),.agg (bc r.bt.cut (.slice ax nx cx)),.pointer (some ⟨w.heap.size,8,none⟩),.int .u16 (r.base.toNat : Nat),.pointer (some ⟨w.heap.size,9,none⟩),.int .u64 (r.m.hi.toNat : Nat),.pointer (some ⟨w.heap.size,10,none⟩),.int .u64 (r.m.lo.toNat : Nat),.agg #[.int .u64 (r.m.hi.toNat : Nat),.int .u64 (r.m.lo.toNat : Nat)],.func (.func 145) #[] #[.pointer (some ⟨w4.heap.size + 1,0,none⟩),.pointer (some ⟨w4.heap.size,0,none⟩)],.int .i64 i,.int .u16 ((add16 r.base (i : Nat)).toNat : Nat),undef,undef,undef,undef,undef,undef,undef,undef,undef,undef,undef,undef,undef,undef,undef,undef,undef],defers:=[] }) ?assign ?body ?done
 case assign =>
  intro l' x W' K' hK'
  gi_wp2
  exact hK'
 case body =>
  rintro l' pre i W' hl' hpre ⟨⟨vb,v,hX,hO',hM,hOwn,hsep⟩,hFr⟩ hlw hsz
  have hlen : pre.length + 1 ≤ 128:=by
   have h1:=hpre.length_le
   have h2:=r.m.list_len
   simp at h1
   omega
  have hSN:=sAt_snoc K ss r pre i
  have hSS:=sAt_small (K:=K) (ss:=ss) (pre:=pre) hs
  have hSM:=sAt_miss (K:=K) (ss:=ss) (r:=r) (pre:=pre)
  generalize sAt K ss r pre = s at *
  generalize add16 r.base (i : Nat) = q at *
  obtain ⟨x,ms⟩:=s
  simp only at hX hO' hM hOwn hSS hSM
  have HSN:=Hd hSN;have HSS':=Hd hSS;have HSM:=Hd hSM
  obtain ⟨ab,nb,cb,rfl⟩:=hO'.isSlice
  obtain ⟨am,cm,rfl⟩ : ∃ a c,v = .slice a ms.length c:=by
   have:=Sl.shape (Sl.ofOwn hOwn)
   simpa using this
  have HFW : Hid (Fr [] w W'):=Hd (HF.out.step hFr (fun x hx => .inr (by have:=HZ2.out;have:=HXM.out;simp at hx;omega)))
  have HS4:=Hd (HSS.out.fr hFr (by have:=HG.out;have:=HZ2.out;have:=HXM.out;simp;omega))
  have HU5:=Hd (HFU.out.fr hFr (by have:=HG.out;have:=HZ2.out;have:=HXM.out;simp;omega))
  have x4:=HS4.out.cell 0;have x5:=HU5.out.cell 0
  simp only [zz7,zz9] at x4 x5
  have HBX:=Hd hX;have HBO:=Hd hO';have HBM:=Hd hM;have HOW:=Hd hOwn;have HSEP:=Hd hsep;have HFR:=Hd hFr
  clear hX hO' hM hOwn hsep hFr hSN hSS hSM
  gi_wp2_with fail
  clear x4 x5
  refine ⟨trivial,?_⟩
  refine (CallsIn.inRound l' (callsIn_wide.2 (svLook_any (HK0.out.keep HFW.out) q ss))).mono ?_
  rintro e w6 ⟨vy,rfl,⟨vz,rfl,hz⟩,hF⟩
  obtain ⟨az,nz,cz,rfl⟩:=Sl.isSlice hz
  have HZB:=Hd hz
  have HLO : Hid (∀ b,blockOf (.slice ab nb cb) = some b → b < W'.heap.size):=Hd (fun b hb => (HBO.out.block b hb).2)
  have HLM : Hid (∀ b,blockOf (.slice am ms.length cm) = some b → w5.heap.size ≤ b ∧ b < W'.heap.size):=Hd (fun b hb => Own.block HOW.out b hb)
  have HBOW:=Hd HBO.out;have HBXW:=Hd HBX.out;have HBMW:=Hd HBM.out;have HOWW:=Hd HOW.out
  have HFD:=Hd hF
  have HBX:=Hd (HBX.out.keep hF)
  have HBO:=Hd (HBO.out.keep hF)
  have HBM:=Hd (HBM.out.keep hF)
  have HOW:=Hd (Own.keep HOW.out hF)
  clear hF hz
  have HZS : Hid (((lookB K ss q).getD Bt.zero).body.length ≤ 1099511627776):=Hd (by
   cases hlk : lookB K ss q with
   | none => simp [Bt.zero]
   | some y => have:=lookB_small hlk;show y.body.length ≤ _;omega)
  gi_upto_region 6 with (refine wpListIn_store_row rfl 127 (.tmp 12) (.tmp 31) rfl w6.heap.size rfl _ (bc ((lookB K ss q).getD Bt.zero) (.slice az nz cz)) rfl 127 (Box.new w6 127 (bc Bt.zero (.slice none 0 0))) (by kernel_rfl) rfl (by simp [bc,Value.oneCell']) ?_;intro w7 hY hG;have hFn:=((Fr.refl [] w6).alloc _).step hG (by simp);have HFn:=Hd hFn;have HY:=Hd hY;clear hG hFn hY)
  have hF:=HFn.out
  have HFD:=Hd (HFD.out.trans hF)
  have HBX:=Hd (HBX.out.keep hF)
  have HBO:=Hd (HBO.out.keep hF)
  have HBM:=Hd (HBM.out.keep hF)
  have HOW:=Hd (Own.keep HOW.out hF)
  have HZB:=Hd (Sl.keep HZB.out hF)
  have HYB:=HY
  clear hF HFn HY
  generalize hgY : w6.heap.size = Y at *
  clear hgY
  have hnX : ¬ Gd [(X,8),(M,0)] W' X:=fun h => (h (X,8) (by simp)).1 rfl
  have hnM : ¬ Gd [(X,8),(M,0)] W' M:=fun h => (h (M,0) (by simp)).1 rfl
  have hnb : ∀ b,blockOf (.slice ab nb cb) = some b → ¬ Gd [(X,8),(M,0)] W' b:=fun b hb h => (h (X,8) (by simp)).2 _ (by exact HBXW.out.cell 8) hb
  have hnm : ∀ b,blockOf (.slice am ms.length cm) = some b → ¬ Gd [(X,8),(M,0)] W' b:=fun b hb h => (h (M,0) (by simp)).2 _ (by exact HBMW.out.cell 0) hb
  have HNX:=Hd hnX;have HNM:=Hd hnM;have HNB:=Hd hnb;have HNN:=Hd hnm
  clear hnX hnM hnb hnm
  cases hlk : lookB K ss q with
  | some y =>
   have HST : Hid (sAt K ss r (pre ++ [i]) = (x.add y,ms)):=Hd (by rw [HSN.out];unfold restStep;rw [hlk])
   rw [hlk] at HYB HZB HZS
   have HYB : Hid (Box w7 Y 127 (bc y (.slice az nz cz))):=HYB
   have HZB : Hid (Bytes w7 (.slice az nz cz) y.body):=HZB
   have HZS : Hid (y.body.length ≤ 1099511627776):=HZS
   clear hlk
   gi_wp2_with (first | (refine wpListIn_load_row_w rfl 127 (.tmp 8) rfl X rfl 127 _ _ HBX.out Tryz.underlying127 rfl (by kernel_rfl) ?_) | (refine wpListIn_load_row_w rfl 127 (.tmp 12) rfl Y rfl 127 _ _ HYB.out Tryz.underlying127 rfl (by kernel_rfl) ?_))
   refine ⟨trivial,?_⟩
   refine (CallsIn.inRound l' (callsIn_wide.2 (impAdd_any (x:=x) (y:=y) ⟨_,rfl,HBO.out.bytes⟩ ⟨_,rfl,HZB.out⟩ HSS'.out HZS.out))).mono ?_
   rintro e w8 ⟨v8,rfl,⟨vo,rfl,hO8⟩,hF⟩
   obtain ⟨ao,no,co,rfl⟩:=hO8.isSlice
   have HO8:=Hd hO8
   have HFD7:=Hd HFD.out.size
   have HFD:=Hd (HFD.out.trans hF)
   have HBX:=Hd (HBX.out.keep hF)
   have HBO:=Hd (HBO.out.keep hF)
   have HBM:=Hd (HBM.out.keep hF)
   have HOW:=Hd (Own.keep HOW.out hF)
   have HZB:=Hd (Sl.keep HZB.out hF)
   have HYB:=Hd (HYB.out.keep hF)
   clear hF hO8
   gi_wp2_with (refine wpListIn_store_row rfl 127 (.tmp 8) (.tmp 36) rfl X rfl _ (bc (x.add y) (.slice ao no co)) rfl 127 HBX.out (by kernel_rfl) rfl (by simp [bc,Value.oneCell']) ?_;intro w9 hY hG)
   have hxl:=HXX.out (X,8) (by simp);have hml:=HXX.out (M,0) (by simp)
   simp only at hxl hml
   have hob:=HO8.out.block
   have z7:=HFD7.out;have z8:=hG.size;have z9:=HFD.out.size;have zx:=HXM.out;have zz:=HZ2.out
   have hMX : M ≠ X:=by omega
   have hBM9:=HBM.out.fr hG (by simp;omega)
   have hOW9:=Own.fr HOW.out hG (fun b hb hm => by have:=(HLM.out b hb).1;simp at hm;omega)
   have hO9:=HO8.out.fr hG (fun b hb hm => by have:=(hob b hb).1;simp at hm;omega)
   refine ⟨Kx.body (HFD.out.any.trans hG) ?_ ?_,?_⟩
   ·intro g hg
    simp only [List.mem_singleton] at hg
    subst hg
    exact .inr ⟨HNX.out,_,HBXW.out,rfl⟩
   ·intro p hp v b hv hb
    simp only [List.mem_cons,List.not_mem_nil,or_false] at hp
    rcases hp with rfl | rfl
    ·have:=hY.cell 8
     rw [show w9.cell? ⟨X,8,none⟩ = some (.slice ao no co) from this] at hv
     cases hv
     have:=hob b hb
     exact ⟨by omega,.inl (by omega)⟩
    ·have:=hBM9.cell 0
     rw [show w9.cell? ⟨M,0,none⟩ = some (.slice am ms.length cm) from this] at hv
     cases hv
     have:=HLM.out b hb
     exact ⟨by omega,.inr (HNN.out b hb)⟩
   ·show RRel w5 _ (w.heap.size + 4) X M (sAt K ss r (pre ++ [i]))
    rw [HST.out]
    refine ⟨⟨.slice ao no co,.slice am ms.length cm,hY,hO9.mono (by omega),hBM9,hOW9,fun b hb => ?_⟩,HFR.out.step (HFD.out.any.trans hG) (fun x hx => .inl (by simp at hx;simp [hx]))⟩
    have:=(hob b hb).1
    refine ⟨by omega,by omega,fun hb2 => ?_⟩
    have:=HLM.out b hb2
    omega
  | none =>
   have HST : Hid (sAt K ss r (pre ++ [i]) = (x,ms ++ [q])):=Hd (by rw [HSN.out];unfold restStep;rw [hlk])
   clear hlk
   have x0:=HBM.out.cell 0
   simp only [zz7,zz9] at x0
   obtain ⟨w8,e8,hF8,hB8,hs8⟩:=one_new w7 #[.int .u16 (q.toNat : Nat)] 24
   have E8:=Hd e8;have HF8:=Hd hF8
   have HCELL : Hid (∀ (j : Nat) (u : Value),[W16 q][j]? = some u → w8.cell? ((⟨w7.heap.size,0,none⟩ : Addr).add j) = some u):=Hd (fun j u hj => by
    have : j = 0:=by
     have:=(List.getElem?_eq_some_iff.1 hj).1
     simp at this
     exact this
    subst this
    simp at hj
    subst hj
    have h3:=hB8.cell 0
    simp only [zz7,zz9] at h3
    rw [Addr.add_mid,Nat.add_zero]
    exact h3)
   have HOWN:=Hd (Own.keep HOW.out hF8);have HBM8:=Hd (HBM.out.keep hF8)
   have L8 : Hid (w5.heap.size ≤ w8.heap.size):=Hd (by have:=HFD.out.size;have:=hF8.size;omega)
   have HSM1 : Hid (ms.length + 1 ≤ 128):=Hd (by have:=HSM.out;omega)
   clear e8 hF8 hB8 hs8
   gi_wp2_with (gi_at_builtin;(rw [E8.out]);refine wpListIn_append_fr rfl (.tmp 37) (.tmp 39) 66 rfl w5.heap.size 24 (.int .u16 0) 1 2 Tryz.underlying66 info_u16 rfl (by omega) (.slice am ms.length cm) ms.length (ms.map W16) rfl HOWN.out ⟨w7.heap.size,0,none⟩ 1 1 [W16 q] rfl rfl HCELL.out (by simp [W16,Value.oneCell']) (by have:=HSM1.out;unfold maxLen;omega) (by have:=HSM1.out;omega) L8.out ?_;intro v9 w9 hown9 hfr9 hbl9 _;have HOWN9:=Hd hown9;have HFR9:=Hd hfr9;have HBL9:=Hd hbl9;obtain ⟨a9,c9,rfl⟩ : ∃ a c,v9 = .slice a (ms.length + 1) c:=(by have h:=Sl.shape (Sl.ofOwn hown9);simpa using h);clear hown9 hfr9 hbl9;have hM9:=HBM8.out.fr HFR9.out (fun hm => by have h:=(HLM.out _ (by simpa using hm)).1;have:=HXX.out (M,0) (by simp);simp at this;omega);have x9:=hM9.cell 0;have f9:=hM9.free 0;(simp only [zz7,zz9] at x9);have HM9:=Hd hM9;clear hM9)
   obtain ⟨w10,e10,hF10,hB10,hs10⟩:=set_new HM9.out 0 (.slice a9 (ms.length + 1) c9)
   rw [e10]
   simp only [zz4,zz5] at hB10
   have hxl:=HXX.out (X,8) (by simp);have hml:=HXX.out (M,0) (by simp)
   simp only at hxl hml
   have z7:=HFD.out.size;have z8:=HF8.out.size;have z9:=HFR9.out.size;have zx:=HXM.out;have zz:=HZ2.out
   have hown9:=Own.block HOWN9.out
   have hv9 : ∀ b,blockOf (.slice a9 (ms.length + 1) c9) = some b → b ≠ M ∧ b < w10.heap.size ∧ (W'.heap.size ≤ b ∨ ¬ Gd [(X,8),(M,0)] W' b):=fun b hb => by
    have h1:=hown9 b hb
    refine ⟨by omega,by omega,?_⟩
    rcases HBL9.out b hb with h | h
    ·exact .inr (HNN.out b h)
    ·exact .inl (by omega)
   have hfr : Fr ((blockOf (.slice am ms.length cm)).toList ++ [M]) W' w10:=(((HFD.out.trans HF8.out).any).trans (HFR9.out.mono (fun x hx => by simp [hx]))).trans (hF10.mono (fun x hx => by simp at hx;simp [hx]))
   have hmm : ∀ b,b ∈ (blockOf (.slice am ms.length cm)).toList ++ [M] → b = M ∨ w5.heap.size ≤ b:=fun b hb => by
    rcases List.mem_append.1 hb with hb | hb
    ·exact .inr (HLM.out b (mem_toList.1 hb)).1
    ·exact .inl (by simpa using hb)
   have hnx : X ∉ (blockOf (.slice am ms.length cm)).toList ++ [M]:=fun hm => by
    rcases hmm X hm with h | h <;> omega
   have hX10:=HBXW.out.fr hfr hnx
   have hnb : ∀ b,blockOf (.slice ab nb cb) = some b → b ∉ (blockOf (.slice am ms.length cm)).toList ++ [M]:=fun b hb hm => by
    have h1:=HSEP.out b hb
    rcases List.mem_append.1 hm with hm | hm
    ·exact h1.2.2 (mem_toList.1 hm)
    ·exact h1.2.1 (by simpa using hm)
   have hO10:=OwnB.fr HBOW.out hfr hnb
   refine ⟨Kx.body hfr ?_ ?_,?_⟩
   ·intro g hg
    rcases List.mem_append.1 hg with hg | hg
    ·have hg':=mem_toList.1 hg
     refine .inr ⟨HNN.out g hg',?_⟩
     obtain ⟨-,h | ⟨g',cap,cur,ev,hbg,hgg,-⟩⟩:=HOWW.out
     ·rw [h.1] at hg';simp [blockOf] at hg'
     ·rw [ev] at hg'
      simp only [blockOf,Option.some.injEq] at hg'
      subst hg'
      exact ⟨_,hgg,rfl⟩
    ·simp only [List.mem_singleton] at hg
     subst hg
     exact .inr ⟨HNM.out,_,HBMW.out,rfl⟩
   ·intro p hp v b hv hb
    simp only [List.mem_cons,List.not_mem_nil,or_false] at hp
    rcases hp with rfl | rfl
    ·have:=hX10.cell 8
     rw [show w10.cell? ⟨X,8,none⟩ = some (.slice ab nb cb) from this] at hv
     cases hv
     have:=HLO.out b hb
     exact ⟨by omega,.inr (HNB.out b hb)⟩
    ·have:=hB10.cell 0
     rw [show w10.cell? ⟨M,0,none⟩ = some (.slice a9 (ms.length + 1) c9) from this] at hv
     cases hv
     exact ⟨(hv9 b hb).2.1,(hv9 b hb).2.2⟩
   ·show RRel w5 _ (w.heap.size + 4) X M (sAt K ss r (pre ++ [i]))
    rw [HST.out]
    have h:=HOWN9.out
    rw [show ms.map W16 ++ [W16 q] = (ms ++ [q]).map W16 by simp] at h
    refine ⟨⟨.slice ab nb cb,.slice a9 (ms.length + 1) c9,hX10,hO10,hB10,?_,fun b hb => ?_⟩,HFR.out.step hfr (fun x hx => ?_)⟩
    ·rw [show (x,ms ++ [q]).2.length = ms.length + 1 by simp]
     exact Own.fr h hF10 (fun b hb hm => by simp at hm;exact (hv9 b hb).1 hm)
    ·have h1:=HSEP.out b hb
     refine ⟨h1.1,h1.2.1,fun hb2 => ?_⟩
     rcases HBL9.out b hb2 with h2 | h2
     ·exact h1.2.2 h2
     ·have:=HLO.out b hb;omega
    ·rcases hmm x hx with h | h
     ·exact .inl (by simp [h])
     ·exact .inr h
 case done =>
  rintro D W' hD ⟨⟨vb,v,hX,hO',hM,hOwn,hsep⟩,hFr⟩ hK hDk
  have hxl:=HXX.out (X,8) (by simp);have hml:=HXX.out (M,0) (by simp)
  simp only at hxl hml
  have zx:=HXM.out;have zz:=HZ2.out;have zg:=HG.out
  have hRL : sAt K ss r r.m.list = restL K ss r:=rfl
  rw [hRL] at hX hO' hOwn
  have hz0:=HZ.out.fr hFr (by simp;omega)
  obtain ⟨x,ms,hRE⟩ : ∃ x ms,restL K ss r = (x,ms):=⟨_,_,rfl⟩
  rw [hRE] at hX hO' hOwn
  have HRE:=Hd hRE
  clear hRE
  simp only at hX hO' hOwn
  obtain ⟨ab,nb,cb,rfl⟩:=hO'.isSlice
  obtain ⟨am,cm,rfl⟩ : ∃ a c,v = .slice a ms.length c:=by
   have:=Sl.shape (Sl.ofOwn hOwn)
   simpa using this
  have hfd:=(Fr.refl [] W').drew
  have hFW : Fr [] w W':=HF.out.step hFr (fun x hx => .inr (by simp at hx;omega))
  have hdk : W'.drew.heap[D]? = some (.deferred (some [])):=hDk
  have HXd:=Hd (hX.keep hfd);have HMd:=Hd (hM.keep hfd);have HOd:=Hd (hO'.keep hfd);have HWd:=Hd (Own.keep hOwn hfd);have HZd:=Hd (hz0.keep hfd);have HDd:=Hd hdk
  have HFW:=Hd (hFW.trans hfd)
  have HNB : Hid (∀ b,blockOf (.slice ab nb cb) = some b → w.heap.size + 4 ≤ b):=Hd (fun b hb => (hO'.block b hb).1)
  have HNM : Hid (∀ b,blockOf (.slice am ms.length cm) = some b → w5.heap.size ≤ b):=Hd (fun b hb => (Own.block hOwn b hb).1)
  have HND : Hid (∀ b,(blockOf (.slice ab nb cb) = some b ∨ blockOf (.slice am ms.length cm) = some b) → b ≠ D):=Hd (fun b hb e => by
   subst e
   rcases hb with hb | hb
   ·exact own_ne hO' hDk b hb rfl
   ·exact own_ne hOwn hDk b hb rfl)
  have xM:=HMd.out.cell 0
  simp only [zz7,zz9] at xM
  have hmx : Tryz.prog.follows .mixedOrders = true:=by kernel_rfl
  clear hX hO' hM hOwn hsep hFr hz0 hfd hFW hdk hRL hDk hK
  gi_wp2_with fail
  have HF5Z : Hid (w5.heap.size ≤ D ∧ w.heap.size + 4 ≤ w5.heap.size):=Hd ⟨by omega,by omega⟩
  clear hxl hml zx zz zg
  refine wpIn_region_any (by assumption) ?_
  try (change wpAnyIn _ _ _ _ _ _ _ _ _ (World.drew _))
  refine wpAnyIn_ready (rs:=[0,1]) (by kernel_rfl) (by simp) ?_
  refine AllReadyIn.cons rfl (fun K hK => ?_) ?_
  ·refine stepIn_load_row (by rfl) 127 (.tmp 8) rfl X rfl 127 _ _ HXd.out Tryz.underlying127 rfl (by kernel_rfl) ?_
   refine hK _ _ ?_
   clear hK K
   try simp only [Act.put,zz1,zz2,zz3,zz4,zz5,zz6]
   refine wpAnyIn_ready (rs:=[1,2]) (by kernel_rfl) (by simp) ?_
   refine AllReadyIn.cons rfl (fun K hK => ?_) ?_
   ·go_simp
    refine hK _ _ ?_
    clear hK K
    try simp only [Act.put,zz1,zz2,zz3,zz4,zz5,zz6]
    refine wpAnyIn_ready (rs:=[2]) (by kernel_rfl) (by simp) ?_
    refine AllReadyIn.cons rfl (fun K hK => ?_) ?_
    ·refine stepIn_store_row (by rfl) 127 (.tmp 6) (.tmp 41) rfl g6 rfl _ (bc x (.slice ab nb cb)) rfl 127 HZd.out (by kernel_rfl) rfl (by simp [bc,Value.oneCell']) ?_
     intro w9 hY hG
     have HG9:=Hd hG;have HY9:=Hd hY
     clear hY hG
     have xM9:=(HMd.out.fr HG9.out (by have:=HG.out;have:=HXM.out;have:=HZ2.out;simp;omega)).cell 0
     simp only [zz7,zz9] at xM9
     refine hK _ _ ?_
     clear hK K
     try simp only [Act.put,zz1,zz2,zz3,zz4,zz5,zz6]
     refine wpAnyIn_ready (rs:=[3]) (by kernel_rfl) (by simp) ?_
     refine AllReadyIn.cons rfl (fun K hK => ?_) ?_
     ·go_simp
      refine hK _ _ ?_
      clear hK K
      try simp only [Act.put,zz1,zz2,zz3,zz4,zz5,zz6]
      refine wpAnyIn_done (by kernel_rfl) ?_ _
      gi_wp2_with fail
      have hDk9 : w9.heap[D]? = some (.deferred (some [])):=(HG9.out.block D (Array.getElem?_eq_some_iff.1 HDd.out).1 (by have:=HG.out;have:=HF5Z.out;simp;omega)).trans HDd.out
      refine ⟨by simp,.inl ⟨_,_,rfl,run_takeDeferred hDk9,?_⟩⟩
      have hFD : Fr [D] w9 (w9.putObj D (.deferred none)):=Fr.ofGrown (grownBy_putObj' w9 D _)
      have hDg : D ≠ g6:=by have:=HG.out;have:=HF5Z.out;omega
      have hY2:=HY9.out.fr hFD (by simp;omega)
      have hO2:=(HOd.out.fr HG9.out (fun b hb hm => by have:=HNB.out b hb;have:=HG.out;simp at hm;omega)).fr hFD (fun b hb hm => HND.out b (.inl hb) (by simpa using hm))
      have hW2:=Own.fr (Own.fr HWd.out HG9.out (fun b hb hm => by have:=HNM.out b hb;have:=HG.out;have:=HF5Z.out;simp at hm;omega)) hFD (fun b hb hm => HND.out b (.inr hb) (by simpa using hm))
      exact ⟨_,results_row_1 rfl _ _ g6 127 _ _ rfl hY2 Tryz.underlying127 rfl (by kernel_rfl),_,_,rfl,by rw [HRE.out];exact ⟨_,rfl,hO2.bytes⟩,by rw [HRE.out];exact Sl.ofOwn hW2,(HFW.out.step HG9.out (fun x hx => .inr (by have:=HG.out;simp at hx;omega))).step hFD (fun x hx => .inr (by have:=HF5Z.out;simp at hx;omega))⟩
     exact AllReadyIn.nil
    exact AllReadyIn.nil
   refine AllReadyIn.cons rfl (fun K hK => ?_) ?_
   ·refine stepIn_store_row (by rfl) 127 (.tmp 6) (.tmp 41) rfl g6 rfl _ (bc x (.slice ab nb cb)) rfl 127 HZd.out (by kernel_rfl) rfl (by simp [bc,Value.oneCell']) ?_
    intro w9 hY hG
    have HG9:=Hd hG;have HY9:=Hd hY
    clear hY hG
    have xM9:=(HMd.out.fr HG9.out (by have:=HG.out;have:=HXM.out;have:=HZ2.out;simp;omega)).cell 0
    simp only [zz7,zz9] at xM9
    refine hK _ _ ?_
    clear hK K
    try simp only [Act.put,zz1,zz2,zz3,zz4,zz5,zz6]
    refine wpAnyIn_ready (rs:=[1]) (by kernel_rfl) (by simp) ?_
    refine AllReadyIn.cons rfl (fun K hK => ?_) ?_
    ·go_simp
     refine hK _ _ ?_
     clear hK K
     try simp only [Act.put,zz1,zz2,zz3,zz4,zz5,zz6]
     refine wpAnyIn_ready (rs:=[3]) (by kernel_rfl) (by simp) ?_
     refine AllReadyIn.cons rfl (fun K hK => ?_) ?_
     ·go_simp
      refine hK _ _ ?_
      clear hK K
      try simp only [Act.put,zz1,zz2,zz3,zz4,zz5,zz6]
      refine wpAnyIn_done (by kernel_rfl) ?_ _
      gi_wp2_with fail
      have hDk9 : w9.heap[D]? = some (.deferred (some [])):=(HG9.out.block D (Array.getElem?_eq_some_iff.1 HDd.out).1 (by have:=HG.out;have:=HF5Z.out;simp;omega)).trans HDd.out
      refine ⟨by simp,.inl ⟨_,_,rfl,run_takeDeferred hDk9,?_⟩⟩
      have hFD : Fr [D] w9 (w9.putObj D (.deferred none)):=Fr.ofGrown (grownBy_putObj' w9 D _)
      have hDg : D ≠ g6:=by have:=HG.out;have:=HF5Z.out;omega
      have hY2:=HY9.out.fr hFD (by simp;omega)
      have hO2:=(HOd.out.fr HG9.out (fun b hb hm => by have:=HNB.out b hb;have:=HG.out;simp at hm;omega)).fr hFD (fun b hb hm => HND.out b (.inl hb) (by simpa using hm))
      have hW2:=Own.fr (Own.fr HWd.out HG9.out (fun b hb hm => by have:=HNM.out b hb;have:=HG.out;have:=HF5Z.out;simp at hm;omega)) hFD (fun b hb hm => HND.out b (.inr hb) (by simpa using hm))
      exact ⟨_,results_row_1 rfl _ _ g6 127 _ _ rfl hY2 Tryz.underlying127 rfl (by kernel_rfl),_,_,rfl,by rw [HRE.out];exact ⟨_,rfl,hO2.bytes⟩,by rw [HRE.out];exact Sl.ofOwn hW2,(HFW.out.step HG9.out (fun x hx => .inr (by have:=HG.out;simp at hx;omega))).step hFD (fun x hx => .inr (by have:=HF5Z.out;simp at hx;omega))⟩
     exact AllReadyIn.nil
    exact AllReadyIn.nil
   exact AllReadyIn.nil
  refine AllReadyIn.cons rfl (fun K hK => ?_) ?_
  ·go_simp
   refine hK _ _ ?_
   clear hK K
   try simp only [Act.put,zz1,zz2,zz3,zz4,zz5,zz6]
   refine wpAnyIn_ready (rs:=[0]) (by kernel_rfl) (by simp) ?_
   refine AllReadyIn.cons rfl (fun K hK => ?_) ?_
   ·refine stepIn_load_row (by rfl) 127 (.tmp 8) rfl X rfl 127 _ _ HXd.out Tryz.underlying127 rfl (by kernel_rfl) ?_
    refine hK _ _ ?_
    clear hK K
    try simp only [Act.put,zz1,zz2,zz3,zz4,zz5,zz6]
    refine wpAnyIn_ready (rs:=[2]) (by kernel_rfl) (by simp) ?_
    refine AllReadyIn.cons rfl (fun K hK => ?_) ?_
    ·refine stepIn_store_row (by rfl) 127 (.tmp 6) (.tmp 41) rfl g6 rfl _ (bc x (.slice ab nb cb)) rfl 127 HZd.out (by kernel_rfl) rfl (by simp [bc,Value.oneCell']) ?_
     intro w9 hY hG
     have HG9:=Hd hG;have HY9:=Hd hY
     clear hY hG
     have xM9:=(HMd.out.fr HG9.out (by have:=HG.out;have:=HXM.out;have:=HZ2.out;simp;omega)).cell 0
     simp only [zz7,zz9] at xM9
     refine hK _ _ ?_
     clear hK K
     try simp only [Act.put,zz1,zz2,zz3,zz4,zz5,zz6]
     refine wpAnyIn_ready (rs:=[3]) (by kernel_rfl) (by simp) ?_
     refine AllReadyIn.cons rfl (fun K hK => ?_) ?_
     ·go_simp
      refine hK _ _ ?_
      clear hK K
      try simp only [Act.put,zz1,zz2,zz3,zz4,zz5,zz6]
      refine wpAnyIn_done (by kernel_rfl) ?_ _
      gi_wp2_with fail
      have hDk9 : w9.heap[D]? = some (.deferred (some [])):=(HG9.out.block D (Array.getElem?_eq_some_iff.1 HDd.out).1 (by have:=HG.out;have:=HF5Z.out;simp;omega)).trans HDd.out
      refine ⟨by simp,.inl ⟨_,_,rfl,run_takeDeferred hDk9,?_⟩⟩
      have hFD : Fr [D] w9 (w9.putObj D (.deferred none)):=Fr.ofGrown (grownBy_putObj' w9 D _)
      have hDg : D ≠ g6:=by have:=HG.out;have:=HF5Z.out;omega
      have hY2:=HY9.out.fr hFD (by simp;omega)
      have hO2:=(HOd.out.fr HG9.out (fun b hb hm => by have:=HNB.out b hb;have:=HG.out;simp at hm;omega)).fr hFD (fun b hb hm => HND.out b (.inl hb) (by simpa using hm))
      have hW2:=Own.fr (Own.fr HWd.out HG9.out (fun b hb hm => by have:=HNM.out b hb;have:=HG.out;have:=HF5Z.out;simp at hm;omega)) hFD (fun b hb hm => HND.out b (.inr hb) (by simpa using hm))
      exact ⟨_,results_row_1 rfl _ _ g6 127 _ _ rfl hY2 Tryz.underlying127 rfl (by kernel_rfl),_,_,rfl,by rw [HRE.out];exact ⟨_,rfl,hO2.bytes⟩,by rw [HRE.out];exact Sl.ofOwn hW2,(HFW.out.step HG9.out (fun x hx => .inr (by have:=HG.out;simp at hx;omega))).step hFD (fun x hx => .inr (by have:=HF5Z.out;simp at hx;omega))⟩
     exact AllReadyIn.nil
    exact AllReadyIn.nil
   exact AllReadyIn.nil
  exact AllReadyIn.nil
end Go.Proofs.YtcngfbjmpemehaaGreat

/- The walks of solve.One,Check,Count (printed by gen_one.py). -/
namespace Go.Proofs.YtcngfbjmpemehaaGreat
open Go.RowKit

def oneF (ss : UInt32) (x : Bt) : List UInt16 → UInt16 × List UInt8 × Int
 | [] => (0,[],40)
 | [n] => match x.pack n ss with
  | .ok b => (n,b,0)
  | .error _ => (0,[],42)
 | _ :: _ :: _ => (0,[],41)
def oneL (K : UInt16 → Option (List UInt8)) (ss : UInt32) (r : Rep_) : UInt16 × List UInt8 × Int :=
 if r.m.hi = 0 ∧ r.m.lo = 0 then (0,[],30) else oneF ss (restL K ss r).1 (restL K ss r).2
theorem oneF_ok {ss : UInt32} {x : Bt} {n : UInt16} {b : List UInt8} (h : x.pack n ss = .ok b) : oneF ss x [n] = (n,b,0):=by simp only [oneF,h]
theorem oneF_err {ss : UInt32} {x : Bt} {n : UInt16} {k : Int} (h : x.pack n ss = .error k) : oneF ss x [n] = (0,[],42):=by simp only [oneF,h]
theorem oneL_ne {K : UInt16 → Option (List UInt8)} {ss : UInt32} {r : Rep_} {x : Bt} {ms : List UInt16} (hz : ¬(r.m.hi = 0 ∧ r.m.lo = 0)) (h : restL K ss r = (x,ms)) : oneL K ss r = oneF ss x ms:=by unfold oneL;rw [if_neg hz,h]
theorem bv_beq0 (a : BitVec 64) : (((a.toNat : Nat) : Int) == 0) = (a == 0):=by
 rw [Bool.eq_iff_iff]
 simp [← BitVec.toNat_inj]
theorem restL_small {K : UInt16 → Option (List UInt8)} {ss : UInt32} {r : Rep_} (h : r.bt.body.length ≤ 1099511627776) : (restL K ss r).1.body.length ≤ 1099511627776:=rest_small _ _ h (by omega)
theorem svCount_any {w : World} {v : Value} {r : Rep_} {gf : Nat} {bd lb : Array Value} {K : UInt16 → Option (List UInt8)} (h : RpV w v r) (hs : r.bt.body.length ≤ 1099511627776) (hK : Knows w gf bd lb K) (ss : UInt32) :
  Calls Tryz.prog 61 #[v,.func (.func gf) bd lb,.int .u32 (ss.toNat : Nat)] w fun e w' => e = .returned (.int .i64 ((restL K ss r).2.length : Nat)) ∧ Fr [] w w':=by
 obtain ⟨vb,rfl,hb⟩:=h
 obtain ⟨a,n,c,rfl⟩:=Sl.isSlice hb
 obtain ⟨w1,e1,hF1,hB1,hs1⟩:=one_new w (rpc r (.slice a n c)) 38
 have HF:=Hd hF1;have HR:=Hd hB1;have E1:=Hd e1;have HK:=Hd (hK.keep hF1);have HBD:=Hd (Sl.keep hb hF1)
 clear hF1 hB1 e1 hs1 hb hK
 go_enter Tryz.func61,Tryz.ntmps61
 go_upto_region 1 with fail
 rw [E1.out]
 clear E1
 go_wp2_with (refine wpList_load_row_w rfl 38 (.tmp 3) rfl w.heap.size rfl 38 _ _ HR.out Tryz.underlying38 rfl (by kernel_rfl) ?_)
 refine (svRest_any (r:=r) ⟨_,rfl,HBD.out⟩ hs HK.out ss).mono ?_
 rintro e w2 ⟨vx,vm,rfl,⟨vz,rfl,hz⟩,hm,hF⟩
 have hxs:=restL_small (K:=K) (ss:=ss) (r:=r) hs
 have HRE0 : Hid (restL K ss r = ((restL K ss r).1,(restL K ss r).2)):=Hd rfl
 have HXS:=Hd hxs
 obtain ⟨x,ms,hRE⟩ : ∃ x ms,restL K ss r = (x,ms):=⟨_,_,rfl⟩
 rw [hRE] at hz hm HXS ⊢
 clear hxs HRE0
 obtain ⟨az,nz,cz,rfl⟩:=Sl.isSlice hz
 obtain ⟨am,cm,rfl⟩ : ∃ a c,vm = .slice a ms.length c:=by
  have:=Sl.shape hm
  simpa using this
 have HZ:=Hd hz;have HM:=Hd hm;have HRE:=Hd hRE
 have HF:=Hd (HF.out.trans hF)
 have HR:=Hd (HR.out.keep hF)
 clear hF hz hm hRE HK HBD
 go_upto_region 2 with (refine wpList_store_row rfl 127 (.tmp 7) (.tmp 14) rfl w2.heap.size rfl _ _ rfl 127 (Box.new w2 127 (bc Bt.zero (.slice none 0 0))) (by kernel_rfl) rfl (by simp [bc,Value.oneCell']) ?_;intro w3 hY hG;have hFn:=((Fr.refl [] w2).alloc _).step hG (by simp);have HFn:=Hd hFn;have HY:=Hd hY;clear hG hFn hY)
 have hF:=HFn.out
 have HF:=Hd (HF.out.trans hF)
 have HR:=Hd (HR.out.keep hF)
 have HZ:=Hd (Sl.keep HZ.out hF)
 have HM:=Hd (Sl.keep HM.out hF)
 have HX:=HY
 clear hF HFn HY
 generalize hgx : w2.heap.size = gx at *
 clear hgx
 go_wp2_with fail
 go_ret
 exact ⟨by rw [HRE.out];rfl,HF.out⟩
end Go.Proofs.YtcngfbjmpemehaaGreat

/- Peeling,plain: packets by numbers that don't go round,repairs in the order in which they came,what they tell. No program in sight. -/
namespace Go.Proofs.YtcngfbjmpemehaaGreat

structure PkO where
 n : Int
 s : UInt16
 b : List UInt8
structure PkD where
 ss : UInt32
 w : Nat
 r : Nat
 hi : Option Int
 med : List PkO
 rep : List Rep_
def PkD.new (ss : UInt32) (w r : Int) : PkD:=⟨ss,(min (max w 1) 64).toNat,(min (max r 1) 16).toNat,none,[],[]⟩
def PkD.peek (d : PkD) (s : UInt16) : Int:=peekW d.hi s
def PkD.old (d : PkD) (n : Int) : Bool:=match d.hi with
 | none => false
 | some h => decide (n ≤ h - (d.w : Int))
def PkD.look (d : PkD) (n : Int) : Option (List UInt8):=(d.med.find? fun o => o.n == n).map PkO.b
def PkD.has (d : PkD) (s : UInt16) : Option (List UInt8):=d.look (d.peek s)
def PkD.lost (d : PkD) (r : Rep_) : Bool:=(seqsOf r.base r.m).any fun s => (d.has s).isNone && d.old (d.peek s)
def PkD.note (d : PkD) (n : Int) : PkD:={ d with hi:=some (match d.hi with | none => n | some h => max h n) }
def PkD.add (d : PkD) (s : UInt16) (b : List UInt8) : PkD :=
 let e:=d.note (d.peek s)
 {e with med:=(d.med.filter fun o => !e.old o.n) ++ [⟨d.peek s,s,b⟩] }
def PkD.keepR (d : PkD) (l : List Rep_) : List Rep_:=l.filter fun r => !d.lost r
def PkD.put (d : PkD) (s : UInt16) (b : List UInt8) : PkD:={ d.add s b with rep:=(d.add s b).keepR d.rep }
def goT : Nat → PkD → List Rep_ → List Rep_ → List (UInt16 × List UInt8) → PkD × List (UInt16 × List UInt8)
 | 0,d,vis,_,out => ({ d with rep:=vis },out)
 | _ + 1,d,vis,[],out => ({ d with rep:=vis },out)
 | k + 1,d,vis,r :: rest,out =>
  if (oneL d.has d.ss r).2.2 = 41 then goT k d (vis ++ [r]) rest out
  else if (oneL d.has d.ss r).2.2 ≠ 0 then goT k d vis rest out
  else
   let e:=d.add (oneL d.has d.ss r).1 (oneL d.has d.ss r).2.1
   goT k e (e.keepR vis) (e.keepR rest) (out ++ [((oneL d.has d.ss r).1,(oneL d.has d.ss r).2.1)])
def PkD.round (d : PkD) : PkD × List (UInt16 × List UInt8):=goT d.rep.length d [] d.rep []
def tellF : Nat → PkD → List (UInt16 × List UInt8) → PkD × List (UInt16 × List UInt8)
 | 0,d,out => (d,out)
 | k + 1,d,out => if d.round.2 = [] then (d.round.1,out) else tellF k d.round.1 (out ++ d.round.2)
def PkD.tell (d : PkD) : PkD × List (UInt16 × List UInt8):=tellF (d.rep.length + 1) d []
theorem keepR_len (d : PkD) (l : List Rep_) : (d.keepR l).length ≤ l.length:=List.length_filter_le _ _
theorem goT_fuel : ∀ (k : Nat) (d : PkD) (vis rest : List Rep_) (out : List (UInt16 × List UInt8)),rest.length ≤ k → goT k d vis rest out = goT rest.length d vis rest out
 | 0,_,_,rest,_,h => by
  have : rest = []:=List.length_eq_zero_iff.1 (by omega)
  subst this;rfl
 | k + 1,d,vis,[],out,_ => rfl
 | k + 1,d,vis,r :: rest,out,h => by
  have hk : rest.length ≤ k:=by simpa using h
  show goT (k + 1) d vis (r :: rest) out = goT (rest.length + 1) d vis (r :: rest) out
  simp only [goT]
  split
  ·exact goT_fuel k d _ rest _ hk
  split
  ·exact goT_fuel k d _ rest _ hk
  ·have h1:=keepR_len (d.add (oneL d.has d.ss r).1 (oneL d.has d.ss r).2.1) rest
   rw [goT_fuel k _ _ _ _ (by omega),goT_fuel rest.length _ _ _ _ h1]
def goR (d : PkD) (vis rest : List Rep_) (out : List (UInt16 × List UInt8)) : PkD × List (UInt16 × List UInt8):=goT rest.length d vis rest out
theorem goR_nil (d : PkD) (vis : List Rep_) (out : List (UInt16 × List UInt8)) : goR d vis [] out = ({ d with rep:=vis },out):=rfl
theorem goR_less {d : PkD} {vis rest : List Rep_} {r : Rep_} {out : List (UInt16 × List UInt8)} (h : (oneL d.has d.ss r).2.2 = 41) : goR d vis (r :: rest) out = goR d (vis ++ [r]) rest out:=by
 unfold goR
 show goT (rest.length + 1) d vis (r :: rest) out = _
 simp only [goT]
 rw [if_pos h]
theorem goR_err {d : PkD} {vis rest : List Rep_} {r : Rep_} {out : List (UInt16 × List UInt8)} (h : (oneL d.has d.ss r).2.2 ≠ 41) (h2 : (oneL d.has d.ss r).2.2 ≠ 0) : goR d vis (r :: rest) out = goR d vis rest out:=by
 unfold goR
 show goT (rest.length + 1) d vis (r :: rest) out = _
 simp only [goT]
 rw [if_neg h,if_pos h2]
theorem goR_ok {d : PkD} {vis rest : List Rep_} {r : Rep_} {s : UInt16} {b : List UInt8} {out : List (UInt16 × List UInt8)} (h : oneL d.has d.ss r = (s,b,0)) : goR d vis (r :: rest) out = goR (d.add s b) ((d.add s b).keepR vis) ((d.add s b).keepR rest) (out ++ [(s,b)]):=by
 unfold goR
 show goT (rest.length + 1) d vis (r :: rest) out = _
 simp only [goT]
 rw [h,if_neg (show ¬(0 : Int) = 41 by decide),if_neg (show ¬((0 : Int) ≠ 0) by decide)]
 exact goT_fuel _ _ _ _ _ (keepR_len _ _)
theorem goT_len : ∀ (k : Nat) (d : PkD) (vis rest : List Rep_) (out : List (UInt16 × List UInt8)),(goT k d vis rest out).1.rep.length + (goT k d vis rest out).2.length ≤ vis.length + rest.length + out.length
 | 0,d,vis,rest,out => by simp only [goT];omega
 | k + 1,d,vis,[],out => by simp only [goT,List.length_nil];omega
 | k + 1,d,vis,r :: rest,out => by
  simp only [goT]
  split
  ·have:=goT_len k d (vis ++ [r]) rest out
   simp only [List.length_append,List.length_cons,List.length_nil] at this ⊢
   omega
  split
  ·have:=goT_len k d vis rest out
   simp only [List.length_cons] at this ⊢
   omega
  ·have h1:=keepR_len (d.add (oneL d.has d.ss r).1 (oneL d.has d.ss r).2.1) rest
   have h2:=keepR_len (d.add (oneL d.has d.ss r).1 (oneL d.has d.ss r).2.1) vis
   have:=goT_len k (d.add (oneL d.has d.ss r).1 (oneL d.has d.ss r).2.1) ((d.add (oneL d.has d.ss r).1 (oneL d.has d.ss r).2.1).keepR vis) ((d.add (oneL d.has d.ss r).1 (oneL d.has d.ss r).2.1).keepR rest) (out ++ [((oneL d.has d.ss r).1,(oneL d.has d.ss r).2.1)])
   simp only [List.length_append,List.length_cons,List.length_nil] at this ⊢
   omega
theorem round_len (d : PkD) : d.round.1.rep.length + d.round.2.length ≤ d.rep.length:=by
 have:=goT_len d.rep.length d [] d.rep []
 simpa [PkD.round] using this
theorem tellF_fuel : ∀ (k : Nat) (d : PkD) (out : List (UInt16 × List UInt8)),d.rep.length < k → tellF k d out = tellF (d.rep.length + 1) d out
 | 0,_,_,h => by omega
 | k + 1,d,out,h => by
  simp only [tellF]
  split
  ·rfl
  ·rename_i hne
   have h1:=round_len d
   have h2 : 0 < d.round.2.length:=List.length_pos_iff.2 hne
   rw [tellF_fuel k _ _ (by omega),← tellF_fuel d.rep.length _ _ (by omega)]
def tellR (d : PkD) (out : List (UInt16 × List UInt8)) : PkD × List (UInt16 × List UInt8):=tellF (d.rep.length + 1) d out
theorem tellR_stop {d : PkD} {out : List (UInt16 × List UInt8)} (h : d.round.2 = []) : tellR d out = (d.round.1,out):=by
 unfold tellR
 simp only [tellF]
 rw [if_pos h]
theorem tellR_more {d : PkD} {out : List (UInt16 × List UInt8)} (h : d.round.2 ≠ []) : tellR d out = tellR d.round.1 (out ++ d.round.2):=by
 have h1:=round_len d
 have h2 : 0 < d.round.2.length:=List.length_pos_iff.2 h
 unfold tellR
 rw [← tellF_fuel d.rep.length d.round.1 _ (by omega)]
 simp only [tellF]
 rw [if_neg h]
def PkD.media (d : PkD) (b : List UInt8) : PkD × List (UInt16 × List UInt8 × Bool) × Int:=match parseR b with
 | .error e => (d,[],e)
 | .ok p =>
  if p.ssrc ≠ d.ss then (d,[],61)
  else if d.old (d.peek p.seq) then (d,[],50)
  else if (d.has p.seq).isSome then (d,[],5)
  else ((d.put p.seq b).tell.1,(p.seq,b,false) :: (d.put p.seq b).tell.2.map (fun x => (x.1,x.2,true)),0)
end Go.Proofs.YtcngfbjmpemehaaGreat

/- Peeling,plain: what a decoder keeps to;the document's list of packets of a repair tells what the decoder's numbers tell. No program in sight. -/
namespace Go.Proofs.YtcngfbjmpemehaaGreat

theorem peek_low (hi : Option Int) (q : UInt16) : peekW hi q % 65536 = (q.toNat : Int):=by
 have hq:=q.toNat_lt
 cases hi with
 | none =>
  show ((4294967296 : Int) + (q.toNat : Int)) % 65536 = _
  omega
 | some h =>
  show (h + ahd q (UInt16.ofNat (h % 65536).toNat)) % 65536 = _
  have hl : ((UInt16.ofNat (h % 65536).toNat).toNat : Int) = h % 65536:=by rw [UInt16.toNat_ofNat'];omega
  rw [ahd_def]
  generalize (UInt16.ofNat (h % 65536).toNat).toNat = m at *
  split <;> omega
def isPk (ss : UInt32) (s : UInt16) (b : List UInt8) : Prop:=∃ p,parseR b = .ok p ∧ p.seq = s ∧ p.ssrc = ss
theorem isPk.isNo {ss : UInt32} {s : UInt16} {b : List UInt8} (h : isPk ss s b) (n : UInt16) : isNo n b = (s == n):=by
 obtain ⟨p,hp,hs,-⟩:=h
 unfold Proofs.YtcngfbjmpemehaaGreat.isNo
 rw [hp]
 show (p.seq == n) = _
 rw [hs]
structure PkD.Good (d : PkD) : Prop where
 pkt : ∀ o ∈ d.med,isPk d.ss o.s o.b ∧ o.n % 65536 = (o.s.toNat : Int)
 win : ∀ o ∈ d.med,d.old o.n = false
 uniq : d.med.Pairwise fun a b => a.n ≠ b.n
theorem look_some {d : PkD} {n : Int} {b : List UInt8} (h : d.look n = some b) : ∃ o ∈ d.med,o.n = n ∧ o.b = b:=by
 unfold PkD.look at h
 rw [Option.map_eq_some_iff] at h
 obtain ⟨o,ho,hb⟩:=h
 exact ⟨o,List.mem_of_find?_eq_some ho,by simpa using List.find?_some ho,hb⟩
theorem PkD.Good.has {d : PkD} (h : d.Good) {s : UInt16} {b : List UInt8} (hb : d.has s = some b) : isPk d.ss s b:=by
 obtain ⟨o,ho,hn,rfl⟩:=look_some hb
 obtain ⟨h1,h2⟩:=h.pkt o ho
 have h3:=peek_low d.hi s
 rw [hn] at h2
 have h4 : o.s = s:=UInt16.toNat_inj.1 (by
  have : (o.s.toNat : Int) = (s.toNat : Int):=by rw [← h2,← h3];rfl
  omega)
 rw [← h4]
 exact h1
def PkD.pks (d : PkD) (r : Rep_) : List (List UInt8):=(seqsOf r.base r.m).filterMap d.has
theorem find_pks {d : PkD} (h : d.Good) {r : Rep_} {s : UInt16} (hs : s ∈ seqsOf r.base r.m) : findL (d.pks r) s = d.has s:=by
 cases hb : d.has s with
 | none =>
  refine find_none fun l hl => ?_
  obtain ⟨s',-,hs'⟩:=List.mem_filterMap.1 hl
  rw [(h.has hs').isNo s]
  rw [beq_eq_false_iff_ne]
  rintro rfl
  rw [hb] at hs'
  cases hs'
 | some b =>
  unfold findL
  cases hf : (d.pks r).find? (isNo s) with
  | none =>
   rw [List.find?_eq_none] at hf
   have:=hf b (List.mem_filterMap.2 ⟨s,hs,hb⟩)
   rw [(h.has hb).isNo s] at this
   simp at this
  | some c =>
   obtain ⟨s',-,hs'⟩:=List.mem_filterMap.1 (List.mem_of_find?_eq_some hf)
   have h1:=List.find?_some hf
   rw [(h.has hs').isNo s] at h1
   have h2 : s' = s:=by simpa using h1
   rw [h2,hb] at hs'
   exact hs'.symm
theorem foldl_rest {K K' : UInt16 → Option (List UInt8)} {ss : UInt32} : ∀ (xs : List UInt16) (a : Bt × List UInt16),(∀ s ∈ xs,K s = K' s) → xs.foldl (restStep K ss) a = xs.foldl (restStep K' ss) a
 | [],_,_ => rfl
 | x :: xs,a,h => by
  have e : restStep K ss a x = restStep K' ss a x:=by unfold restStep lookB;rw [h x (by simp)]
  rw [List.foldl_cons,List.foldl_cons,e]
  exact foldl_rest xs _ fun s hs => h s (by simp [hs])
theorem rest_congr {K K' : UInt16 → Option (List UInt8)} {ss : UInt32} {r : Rep_} (h : ∀ s ∈ seqsOf r.base r.m,K s = K' s) : restL K ss r = restL K' ss r:=foldl_rest _ _ h
theorem one_congr {K K' : UInt16 → Option (List UInt8)} {ss : UInt32} {r : Rep_} (h : ∀ s ∈ seqsOf r.base r.m,K s = K' s) : oneL K ss r = oneL K' ss r:=by
 unfold oneL
 rw [rest_congr h]
theorem rest_pks {d : PkD} (h : d.Good) (ss : UInt32) (r : Rep_) : restL (findL (d.pks r)) ss r = restL d.has ss r:=rest_congr fun _ hs => find_pks h hs
theorem one_pks {d : PkD} (h : d.Good) (ss : UInt32) (r : Rep_) : oneL (findL (d.pks r)) ss r = oneL d.has ss r:=one_congr fun _ hs => find_pks h hs
theorem note_self {d : PkD} {n : Int} (hw : 1 ≤ d.w) (h : d.old n = false) : (d.note n).old n = false:=by
 unfold PkD.old PkD.note
 cases hh : d.hi with
 | none =>
  show decide (n ≤ n - (d.w : Int)) = false
  rw [decide_eq_false_iff_not]
  omega
 | some x =>
  unfold PkD.old at h
  rw [hh] at h
  have h1 : ¬ n ≤ x - (d.w : Int):=by simpa using h
  show decide (n ≤ max x n - (d.w : Int)) = false
  rw [decide_eq_false_iff_not]
  omega
theorem PkD.Good.new (ss : UInt32) (w r : Int) : (PkD.new ss w r).Good:=⟨(by intro o h;cases h),(by intro o h;cases h),List.Pairwise.nil⟩
theorem PkD.Good.add {d : PkD} (h : d.Good) (hw : 1 ≤ d.w) {s : UInt16} {b : List UInt8} (hb : isPk d.ss s b) (ho : d.old (d.peek s) = false) (hn : d.has s = none) : (d.add s b).Good:=by
 have hne : ∀ o ∈ d.med,o.n ≠ d.peek s:=fun o hm e => by
  unfold PkD.has PkD.look at hn
  rw [Option.map_eq_none_iff,List.find?_eq_none] at hn
  exact hn o hm (by simpa using e)
 refine ⟨fun o hm => ?_,fun o hm => ?_,?_⟩
 ·rcases List.mem_append.1 hm with hm | hm
  ·exact h.pkt o ((List.mem_filter.1 hm).1)
  ·rw [List.mem_singleton] at hm
   subst hm
   exact ⟨hb,peek_low d.hi s⟩
 ·rcases List.mem_append.1 hm with hm | hm
  ·have h1 : (!(d.note (d.peek s)).old o.n) = true:=(List.mem_filter.1 hm).2
   have h2 : (d.note (d.peek s)).old o.n = false:=by simpa using h1
   exact h2
  ·rw [List.mem_singleton] at hm
   subst hm
   exact note_self hw ho
 ·refine List.pairwise_append.2 ⟨h.uniq.filter _,List.pairwise_singleton _ _,fun a ha c hc => ?_⟩
  rw [List.mem_singleton] at hc
  subst hc
  exact hne a ((List.mem_filter.1 ha).1)
end Go.Proofs.YtcngfbjmpemehaaGreat

/- Peeling,plain: repairs with their turns. A round goes over a copy of them;those that had their turn and those that are still to come. No program in sight. -/
namespace Go.Proofs.YtcngfbjmpemehaaGreat

structure TInv {α : Type} (cs : List (α × Int)) (i : Nat) (vis rest : List (α × Int)) : Prop where
 vis : vis.Sublist (cs.take i)
 rest : rest.Sublist (cs.drop i)
theorem TInv.start {α : Type} (cs : List (α × Int)) : TInv cs 0 [] cs:=⟨by simp,by simp⟩
theorem TInv.filter {α : Type} {cs vis rest : List (α × Int)} {i : Nat} (h : TInv cs i vis rest) (p : α × Int → Bool) : TInv cs i (vis.filter p) (rest.filter p) :=
 ⟨List.Sublist.trans (List.filter_sublist) h.vis,List.Sublist.trans (List.filter_sublist) h.rest⟩
theorem TInv.gone {α : Type} {cs vis rest : List (α × Int)} {i : Nat} {x : α × Int} (h : TInv cs i vis rest) (hx : cs[i]? = some x) (hg : ∀ y ∈ vis ++ rest,y.2 ≠ x.2) : TInv cs (i + 1) vis rest:=by
 obtain ⟨hi,hxi⟩:=List.getElem?_eq_some_iff.1 hx
 refine ⟨h.vis.trans (by rw [List.take_succ_eq_append_getElem hi];exact List.sublist_append_left _ _),?_⟩
 have h1:=h.rest
 rw [List.drop_eq_getElem_cons hi,hxi] at h1
 cases rest with
 | nil => exact List.nil_sublist _
 | cons y rest =>
  rcases List.sublist_cons_iff.1 h1 with h2 | ⟨r,e,h2⟩
  ·exact h2
  ·exfalso
   injection e with e1 e2
   exact hg y (by simp) (by rw [e1])
theorem TInv.here {α : Type} {cs vis rest : List (α × Int)} {i : Nat} {x : α × Int} (h : TInv cs i vis rest) (hn : (cs.map Prod.snd).Nodup) (hx : cs[i]? = some x) (hg : ∃ y ∈ vis ++ rest,y.2 = x.2) :
  ∃ rest',rest = x :: rest' ∧ TInv cs (i + 1) (vis ++ [x]) rest' ∧ TInv cs (i + 1) vis rest' ∧ (vis ++ rest).filter (fun y => !(y.2 == x.2)) = vis ++ rest':=by
 obtain ⟨hi,hxi⟩:=List.getElem?_eq_some_iff.1 hx
 have e0 : cs = cs.take i ++ x :: cs.drop (i + 1):=by rw [← hxi,← List.drop_eq_getElem_cons hi,List.take_append_drop]
 have hn1 : ((cs.take i).map Prod.snd ++ x.2 :: (cs.drop (i + 1)).map Prod.snd).Nodup:=by
  have:=hn
  rw [e0,List.map_append,List.map_cons] at this
  exact this
 rw [List.nodup_append] at hn1
 obtain ⟨-,n2,n3⟩:=hn1
 have hv : ∀ y ∈ vis,y.2 ≠ x.2:=fun y hy => n3 y.2 (List.mem_map.2 ⟨y,h.vis.subset hy,rfl⟩) x.2 (by simp)
 have hd : ∀ y ∈ cs.drop (i + 1),y.2 ≠ x.2:=fun y hy e => (List.nodup_cons.1 n2).1 (by rw [← e];exact List.mem_map.2 ⟨y,hy,rfl⟩)
 have ht : cs.take (i + 1) = cs.take i ++ [x]:=by rw [List.take_succ_eq_append_getElem hi,hxi]
 have h1:=h.rest
 rw [List.drop_eq_getElem_cons hi,hxi] at h1
 obtain ⟨y,hy,hyx⟩:=hg
 have hyr : y ∈ rest:=by
  rcases List.mem_append.1 hy with hy | hy
  ·exact absurd hyx (hv y hy)
  ·exact hy
 rcases List.sublist_cons_iff.1 h1 with h2 | ⟨r,e,h2⟩
 ·exact absurd hyx (hd y (h2.subset hyr))
 ·have hr : ∀ y ∈ r,y.2 ≠ x.2:=fun y hy => hd y (h2.subset hy)
  refine ⟨r,e,⟨by rw [ht];exact h.vis.append (List.Sublist.refl _),h2⟩,⟨by rw [ht];exact h.vis.trans (List.sublist_append_left _ _),h2⟩,?_⟩
  rw [e,List.filter_append,List.filter_cons_of_neg (by simp),List.filter_eq_self.2 (fun y hy => by simpa using hv y hy),List.filter_eq_self.2 (fun y hy => by simpa using hr y hy)]
end Go.Proofs.YtcngfbjmpemehaaGreat

/- The walk of solve.Book: packets by their numbers in a map of its own (printed by gen_book.py). -/
namespace Go.Proofs.YtcngfbjmpemehaaGreat
open Go.RowKit Go.Maps

def heldR (v : Value) : Option (DataW Value × List MemPlace):=some (.held v,[])
theorem zeroBytes (w : World) : (zeroValue 34).run Tryz.prog w = .ok (.slice none 0 0) w:=by kernel_rfl
def fresh (ls : List (List UInt8)) (l : List UInt8) : Bool:=match parseR l with | .ok p => (findL ls p.seq).isNone | .error _ => false
end Go.Proofs.YtcngfbjmpemehaaGreat
