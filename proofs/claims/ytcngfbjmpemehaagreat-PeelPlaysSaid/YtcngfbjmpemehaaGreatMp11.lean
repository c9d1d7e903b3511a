import Derived.RangeFuncNested
import Derived.RangeFuncBound
import Derived.RangeFuncCalls
import Derived.Shelf.RegionOpen
import Derived.Test.YtcngfbjmpemehaaGreatMp3
set_option maxRecDepth 100000
set_option maxHeartbeats 16000000
/- A range over a function whose body always goes on;the iterator may keep cells of its own,and may itself range over another one. No program in sight. -/
namespace Go.Proofs.YtcngfbjmpemehaaGreat
open Go.RowKit Go.Shelf

theorem putObj_size (W : World) (l : Nat) (o : Obj) : (W.putObj l o).heap.size = W.heap.size:=by simp
def Gd (Xs : List (Nat × Nat)) (W : World) (k : Nat) : Prop:=∀ p ∈ Xs,k ≠ p.1 ∧ ∀ v,W.cell? ⟨p.1,p.2,none⟩ = some v → blockOf v ≠ some k
def Low (Xs : List (Nat × Nat)) (W : World) : Prop:=∀ p ∈ Xs,∀ v b,W.cell? ⟨p.1,p.2,none⟩ = some v → blockOf v = some b → b < W.heap.size
theorem Gd.congr {Xs : List (Nat × Nat)} {W W' : World} {k : Nat} (h : Gd Xs W k) (e : ∀ p ∈ Xs,W'.heap[p.1]? = W.heap[p.1]?) : Gd Xs W' k:=fun p hp =>
 ⟨(h p hp).1,fun v hv => (h p hp).2 v (by rw [← World.cell?_of_block (w:=W) (a:=⟨p.1,p.2,none⟩) (e p hp)];exact hv)⟩
theorem Low.congr {Xs : List (Nat × Nat)} {W W' : World} (h : Low Xs W) (e : ∀ p ∈ Xs,W'.heap[p.1]? = W.heap[p.1]?) (hs : W.heap.size ≤ W'.heap.size) : Low Xs W':=fun p hp v b hv hb =>
 Nat.lt_of_lt_of_le (h p hp v b (by rw [← World.cell?_of_block (w:=W) (a:=⟨p.1,p.2,none⟩) (e p hp)];exact hv) hb) hs
theorem Gd.new {Xs : List (Nat × Nat)} {W : World} (h : Low Xs W) (hX : ∀ p ∈ Xs,p.1 < W.heap.size) {k : Nat} (hk : W.heap.size ≤ k) : Gd Xs W k:=fun p hp =>
 ⟨by have:=hX p hp;omega,fun v hv hb => by have:=h p hp v k hv hb;omega⟩
structure Kx (Xs : List (Nat × Nat)) (W W' : World) : Prop where
 size : W.heap.size ≤ W'.heap.size
 blocks : ∀ (k : Nat) (o : Obj),W.heap[k]? = some o → (Gd Xs W k ∨ o.isCells = false) → W'.heap[k]? = some o
 gd : ∀ k,k < W.heap.size → Gd Xs W k → Gd Xs W' k
 low : Low Xs W → Low Xs W'
theorem Kx.trans {Xs : List (Nat × Nat)} {A B C : World} (h : Kx Xs A B) (k : Kx Xs B C) : Kx Xs A C :=
 ⟨Nat.le_trans h.size k.size,fun i o hi hg => k.blocks i o (h.blocks i o hi hg) (hg.imp (h.gd i (Array.getElem?_eq_some_iff.1 hi).1) id),
  fun i hi hg => k.gd i (Nat.lt_of_lt_of_le hi h.size) (h.gd i hi hg),fun hl => k.low (h.low hl)⟩
theorem Kx.ofFr {Xs : List (Nat × Nat)} {W W' : World} (h : Fr [] W W') (hX : ∀ p ∈ Xs,p.1 < W.heap.size) : Kx Xs W W' :=
 ⟨h.size,fun k o hk _ => (h.block k (Array.getElem?_eq_some_iff.1 hk).1 (by simp)).trans hk,fun k _ hg => hg.congr fun p hp => h.block p.1 (hX p hp) (by simp),
  fun hl => hl.congr (fun p hp => h.block p.1 (hX p hp) (by simp)) h.size⟩
theorem Kx.cell {Xs : List (Nat × Nat)} {W W' : World} (h : Kx Xs W W') {b : Nat} (hg : Gd Xs W b) (hb : b < W.heap.size) : W'.heap[b]? = W.heap[b]?:=by
 rw [h.blocks b W.heap[b] (Array.getElem?_eq_getElem hb) (.inl hg),Array.getElem?_eq_getElem hb]
def AbX {β : Type} (Xs : List (Nat × Nat)) (B : Nat) (J : β → World → Prop) : Prop :=
 ∀ s W W' row,J s W → W.grownBy W' row → (∀ r,row = some r → B ≤ r ∧ ((∃ o : Obj,W.heap[r]? = some o ∧ o.isCells = false) ∨ Gd Xs W r)) → J s W'
theorem AbX.putObj {β : Type} {Xs : List (Nat × Nat)} {B : Nat} {J : β → World → Prop} (h : AbX Xs B J) {s : β} {W : World} {l : Nat} {o : Obj} (o' : Obj) (hs : J s W) (hB : B ≤ l) (hl : W.heap[l]? = some o) (ho : o.isCells = false) : J s (W.putObj l o') :=
 h s W _ (some l) hs (grownBy_putObj' W l o') (fun r e => by cases e;exact ⟨hB,.inl ⟨o,hl,ho⟩⟩)
theorem AbX.fr {β : Type} {Xs : List (Nat × Nat)} {B : Nat} {J : β → World → Prop} (h : AbX Xs B J) {s : β} {W W' : World} (hs : J s W) {g : Nat} (hf : Fr [g] W W') (hg : B ≤ g) (hd : Gd Xs W g) : J s W' :=
 h s W W' (some g) hs ⟨hf.os,hf.tape,hf.output,hf.size,fun k hk hn => hf.block k hk (by simp;exact fun e => hn (by rw [e]))⟩ (fun r e => by cases e;exact ⟨hg,.inr hd⟩)
theorem AbX.fr0 {β : Type} {Xs : List (Nat × Nat)} {B : Nat} {J : β → World → Prop} (h : AbX Xs B J) {s : β} {W W' : World} (hs : J s W) (hf : Fr [] W W') : J s W' :=
 h s W W' none hs ⟨hf.os,hf.tape,hf.output,hf.size,fun k hk _ => hf.block k hk (by simp)⟩ (fun r e => by cases e)

def SeqN {α : Type} (F : Fence) (n : Nat) (P : Program) (g : Nat) (lb : Array Value) (encs : α → Array Value) (Xs : List (Nat × Nat)) (xs : List α) (w : World) : Prop :=
 ∀ (l : Nat) (J : List α → World → Prop) (W : World),Below w.heap.size w W → Low Xs W → AbX Xs W.heap.size J →
  (∀ pre x W1,(pre ++ [x]) <+: xs → J pre W1 → YieldAt F (n - 1) P l (encs x) W1 fun e W' => e = .returned (.bool true) ∧ J (pre ++ [x]) W' ∧ Kx Xs W1 W') →
  J [] W → CallsIn F n P g (#[.func (.yield l) #[] #[]] ++ lb) W fun e W' => (∃ v,e = .returned v) ∧ J xs W' ∧ Kx Xs W W'

def postAll {α : Type} (Xs : List (Nat × Nat)) (I : List α → World → Prop) (xs : List α) (W : World) : Exit → Act → World → Prop
 | .normal,_,W' => Kx Xs W W' ∧ I xs W'
 | _,_,_ => False

variable {F : Fence} {n : Nat} {P : Program}
theorem wpIn_rangeAll {α : Type} {g : Operand} {ps : Array Tmp} {assign body : Code} {Q : Exit → Act → World → Prop} {a : Act} {w : World}
  (hro : F.round = none) (h1 : 1 ≤ n) {gf : Nat} {lb : Array Value} (hg : a.eval g = .func (.func gf) #[] lb) (hFg : F.fn gf) (eg : ∀ args w,(callFunc gf args).run P w = .ok (.enter gf args) w)
  {encs : α → Array Value} {Xs : List (Nat × Nat)} {xs : List α} {w0 : World} (hseq : SeqN F (n - 1) P gf lb encs Xs xs w0) (hb0 : Below w0.heap.size w0 w) (hps : ∀ x,(encs x).size = ps.size)
  (hX : ∀ p ∈ Xs,p.1 < w.heap.size) (hlow : Low Xs w)
  (I : List α → World → Prop) (hI : AbX Xs w.heap.size I) (h0 : I [] w) (a₁ : α → Act)
  (hassign : ∀ (l : Nat) (x : α) (W : World) (K : Act → World → Prop),K (a₁ x) W →
   assign.wpIn (F.inRound l) (n - 1 - 1) P (Exit.then K (fun _ _ _ => False)) { tmps:=(ps.zip (encs x)).foldl (fun t (p,v) => t.setIfInBounds p v) a.tmps,defers:=[] } W)
  (hbody : ∀ (l : Nat) (pre : List α) (x : α) (W : World),w.heap.size ≤ l → (pre ++ [x]) <+: xs → I pre W → Low Xs W → w.heap.size ≤ W.heap.size → body.wpIn (F.inRound l) (n - 1 - 1) P (postAll Xs I (pre ++ [x]) W) (a₁ x) W)
  (hdone : ∀ (D : Nat) (W : World),w.heap.size ≤ D → I xs W → Kx Xs w W → W.heap[D]? = some (.deferred (some [])) → Q .normal { a with defers:={ target:=.collected D,args:=#[] } :: a.defers } W) :
  (Code.rangeFunc g ps assign body).wpIn F n P Q a w:=by
 refine wpIn_rangeFunc ?_
 intro fn hfn
 rw [hro]
 obtain ⟨rc,hrc⟩ : ∃ rc : LoopState → Option Code → Loop,rc = fun st pe => { state:=st,pending:=pe,fn,tmps:=a.tmps,params:=ps,assign,body,defers:=w.heap.size }:=⟨_,rfl⟩
 obtain ⟨W1,hW1⟩ : ∃ W1,(w.alloc (.deferred (some []))).alloc (.loop (rc .ready none)) = W1:=⟨_,rfl⟩
 have hf1 : Fr [] w W1:=by rw [← hW1];exact ((Fr.refl [] w).alloc _).alloc _
 have hs1 : W1.heap.size = w.heap.size + 2:=by rw [← hW1];simp
 have hL1 : W1.heap[w.heap.size + 1]? = some (.loop (rc .ready none)):=by
  rw [← hW1];have:=World.alloc_heap_new (w.alloc (.deferred (some []))) (.loop (rc .ready none));rwa [World.size_alloc] at this
 have hK1 : W1.heap[w.heap.size]? = some (.deferred (some [])):=by
  rw [← hW1];exact (Below.heap_alloc _ _ _ (by simp)).trans (World.alloc_heap_new w _)
 have hI1 : I [] W1:=hI.fr0 h0 hf1
 have hb1 : Below w0.heap.size w0 W1:=hb0.trans (hf1.below.mono hb0.size)
 have hx1 : Kx Xs w W1:=Kx.ofFr hf1 hX
 have put : ∀ (W : World) (o : Obj) (p : Nat × Nat),p ∈ Xs → (W.putObj (w.heap.size + 1) o).heap[p.1]? = W.heap[p.1]?:=fun W o p hp => World.putObj_heap_other (by have:=hX p hp;omega)
 refine ⟨w.heap.size + 1,[{ target:=.collected w.heap.size,args:=#[] }],W1,{ target:=.fn (.func gf) lb,args:=#[.func (.yield (w.heap.size + 1)) #[] #[]] },W1,gf,
  #[.func (.yield (w.heap.size + 1)) #[] #[]] ++ lb,W1,?_,?_,?_,?_,fun _ => h1,?_⟩
 ·rw [← hW1,hrc];exact run_enterLoop_outer _ _ _ _ _
 ·simp only [resolve,hg]
  simp [go_sem]
 ·intro f' hf';simp [Target.leads] at hf';subst hf';exact hFg
 ·simp [invoke,go_sem,eg]
 refine (hseq (w.heap.size + 1) (fun pre W => (I pre W ∧ w.heap.size ≤ W.heap.size ∧ Low Xs W) ∧ W.heap[w.heap.size + 1]? = some (.loop (rc .ready none)) ∧ W.heap[w.heap.size]? = some (.deferred (some []))) W1 hb1 (hx1.low hlow) ?_ ?_ ⟨⟨hI1,hf1.size,hx1.low hlow⟩,hL1,hK1⟩).mono ?_
 ·intro s A B row hs hgr hr
  have e : ∀ k,k < W1.heap.size → k < A.heap.size → B.heap[k]? = A.heap[k]?:=fun k hk hA => hgr.block k hA (fun e => by have:=(hr k e.symm).1;omega)
  refine ⟨⟨hI s A B row hs.1.1 hgr (fun r er => ⟨by have:=(hr r er).1;omega,(hr r er).2⟩),Nat.le_trans hs.1.2.1 hgr.size,?_⟩,?_,?_⟩
  ·refine hs.1.2.2.congr (fun p hp => ?_) hgr.size
   have:=hX p hp
   exact e p.1 (by omega) (by omega)
  ·rw [e _ (by omega) (Array.getElem?_eq_some_iff.1 hs.2.1).1];exact hs.2.1
  ·rw [e _ (by omega) (Array.getElem?_eq_some_iff.1 hs.2.2).1];exact hs.2.2
 ·rintro pre x W hpre ⟨⟨hi,hsz,hlw⟩,hl,hk⟩
  have hlt : w.heap.size + 1 < W.heap.size:=(Array.getElem?_eq_some_iff.1 hl).1
  have hy:=run_yield (P:=P) (args:=encs x) hl (by rw [hrc];exact hps x)
  rw [hrc] at hy
  refine ⟨fn,_,assign,body,hy,roundIn_of_wpIn hfn (hassign _ x W _ ?_)⟩
  clear hy
  refine ⟨_,run_beginRound hl (by rw [hrc]),?_⟩
  have hl2 : (W.putObj (w.heap.size + 1) (.loop { rc .ready none with state:=.busy })).heap[w.heap.size + 1]? = some (.loop { rc .ready none with state:=.busy }):=World.putObj_heap_same hlt
  have hk2 : (W.putObj (w.heap.size + 1) (.loop { rc .ready none with state:=.busy })).heap[w.heap.size]? = some (.deferred (some [])):=(World.putObj_heap_other (by omega)).trans hk
  have hz2 : (W.putObj (w.heap.size + 1) (.loop { rc .ready none with state:=.busy })).heap.size = W.heap.size:=by simp
  have hg2 : ∀ k,Gd Xs W k → Gd Xs (W.putObj (w.heap.size + 1) (.loop { rc .ready none with state:=.busy })) k:=fun k h => h.congr (put W _)
  have hlw2 : Low Xs (W.putObj (w.heap.size + 1) (.loop { rc .ready none with state:=.busy })):=hlw.congr (put W _) (by rw [hz2];exact Nat.le_refl _)
  have hb2 : ∀ k,k ≠ w.heap.size + 1 → (W.putObj (w.heap.size + 1) (.loop { rc .ready none with state:=.busy })).heap[k]? = W.heap[k]?:=fun k hk => World.putObj_heap_other hk
  refine wpIn_mono (hbody _ pre x _ (by omega) hpre (hI.putObj _ hi (by omega) hl rfl) hlw2 (by rw [hz2];exact hsz)) ?_
  generalize W.putObj (w.heap.size + 1) (.loop { rc .ready none with state:=.busy }) = W2 at *
  rintro e a3 W3 hp
  cases e with
  | normal =>
   obtain ⟨hkx,hi3⟩:=hp
   have hl3:=hkx.blocks _ _ hl2 (.inr rfl)
   have hk3:=hkx.blocks _ _ hk2 (.inr rfl)
   have hlt3:=(Array.getElem?_eq_some_iff.1 hl3).1
   have hr:=run_endRound (P:=P) none hl3
   refine ⟨_,_,hr,rfl,⟨⟨hI.putObj _ hi3 (by omega) hl3 rfl,?_,?_⟩,?_,?_⟩,?_⟩
   ·have:=hkx.size;rw [putObj_size];omega
   ·exact (hkx.low hlw2).congr (put W3 _) (by simp)
   ·rw [World.putObj_heap_same hlt3,hrc];rfl
   ·exact (World.putObj_heap_other (by omega)).trans hk3
   ·refine ⟨by have:=hkx.size;rw [putObj_size];omega,?_,?_,?_⟩
    ·intro k o hk hgd
     by_cases e : k = w.heap.size + 1
     ·subst e
      rw [hl] at hk
      cases hk
      rw [World.putObj_heap_same hlt3,hrc]
      rfl
     ·rw [World.putObj_heap_other e]
      exact hkx.blocks k o ((hb2 k e).trans hk) (hgd.imp (hg2 k) id)
    ·intro k hk hgd
     exact (hkx.gd k (by omega) (hg2 k hgd)).congr (put W3 _)
    ·intro _
     exact (hkx.low hlw2).congr (put W3 _) (by simp)
  | ret => exact hp.elim
  | exit id => exact hp.elim
  | goto t => exact hp.elim
  | panic ch => exact hp.elim
  | outgrown => exact hp.elim
 ·rintro e W2 ⟨⟨v,rfl⟩,⟨⟨hi,hsz,hlw⟩,hl,hk⟩,hkx⟩
  have hg2 : ∀ (o : Obj) k,Gd Xs W2 k → Gd Xs (W2.putObj (w.heap.size + 1) o) k:=fun o k h => h.congr (put W2 _)
  have hgw : ∀ k,Gd Xs w k → k < w.heap.size → Gd Xs W2 k:=fun k h hk => hkx.gd k (by omega) (hx1.gd k hk h)
  refine ⟨none,_,by have:=run_endLoop (P:=P) hl (by rw [hrc];simp);rw [hrc] at this;exact this,hdone _ _ (Nat.le_refl _) (hI.putObj _ hi (by omega) hl rfl) ?_ ((World.putObj_heap_other (by omega)).trans hk)⟩
  refine ⟨by rw [putObj_size];omega,?_,?_,?_⟩
  ·intro k o hk' hgd
   have hlt:=(Array.getElem?_eq_some_iff.1 hk').1
   rw [World.putObj_heap_other (by omega)]
   exact (hx1.trans hkx).blocks k o hk' hgd
  ·intro k hk' hgd
   exact hg2 _ k (hgw k hgd hk')
  ·intro _
   exact hlw.congr (put W2 _) (by simp)
end Go.Proofs.YtcngfbjmpemehaaGreat
