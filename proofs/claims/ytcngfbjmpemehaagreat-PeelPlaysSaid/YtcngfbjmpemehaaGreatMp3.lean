import Derived.WalkKit
import Derived.WalkSpells
import Derived.WalkLawsBesides
import Derived.Deep.QuietTactic
import Derived.BigQuiet
import Derived.Deep.DeepCutAuto
import Derived.IntWalk
import Derived.Lib.Hide
import Derived.Laws.AppendOwnNone
import Derived.Test.YtcngfbjmpemehaaGreatProg
import Derived.StillTailTactics
set_option maxRecDepth 100000
set_option maxHeartbeats 16000000
open Go.Lib renaming hid → Hd
/- Plain facts on worlds,slices and frames that all the seat's texts share. No program in sight. -/
namespace Go.Proofs.YtcngfbjmpemehaaGreat
open Go.RowKit

structure Fr (S : List Nat) (w w' : World) : Prop where
 os : w'.os = w.os
 tape : w'.tape = w.tape
 output : w'.output = w.output
 size : w.heap.size ≤ w'.heap.size
 block : ∀ k,k < w.heap.size → k ∉ S → w'.heap[k]? = w.heap[k]?

namespace Fr
theorem refl (S : List Nat) (w : World) : Fr S w w:=⟨rfl,rfl,rfl,Nat.le_refl _,fun _ _ _ => rfl⟩
theorem trans {S : List Nat} {a b c : World} (h : Fr S a b) (k : Fr S b c) : Fr S a c :=
 ⟨k.os.trans h.os,k.tape.trans h.tape,k.output.trans h.output,Nat.le_trans h.size k.size,
  fun i hi hS => (k.block i (Nat.lt_of_lt_of_le hi h.size) hS).trans (h.block i hi hS)⟩
theorem step {S T : List Nat} {a b c : World} (h : Fr S a b) (k : Fr T b c) (hT : ∀ x ∈ T,x ∈ S ∨ a.heap.size ≤ x) : Fr S a c :=
 ⟨k.os.trans h.os,k.tape.trans h.tape,k.output.trans h.output,Nat.le_trans h.size k.size,
  fun i hi hS => (k.block i (Nat.lt_of_lt_of_le hi h.size) (fun hm => by rcases hT i hm with h1 | h1 <;> first | exact hS h1 | omega)).trans (h.block i hi hS)⟩
theorem quiet {S : List Nat} {a b c : World} (h : Fr S a b) (k : Fr [] b c) : Fr S a c:=h.step k (fun _ hx => by cases hx)
theorem mono {S T : List Nat} {a b : World} (h : Fr S a b) (hS : ∀ x ∈ S,x ∈ T) : Fr T a b :=
 ⟨h.os,h.tape,h.output,h.size,fun i hi hT => h.block i hi (fun hm => hT (hS i hm))⟩
theorem any {S : List Nat} {a b : World} (h : Fr [] a b) : Fr S a b:=h.mono (fun _ hx => by cases hx)
theorem drewN {S : List Nat} {a b : World} (h : Fr S a b) (n : Nat) : Fr S a (b.drewN n):=h.trans ⟨rfl,rfl,rfl,Nat.le_refl _,fun _ _ _ => rfl⟩
theorem drew {S : List Nat} {a b : World} (h : Fr S a b) : Fr S a b.drew:=h.trans ⟨rfl,rfl,rfl,Nat.le_refl _,fun _ _ _ => rfl⟩
theorem alloc {S : List Nat} {a b : World} (h : Fr S a b) (o : Obj) : Fr S a (b.alloc o) :=
 h.trans ⟨rfl,rfl,rfl,by simp,fun k hk _ => Below.heap_alloc _ _ _ hk⟩
theorem setCell {S : List Nat} {a b : World} (h : Fr S a b) {p : Addr} (hp : p.block ∈ S ∨ a.heap.size ≤ p.block) (u : Value) : Fr S a (b.setCell p u) :=
 h.step (T:=[p.block]) ⟨rfl,rfl,rfl,by simp,fun k _ hk => Below.heap_setCell _ _ _ _ (fun e => hk (by simp [e]))⟩ (fun x hx => by simp at hx;subst hx;exact hp)
theorem grown {S : List Nat} {a b c : World} {row : Option Nat} (h : Fr S a b) (hg : b.grownBy c row) (hr : ∀ k,row = some k → k ∈ S ∨ a.heap.size ≤ k) : Fr S a c :=
 h.step (T:=row.toList) ⟨hg.os,hg.tape,hg.output,hg.size,fun k hk hn => hg.block k hk (fun e => hn (by simp [← e]))⟩ (fun x hx => hr x (by simpa using hx))
theorem below {a b : World} (h : Fr [] a b) : Below a.heap.size a b:=⟨h.os,h.tape,h.output,h.size,fun k hk => h.block k hk (by simp)⟩
theorem ofBelow {a b : World} (h : Below a.heap.size a b) : Fr [] a b:=⟨h.os,h.tape,h.output,h.size,fun k hk _ => h.block k hk⟩
theorem cell {S : List Nat} {a b : World} (h : Fr S a b) {p : Addr} (hp : p.block < a.heap.size) (hS : p.block ∉ S) : b.cell? p = a.cell? p:=World.cell?_of_block (w:=a) (h.block _ hp hS)
theorem frozen {S : List Nat} {a b : World} (h : Fr S a b) {p : Addr} (hp : p.block < a.heap.size) (hS : p.block ∉ S) : b.frozen? p = a.frozen? p:=World.frozen?_of_block (w:=a) (h.block _ hp hS)
theorem cellSome {S : List Nat} {a b : World} (h : Fr S a b) {p : Addr} {v : Value} (hc : a.cell? p = some v) (hS : p.block ∉ S) : b.cell? p = some v:=(h.cell (World.block_lt_of_cell? _ _ hc) hS).trans hc
end Fr

def Sl (w : World) (v : Value) (xs : List Value) : Prop :=
 ∃ a cap,v = .slice a xs.length cap ∧ xs.length ≤ cap ∧ cap ≤ maxLen ∧ (a = none → cap = 0) ∧
  ∀ p,a = some p → 0 < cap → p.spot = none ∧ p.block < w.heap.size ∧ ∀ i x,xs[i]? = some x → w.cell? ⟨p.block,p.off + i,none⟩ = some x

def blockOf : Value → Option Nat
 | .slice (some p) _ _ => some p.block
 | _ => none
def liveOf : Value → Option Nat
 | .slice (some p) _ c => if 0 < c then some p.block else none
 | _ => none
theorem live_block {v : Value} {b : Nat} (h : liveOf v = some b) : blockOf v = some b:=by
 unfold liveOf at h
 split at h
 ·split at h
  ·exact h
  ·cases h
 ·cases h

namespace Sl
theorem nil (w : World) : Sl w (.slice none 0 0) []:=⟨none,0,rfl,by simp,by unfold maxLen;omega,fun _ => rfl,fun p hp _ => by cases hp⟩
theorem one (w : World) (x : Value) (t : TypeId) : Sl (w.alloc (.cells #[x] t)) (.slice (some ⟨w.heap.size,0,none⟩) 1 1) [x]:=by
 refine ⟨_,1,rfl,by simp,by unfold maxLen;omega,fun h => ?_,?_⟩
 ·cases h
 ·rintro p hp _
  simp only [Option.some.injEq] at hp
  subst hp
  refine ⟨rfl,by simp,fun i y hy => ?_⟩
  simpa using hy
theorem frL {w w' : World} {v : Value} {xs : List Value} {S : List Nat} (h : Sl w v xs) (hf : Fr S w w') (hS : ∀ b,liveOf v = some b → b ∉ S) : Sl w' v xs:=by
 obtain ⟨a,cap,rfl,h1,h2,h3,h4⟩:=h
 refine ⟨a,cap,rfl,h1,h2,h3,?_⟩
 rintro p rfl hc0
 obtain ⟨s,hb,hc⟩:=h4 p rfl hc0
 exact ⟨s,Nat.lt_of_lt_of_le hb hf.size,fun i x hx => (hf.cell (p:=⟨p.block,p.off + i,none⟩) hb (hS _ (by simp [liveOf,hc0]))).trans (hc i x hx)⟩
theorem fr {w w' : World} {v : Value} {xs : List Value} {S : List Nat} (h : Sl w v xs) (hf : Fr S w w') (hS : ∀ b,blockOf v = some b → b ∉ S) : Sl w' v xs:=h.frL hf (fun b hb => hS b (live_block hb))
theorem keep {w w' : World} {v : Value} {xs : List Value} (h : Sl w v xs) (hf : Fr [] w w') : Sl w' v xs:=h.fr hf (by simp)
theorem lt {w : World} {v : Value} {xs : List Value} (h : Sl w v xs) : ∀ b,liveOf v = some b → b < w.heap.size:=by
 obtain ⟨a,cap,rfl,h1,h2,h3,h4⟩:=h
 intro b hb
 cases a with
 | none => simp [liveOf] at hb
 | some p =>
  simp only [liveOf] at hb
  split at hb
  ·rename_i hc0
   cases hb
   exact (h4 p rfl hc0).2.1
  ·cases hb
theorem at_ {w : World} {a : Option Addr} {n cap : Nat} {xs : List Value} (h : Sl w (.slice a n cap) xs) {k : Nat} (hk : k < n) :
  ∃ b o,a = some ⟨b,o,none⟩ ∧ b < w.heap.size ∧ ∀ i x,xs[i]? = some x → w.cell? ⟨b,o + i,none⟩ = some x:=by
 obtain ⟨a',cap',e,h1,h2,h3,h4⟩:=h
 simp only [Value.slice.injEq] at e
 obtain ⟨rfl,rfl,rfl⟩:=e
 cases a with
 | none => have:=h3 rfl;omega
 | some p =>
  obtain ⟨b,o,s⟩:=p
  obtain ⟨s',hb,hc⟩:=h4 _ rfl (by omega)
  simp only at s'
  subst s'
  exact ⟨b,o,rfl,hb,hc⟩
theorem len {w : World} {a : Option Addr} {n cap : Nat} {xs : List Value} (h : Sl w (.slice a n cap) xs) : n = xs.length ∧ n ≤ cap ∧ cap ≤ maxLen ∧ (a = none → cap = 0):=by
 obtain ⟨a',cap',e,h1,h2,h3,h4⟩:=h
 simp only [Value.slice.injEq] at e
 obtain ⟨rfl,rfl,rfl⟩:=e
 exact ⟨rfl,h1,h2,h3⟩
theorem isSlice {w : World} {v : Value} {xs : List Value} (h : Sl w v xs) : ∃ a n c,v = .slice a n c:=by
 obtain ⟨a,cap,e,_⟩:=h
 exact ⟨a,_,cap,e⟩
theorem shape {w : World} {v : Value} {xs : List Value} (h : Sl w v xs) : ∃ a cap,v = .slice a xs.length cap:=by
 obtain ⟨a,cap,e,_⟩:=h
 exact ⟨a,cap,e⟩
theorem sub {w : World} {a : Option Addr} {n cap : Nat} {xs : List Value} (h : Sl w (.slice a n cap) xs) (k m : Nat) (hk : k + m ≤ n) :
  Sl w (.slice (if cap = k then a else Option.map (fun x => x.add k) a) m (cap - k)) ((xs.drop k).take m):=by
 obtain ⟨a',cap',e,h1,h2,h3,h4⟩:=h
 simp only [Value.slice.injEq] at e
 obtain ⟨rfl,rfl,rfl⟩:=e
 have hl : ((xs.drop k).take m).length = m:=by simp;omega
 refine ⟨if cap = k then a else Option.map (fun x => x.add k) a,cap - k,by rw [hl],by omega,by omega,?_,?_⟩
 ·intro ha
  split at ha
  ·have:=h3 ha;omega
  ·cases a with
   | none => have:=h3 rfl;omega
   | some p => simp at ha
 ·intro p hp hc0
  split at hp
  ·omega
  ·cases a with
   | none => simp at hp
   | some q =>
    simp only [Option.map_some,Option.some.injEq] at hp
    obtain ⟨s,hb,hc⟩:=h4 q rfl (by omega)
    obtain ⟨qb,qo,qs⟩:=q
    simp only at s
    subst s
    have hq : (⟨qb,qo,none⟩ : Addr).add k = ⟨qb,qo + k,none⟩:=by unfold Addr.add;split <;> simp_all
    rw [hq] at hp
    subst hp
    refine ⟨rfl,hb,fun i x hx => ?_⟩
    have hx' : xs[k + i]? = some x:=by
     rw [List.getElem?_take] at hx
     split at hx
     ·simpa using hx
     ·cases hx
    have:=hc (k + i) x hx'
    simpa [Nat.add_assoc] using this
theorem sub' {w : World} {b o : Nat} {n cap : Nat} {xs : List Value} (h : Sl w (.slice (some ⟨b,o,none⟩) n cap) xs) (k m : Nat) (hk : k + m ≤ n) :
  Sl w (.slice (if cap = k then some ⟨b,o,none⟩ else some ⟨b,o + k,none⟩) m (cap - k)) ((xs.drop k).take m):=by
 have hq : (⟨b,o,none⟩ : Addr).add k = ⟨b,o + k,none⟩:=by unfold Addr.add;split <;> simp_all
 have:=h.sub k m hk
 simp only [Option.map_some,hq] at this
 exact this
theorem pre {w : World} {a : Option Addr} {n cap : Nat} {xs : List Value} (h : Sl w (.slice a n cap) xs) (m c : Nat) (hm : m ≤ n) (hc : m ≤ c) (hc2 : c ≤ cap) : Sl w (.slice a m c) (xs.take m):=by
 obtain ⟨a',cap',e,h1,h2,h3,h4⟩:=h
 simp only [Value.slice.injEq] at e
 obtain ⟨rfl,rfl,rfl⟩:=e
 have hl : (xs.take m).length = m:=by simp;omega
 refine ⟨a,c,by rw [hl],by omega,by omega,fun ha => by have:=h3 ha;omega,fun p hp hc0 => ?_⟩
 obtain ⟨s,hb,hx⟩:=h4 p hp (by omega)
 refine ⟨s,hb,fun i x hi => hx i x ?_⟩
 rw [List.getElem?_take] at hi
 split at hi
 ·exact hi
 ·cases hi
theorem live_sub (a : Option Addr) (k m cap n b : Nat) (h : liveOf (.slice (if cap = k then a else Option.map (fun x => x.add k) a) m (cap - k)) = some b) : liveOf (.slice a n cap) = some b:=by
 cases a with
 | none => split at h <;> simp [liveOf] at h
 | some p =>
  split at h
  ·simp [liveOf] at h
   omega
  ·simp only [Option.map_some,liveOf] at h
   split at h
   ·rename_i hk
    have : (p.add k).block = p.block:=by unfold Addr.add;split <;> rfl
    simp only [liveOf]
    rw [if_pos (by omega),← h,this]
   ·cases h
end Sl

theorem Sl.ofOwn {w : World} {base : Nat} {e : TypeId} {v : Value} {n : Nat} {xs : List Value} (h : w.ownsRow base e 1 v n xs) : Sl w v xs:=by
 have hn : xs.length = n:=by simpa using h.1
 subst hn
 rcases h.2 with ⟨rfl,h0⟩ | ⟨g,cap,cur,rfl,hb,hg,hc,hm,hs,ht⟩
 ·have : xs = []:=List.eq_nil_of_length_eq_zero h0
  subst this
  exact Sl.nil w
 ·refine ⟨_,cap,rfl,hc,hm,(fun h => by cases h),?_⟩
  rintro p hp _
  simp only [Option.some.injEq] at hp
  subst hp
  refine ⟨rfl,(Array.getElem?_eq_some_iff.1 hg).1,fun i x hx => ?_⟩
  have:=h.cells (g:=g) rfl i x hx
  have hadd : (⟨g,0,none⟩ : Addr).add i = ⟨g,0 + i,none⟩:=by unfold Addr.add;split <;> simp_all
  rw [hadd] at this
  exact this
theorem Own.fr {w w' : World} {base : Nat} {e : TypeId} {size : Nat} {v : Value} {n : Nat} {xs : List Value} {S : List Nat} (h : w.ownsRow base e size v n xs) (hf : Fr S w w') (hS : ∀ b,blockOf v = some b → b ∉ S) : w'.ownsRow base e size v n xs:=by
 refine ⟨h.1,?_⟩
 rcases h.2 with hn | ⟨g,cap,cur,rfl,hb,hg,r⟩
 ·exact .inl hn
 ·exact .inr ⟨g,cap,cur,rfl,hb,by rw [hf.block g (Array.getElem?_eq_some_iff.1 hg).1 (hS g rfl)];exact hg,r⟩
theorem Own.keep {w w' : World} {base : Nat} {e : TypeId} {size : Nat} {v : Value} {n : Nat} {xs : List Value} (h : w.ownsRow base e size v n xs) (hf : Fr [] w w') : w'.ownsRow base e size v n xs:=Own.fr h hf (by simp)
theorem Own.mono {w : World} {base base' : Nat} {e : TypeId} {size : Nat} {v : Value} {n : Nat} {xs : List Value} (h : w.ownsRow base e size v n xs) (hb : base' ≤ base) : w.ownsRow base' e size v n xs:=by
 refine ⟨h.1,?_⟩
 rcases h.2 with hn | ⟨g,cap,cur,rfl,hb',r⟩
 ·exact .inl hn
 ·exact .inr ⟨g,cap,cur,rfl,by omega,r⟩
theorem Own.block {w : World} {base : Nat} {e : TypeId} {size : Nat} {v : Value} {n : Nat} {xs : List Value} (h : w.ownsRow base e size v n xs) : ∀ b,blockOf v = some b → base ≤ b ∧ b < w.heap.size:=by
 intro b hb
 rcases h.2 with ⟨rfl,_⟩ | ⟨g,cap,cur,rfl,hb',hg,r⟩
 ·simp [blockOf] at hb
 ·simp only [blockOf,Option.some.injEq] at hb
  subst hb
  exact ⟨hb',(Array.getElem?_eq_some_iff.1 hg).1⟩
theorem Own.low {w w' : World} {base : Nat} {e : TypeId} {size : Nat} {v : Value} {n : Nat} {xs : List Value} {S : List Nat} (h : w.ownsRow base e size v n xs) (hf : Fr S w w') (hS : ∀ b ∈ S,b < base) : w'.ownsRow base e size v n xs :=
 Own.fr h hf (fun b hb hm => by have:=(Own.block h b hb).1;have:=hS b hm;omega)
theorem blockOf_own (v : Value) : v.ownBlock = blockOf v:=by
 cases v <;> rfl

theorem wpList_append_sl {P : Program} {w : World} {ops : Array Oper} {rest : List Oper} {o : Oper} {a : Act} {Q : Exit → Act → World → Prop} (hgd : o.guard = none) (s x : Operand) (t : TypeId)
  (ho : o.op = .call { callee:=.builtin .append,args:=#[s,x],argTypes:=#[t,t] })
  (base : Nat) (e : TypeId) (z : Value) (bytes : Nat) (ht : P.underlying t = some (.slice e)) (hi : (P.info? e).map (fun i => (i.zero,i.size,i.bytes)) = some (some z,1,bytes)) (hz : z.cells.size = 1)
  (v : Value) (n : Nat) (xs : List Value) (hs : a.eval s = v) (hown : w.ownsRow base e 1 v n xs)
  (vx : Value) (news : List Value) (hx : a.eval x = vx) (hnew : Sl w vx news) (h1 : ∀ u ∈ news,u.oneCell' = true)
  (h63 : n + news.length ≤ maxLen) (hbytes : (n + news.length) * bytes ≤ 140737488355328) (hbase : base ≤ w.heap.size)
  (h : ∀ v' w',w'.ownsRow base e 1 v' (n + news.length) (xs ++ news) → w.grownBy w' (blockOf v) → (v' = .slice none 0 0 ↔ v = .slice none 0 0 ∧ news = []) → wpList P ops Q rest (a.put o.dst v') w') : wpList P ops Q (o :: rest) a w:=by
 obtain ⟨i,hi1,hi2,hi3,hi4⟩:=info_parts hi
 obtain ⟨ad,cap,rfl,h2,h3,h4,h5⟩:=hnew
 cases ad with
 | none =>
  obtain rfl:=h4 rfl
  have hn : news = []:=List.eq_nil_of_length_eq_zero (by omega)
  subst hn
  refine wpList_append_own_none hgd s x t ho base e i 1 ht hi1 v n xs hs hown hx (h v w ?_ ⟨rfl,rfl,rfl,Nat.le_refl _,fun _ _ _ => rfl⟩ (by simp))
  simpa using hown
 | some p =>
  refine wpList_append_own w hgd s x t ho base e i z 1 bytes ht hi1 hi2 hi3 hi4 hz (by omega) v n xs hs hown p news.length cap news hx (by simp) ?_ h1 h63 hbytes hbase ?_
  ·intro j u hu
   have hj:=(List.getElem?_eq_some_iff.1 hu).1
   obtain ⟨sp,hb,hc⟩:=h5 p rfl (by omega)
   obtain ⟨pb,po,ps⟩:=p
   simp only at sp
   subst sp
   have:=hc j u hu
   have hadd : (⟨pb,po,none⟩ : Addr).add j = ⟨pb,po + j,none⟩:=by unfold Addr.add;split <;> simp_all
   rw [hadd]
   exact this
  ·intro v' w' g1 g2 g3
   rw [blockOf_own] at g2
   refine h v' w' g1 g2 ?_
   rw [g3]
   simp

def Box (w : World) (g : Nat) (t : TypeId) (c : Array Value) : Prop:=w.heap[g]? = some (.cells c t (0,0))
namespace Box
theorem cell {w : World} {g : Nat} {t : TypeId} {c : Array Value} (h : Box w g t c) (i : Nat) : w.cell? ⟨g,i,none⟩ = c[i]?:=cell_of_row w g i c t _ h
theorem free {w : World} {g : Nat} {t : TypeId} {c : Array Value} (h : Box w g t c) (i : Nat) : w.frozen? ⟨g,i,none⟩ = false:=frozen_of_row w g i c t h
theorem lt {w : World} {g : Nat} {t : TypeId} {c : Array Value} (h : Box w g t c) : g < w.heap.size:=(Array.getElem?_eq_some_iff.1 h).1
theorem new (w : World) (t : TypeId) (c : Array Value) : Box (w.alloc (.cells c t)) w.heap.size t c:=heap_alloc_new w _
theorem fr {w w' : World} {g : Nat} {t : TypeId} {c : Array Value} {S : List Nat} (h : Box w g t c) (hf : Fr S w w') (hS : g ∉ S) : Box w' g t c:=(hf.block g h.lt hS).trans h
theorem keep {w w' : World} {g : Nat} {t : TypeId} {c : Array Value} (h : Box w g t c) (hf : Fr [] w w') : Box w' g t c:=h.fr hf (by simp)
theorem set {w : World} {g : Nat} {t : TypeId} {c : Array Value} (h : Box w g t c) (i : Nat) (v : Value) : Box (w.setCell ⟨g,i,none⟩ v) g t (c.setIfInBounds i v):=heap_setCell_same w g i c t v h
theorem setRow {w : World} {g : Nat} {t : TypeId} {c : Array Value} (h : Box w g t c) (c' : Array Value) : Box (w.setRow g c') g t c':=setRow_heap w g c c' t _ h
theorem frSetRow (w : World) (g : Nat) (c' : Array Value) : Fr [g] w (w.setRow g c') :=
 ⟨rfl,rfl,rfl,by simp,fun k hk hn => setRow_other w g k c' (fun e => hn (by simp [e]))⟩
end Box
theorem Fr.set {S : List Nat} {a b : World} (h : Fr S a b) {g i : Nat} (hp : g ∈ S ∨ a.heap.size ≤ g) (u : Value) : Fr S a (b.setCell ⟨g,i,none⟩ u):=h.setCell (p:=⟨g,i,none⟩) hp u

theorem wpList_store_row {P : Program} {w : World} {ops : Array Oper} {rest : List Oper} {o : Oper} {a : Act} {Q : Exit → Act → World → Prop} (hgd : o.guard = none) (ty : TypeId) (x y : Operand)
  (ho : o.op = .store ty x y) (g : Nat) (hx : a.eval x = .pointer (some ⟨g,0,none⟩)) (c c' : Array Value) (hy : a.eval y = .agg c') (t : TypeId) (hb : Box w g t c)
  (hi : (P.info? ty).map (·.size) = some c'.size) (hs : c'.size = c.size) (h1 : ∀ u ∈ c'.toList,u.oneCell' = true)
  (h : ∀ w',Box w' g t c' → Fr [g] w w' → wpList P ops Q rest (a.put o.dst undef) w') : wpList P ops Q (o :: rest) a w:=by
 refine wpList_plain hgd fun K hK => ?_
 have hst:=run_storeCells_at P g 0 t c'.toList 0 c w hb (by simp [hs]) h1
 simp only [Nat.add_zero,List.take_zero,List.nil_append,Nat.zero_add] at hst
 rw [List.drop_of_length_le (by simp [hs]),List.append_nil,Array.toArray_toList] at hst
 cases hq : P.info? ty with
 | none => simp [hq] at hi
 | some i =>
  have hsz : i.size = c'.size:=by simpa [hq] using hi
  unfold Oper.wp execOp
  simp only [ho,hx,hy]
  simp [Instr.storeAt,Instr.sureAddr,storeVar,Sem.run_bind,sizeOf,typeInfo,hq,hsz,Value.cells,hst]
  exact hK _ _ (h _ (hb.setRow c') (Box.frSetRow w g c'))

def B8 (c : UInt8) : Value:=.int .u8 c.toNat
def Bytes (w : World) (v : Value) (l : List UInt8) : Prop:=Sl w v (l.map B8)
def W32 (c : UInt32) : Value:=.int .u32 c.toNat
def Words (w : World) (v : Value) (l : List UInt32) : Prop:=Sl w v (l.map W32)

theorem oneCell_B8 (l : List UInt8) : ∀ u ∈ l.map B8,u.oneCell' = true:=by
 intro u hu
 obtain ⟨c,_,rfl⟩:=List.mem_map.1 hu
 rfl
theorem oneCell_int (k : IntKind) (n : Int) : ∀ u ∈ [Value.int k n],u.oneCell' = true:=by
 intro u hu
 simp only [List.mem_singleton] at hu
 subst hu
 rfl
theorem i64_ofNat (n : Nat) : BitVec.ofInt 64 (n : Int) = BitVec.ofNat 64 n:=by simp
theorem i64_and_nat (a b : Nat) (ha : a < 9223372036854775808) (hb : b < 9223372036854775808) : bits .and .i64 (a : Int) (b : Int) = ((a &&& b : Nat) : Int):=by
 show IntKind.i64.wrap ((BitVec.ofInt 64 (a : Int) &&& BitVec.ofInt 64 (b : Int)).toNat : Int) = _
 rw [i64_ofNat,i64_ofNat,BitVec.toNat_and,BitVec.toNat_ofNat,BitVec.toNat_ofNat]
 rw [Nat.mod_eq_of_lt (by omega),Nat.mod_eq_of_lt (by omega)]
 have:=Nat.and_le_left (n:=a) (m:=b)
 exact IntWalk.i64_in _ (by omega)
theorem i64_or_nat (a b : Nat) (ha : a < 9223372036854775808) (hb : b < 9223372036854775808) : bits .or .i64 (a : Int) (b : Int) = ((a ||| b : Nat) : Int):=by
 show IntKind.i64.wrap ((BitVec.ofInt 64 (a : Int) ||| BitVec.ofInt 64 (b : Int)).toNat : Int) = _
 rw [i64_ofNat,i64_ofNat,BitVec.toNat_or,BitVec.toNat_ofNat,BitVec.toNat_ofNat]
 rw [Nat.mod_eq_of_lt (by omega),Nat.mod_eq_of_lt (by omega)]
 have : a ||| b < 2 ^ 63:=Nat.or_lt_two_pow (by omega) (by omega)
 exact IntWalk.i64_in _ (by omega)
theorem byte_and15 (n : Nat) (h : n < 256) : bits .and .i64 (n : Int) 15 = ((n % 16 : Nat) : Int):=by
 rw [show (15 : Int) = ((15 : Nat) : Int) from rfl,i64_and_nat _ _ (by omega) (by omega)]
 exact congrArg _ (Nat.and_two_pow_sub_one_eq_mod n 4)
theorem byte_tests : ∀ n < 256,(n &&& 16 = n / 16 % 2 * 16 ∧ n &&& 32 = n / 32 % 2 * 32 ∧ n &&& 128 = n / 128 % 2 * 128 ∧ n &&& 64 = n / 64 % 2 * 64):=by decide +kernel
theorem byte_and16 (n : Nat) (h : n < 256) : bits .and .i64 (n : Int) 16 = ((n / 16 % 2 * 16 : Nat) : Int):=by
 rw [show (16 : Int) = ((16 : Nat) : Int) from rfl,i64_and_nat _ _ (by omega) (by omega),(byte_tests n h).1]
theorem byte_and32 (n : Nat) (h : n < 256) : bits .and .i64 (n : Int) 32 = ((n / 32 % 2 * 32 : Nat) : Int):=by
 rw [show (32 : Int) = ((32 : Nat) : Int) from rfl,i64_and_nat _ _ (by omega) (by omega),(byte_tests n h).2.1]
theorem byte_and128 (n : Nat) (h : n < 256) : bits .and .i64 (n : Int) 128 = ((n / 128 % 2 * 128 : Nat) : Int):=by
 rw [show (128 : Int) = ((128 : Nat) : Int) from rfl,i64_and_nat _ _ (by omega) (by omega),(byte_tests n h).2.2.1]
theorem byte_andNot128 : ∀ n < 256,bits .andNot .i64 ((n : Nat) : Int) 128 = ((n % 128 : Nat) : Int):=by decide +kernel
theorem ret_int {k : IntKind} {a b : Int} (h : a = b) : Ending.returned (.int k a) = .returned (.int k b):=by rw [h]

def be (l : List UInt8) : Nat:=l.foldl (fun a c => a * 256 + c.toNat) 0
theorem be_snoc (l : List UInt8) (c : UInt8) : be (l ++ [c]) = be l * 256 + c.toNat:=by simp [be]
theorem be_take (l : List UInt8) (j : Nat) (h : j < l.length) : be (l.take (j + 1)) = be (l.take j) * 256 + l[j].toNat:=by
 rw [List.take_succ_eq_append_getElem h,be_snoc]
theorem be_lt : ∀ (l : List UInt8),be l < 256 ^ l.length:=by
 intro l
 suffices h : ∀ (l : List UInt8) (a : Nat),l.foldl (fun a c => a * 256 + c.toNat) a < (a + 1) * 256 ^ l.length by have:=h l 0;simpa [be] using this
 intro l
 induction l with
 | nil => intro a;simp
 | cons c l ih =>
  intro a
  simp only [List.foldl_cons,List.length_cons]
  refine Nat.lt_of_lt_of_le (ih _) ?_
  have:=c.toNat_lt
  rw [Nat.pow_succ,Nat.mul_comm (256 ^ l.length),← Nat.mul_assoc]
  exact Nat.mul_le_mul_right _ (by omega)
theorem wrap_u64_nat (n : Nat) (h : n < 18446744073709551616) : IntKind.u64.wrap (n : Int) = n:=IntWalk.u64_in _ (by omega)
theorem or_byte (n c : Nat) (hc : c < 256) (hn : n < 72057594037927936) : bits .or .u64 (IntKind.u64.wrap ((n : Int) * 256)) (IntKind.u64.wrap (c : Int)) = ((n * 256 + c : Nat) : Int):=by
 rw [show (n : Int) * 256 = ((n * 256 : Nat) : Int) from by simp,wrap_u64_nat _ (by omega),wrap_u64_nat _ (by omega),bits_or_u64_nat _ _ (by omega) (by omega)]
 have:=Nat.two_pow_add_eq_or_of_lt (i:=8) (b:=c) (by omega) n
 rw [show n * 256 = 2 ^ 8 * n from by omega,this]
theorem be_step (d : List UInt8) (j : Nat) (h : j < d.length) (h8 : d.length ≤ 8) :
  bits .or .u64 (IntKind.u64.wrap ((be (d.take j) : Int) * 256)) (IntKind.u64.wrap (d[j].toNat : Int)) = (be (d.take (j + 1)) : Int):=by
 have hb:=be_lt (d.take j)
 have h7 : (d.take j).length ≤ 7:=by rw [List.length_take];omega
 have hp : 256 ^ (d.take j).length ≤ 256 ^ 7:=Nat.pow_le_pow_right (by omega) h7
 rw [or_byte _ _ d[j].toNat_lt (by omega),be_take d j h]
end Go.Proofs.YtcngfbjmpemehaaGreat

/- The walks of the library's small slice functions. -/
namespace Go.Proofs.YtcngfbjmpemehaaGreat
open Go.RowKit

theorem info_u8 : (Tryz.prog.info? 5).map (fun i => (i.zero,i.size,i.bytes)) = some (some (.int .u8 0),1,1):=by kernel_rfl
def OwnB (w : World) (base : Nat) (v : Value) (l : List UInt8) : Prop:=w.ownsRow base 5 1 v l.length (l.map B8)
theorem OwnB.bytes {w : World} {base : Nat} {v : Value} {l : List UInt8} (h : OwnB w base v l) : Bytes w v l:=Sl.ofOwn h
theorem OwnB.isSlice {w : World} {base : Nat} {v : Value} {l : List UInt8} (h : OwnB w base v l) : ∃ a n c,v = .slice a n c:=by
 obtain ⟨a,c,e⟩:=h.bytes.shape
 exact ⟨a,_,c,e⟩
theorem OwnB.mono {w : World} {base base' : Nat} {v : Value} {l : List UInt8} (h : OwnB w base v l) (hb : base' ≤ base) : OwnB w base' v l:=Own.mono h hb
theorem OwnB.keep {w w' : World} {base : Nat} {v : Value} {l : List UInt8} (h : OwnB w base v l) (hf : Fr [] w w') : OwnB w' base v l:=Own.keep h hf
theorem OwnB.fr {w w' : World} {base : Nat} {v : Value} {l : List UInt8} {S : List Nat} (h : OwnB w base v l) (hf : Fr S w w') (hS : ∀ b,blockOf v = some b → b ∉ S) : OwnB w' base v l:=Own.fr h hf hS

theorem info_u32 : (Tryz.prog.info? 22).map (fun i => (i.zero,i.size,i.bytes)) = some (some (.int .u32 0),1,4):=by kernel_rfl
def OwnW (w : World) (base : Nat) (v : Value) (l : List UInt32) : Prop:=w.ownsRow base 22 1 v l.length (l.map W32)
theorem OwnW.words {w : World} {base : Nat} {v : Value} {l : List UInt32} (h : OwnW w base v l) : Words w v l:=Sl.ofOwn h
theorem OwnW.isSlice {w : World} {base : Nat} {v : Value} {l : List UInt32} (h : OwnW w base v l) : ∃ a n c,v = .slice a n c:=by
 obtain ⟨a,c,e⟩:=h.words.shape
 exact ⟨a,_,c,e⟩
theorem OwnB.block {w : World} {base : Nat} {v : Value} {l : List UInt8} (h : OwnB w base v l) : ∀ b,blockOf v = some b → base ≤ b ∧ b < w.heap.size:=Own.block h
theorem OwnW.block {w : World} {base : Nat} {v : Value} {l : List UInt32} (h : OwnW w base v l) : ∀ b,blockOf v = some b → base ≤ b ∧ b < w.heap.size:=Own.block h
theorem OwnB.low {w w' : World} {base : Nat} {v : Value} {l : List UInt8} {S : List Nat} (h : OwnB w base v l) (hf : Fr S w w') (hS : ∀ b ∈ S,b < base) : OwnB w' base v l:=Own.low h hf hS
theorem OwnW.low {w w' : World} {base : Nat} {v : Value} {l : List UInt32} {S : List Nat} (h : OwnW w base v l) (hf : Fr S w w') (hS : ∀ b ∈ S,b < base) : OwnW w' base v l:=Own.low h hf hS
theorem OwnW.keep {w w' : World} {base : Nat} {v : Value} {l : List UInt32} (h : OwnW w base v l) (hf : Fr [] w w') : OwnW w' base v l:=Own.keep h hf
theorem cloneB_any {w : World} {v : Value} {l : List UInt8} (h : Bytes w v l) (hl : l.length ≤ 1099511627776) :
  Calls Tryz.prog 141 #[v] w fun e w' => ∃ v',e = .returned v' ∧ OwnB w' w.heap.size v' l ∧ Fr [] w w':=by
 obtain ⟨a,cap,rfl⟩:=h.shape
 simp only [List.length_map] at h ⊢
 have hcap : a = none → l = []:=by
  intro ha
  obtain ⟨_,h2,_,h4⟩:=h.len
  have:=h4 ha
  exact List.eq_nil_of_length_eq_zero (by omega)
 have HC:=Hd hcap
 have H:=Hd h
 clear h hcap
 have hn:=fun (w : World) => Lib.run_eql_slice_nil (P:=Tryz.prog) w 34 5 a l.length cap 0 0 Tryz.underlying34
 cases a with
 | none =>
  obtain rfl:=HC.out rfl
  clear hl
  clear HC H
  simp only [Option.isNone_none,List.length_nil] at hn ⊢
  go_enter Tryz.func141,Tryz.ntmps141
  go_wp2_with fail
  go_ret
  exact ⟨_,rfl,World.ownsRow_nil _ _ _ _,Fr.refl _ _⟩
 | some p =>
  simp only [Option.isNone_some] at hn
  clear HC
  go_enter Tryz.func141,Tryz.ntmps141
  go_wp2_with (at_builtin;refine wpList_append_sl rfl _ _ _ rfl w.heap.size 5 _ _ Tryz.underlying34 info_u8 rfl _ 0 [] rfl (World.ownsRow_made w #[] 0 (Nat.le_refl _) (by unfold maxLen;omega) (by simp)) (.slice (some p) l.length cap) (l.map B8) rfl (Sl.keep H.out ((Fr.refl _ _).alloc _)) (oneCell_B8 l) (by unfold maxLen;simp;omega) (by simp;omega) (by simp) ?_)
  intro v' w' ho hg _
  have HO:=Hd ho
  have HG:=Hd hg
  clear ho hg
  go_wp2_with fail
  go_ret
  refine ⟨v',rfl,?_,(((Fr.refl [] w).alloc _).grown HG.out (fun k hk => .inr (by simp [blockOf] at hk;omega)))⟩
  have:=HO.out
  simpa [OwnB] using this
end Go.Proofs.YtcngfbjmpemehaaGreat

/- The walks of wire.Reader. -/
namespace Go.Proofs.YtcngfbjmpemehaaGreat
open Go.RowKit

structure Rd (w : World) (R : Nat) (v : Value) (at_ : Nat) (l : List UInt8) : Prop where
 c0 : w.cell? ⟨R,0,none⟩ = some v
 c1 : w.cell? ⟨R,1,none⟩ = some (.int .i64 at_)
 f1 : w.frozen? ⟨R,1,none⟩ = false
 sl : Bytes w v l
 apart : liveOf v ≠ some R
 place : at_ ≤ l.length
 small : l.length ≤ 1099511627776

theorem left_any (R : Nat) (p : Option Addr) (len cap k : Nat) (w : World) (h0 : w.cell? ⟨R,0,none⟩ = some (.slice p len cap)) (h1 : w.cell? ⟨R,1,none⟩ = some (.int .i64 k)) (hk : k ≤ len) (hl : len ≤ 1099511627776) :
  Calls Tryz.prog 140 #[.pointer (some ⟨R,0,none⟩)] w fun e w' => e = .returned (.int .i64 (len - k)) ∧ ∃ n,w' = w.drewN n:=by
 go_enter Tryz.func140,Tryz.ntmps140
 go_wp2
 go_quiet (fail)
 go_wp2
 go_ret
 exact ⟨rfl,_,rfl⟩

theorem Rd.keep {w w' : World} {R : Nat} {v : Value} {k : Nat} {l : List UInt8} (h : Rd w R v k l) (hf : Fr [] w w') : Rd w' R v k l :=
 ⟨hf.cellSome h.c0 (by simp),hf.cellSome h.c1 (by simp),(hf.frozen (World.block_lt_of_cell? _ _ h.c1) (by simp)).trans h.f1,h.sl.keep hf,h.apart,h.place,h.small⟩
theorem Rd.fr {w w' : World} {R : Nat} {v : Value} {k : Nat} {l : List UInt8} {S : List Nat} (h : Rd w R v k l) (hf : Fr S w w') (hS : R ∉ S) (hv : ∀ b,liveOf v = some b → b ∉ S) : Rd w' R v k l :=
 ⟨hf.cellSome h.c0 hS,hf.cellSome h.c1 hS,(hf.frozen (World.block_lt_of_cell? _ _ h.c1) hS).trans h.f1,h.sl.frL hf hv,h.apart,h.place,h.small⟩
theorem Rd.grown {w w' : World} {R base : Nat} {v : Value} {k : Nat} {l : List UInt8} {row : Option Nat} (h : Rd w R v k l) (hg : w.grownBy w' row) (hr : ∀ g,row = some g → base ≤ g) (hR : R < base) (hv : ∀ b,liveOf v = some b → b < base) : Rd w' R v k l :=
 h.fr (S:=row.toList) ⟨hg.os,hg.tape,hg.output,hg.size,fun k hk hn => hg.block k hk (fun e => hn (by simp [← e]))⟩
  (fun hm => by have:=hr R (by simpa using hm);omega) (fun b hb hm => by have:=hr b (by simpa using hm);have:=hv b hb;omega)
theorem Rd.vlt {w : World} {R : Nat} {v : Value} {k : Nat} {l : List UInt8} (h : Rd w R v k l) : ∀ b,liveOf v = some b → b < w.heap.size:=h.sl.lt
def faultOf (k : Int) : List PanicEntry:=[{ v:=.iface 229 (.agg #[.int .i64 k]),recovered:=false }]

theorem fail_any (R : Value) (k : Int) (hk : k ≠ 0) (w : World) :
  Calls Tryz.prog 108 #[R,.int .i64 k] w fun e w' => e = .panicked (faultOf k) ∧ w = w':=by
 have hk' : (k == 0) = false:=by simpa using hk
 go_enter Tryz.func108,Tryz.ntmps108
 go_wp2
 exact ⟨rfl,rfl,rfl⟩

theorem next_post {w : World} {R : Nat} {a : Option Addr} {cap k : Nat} {l : List UInt8} (hR : Rd w R (.slice a l.length cap) k l) (m : Nat) (h : k + m ≤ l.length)
  (q : Option Addr) (hq : Hid ((if cap = k then a else Option.map (fun x => x.add k) a) = q)) (N : Nat) (x : Int) (hx : x = (k + m : Nat)) (c' m' : Nat) (hc : c' = cap - k) (hm' : m' = m) :
  Rd ((w.drewN N).setCell ⟨R,1,none⟩ (.int .i64 x)) R (.slice a l.length cap) (k + m) l ∧ Fr [R] w ((w.drewN N).setCell ⟨R,1,none⟩ (.int .i64 x)) ∧
   Bytes ((w.drewN N).setCell ⟨R,1,none⟩ (.int .i64 x)) (.slice q m' c') ((l.drop k).take m) ∧ liveOf (.slice q m' c') ≠ some R:=by
 rw [hm']
 clear hm'
 obtain ⟨c0,c1,f1,hs,ha,hp,hsm⟩:=hR
 have hcc:=hc
 have hb : ∀ (b : Nat),liveOf (.slice q m c') = some b → b ∉ [R]:=by
  intro b hb hm
  simp only [List.mem_singleton] at hm
  subst hm
  rw [← hq.out,hcc] at hb
  exact ha (Sl.live_sub a k m cap l.length _ hb)
 have hF : Fr [R] w ((w.drewN N).setCell ⟨R,1,none⟩ (.int .i64 x)):=((Fr.refl _ _).drewN N).setCell (.inl (by simp)) _
 have c1' : (w.drewN N).cell? ⟨R,1,none⟩ = some (.int .i64 k):=c1
 refine ⟨⟨?_,?_,?_,hs.frL hF ?_,ha,h,hsm⟩,hF,?_,fun e => hb R e (by simp)⟩
 ·rw [World.cell?_setCell_other _ _ _ _ (by simp)];exact c0
 ·rw [World.cell?_setCell_same _ _ _ c1',hx]
 ·rw [World.frozen?_setCell];exact f1
 ·intro b hb' hm
  simp only [List.mem_singleton] at hm
  subst hm
  exact ha hb'
 ·have hs' : Sl w (.slice a l.length cap) (l.map B8):=hs
  have hq':=hs'.sub k m h
  rw [hq.out,← List.map_drop,← List.map_take] at hq'
  rw [hc] at hb ⊢
  exact Sl.frL hq' hF hb

theorem next_ok {w : World} {R : Nat} {v : Value} {k : Nat} {l : List UInt8} (hR : Rd w R v k l) (n : Int) (m : Nat) (hm : max n 0 = m) (hle : k + m ≤ l.length) :
  Calls Tryz.prog 151 #[.pointer (some ⟨R,0,none⟩),.int .i64 n] w fun e w' => ∃ v',e = .returned v' ∧ Rd w' R v (k + m) l ∧ Fr [R] w w' ∧ Bytes w' v' ((l.drop k).take m) ∧ liveOf v' ≠ some R:=by
 obtain ⟨a,cap,rfl,hc⟩:=hR.sl.shape
 simp only [List.length_map] at hR ⊢
 have HR:=Hd hR
 obtain ⟨c0,c1,f1,hs,ha,hp,hsm⟩:=hR
 have hlc : l.length ≤ cap:=by have:=(hs.len).2.1;simpa using this
 clear hs ha
 go_enter Tryz.func151,Tryz.ntmps151
 go_wp2_with fail
 all_goals
  refine (left_any R a l.length cap k w c0 c1 hp hsm).mono ?_
  rintro e w' ⟨rfl,nq,rfl⟩
 ·obtain rfl : m = 0:=by omega
  clear hm
  go_wp2_with fail
  go_quiet (fail)
  generalize hq : (if cap = k then a else Option.map (fun x => x.add k) a) = q
  have HQ:=Hd hq
  clear hq
  go_wp2_with fail
  go_ret
  exact ⟨_,rfl,next_post HR.out 0 hle q HQ _ _ (by simp) _ _ rfl (by omega)⟩
 ·obtain rfl : n = m:=by omega
  clear hm
  go_wp2_with fail
  go_quiet (fail)
  generalize hq : (if cap = k then a else Option.map (fun x => x.add k) a) = q
  have HQ:=Hd hq
  clear hq
  go_wp2_with fail
  go_ret
  exact ⟨_,rfl,next_post HR.out m hle q HQ _ (↑k + ↑m) (by simp) _ _ rfl (by omega)⟩

theorem next_short {w : World} {R : Nat} {v : Value} {k : Nat} {l : List UInt8} (hR : Rd w R v k l) (n : Int) (h : (l.length : Int) - k < n) :
  Calls Tryz.prog 151 #[.pointer (some ⟨R,0,none⟩),.int .i64 n] w fun e w' => e = .panicked (faultOf 20) ∧ ∃ n,w' = w.drewN n:=by
 obtain ⟨a,cap,rfl,hc⟩:=hR.sl.shape
 simp only [List.length_map] at hR
 obtain ⟨c0,c1,f1,hs,ha,hp,hsm⟩:=hR
 have hn : 0 < n:=by omega
 go_enter Tryz.func151,Tryz.ntmps151
 go_wp2_with fail
 refine (left_any R a l.length cap k w c0 c1 hp hsm).mono ?_
 rintro e w' ⟨rfl,nq,rfl⟩
 go_wp2_with fail
 refine (fail_any _ 20 (by decide) _).mono ?_
 rintro e w' ⟨rfl,rfl⟩
 exact ⟨rfl,rfl,_,rfl⟩
theorem rnum_ok {w : World} {R : Nat} {v : Value} {k : Nat} {l : List UInt8} (hR : Rd w R v k l) (m : Nat) (hm8 : m ≤ 8) (hle : k + m ≤ l.length) :
  Calls Tryz.prog 138 #[.pointer (some ⟨R,0,none⟩),.int .i64 m] w fun e w' => e = .returned (.int .u64 (be ((l.drop k).take m))) ∧ Rd w' R v (k + m) l ∧ Fr [R] w w':=by
 go_enter Tryz.func138,Tryz.ntmps138
 go_wp2_with fail
 refine (next_ok hR m m (by omega) hle).mono ?_
 rintro e w1 ⟨v',rfl,hR1,hF1,hB1,ha1⟩
 have hl : ((l.drop k).take m).length = m:=by simp;omega
 generalize hd : (l.drop k).take m = d at *
 obtain ⟨a,cap,rfl,_⟩:=hB1.shape
 simp only [List.length_map] at hB1 ⊢
 have H1:=Hd hB1;have H2:=Hd hR1;have H3:=Hd hF1;have HD:=Hd hd
 have hl8 : d.length ≤ 8:=by omega
 clear hB1 hR1 hF1 hd hl ha1
 go_wp2_with fail
 go_loop [5,12] (fun x i => ∃ j : Nat,j ≤ d.length ∧ i = .int .i64 j ∧ x = .int .u64 (be (d.take j))) (fun _ i => d.length - (intOf i).toNat)
 case atStart => exact ⟨0,Nat.zero_le _,rfl,rfl⟩
 case round =>
  obtain ⟨j,hj,rfl,rfl⟩:=hrel
  by_cases hlt : j < d.length
  ·obtain ⟨b,o,rfl,hb,hcell⟩:=H1.out.at_ hlt
   have hc:=hcell j (B8 d[j]) (by rw [List.getElem?_map,List.getElem?_eq_getElem hlt];rfl)
   clear hcell
   unfold B8 at hc
   have hs:=be_step d j hlt hl8
   go_wp2_with fail
   go_round
   case rel => exact ⟨j + 1,by omega,by go_num,rfl⟩
   case measure => simp [intOf];omega
  ·go_wp2_with fail
   go_ret
   exact ⟨ret_int (by rw [HD.out,List.take_of_length_le (by omega)]),H2.out,H3.out⟩

theorem rnum_short {w : World} {R : Nat} {v : Value} {k : Nat} {l : List UInt8} (hR : Rd w R v k l) (m : Nat) (hle : l.length < k + m) :
  Calls Tryz.prog 138 #[.pointer (some ⟨R,0,none⟩),.int .i64 m] w fun e w' => e = .panicked (faultOf 20) ∧ ∃ n,w' = w.drewN n:=by
 go_enter Tryz.func138,Tryz.ntmps138
 go_wp2_with fail
 refine (next_short hR m (by have:=hR.place;omega)).mono ?_
 rintro e w1 ⟨rfl,n,rfl⟩
 exact ⟨rfl,rfl,_,rfl⟩

def nb (l : List UInt8) (k m : Nat) : Nat:=be ((l.drop k).take m)
theorem nb_lt (l : List UInt8) (k m : Nat) : nb l k m < 256 ^ m:=by
 refine Nat.lt_of_lt_of_le (be_lt _) (Nat.pow_le_pow_right (by omega) ?_)
 rw [List.length_take];omega

theorem rbyte_ok {w : World} {R : Nat} {v : Value} {k : Nat} {l : List UInt8} (hR : Rd w R v k l) (hle : k + 1 ≤ l.length) :
  Calls Tryz.prog 107 #[.pointer (some ⟨R,0,none⟩)] w fun e w' => e = .returned (.int .i64 (nb l k 1)) ∧ Rd w' R v (k + 1) l ∧ Fr [R] w w':=by
 have hb:=nb_lt l k 1
 go_enter Tryz.func107,Tryz.ntmps107
 go_wp2_with fail
 refine (rnum_ok hR 1 (by omega) hle).mono ?_
 rintro e w1 ⟨rfl,hR1,hF1⟩
 rw [show be ((l.drop k).take 1) = nb l k 1 from rfl]
 go_wp2_with fail
 go_ret
 exact ⟨rfl,hR1,hF1⟩

theorem rword_ok {w : World} {R : Nat} {v : Value} {k : Nat} {l : List UInt8} (hR : Rd w R v k l) (hle : k + 2 ≤ l.length) :
  Calls Tryz.prog 109 #[.pointer (some ⟨R,0,none⟩)] w fun e w' => e = .returned (.int .u16 (nb l k 2)) ∧ Rd w' R v (k + 2) l ∧ Fr [R] w w':=by
 have hb:=nb_lt l k 2
 go_enter Tryz.func109,Tryz.ntmps109
 go_wp2_with fail
 refine (rnum_ok hR 2 (by omega) hle).mono ?_
 rintro e w1 ⟨rfl,hR1,hF1⟩
 rw [show be ((l.drop k).take 2) = nb l k 2 from rfl]
 go_wp2_with fail
 go_ret
 exact ⟨rfl,hR1,hF1⟩

theorem rlong_ok {w : World} {R : Nat} {v : Value} {k : Nat} {l : List UInt8} (hR : Rd w R v k l) (hle : k + 4 ≤ l.length) :
  Calls Tryz.prog 110 #[.pointer (some ⟨R,0,none⟩)] w fun e w' => e = .returned (.int .u32 (nb l k 4)) ∧ Rd w' R v (k + 4) l ∧ Fr [R] w w':=by
 have hb:=nb_lt l k 4
 go_enter Tryz.func110,Tryz.ntmps110
 go_wp2_with fail
 refine (rnum_ok hR 4 (by omega) hle).mono ?_
 rintro e w1 ⟨rfl,hR1,hF1⟩
 rw [show be ((l.drop k).take 4) = nb l k 4 from rfl]
 go_wp2_with fail
 go_ret
 exact ⟨rfl,hR1,hF1⟩

theorem rbyte_short {w : World} {R : Nat} {v : Value} {k : Nat} {l : List UInt8} (hR : Rd w R v k l) (hle : l.length < k + 1) :
  Calls Tryz.prog 107 #[.pointer (some ⟨R,0,none⟩)] w fun e w' => e = .panicked (faultOf 20) ∧ ∃ n,w' = w.drewN n:=by
 go_enter Tryz.func107,Tryz.ntmps107
 go_wp2_with fail
 refine (rnum_short hR 1 hle).mono ?_
 rintro e w1 ⟨rfl,n,rfl⟩
 exact ⟨rfl,rfl,_,rfl⟩

theorem rword_short {w : World} {R : Nat} {v : Value} {k : Nat} {l : List UInt8} (hR : Rd w R v k l) (hle : l.length < k + 2) :
  Calls Tryz.prog 109 #[.pointer (some ⟨R,0,none⟩)] w fun e w' => e = .panicked (faultOf 20) ∧ ∃ n,w' = w.drewN n:=by
 go_enter Tryz.func109,Tryz.ntmps109
 go_wp2_with fail
 refine (rnum_short hR 2 hle).mono ?_
 rintro e w1 ⟨rfl,n,rfl⟩
 exact ⟨rfl,rfl,_,rfl⟩

theorem rlong_short {w : World} {R : Nat} {v : Value} {k : Nat} {l : List UInt8} (hR : Rd w R v k l) (hle : l.length < k + 4) :
  Calls Tryz.prog 110 #[.pointer (some ⟨R,0,none⟩)] w fun e w' => e = .panicked (faultOf 20) ∧ ∃ n,w' = w.drewN n:=by
 go_enter Tryz.func110,Tryz.ntmps110
 go_wp2_with fail
 refine (rnum_short hR 4 hle).mono ?_
 rintro e w1 ⟨rfl,n,rfl⟩
 exact ⟨rfl,rfl,_,rfl⟩

theorem take_ok {w : World} {R : Nat} {v : Value} {k : Nat} {l : List UInt8} (hR : Rd w R v k l) (n : Int) (m : Nat) (hm : max n 0 = m) (hle : k + m ≤ l.length) :
  Calls Tryz.prog 139 #[.pointer (some ⟨R,0,none⟩),.int .i64 n] w fun e w' => ∃ v',e = .returned v' ∧ OwnB w' w.heap.size v' ((l.drop k).take m) ∧ Rd w' R v (k + m) l ∧ Fr [R] w w':=by
 go_enter Tryz.func139,Tryz.ntmps139
 go_wp2_with fail
 refine (next_ok hR n m hm hle).mono ?_
 rintro e w1 ⟨v',rfl,hR1,hF1,hB1,ha1⟩
 have H1:=Hd hB1;have H2:=Hd hR1;have H3:=Hd hF1
 clear hB1 hR1 hF1 ha1 hm
 go_wp2_with fail
 refine (cloneB_any H1.out (by have:=hR.small;simp;omega)).mono ?_
 rintro e w2 ⟨v2,rfl,hO,hF2⟩
 go_wp2_with fail
 go_ret
 exact ⟨_,rfl,hO.mono H3.out.size,H2.out.keep hF2,H3.out.quiet hF2⟩

theorem take_short {w : World} {R : Nat} {v : Value} {k : Nat} {l : List UInt8} (hR : Rd w R v k l) (n : Int) (h : (l.length : Int) - k < n) :
  Calls Tryz.prog 139 #[.pointer (some ⟨R,0,none⟩),.int .i64 n] w fun e w' => e = .panicked (faultOf 20) ∧ ∃ n,w' = w.drewN n:=by
 go_enter Tryz.func139,Tryz.ntmps139
 go_wp2_with fail
 refine (next_short hR n h).mono ?_
 rintro e w1 ⟨rfl,n,rfl⟩
 exact ⟨rfl,rfl,_,rfl⟩

theorem rest_any {w : World} {R : Nat} {v : Value} {k : Nat} {l : List UInt8} (hR : Rd w R v k l) :
  Calls Tryz.prog 113 #[.pointer (some ⟨R,0,none⟩)] w fun e w' => ∃ v',e = .returned v' ∧ OwnB w' w.heap.size v' (l.drop k) ∧ Rd w' R v l.length l ∧ Fr [R] w w':=by
 obtain ⟨a,cap,rfl,hc⟩:=hR.sl.shape
 simp only [List.length_map] at hR ⊢
 have HR:=Hd hR
 obtain ⟨c0,c1,f1,hs,ha,hp,hsm⟩:=hR
 clear hs ha
 go_enter Tryz.func113,Tryz.ntmps113
 go_wp2_with fail
 refine (left_any R a l.length cap k w c0 c1 hp hsm).mono ?_
 rintro e w' ⟨rfl,nq,rfl⟩
 go_wp2_with fail
 refine (take_ok (HR.out.keep ((Fr.refl _ _).drewN nq)) _ (l.length - k) (by omega) (by omega)).mono ?_
 rintro e w1 ⟨v',rfl,hO,hR1,hF1⟩
 have e1 : k + (l.length - k) = l.length:=by omega
 have e2 : (l.drop k).take (l.length - k) = l.drop k:=List.take_of_length_le (by simp)
 rw [e1] at hR1
 rw [e2] at hO
 clear e1 e2
 have H1:=Hd hO;have H2:=Hd hR1;have H3:=Hd hF1
 clear hO hR1 hF1
 go_wp2_with fail
 go_ret
 exact ⟨_,rfl,H1.out,H2.out,((Fr.refl _ _).drewN nq).trans H3.out⟩
end Go.Proofs.YtcngfbjmpemehaaGreat

/- More plain facts for walks: a region whose head only reads,with a struct loaded whole. -/
namespace Go.Proofs.YtcngfbjmpemehaaGreat
open Go.RowKit

theorem wpStill_load_row {P : Program} {ops : Array Oper} {w : World} {Q : Act → Prop} {a : Act} {o : Oper} {rest : List Oper} (hgd : o.guard = none) (ty : TypeId) (x : Operand) (ho : o.op = .load ty x)
  (g : Nat) (hx : a.eval x = .pointer (some ⟨g,0,none⟩)) (t : TypeId) (c : Array Value) (d : TypeDesc) (hb : Box w g t c)
  (hu : P.underlying ty = some d) (hd : (match d with | .struct _ | .array _ _ => true | _ => false) = true) (hi : (P.info? ty).map (·.size) = some c.size)
  (h : wpStill P ops w Q rest (a.put o.dst (.agg c))) : wpStill P ops w Q (o :: rest) a:=by
 unfold wpStill
 rw [if_pos (by simp [Region.wanted,hgd])]
 unfold Oper.still execOp
 simp only [ho,hx,Instr.loadAt,Instr.sureAddr,Sem.run_bind,Sem.run_pure,Result.andThen_ok,run_loadVar_row w g t ty c (0,0) d hb hu hd hi]
 exact ⟨rfl,h⟩
theorem Box.drew {w : World} {g : Nat} {t : TypeId} {c : Array Value} (h : Box w g t c) : Box w.drew g t c:=h
theorem one_new (w : World) (c1 : Array Value) (t1 : TypeId) :
  ∃ w2,w.alloc (.cells c1 t1) = w2 ∧ Fr [] w w2 ∧ Box w2 w.heap.size t1 c1 ∧ w2.heap.size = w.heap.size + 1 :=
 ⟨_,rfl,(Fr.refl [] w).alloc _,Box.new w t1 c1,by simp⟩
theorem two_new (w : World) (c1 : Array Value) (t1 : TypeId) (c2 : Array Value) (t2 : TypeId) :
  ∃ w2,(w.alloc (.cells c1 t1)).alloc (.cells c2 t2) = w2 ∧ Fr [] w w2 ∧ Box w2 w.heap.size t1 c1 ∧ Box w2 (w.heap.size + 1) t2 c2 ∧ w2.heap.size = w.heap.size + 2 :=
 ⟨_,rfl,((Fr.refl [] w).alloc _).alloc _,(Box.new w t1 c1).keep ((Fr.refl [] _).alloc _),by simpa using Box.new (w.alloc (.cells c1 t1)) t2 c2,by simp⟩
theorem set_new {w : World} {g : Nat} {t : TypeId} {c : Array Value} (h : Box w g t c) (i : Nat) (v : Value) :
  ∃ w2,w.setCell ⟨g,i,none⟩ v = w2 ∧ Fr [g] w w2 ∧ Box w2 g t (c.setIfInBounds i v) ∧ w2.heap.size = w.heap.size :=
 ⟨_,rfl,(Fr.refl [g] w).set (.inl (by simp)) v,h.set i v,by simp⟩

theorem ok_inj {α : Type} {a b : α} {v w : World} (h : Result.ok a v = Result.ok b w) : a = b:=by injection h

theorem run_append_fresh {P : Program} (w : World) (base : Nat) (t ty e : TypeId) (i : TypeInfo) (z : Value) (size bytes : Nat) (ht : P.underlying t = some (.slice e)) (hi : P.info? e = some i) (hz : i.zero = some z)
  (hsize : i.size = size) (hby : i.bytes = bytes) (hzs : z.cells.size = size) (hsz : 0 < size)
  (v : Value) (n : Nat) (xs : List Value) (hown : w.ownsRow base e size v n xs)
  (a : Addr) (m c : Nat) (news : List Value) (hl : news.length = m * size) (hnews : ∀ j u,news[j]? = some u → w.cell? (a.add j) = some u) (h1 : ∀ u ∈ news,u.oneCell' = true)
  (h63 : n + m ≤ maxLen) (hbytes : (n + m) * bytes ≤ 140737488355328) (hbase : base ≤ w.heap.size) :
  ∃ v' w',(Builtin.append_ #[t,t] ty #[v,.slice (some a) m c]).run P w = .ok v' w' ∧ w'.ownsRow base e size v' (n + m) (xs ++ news) ∧ Fr (blockOf v).toList w w' ∧
   (v' = .slice none 0 0 ↔ v = .slice none 0 0 ∧ m = 0) ∧ ∀ b,blockOf v' = some b → blockOf v = some b ∨ w.heap.size ≤ b:=by
 obtain ⟨v',w',hr,ho,hg,hn⟩:=run_append_own (P:=P) w base t ty e i z size bytes ht hi hz hsize hby hzs hsz v n xs hown a m c news hl hnews h1 h63 hbytes hbase
 rw [blockOf_own] at hg
 refine ⟨v',w',hr,ho,((Fr.refl (blockOf v).toList w).grown hg (fun k hk => .inl (by simp [hk]))),hn,?_⟩
 subst hsize
 subst hby
 have h63' : n + m ≤ 9223372036854775807:=by simpa [maxLen] using h63
 rcases hown.2 with ⟨rfl,rfl⟩ | ⟨g,cap,cur,rfl,hbg,hgg,hnc,hcm,hcs,htake⟩
 ·by_cases hm : m = 0
  ·intro b hb
   rw [hn.2 ⟨rfl,hm⟩] at hb
   simp [blockOf] at hb
  ·have e2:=run_append_nil (P:=P) w t ty e i z ht hi hz a m c news hl hnews (by omega) (by omega) (by have hb:=hbytes;simp only [Nat.zero_add] at hb;omega)
   have hv:=ok_inj (hr.symm.trans e2)
   subst hv
   intro b hb
   simp only [blockOf,Option.some.injEq] at hb
   exact .inr (by omega)
 ·by_cases hroom : n + m ≤ cap
  ·have hfit : n * i.size + news.length ≤ cur.size:=by rw [hl,hcs,← Nat.add_mul];exact Nat.mul_le_mul_right _ hroom
   have e2:=run_append_room (P:=P) w t ty e i ht hi g n cap cur hgg a m c news hl hnews h1 hroom hfit
   have hv:=ok_inj (hr.symm.trans e2)
   subst hv
   exact fun b hb => .inl hb
  ·have e2:=run_append_grow (P:=P) w t ty e i z ht hi hz ⟨g,0,none⟩ n cap xs hown.1 (hown.cells (g:=g) rfl) a m c news hl hnews (by omega) (by omega) (growslice_fits (by omega) hbytes)
   have hv:=ok_inj (hr.symm.trans e2)
   subst hv
   intro b hb
   simp only [blockOf,Option.some.injEq] at hb
   exact .inr (by omega)

theorem wp_append_fresh {P : Program} {w : World} {o : Oper} {a : Act} {K : Act → World → Prop} {Q : Exit → Act → World → Prop} (s x : Operand) (t : TypeId)
  (ho : o.op = .call { callee:=.builtin .append,args:=#[s,x],argTypes:=#[t,t] })
  (base : Nat) (e : TypeId) (z : Value) (size bytes : Nat) (ht : P.underlying t = some (.slice e)) (hi : (P.info? e).map (fun i => (i.zero,i.size,i.bytes)) = some (some z,size,bytes)) (hz : z.cells.size = size) (hsz : 0 < size)
  (v : Value) (n : Nat) (xs : List Value) (hs : a.eval s = v) (hown : w.ownsRow base e size v n xs)
  (ad : Addr) (m c : Nat) (news : List Value) (hx : a.eval x = .slice (some ad) m c) (hl : news.length = m * size) (hnews : ∀ j u,news[j]? = some u → w.cell? (ad.add j) = some u) (h1 : ∀ u ∈ news,u.oneCell' = true)
  (h63 : n + m ≤ maxLen) (hbytes : (n + m) * bytes ≤ 140737488355328) (hbase : base ≤ w.heap.size)
  (h : ∀ v' w',w'.ownsRow base e size v' (n + m) (xs ++ news) → Fr (blockOf v).toList w w' → (∀ b,blockOf v' = some b → blockOf v = some b ∨ w.heap.size ≤ b) → (v' = .slice none 0 0 ↔ v = .slice none 0 0 ∧ m = 0) → K (a.put o.dst v') w') : o.wp P a w K Q:=by
 obtain ⟨i,hi1,hi2,hi3,hi4⟩:=info_parts hi
 obtain ⟨v',w',hr,h2,h3,h4,h5⟩:=run_append_fresh (P:=P) w base t o.type e i z size bytes ht hi1 hi2 hi3 hi4 hz hsz v n xs hown ad m c news hl hnews h1 h63 hbytes hbase
 unfold Oper.wp execOp
 simp only [ho,resolve,invoke,builtin,Sem.run_bind,Sem.run_pure,Result.andThen_ok,List.map_toArray,List.map_cons,List.map_nil,hs,hx,hr]
 exact h v' w' h2 h3 h5 h4

theorem step_append_fr {P : Program} {ops : Array Oper} {o : Oper} {a : Act} {w : World} {K : Act → World → Prop} {Q : Exit → Act → World → Prop} {E : Prop}
  (hgd : o.guard = none) (s x : Operand) (t : TypeId) (ho : o.op = .call { callee:=.builtin .append,args:=#[s,x],argTypes:=#[t,t] })
  (base : Nat) (e : TypeId) (z : Value) (size bytes : Nat) (ht : P.underlying t = some (.slice e)) (hi : (P.info? e).map (fun i => (i.zero,i.size,i.bytes)) = some (some z,size,bytes)) (hz : z.cells.size = size) (hsz : 0 < size)
  (v : Value) (n : Nat) (xs : List Value) (hs : a.eval s = v) (hown : w.ownsRow base e size v n xs)
  (ad : Addr) (m c : Nat) (news : List Value) (hx : a.eval x = .slice (some ad) m c) (hl : news.length = m * size) (hnews : ∀ j u,news[j]? = some u → w.cell? (ad.add j) = some u) (h1 : ∀ u ∈ news,u.oneCell' = true)
  (h63 : n + m ≤ maxLen) (hbytes : (n + m) * bytes ≤ 140737488355328) (hbase : base ≤ w.heap.size)
  (h : ∀ v' w',w'.ownsRow base e size v' (n + m) (xs ++ news) → Fr (blockOf v).toList w w' → (∀ b,blockOf v' = some b → blockOf v = some b ∨ w.heap.size ≤ b) → (v' = .slice none 0 0 ↔ v = .slice none 0 0 ∧ m = 0) → K (a.put o.dst v') w') :
  if Region.wanted o (yielded ops a.tmps) = true then Oper.wp P o a w K Q else E:=by
 rw [if_pos (by simp [Region.wanted,hgd])]
 exact wp_append_fresh s x t ho base e z size bytes ht hi hz hsz v n xs hs hown ad m c news hx hl hnews h1 h63 hbytes hbase h
theorem wpList_append_fr {P : Program} {w : World} {ops : Array Oper} {rest : List Oper} {o : Oper} {a : Act} {Q : Exit → Act → World → Prop} (hgd : o.guard = none) (s x : Operand) (t : TypeId)
  (ho : o.op = .call { callee:=.builtin .append,args:=#[s,x],argTypes:=#[t,t] })
  (base : Nat) (e : TypeId) (z : Value) (size bytes : Nat) (ht : P.underlying t = some (.slice e)) (hi : (P.info? e).map (fun i => (i.zero,i.size,i.bytes)) = some (some z,size,bytes)) (hz : z.cells.size = size) (hsz : 0 < size)
  (v : Value) (n : Nat) (xs : List Value) (hs : a.eval s = v) (hown : w.ownsRow base e size v n xs)
  (ad : Addr) (m c : Nat) (news : List Value) (hx : a.eval x = .slice (some ad) m c) (hl : news.length = m * size) (hnews : ∀ j u,news[j]? = some u → w.cell? (ad.add j) = some u) (h1 : ∀ u ∈ news,u.oneCell' = true)
  (h63 : n + m ≤ maxLen) (hbytes : (n + m) * bytes ≤ 140737488355328) (hbase : base ≤ w.heap.size)
  (h : ∀ v' w',w'.ownsRow base e size v' (n + m) (xs ++ news) → Fr (blockOf v).toList w w' → (∀ b,blockOf v' = some b → blockOf v = some b ∨ w.heap.size ≤ b) → (v' = .slice none 0 0 ↔ v = .slice none 0 0 ∧ m = 0) → wpList P ops Q rest (a.put o.dst v') w') : wpList P ops Q (o :: rest) a w :=
 wpList_plain hgd fun _ hK => wp_append_fresh s x t ho base e z size bytes ht hi hz hsz v n xs hs hown ad m c news hx hl hnews h1 h63 hbytes hbase fun v' w' h2 h3 h4 h5 => hK _ _ (h v' w' h2 h3 h4 h5)
theorem wpList_append_slf {P : Program} {w : World} {ops : Array Oper} {rest : List Oper} {o : Oper} {a : Act} {Q : Exit → Act → World → Prop} (hgd : o.guard = none) (s x : Operand) (t : TypeId)
  (ho : o.op = .call { callee:=.builtin .append,args:=#[s,x],argTypes:=#[t,t] })
  (base : Nat) (e : TypeId) (z : Value) (bytes : Nat) (ht : P.underlying t = some (.slice e)) (hi : (P.info? e).map (fun i => (i.zero,i.size,i.bytes)) = some (some z,1,bytes)) (hz : z.cells.size = 1)
  (v : Value) (n : Nat) (xs : List Value) (hs : a.eval s = v) (hown : w.ownsRow base e 1 v n xs)
  (vx : Value) (news : List Value) (hx : a.eval x = vx) (hnew : Sl w vx news) (h1 : ∀ u ∈ news,u.oneCell' = true)
  (h63 : n + news.length ≤ maxLen) (hbytes : (n + news.length) * bytes ≤ 140737488355328) (hbase : base ≤ w.heap.size)
  (h : ∀ v' w',w'.ownsRow base e 1 v' (n + news.length) (xs ++ news) → Fr (blockOf v).toList w w' → (∀ b,blockOf v' = some b → blockOf v = some b ∨ w.heap.size ≤ b) → wpList P ops Q rest (a.put o.dst v') w') : wpList P ops Q (o :: rest) a w:=by
 obtain ⟨i,hi1,hi2,hi3,hi4⟩:=info_parts hi
 obtain ⟨ad,cap,rfl,h2,h3,h4,h5⟩:=hnew
 cases ad with
 | none =>
  obtain rfl:=h4 rfl
  have hn : news = []:=List.eq_nil_of_length_eq_zero (by omega)
  subst hn
  refine wpList_append_own_none hgd s x t ho base e i 1 ht hi1 v n xs hs hown hx (h v w ?_ (Fr.refl _ _) (fun b hb => .inl hb))
  simpa using hown
 | some p =>
  refine wpList_append_fr hgd s x t ho base e z 1 bytes ht hi hz (by omega) v n xs hs hown p news.length cap news hx (by simp) ?_ h1 h63 hbytes hbase (fun v' w' g1 g2 g3 _ => h v' w' g1 g2 g3)
  intro j u hu
  have hj:=(List.getElem?_eq_some_iff.1 hu).1
  obtain ⟨sp,hb,hc⟩:=h5 p rfl (by omega)
  obtain ⟨pb,po,ps⟩:=p
  simp only at sp
  subst sp
  have:=hc j u hu
  have hadd : (⟨pb,po,none⟩ : Addr).add j = ⟨pb,po + j,none⟩:=by unfold Addr.add;split <;> simp_all
  rw [hadd]
  exact this

theorem set11 {w : World} {g : Nat} {t : TypeId} {y0 y1 y2 y3 y4 y5 y6 y7 y8 y9 y10 : Value} (h : Box w g t #[y0,y1,y2,y3,y4,y5,y6,y7,y8,y9,y10]) (x0 x1 x2 x3 x4 x5 x6 x7 x8 x9 x10 : Value) :
  ∃ w2,(((((((((((w.setCell ⟨g,0,none⟩ x0).setCell ⟨g,1,none⟩ x1).setCell ⟨g,2,none⟩ x2).setCell ⟨g,3,none⟩ x3).setCell ⟨g,4,none⟩ x4).setCell ⟨g,5,none⟩ x5).setCell ⟨g,6,none⟩ x6).setCell ⟨g,7,none⟩ x7).setCell ⟨g,8,none⟩ x8).setCell ⟨g,9,none⟩ x9).setCell ⟨g,10,none⟩ x10) = w2 ∧
   Fr [g] w w2 ∧ Box w2 g t #[x0,x1,x2,x3,x4,x5,x6,x7,x8,x9,x10]:=by
 have hm : g ∈ [g] ∨ w.heap.size ≤ g:=.inl (by simp)
 have h0 : Box _ g t #[x0,y1,y2,y3,y4,y5,y6,y7,y8,y9,y10]:=h.set 0 x0
 have h1 : Box _ g t #[x0,x1,y2,y3,y4,y5,y6,y7,y8,y9,y10]:=h0.set 1 x1
 have h2 : Box _ g t #[x0,x1,x2,y3,y4,y5,y6,y7,y8,y9,y10]:=h1.set 2 x2
 have h3 : Box _ g t #[x0,x1,x2,x3,y4,y5,y6,y7,y8,y9,y10]:=h2.set 3 x3
 have h4 : Box _ g t #[x0,x1,x2,x3,x4,y5,y6,y7,y8,y9,y10]:=h3.set 4 x4
 have h5 : Box _ g t #[x0,x1,x2,x3,x4,x5,y6,y7,y8,y9,y10]:=h4.set 5 x5
 have h6 : Box _ g t #[x0,x1,x2,x3,x4,x5,x6,y7,y8,y9,y10]:=h5.set 6 x6
 have h7 : Box _ g t #[x0,x1,x2,x3,x4,x5,x6,x7,y8,y9,y10]:=h6.set 7 x7
 have h8 : Box _ g t #[x0,x1,x2,x3,x4,x5,x6,x7,x8,y9,y10]:=h7.set 8 x8
 have h9 : Box _ g t #[x0,x1,x2,x3,x4,x5,x6,x7,x8,x9,y10]:=h8.set 9 x9
 have h10 : Box _ g t #[x0,x1,x2,x3,x4,x5,x6,x7,x8,x9,x10]:=h9.set 10 x10
 exact ⟨_,rfl,(((((((((((Fr.refl [g] w).set hm x0).set hm x1).set hm x2).set hm x3).set hm x4).set hm x5).set hm x6).set hm x7).set hm x8).set hm x9).set hm x10,h10⟩

theorem results_row_2 {P : Program} {fn : Func} {p q r : Tmp} {ty : TypeId} (h : fn.results = #[.cell p ty,.tmp q,.tmp r]) (tmps : Array Value) (w : World) (g : Nat) (t : TypeId) (c : Array Value) (d : TypeDesc)
  (hp : tmps.getD p undef = .pointer (some ⟨g,0,none⟩)) (hb : Box w g t c) (hu : P.underlying ty = some d) (hd : (match d with | .struct _ | .array _ _ => true | _ => false) = true) (hi : (P.info? ty).map (·.size) = some c.size) :
  (results fn tmps).run P w = .ok (.tuple #[.agg c,tmps.getD q undef,tmps.getD r undef]) w:=by
 have hp' : tmps[p]?.getD undef = .pointer (some ⟨g,0,none⟩):=by simpa using hp
 have h1:=run_loadVar_row (P:=P) w g t ty c (0,0) d hb hu hd hi
 simp [results,h,hp',asAddr,h1]
theorem results_row_1 {P : Program} {fn : Func} {p q : Tmp} {ty : TypeId} (h : fn.results = #[.cell p ty,.tmp q]) (tmps : Array Value) (w : World) (g : Nat) (t : TypeId) (c : Array Value) (d : TypeDesc)
  (hp : tmps.getD p undef = .pointer (some ⟨g,0,none⟩)) (hb : Box w g t c) (hu : P.underlying ty = some d) (hd : (match d with | .struct _ | .array _ _ => true | _ => false) = true) (hi : (P.info? ty).map (·.size) = some c.size) :
  (results fn tmps).run P w = .ok (.tuple #[.agg c,tmps.getD q undef]) w:=by
 have hp' : tmps[p]?.getD undef = .pointer (some ⟨g,0,none⟩):=by simpa using hp
 have h1:=run_loadVar_row (P:=P) w g t ty c (0,0) d hb hu hd hi
 simp [results,h,hp',asAddr,h1]
end Go.Proofs.YtcngfbjmpemehaaGreat
