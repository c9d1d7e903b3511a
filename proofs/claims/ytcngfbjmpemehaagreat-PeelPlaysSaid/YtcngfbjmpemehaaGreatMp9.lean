import Derived.ChangeSame
import Derived.ChangeSlices
import Derived.Deep.Slices
import Derived.Test.YtcngfbjmpemehaaGreatMp3
set_option maxRecDepth 100000
set_option maxHeartbeats 16000000
/- Slices whose elements are slices,opened out of the arguments of a law. No program in sight. -/
namespace Go.Proofs.YtcngfbjmpemehaaGreat
open Go.RowKit Go.ChangeShapes Go.WideShapes Go.Deep

def SlOf {α : Type} (R : World → Value → α → Prop) (w : World) (v : Value) (ys : List α) : Prop :=
 ∃ vs : List Value,Sl w v vs ∧ vs.length = ys.length ∧ ∀ (i : Nat) (x : Value) (a : α),vs[i]? = some x → ys[i]? = some a → R w x a
theorem SlOf.shape {α : Type} {R : World → Value → α → Prop} {w : World} {v : Value} {ys : List α} (h : SlOf R w v ys) : ∃ a c,v = .slice a ys.length c:=by
 obtain ⟨vs,h1,h2,_⟩:=h
 obtain ⟨a,c,e⟩:=h1.shape
 exact ⟨a,c,by rw [e,h2]⟩
theorem SlOf.at_ {α : Type} {R : World → Value → α → Prop} {w : World} {a : Option Addr} {n cap : Nat} {ys : List α} (h : SlOf R w (.slice a n cap) ys) {k : Nat} (hk : k < n) :
  ∃ b o x y,a = some ⟨b,o,none⟩ ∧ b < w.heap.size ∧ ys[k]? = some y ∧ w.cell? ⟨b,o + k,none⟩ = some x ∧ R w x y:=by
 obtain ⟨vs,h1,h2,h3⟩:=h
 obtain ⟨b,o,e,hb,hc⟩:=h1.at_ hk
 have hl : k < vs.length:=by have:=(h1.len).1;omega
 have hl2 : k < ys.length:=by omega
 exact ⟨b,o,_,_,e,hb,List.getElem?_eq_getElem hl2,hc k _ (List.getElem?_eq_getElem hl),h3 k _ _ (List.getElem?_eq_getElem hl) (List.getElem?_eq_getElem hl2)⟩
theorem SlOf.len {α : Type} {R : World → Value → α → Prop} {w : World} {a : Option Addr} {n cap : Nat} {ys : List α} (h : SlOf R w (.slice a n cap) ys) : n = ys.length ∧ n ≤ cap ∧ cap ≤ maxLen:=by
 obtain ⟨vs,h1,h2,h3⟩:=h
 obtain ⟨e1,e2,e3,_⟩:=h1.len
 exact ⟨by omega,e2,e3⟩

theorem cell_addr {w : World} {a : Addr} {v : Value} (h : w.cell? a = some v) : a.spot = none ∧ a.block < w.heap.size:=by
 refine ⟨?_,World.block_lt_of_cell? _ _ h⟩
 unfold World.cell? at h
 split at h
 ·split at h
  ·cases h
  ·rename_i hs;simpa using hs
 ·cases h

section
variable {H : Type} {enc : TypeId × Value → H} {P : Program} {w : World} {base : Nat}
theorem open_list {α : Type} [Inhabited α] (R : World → Value → α → Prop) {t e : TypeId} {fuel : Nat} {v : Value} {x : DataW H × List MemPlace} (ht : P.underlying t = some (.slice e)) (hc : P.cellsOf e = 1)
  (hR : ∀ (n : Nat) (u : Value) (y : DataW H × List MemPlace),DataW.trod enc P w base (fun _ => true) true n e [u] = some y → ∃ a,R w u a)
  (h : DataW.trod enc P w base (fun _ => true) true fuel t [v] = some x) : ∃ ys : List α,SlOf R w v ys:=by
 rcases open_slice1 ht hc h with ⟨hcs,_⟩ | ⟨a,len,cap,m,n,V,D,Pl,hcs,_,hl,hm,hmm,_,hx⟩
 ·simp only [List.cons.injEq,and_true] at hcs
  subst hcs
  exact ⟨[],[],Sl.nil _,rfl,fun i x a hx => by simp at hx⟩
 ·simp only [List.cons.injEq,and_true] at hcs
  subst hcs
  simp only [if_true] at hmm
  subst hmm
  obtain ⟨A,hA⟩:=choose_lt (α:=α) (p:=fun i y => R w (V i) y) (fun i hi => hR _ _ _ (hx i hi).2)
  refine ⟨(List.range len).map A,(List.range len).map V,⟨some a,m,by simp,by simpa using hl,hm,(fun h => by cases h),fun p hp h0 => ?_⟩,by simp,fun i y z hy hz => ?_⟩
  ·cases hp
   have h1:=cell_addr (hx 0 h0).1
   obtain ⟨ab,ao,asp⟩:=a
   have e0 : (⟨ab,ao,asp⟩ : Addr).add 0 = ⟨ab,ao,asp⟩:=by simp [Addr.add]
   rw [e0] at h1
   obtain ⟨hs,hb⟩:=h1
   simp only at hs hb
   subst hs
   refine ⟨rfl,hb,fun i y hy => ?_⟩
   have hi : i < len:=by
    have:=(List.getElem?_eq_some_iff.1 hy).1
    simpa using this
   have hcl:=(hx i (by omega)).1
   have hadd : (⟨ab,ao,none⟩ : Addr).add i = ⟨ab,ao + i,none⟩:=by unfold Addr.add;split <;> simp_all
   rw [hadd] at hcl
   rw [hcl]
   rw [List.getElem?_map,List.getElem?_range hi] at hy
   simpa using hy
  ·have hi : i < len:=by
    have:=(List.getElem?_eq_some_iff.1 hy).1
    simpa using this
   rw [List.getElem?_map,List.getElem?_range hi] at hy hz
   simp only [Option.map_some,Option.some.injEq] at hy hz
   subst hy hz
   exact hA i (by omega)
theorem open_nums {α : Type} [Inhabited α] {t e : TypeId} {k : IntKind} {fuel : Nat} {v : Value} {x : DataW H × List MemPlace} (f : Int → α) (g : α → Value) (hg : ∀ n,(Lit.int k n).wf = true → g (f n) = .int k n)
  (ht : P.underlying t = some (.slice e)) (he : P.underlying e = some (.int k)) (hc : P.cellsOf e = 1)
  (h : DataW.trod enc P w base (fun _ => true) true fuel t [v] = some x) : ∃ l : List α,Sl w v (l.map g):=by
 obtain ⟨ys,vs,h1,h2,h3⟩:=open_list (fun _ u a => u = g a) ht hc (fun n u y hy => by
  obtain ⟨z,q,-,r⟩:=DataW.trod_int he hy
  simp only [List.cons.injEq,and_true] at q
  exact ⟨f z,by rw [hg z r,q]⟩) h
 refine ⟨ys,?_⟩
 have : vs = ys.map g:=by
  apply List.ext_getElem? 
  intro i
  rw [List.getElem?_map]
  by_cases hi : i < vs.length
  ·have e1 : vs[i]? = some vs[i]:=List.getElem?_eq_getElem hi
   have e2 : ys[i]? = some (ys[i]'(by omega)):=List.getElem?_eq_getElem (by omega)
   rw [e1,e2,h3 i _ _ e1 e2]
   first | done | rfl
  ·rw [List.getElem?_eq_none (by omega),List.getElem?_eq_none (by omega)]
   first | done | rfl
 rw [← this]
 exact h1
end

end Go.Proofs.YtcngfbjmpemehaaGreat
