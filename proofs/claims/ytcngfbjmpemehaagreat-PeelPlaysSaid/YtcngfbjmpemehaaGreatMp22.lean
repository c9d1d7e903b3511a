import Derived.OpenShut
import Derived.Deep.Fields
import Derived.Test.YtcngfbjmpemehaaGreatMp20
import Derived.Test.YtcngfbjmpemehaaGreatMp5
set_option maxRecDepth 100000
set_option maxHeartbeats 16000000
/- Slices of data of several cells,opened out of a law's arguments. -/
namespace Go.Proofs.YtcngfbjmpemehaaGreat
open Go.RowKit Go.ChangeShapes Go.WideShapes Go.Deep

section
variable {α : Type} {k : Nat} {R : World → List Value → α → List Nat → Prop}
theorem Els.of_listK {w : World} {C : Nat → List Value} {Y : Nat → α} {B : Nat → List Nat} : ∀ {is : List Nat},(∀ i ∈ is,R w (C i) (Y i) (B i)) → Els R (is.map Y) w (is.flatMap C) (is.flatMap B)
 | [],_ => ⟨rfl,rfl⟩
 | i :: is,h => ⟨C i,is.flatMap C,B i,is.flatMap B,by simp,by simp,h i (by simp),Els.of_listK fun j hj => h j (by simp [hj])⟩
theorem flat_atN {C : Nat → List Value} (hk : 0 < k) : ∀ {is : List Nat} {i : Nat} {x : Value},(∀ i ∈ is,(C i).length = k) → (is.flatMap C)[i]? = some x → ∃ j r n,i = j * k + r ∧ is[j]? = some n ∧ (C n)[r]? = some x
 | [],i,x,_,h => by simp at h
 | n :: is,i,x,hl,h => by
  rw [List.flatMap_cons] at h
  have h0:=hl n (by simp)
  by_cases hi : i < k
  ·rw [List.getElem?_append_left (by omega)] at h
   exact ⟨0,i,n,by omega,rfl,h⟩
  ·rw [List.getElem?_append_right (by omega),h0] at h
   obtain ⟨j,r,m,e,h1,h2⟩:=flat_atN hk (fun i hi => hl i (by simp [hi])) h
   refine ⟨j + 1,r,m,?_,h1,h2⟩
   rw [Nat.succ_mul]
   omega
end
section
variable {H : Type} {enc : TypeId × Value → H} {P : Program} {w : World} {base : Nat}
theorem open_els0 {α : Type} [Inhabited α] {k : Nat} {R : World → List Value → α → List Nat → Prop} {Q : α → Prop} {t e : TypeId} {fuel : Nat} {v : Value} {d : DataW H} {ps : List MemPlace}
  (hRk : Rep k R) (ht : P.underlying t = some (.slice e)) (hc : P.cellsOf e = k) (hk : 0 < k)
  (hR : ∀ (n : Nat) (cs : List Value) (d : DataW H) (ps : List MemPlace),DataW.trod enc P w base (fun _ => true) true n e cs = some (d,ps) → cs.length = k → ∃ y B,R w cs y B ∧ Q y)
  (h : DataW.trod enc P w base (fun _ => true) true fuel t [v] = some (d,ps)) : ∃ ys B,SlEls k R w v ys B ∧ ∀ y ∈ ys,Q y:=by
 rcases open_slice ht h with ⟨hcs,_⟩ | ⟨a,len,cap,m,n,D,Pl,hcs,_,hl,hm,hmm,hd,hx⟩
 ·simp only [List.cons.injEq,and_true] at hcs
  subst hcs
  exact ⟨[],[],SlEls.nil w,by simp⟩
 ·simp only [List.cons.injEq,and_true] at hcs
  subst hcs
  simp only [if_true] at hmm
  subst hmm
  rw [hc] at hx
  obtain ⟨rfl,-⟩:=Prod.mk.inj hd
  have each : ∀ i,i < m → ∃ y : (List Value × α × List Nat),y.1.length = k ∧ R w y.1 y.2.1 y.2.2 ∧ Q y.2.1 ∧ ∀ r,r < k → w.cell? ((a.add (i * k)).add r) = y.1[r]?:=by
   intro i hi
   obtain ⟨cs,hcs,ht⟩:=hx i hi
   obtain ⟨_,hlen,hat⟩:=World.cells?_some hcs
   obtain ⟨y,B,h1,h2⟩:=hR n cs (D i) (Pl i) ht hlen
   exact ⟨(cs,y,B),hlen,h1,h2,hat⟩
  obtain ⟨Y,hY⟩:=choose_lt each
  refine ⟨(List.range len).map fun i => (Y i).2.1,(List.range len).flatMap fun i => (Y i).2.2,⟨(List.range len).flatMap fun i => (Y i).1,some a,m,by simp,by simpa using hl,hm,(fun h => by cases h),Els.of_listK (C:=fun i => (Y i).1) (Y:=fun i => (Y i).2.1) (B:=fun i => (Y i).2.2) (fun i hi => (hY i (by have:=List.mem_range.1 hi;omega)).2.1),fun p hp h0 => ?_⟩,fun y hy => ?_⟩
  ·cases hp
   obtain ⟨hl0,hR0,-,k0⟩:=hY 0 h0
   have k1:=k0 0 hk
   rw [List.getElem?_eq_getElem (by omega)] at k1
   have h1:=cell_addr k1
   obtain ⟨ab,ao,asp⟩:=a
   have e0 : ((⟨ab,ao,asp⟩ : Addr).add (0 * k)).add 0 = ⟨ab,ao,asp⟩:=by simp [Addr.add]
   rw [e0] at h1
   obtain ⟨hs,hb⟩:=h1
   simp only at hs hb
   subst hs
   have hadd : ∀ o i,(⟨ab,o,none⟩ : Addr).add i = ⟨ab,o + i,none⟩:=fun o i => by unfold Addr.add;split <;> simp_all
   refine ⟨rfl,hb,fun i x hx => ?_⟩
   obtain ⟨j,r,q,rfl,h1,h2⟩:=flat_atN hk (fun i hi => (hY i (by have:=List.mem_range.1 hi;omega)).1) hx
   have hj : j < len:=by
    have:=(List.getElem?_eq_some_iff.1 h1).1
    simpa using this
   rw [List.getElem?_range hj] at h1
   cases h1
   have hr : r < k:=by
    have h3:=(List.getElem?_eq_some_iff.1 h2).1
    rw [(hY j (by omega)).1] at h3
    exact h3
   have:=(hY j (by omega)).2.2.2 r hr
   rw [hadd,hadd] at this
   rw [show ao + (j * k + r) = ao + j * k + r by omega,this]
   exact h2
  ·obtain ⟨i,hi,rfl⟩:=List.mem_map.1 hy
   exact (hY i (by have:=List.mem_range.1 hi;omega)).2.2.1
end
end Go.Proofs.YtcngfbjmpemehaaGreat
