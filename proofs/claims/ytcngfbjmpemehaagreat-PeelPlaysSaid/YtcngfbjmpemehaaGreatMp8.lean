import Derived.Laws.IdiomCopy
import Derived.Test.YtcngfbjmpemehaaGreatMp5
set_option maxRecDepth 100000
set_option maxHeartbeats 16000000
open List renaming getElem_toArray → zz1, getElem_cons_zero → zz2, getElem_cons_succ → zz3, setIfInBounds_toArray → zz4, set_cons_zero → zz5, set_cons_succ → zz6, getElem?_toArray → zz7, getElem?_cons_succ → zz8, getElem?_cons_zero → zz9
/- Elements of a row of the call's own that move to its front,as slices.DeleteFunc moves them;a tail cleared. No program in sight. -/
namespace Go.Proofs.YtcngfbjmpemehaaGreat
open Go.RowKit

def replL (l : List Value) (o : Nat) (cs : List Value) : List Value:=l.take o ++ cs ++ l.drop (o + cs.length)
theorem notin {g b : Nat} {B : List Nat} (hg : g ∉ B) (h : b ∈ B) : b ∉ [g]:=fun hm => by
 rw [List.mem_singleton] at hm
 exact hg (hm ▸ h)
theorem replL_len {l : List Value} {o : Nat} {cs : List Value} (h : o + cs.length ≤ l.length) : (replL l o cs).length = l.length:=by
 unfold replL;simp;omega
theorem replL_set {l : List Value} {o : Nat} {v : Value} {r : List Value} (h : o + (r.length + 1) ≤ l.length) : replL (l.set o v) (o + 1) r = replL l o (v :: r):=by
 have ho : o < l.length:=by omega
 apply List.ext_getElem?
 intro i
 unfold replL
 simp only [List.getElem?_append,List.length_append,List.length_take,List.length_set,List.length_cons,List.getElem?_take,List.getElem?_drop,List.getElem?_set]
 by_cases h1 : i < o
 ·have e1 : i < min (o + 1) l.length:=by omega
  have e2 : i < min (o + 1) l.length + r.length:=by omega
  have e3 : i < min o l.length:=by omega
  have e4 : i < min o l.length + (r.length + 1):=by omega
  simp only [e1,e2,e3,e4,if_true,show i < o + 1 by omega,h1,show ¬ o = i by omega,if_false]
 ·by_cases h2 : i = o
  ·subst h2
   have e1 : i < min (i + 1) l.length:=by omega
   have e2 : i < min (i + 1) l.length + r.length:=by omega
   have e3 : ¬ i < min i l.length:=by omega
   have e4 : i < min i l.length + (r.length + 1):=by omega
   simp only [e1,e2,e3,e4,if_true,if_false,show i < i + 1 by omega,ho]
   rw [show i - min i l.length = 0 by omega]
   rfl
  ·by_cases h3 : i < o + 1 + r.length
   ·have e1 : ¬ i < min (o + 1) l.length:=by omega
    have e2 : i < min (o + 1) l.length + r.length:=by omega
    have e3 : ¬ i < min o l.length:=by omega
    have e4 : i < min o l.length + (r.length + 1):=by omega
    simp only [e1,e2,e3,e4,if_true,if_false]
    rw [show i - min o l.length = (i - min (o + 1) l.length) + 1 by omega,zz8]
   ·have e2 : ¬ i < min (o + 1) l.length + r.length:=by omega
    have e4 : ¬ i < min o l.length + (r.length + 1):=by omega
    simp only [e2,e4,if_false]
    rw [if_neg (by omega)]
    congr 1
    omega
theorem Box.setCells {g : Nat} {t : TypeId} : ∀ (cs : List Value) (o : Nat) (w : World) (c : Array Value),Box w g t c → o + cs.length ≤ c.size → Box (w.setCells g o cs) g t (replL c.toList o cs).toArray
 | [],o,w,c,h,_ => by
  have : (replL c.toList o []).toArray = c:=by
   unfold replL
   simp
  rw [this]
  exact h
 | v :: r,o,w,c,h,hl => by
  have h1:=Box.setCells r (o + 1) (w.setCell ⟨g,o,none⟩ v) (c.setIfInBounds o v) (h.set o v) (by simp at hl ⊢;omega)
  rw [Array.toList_setIfInBounds,replL_set (by simp at hl ⊢;omega)] at h1
  exact h1
theorem Fr.setCells (g : Nat) : ∀ (cs : List Value) (o : Nat) (w : World),Fr [g] w (w.setCells g o cs)
 | [],_,w => Fr.refl _ _
 | v :: r,o,w => ((Fr.refl [g] w).set (g:=g) (i:=o) (.inl (List.mem_singleton_self _)) v).trans (by
   have:=Fr.setCells g r (o + 1) (w.setCell ⟨g,o,none⟩ v)
   exact this)
theorem Box.there {w : World} {g : Nat} {t : TypeId} {c : Array Value} (h : Box w g t c) {o n : Nat} (hn : o + n ≤ c.size) : w.there g o n:=fun j hj =>
 ⟨by rw [h.cell];simp;omega,h.free _⟩

section
variable {α : Type} {k : Nat} {R : World → List Value → α → List Nat → Prop}
theorem Els.take (hR : Rep k R) : ∀ {ys : List α} {w : World} {cells : List Value} {B : List Nat} (j : Nat),j ≤ ys.length → Els R ys w cells B → ∃ B1,Els R (ys.take j) w (cells.take (j * k)) B1 ∧ ∀ b ∈ B1,b ∈ B
 | ys,w,cells,B,0,_,h => ⟨[],by simp [Els],by simp⟩
 | [],w,cells,B,j + 1,hj,h => by simp at hj
 | y :: ys,w,cells,B,j + 1,hj,h => by
  obtain ⟨c,rest,B1,B2,rfl,rfl,h1,h2⟩:=h
  obtain ⟨B3,h3,h4⟩:=Els.take hR j (by simpa using hj) h2
  refine ⟨B1 ++ B3,⟨c,rest.take (j * k),B1,B3,?_,rfl,h1,h3⟩,?_⟩
  ·rw [List.take_append,hR.len h1,List.take_of_length_le (by rw [hR.len h1,Nat.succ_mul];omega)]
   congr 2
   rw [Nat.succ_mul];omega
  ·intro b hb
   rcases List.mem_append.1 hb with hb | hb
   ·simp [hb]
   ·simp [h4 b hb]
structure DelI (R : World → List Value → α → List Nat → Prop) (k : Nat) (w : World) (g : Nat) (e : TypeId) (cap : Nat) (cells : List Value) (ys : List α) (B : List Nat) (p : α → Bool) (i j : Nat) : Prop where
 ex : ∃ cur cells1 B1,Box w g e cur ∧ cur.size = cap * k ∧ Els R ((ys.take j).filter fun y => !p y) w cells1 B1 ∧ (∀ b ∈ B1,b ∈ B) ∧ cur.toList.take (i * k) = cells1 ∧ (cur.toList.take (ys.length * k)).drop (j * k) = cells.drop (j * k)
 i : i = ((ys.take j).filter fun y => !p y).length
 j : j ≤ ys.length
 cap : ys.length ≤ cap
theorem DelI.start (hR : Rep k R) {w : World} {g : Nat} {e : TypeId} {cap : Nat} {cur : Array Value} {cells : List Value} {ys : List α} {B : List Nat} {p : α → Bool} {i : Nat} (hb : Box w g e cur) (hs : cur.size = cap * k) (hn : ys.length ≤ cap) (ht : cur.toList.take (ys.length * k) = cells)
  (hE : Els R ys w cells B) (hi : i < ys.length) (hno : ∀ y ∈ ys.take i,p y = false) (hp : ∃ y,ys[i]? = some y ∧ p y = true) : DelI R k w g e cap cells ys B p i (i + 1):=by
 obtain ⟨y,hy,hp⟩:=hp
 have ef : ((ys.take (i + 1)).filter fun y => !p y) = ys.take i:=by
  rw [List.take_add_one,hy,List.filter_append,List.filter_eq_self.2 (fun y hy => by simp [hno y hy])]
  simp [hp]
 obtain ⟨B1,h1,h2⟩:=hE.take hR i (by omega)
 refine ⟨⟨cur,_,B1,hb,hs,by rw [ef];exact h1,h2,?_,by rw [ht]⟩,by rw [ef,List.length_take];omega,hi,hn⟩
 rw [← ht,List.take_take]
 congr 1
 exact (Nat.min_eq_left (Nat.mul_le_mul_right _ (by omega))).symm
theorem DelI.fr (hR : Rep k R) {w w' : World} {g : Nat} {e : TypeId} {cap : Nat} {cells : List Value} {ys : List α} {B : List Nat} {p : α → Bool} {i j : Nat} (h : DelI R k w g e cap cells ys B p i j) (hf : Fr [] w w') : DelI R k w' g e cap cells ys B p i j:=by
 obtain ⟨⟨cur,cells1,B1,hb,hs,hE,hB,h1,h2⟩,hi,hj,hc⟩:=h
 exact ⟨⟨cur,cells1,B1,hb.keep hf,hs,hE.fr hR hf (by simp),hB,h1,h2⟩,hi,hj,hc⟩
theorem DelI.le {w : World} {g : Nat} {e : TypeId} {cap : Nat} {cells : List Value} {ys : List α} {B : List Nat} {p : α → Bool} {i j : Nat} (h : DelI R k w g e cap cells ys B p i j) : i ≤ j:=by
 rw [h.i]
 refine Nat.le_trans (List.length_filter_le _ _) ?_
 rw [List.length_take]
 exact Nat.min_le_left _ _
theorem DelI.at_ (hR : Rep k R) {w0 w : World} {g : Nat} {e : TypeId} {cap : Nat} {cells : List Value} {ys : List α} {B : List Nat} {p : α → Bool} {i j : Nat} (h : DelI R k w g e cap cells ys B p i j) (hE : Els R ys w0 cells B) (hf : Fr [g] w0 w) (hg : g ∉ B) (hj : j < ys.length) :
  ∃ c y B1,ys[j]? = some y ∧ R w c y B1 ∧ (∀ b ∈ B1,b ∈ B) ∧ w.rangeAt g (j * k) c:=by
 obtain ⟨⟨cur,cells1,B1,hb,hs,-,-,-,h2⟩,-,-,hc⟩:=h
 obtain ⟨c,B2,q1,q2,q3⟩:=hE.at_ hR j hj
 refine ⟨c,_,B2,List.getElem?_eq_getElem hj,hR.fr q1 hf (fun b hb => notin hg (q2 b hb)),q2,fun u v hv => ?_⟩
 have h3:=q3 u v hv
 rw [hb.cell,← Array.getElem?_toList]
 have hu : u < k:=by rw [← hR.len q1];exact (List.getElem?_eq_some_iff.1 hv).1
 have h4 : (cells.drop (j * k))[u]? = some v:=by rw [List.getElem?_drop];exact h3
 rw [← h2,List.getElem?_drop,List.getElem?_take] at h4
 split at h4
 ·exact h4
 ·cases h4
theorem DelI.skip {w : World} {g : Nat} {e : TypeId} {cap : Nat} {cells : List Value} {ys : List α} {B : List Nat} {p : α → Bool} {i j : Nat} {y : α} (h : DelI R k w g e cap cells ys B p i j) (hy : ys[j]? = some y) (hp : p y = true) : DelI R k w g e cap cells ys B p i (j + 1):=by
 obtain ⟨⟨cur,cells1,B1,hb,hs,hE,hB,h1,h2⟩,hi,hj,hc⟩:=h
 have ef : ((ys.take (j + 1)).filter fun y => !p y) = (ys.take j).filter fun y => !p y:=by
  rw [List.take_add_one,hy,List.filter_append]
  simp [hp]
 refine ⟨⟨cur,cells1,B1,hb,hs,by rw [ef];exact hE,hB,h1,?_⟩,by rw [ef];exact hi,(List.getElem?_eq_some_iff.1 hy).1,hc⟩
 have:=congrArg (List.drop k) h2
 rw [List.drop_drop,List.drop_drop] at this
 rw [Nat.succ_mul]
 exact this
theorem DelI.put (hR : Rep k R) {w : World} {g : Nat} {e : TypeId} {cap : Nat} {cells : List Value} {ys : List α} {B B1 : List Nat} {p : α → Bool} {i j : Nat} {y : α} {c : List Value} (h : DelI R k w g e cap cells ys B p i j) (hij : i < j) (hg : g ∉ B) (hy : ys[j]? = some y) (hp : p y = false)
  (hc : R w c y B1) (hB1 : ∀ b ∈ B1,b ∈ B) : DelI R k (w.setCells g (i * k) c) g e cap cells ys B p (i + 1) (j + 1):=by
 obtain ⟨⟨cur,cells1,B0,hb,hs,hE,hB,h1,h2⟩,hi,hj,hca⟩:=h
 have hlt:=(List.getElem?_eq_some_iff.1 hy).1
 have ef : ((ys.take (j + 1)).filter fun y => !p y) = ((ys.take j).filter fun y => !p y) ++ [y]:=by
  rw [List.take_add_one,hy,List.filter_append]
  simp [hp]
 have hcl:=hR.len hc
 have m1 : i * k + k ≤ j * k:=by rw [← Nat.succ_mul];exact Nat.mul_le_mul_right _ hij
 have m2 : j * k + k ≤ ys.length * k:=by rw [← Nat.succ_mul];exact Nat.mul_le_mul_right _ hlt
 have m3 : ys.length * k ≤ cap * k:=Nat.mul_le_mul_right _ hca
 have hfr:=Fr.setCells g c (i * k) w
 have hbs:=Box.setCells c (i * k) w cur hb (by omega)
 have hrl : (replL cur.toList (i * k) c).length = cap * k:=by rw [replL_len (by simp;omega)];simpa using hs
 refine ⟨⟨_,cells1 ++ c,B0 ++ B1,hbs,by simpa using hrl,?_,?_,?_,?_⟩,by rw [ef,List.length_append,← hi];rfl,hlt,hca⟩
 ·rw [ef]
  exact (hE.fr hR hfr (fun b hb => notin hg (hB b hb))).snoc (hR.fr hc hfr (fun b hb => notin hg (hB1 b hb)))
 ·intro b hb
  rcases List.mem_append.1 hb with hb | hb
  ·exact hB b hb
  ·exact hB1 b hb
 ·rw [← h1,Nat.succ_mul]
  unfold replL
  rw [List.take_append_of_le_length (by simp;omega),List.take_of_length_le (by simp;omega)]
 ·have e1 : (replL cur.toList (i * k) c).drop ((j + 1) * k) = cur.toList.drop ((j + 1) * k):=by
   unfold replL
   rw [Nat.succ_mul,List.drop_append,List.drop_of_length_le (by simp;omega),List.nil_append,List.drop_drop]
   congr 1
   simp
   omega
  have:=congrArg (List.drop k) h2
  rw [List.drop_drop,List.drop_drop,List.drop_take] at this
  show List.drop ((j + 1) * k) (List.take _ (replL cur.toList (i * k) c)) = _
  rw [List.drop_take,e1,Nat.succ_mul]
  exact this
theorem DelI.there {w : World} {g : Nat} {e : TypeId} {cap : Nat} {cells : List Value} {ys : List α} {B : List Nat} {p : α → Bool} {i j m : Nat} (h : DelI R k w g e cap cells ys B p i j) (hm : i + m ≤ ys.length) : w.there g (i * k) (m * k):=by
 obtain ⟨⟨cur,cells1,B1,hb,hs,-⟩,-,-,hc⟩:=h
 refine hb.there ?_
 rw [hs,← Nat.add_mul]
 exact Nat.mul_le_mul_right _ (by omega)
theorem DelI.done (hR : Rep k R) {w : World} {g base : Nat} {e : TypeId} {cap : Nat} {cells : List Value} {ys : List α} {B : List Nat} {p : α → Bool} {i : Nat} (h : DelI R k w g e cap cells ys B p i ys.length) (hg : g ∉ B) (hbase : base ≤ g) (hcap : cap ≤ maxLen)
  (Z : List Value) (hZ : Z.length = (ys.length - i) * k) : ∃ B',OwnEls k R (w.setCells g (i * k) Z) base e (.slice (some ⟨g,0,none⟩) i cap) (ys.filter fun y => !p y) B' ∧ ∀ b ∈ B',b ∈ B:=by
 have hle:=h.le
 obtain ⟨⟨cur,cells1,B0,hb,hs,hE,hB,h1,h2⟩,hi,hj,hca⟩:=h
 rw [List.take_length] at hE hi
 have m3 : ys.length * k ≤ cap * k:=Nat.mul_le_mul_right _ hca
 have m4 : i * k + (ys.length - i) * k = ys.length * k:=by rw [← Nat.add_mul];congr 1;omega
 have hfr:=Fr.setCells g Z (i * k) w
 have hbs:=Box.setCells Z (i * k) w cur hb (by omega)
 have hrl : (replL cur.toList (i * k) Z).length = cap * k:=by rw [replL_len (by simp;omega)];simpa using hs
 have hl : cells1.length = (ys.filter fun y => !p y).length * k:=hE.len hR
 refine ⟨B0,⟨cells1,⟨hl,.inr ⟨g,cap,_,by rw [← hi],hbase,hbs,by rw [← hi];omega,hcap,by simpa using hrl,?_⟩⟩,hE.fr hR hfr (fun b hb => notin hg (hB b hb)),?_⟩,hB⟩
 ·rw [← hi,← h1]
  unfold replL
  show List.take (i * k) (_ ++ _ ++ _) = _
  rw [List.append_assoc,List.take_append_of_le_length (by simp;omega),List.take_take,Nat.min_self]
 ·intro b hb
  simp [blockOf] at hb
  subst hb
  exact fun hm => hg (hB _ hm)
end
theorem run_clear_rows {P : Program} (w : World) (t e ty : TypeId) (z : Value) (k : Nat) (ht : P.underlying t = some (.slice e)) (hv : ∀ w,(zeroValue e).run P w = .ok z w) (hz : z.cells.size = k) (hk : 0 < k) (h1 : ∀ u ∈ z.cells.toList,u.oneCell' = true) (b o n c : Nat) (hn : 0 < n)
  (hc : w.there b o (n * k)) : ∃ Z : List Value,Z.length = n * k ∧ (Builtin.clear_ #[t] ty #[.slice (some ⟨b,o,none⟩) n c]).run P w = .ok (.tuple #[]) (w.setCells b o Z):=by
 refine ⟨(Builtin.zeroCells z.cells n).toList,by simp [Builtin.zeroCells,hz],?_⟩
 have hlen : (Builtin.zeroCells z.cells n).toList.length = n * k:=by simp [Builtin.zeroCells,hz]
 have hst:=run_storeCells_cells (P:=P) b o (Builtin.zeroCells z.cells n).toList 0 w (fun j hj => (hc j (by rw [← hlen];exact hj)).1) (fun j hj => (hc j (by rw [← hlen];exact hj)).2) (by
  intro v hv'
  simp only [Builtin.zeroCells,Array.toList_map,List.mem_map] at hv'
  obtain ⟨i,-,rfl⟩:=hv'
  have hlt : i % z.cells.size < z.cells.size:=Nat.mod_lt _ (by omega)
  refine h1 _ ?_
  have e1 : z.cells[i % z.cells.size]! = z.cells[i % z.cells.size]:=by simp [getElem!_def,hlt]
  rw [e1]
  exact Array.getElem_mem_toList hlt)
 simp only [Nat.add_zero] at hst
 obtain ⟨m,rfl⟩ : ∃ m,n = m + 1:=⟨n - 1,by omega⟩
 simp [Builtin.clear_,run_underlying ht,hv,hst]
end Go.Proofs.YtcngfbjmpemehaaGreat
