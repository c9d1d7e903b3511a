import Derived.Deep.RegionHeld3
import Derived.StillTail
import Derived.Deep.MidRow
import Derived.Test.YtcngfbjmpemehaaGreatMp3
set_option maxRecDepth 100000
set_option maxHeartbeats 16000000
/- A region that draws its order: loads may be taken first though stores that wait for them write their cells. No program in sight. -/
namespace Go.Proofs.YtcngfbjmpemehaaGreat
open Go.RowKit

section
variable {P : Program} {ops : Array Oper} {Q : Exit → Act → World → Prop} {md : Region.Mode} {S S' : World → Prop} {T : List Nat}

def wpAnyT (P : Program) (md : Region.Mode) (ops : Array Oper) (Q : Exit → Act → World → Prop) (S : World → Prop) (T : List Nat) : Nat → Array Bool → Act → World → Prop
 | 0,listed,a,w => Region.ready md ops listed = [] ∧ Q .normal a w
 | fuel + 1,listed,a,w =>
  (Region.ready md ops listed = [] → Q .normal a w) ∧
  ∀ i ∈ Region.ready md ops listed,wpOp P ops Q i (fun a' w' => (i ∉ T → S w') ∧ wpAnyT P md ops Q S T fuel (listed.setIfInBounds i true) a' w') a w

theorem wpAnyT_any : ∀ (fuel : Nat) (listed : Array Bool) (a : Act) (w : World),wpAnyT P md ops Q S T fuel listed a w → wpAny P md ops Q fuel listed a w
 | 0,_,_,_,h => h
 | fuel + 1,_,_,_,h => ⟨h.1,fun i hi => wpOp_mono (fun a' w' h' => wpAnyT_any fuel _ a' w' h'.2) (h.2 i hi)⟩

def closedB (md : Region.Mode) (ops : Array Oper) (listed : Array Bool) : Bool :=
 (List.range ops.size).all fun j => !listed.getD j false || ((ops[j]?).map (·.after.all fun e => !Region.binds md e || listed.getD e.on false)).getD true
def Closed (md : Region.Mode) (ops : Array Oper) (listed : Array Bool) : Prop :=
 ∀ j oj,ops[j]? = some oj → listed.getD j false = true → ∀ e ∈ oj.after,Region.binds md e = true → listed.getD e.on false = true
theorem closed_of {listed : Array Bool} (h : closedB md ops listed = true) : Closed md ops listed:=by
 intro j oj hj hl e he hb
 unfold closedB at h
 rw [List.all_eq_true] at h
 have h1:=h j (List.mem_range.2 (Array.getElem?_eq_some_iff.1 hj).1)
 rw [hl,hj] at h1
 simp only [Bool.not_true,Bool.false_or,Option.map_some,Option.getD_some] at h1
 have h2:=Array.all_eq_true_iff_forall_mem.1 h1 e he
 rw [hb] at h2
 simpa using h2
theorem Closed.set {listed : Array Bool} {i : Nat} (h : Closed md ops listed) (hi : i ∈ Region.ready md ops listed) : Closed md ops (listed.setIfInBounds i true):=by
 intro j oj hj hl e he hb
 by_cases hji : i = j
 ·subst hji
  obtain ⟨_,o,ho,hall⟩:=mem_ready.1 hi
  rw [hj] at ho
  cases ho
  exact getD_set_true (hall e he hb)
 ·rw [getD_set_ne false hji] at hl
  exact getD_set_true (h j oj hj hl e he hb)

def waitsB (md : Region.Mode) (ops : Array Oper) (i : Nat) : Nat → Nat → Bool
 | 0,_ => false
 | f + 1,j => match ops[j]? with
  | none => false
  | some o => o.after.any fun e => Region.binds md e && (e.on == i || waitsB md ops i f e.on)
theorem waits_spec {i : Nat} {listed : Array Bool} (hc : Closed md ops listed) : ∀ (f j : Nat) (oj : Oper),ops[j]? = some oj → waitsB md ops i f j = true →
  (∀ e ∈ oj.after,Region.binds md e = true → listed.getD e.on false = true) → listed.getD i false = true
 | 0,_,_,_,h,_ => by cases h
 | f + 1,j,oj,hj,h,hall => by
  unfold waitsB at h
  rw [hj] at h
  obtain ⟨e,he,hb⟩:=Array.any_eq_true'.1 h
  simp only [Bool.and_eq_true,Bool.or_eq_true,beq_iff_eq] at hb
  obtain ⟨hb,hb2⟩:=hb
  have hl:=hall e he hb
  rcases hb2 with hb2 | hb2
  ·rw [← hb2];exact hl
  ·cases ho : ops[e.on]? with
   | none =>
    cases f with
    | zero => cases hb2
    | succ f => unfold waitsB at hb2;rw [ho] at hb2;cases hb2
   | some o2 => exact waits_spec hc f e.on o2 ho hb2 (hc e.on o2 ho hl)

theorem wpAnyT_first {i : Nat} {oi : Oper} {v : Value} (hi : ops[i]? = some oi) (hsel : ∀ (j : Nat) (o : Oper) cs b,ops[j]? = some o → o.op ≠ .select cs b)
  (hQ : ∀ c a w,Q (.panic c) (a.put oi.dst v) w → Q (.panic c) a w)
  (hT : (∀ j ∈ T,waitsB md ops i ops.size j = true) ∨ (i ∈ T ∧ ∀ w,S' w)) (hSS : ∀ w,S w → S' w) :
  ∀ (fuel : Nat) (listed : Array Bool) (a : Act) (w : World),Closed md ops listed →
   (∀ j oj,ops[j]? = some oj → j ≠ i → listed.getD j true = false → (∀ e ∈ oj.after,Region.binds md e = true → e.on ≠ i) → oi.apart ops oj = true) →
   i ∈ Region.ready md ops listed → YieldsIf P ops S' oi v a → S' w → (i ∉ T → S w) →
   wpAnyT P md ops Q S T fuel (listed.setIfInBounds i true) (a.put oi.dst v) w → wpAnyT P md ops Q S T (fuel + 1) listed a w:=by
 intro fuel
 induction fuel with
 | zero =>
  intro listed a w _ _ hr hy hS hS2 H
  refine ⟨fun h => (by rw [h] at hr;cases hr),fun j hj => ?_⟩
  by_cases hji : j = i
  ·subst hji;exact hy.wpOp hi hS ⟨hS2,H⟩
  ·have:=ready_mono hj hji
   rw [H.1] at this
   cases this
 | succ fuel ih =>
  intro listed a w hcl hfree hr hy hS hS2 H
  refine ⟨fun h => (by rw [h] at hr;cases hr),fun j hj => ?_⟩
  by_cases hji : j = i
  ·subst hji;exact hy.wpOp hi hS ⟨hS2,H⟩
  ·have h1:=H.2 j (ready_mono hj hji)
   obtain ⟨hjun,oj,hoj,hall⟩:=mem_ready.1 hj
   have h0 : listed.getD i false = false:=getD_both (mem_ready.1 hr).1
   have hnot : ∀ e ∈ oj.after,Region.binds md e = true → e.on ≠ i:=fun e he hb heq => by
    have h2:=hall e he hb
    rw [heq,h0] at h2
    cases h2
   have hjT : j ∉ T ∨ (i ∈ T ∧ ∀ w,S' w):=by
    rcases hT with hT | hT
    ·refine .inl fun hm => ?_
     have:=waits_spec hcl ops.size j oj hoj (hT j hm) hall
     rw [h0] at this
     cases this
    ·exact .inr hT
   have h2:=wpOp_putIf hoj (hfree j oj hoj hji hjun hnot) (fun cs b => hsel i oi cs b hi) (fun cs b => hsel j oj cs b hoj) hQ hy h1
   have hfree' : ∀ k ok,ops[k]? = some ok → k ≠ i → (listed.setIfInBounds j true).getD k true = false →
     (∀ e ∈ ok.after,Region.binds md e = true → e.on ≠ i) → oi.apart ops ok = true:=fun k ok hk hki hun hno => by
    refine hfree k ok hk hki ?_ hno
    by_cases hjk : j = k
    ·subst hjk;exact hjun
    ·rw [getD_set_ne true hjk] at hun;exact hun
   refine wpOp_mono (fun a' w' h3 => ⟨h3.2.1,ih (listed.setIfInBounds j true) a' w' (hcl.set hj) hfree' (ready_mono hr (Ne.symm hji)) h3.1 ?_ ?_ ?_⟩) h2
   ·rcases hjT with h | h
    ·exact hSS _ (h3.2.1 h)
    ·exact h.2 _
   ·rcases hjT with h | h
    ·exact fun _ => h3.2.1 h
    ·exact fun h' => absurd h.1 h'
   ·rw [Array.setIfInBounds_comm _ _ hji]
    exact h3.2.2

theorem wpAnyT_load {i : Nat} {oi : Oper} {v : Value} {fuel : Nat} {listed : Array Bool} {a : Act} {w : World} (hi : ops[i]? = some oi)
  (hc : closedB md ops listed = true) (hT : (T.all fun j => waitsB md ops i ops.size j) = true)
  (hs : Region.noSelect ops = true) (hf : Region.free md ops listed i = true) (hr : (Region.ready md ops listed).contains i = true)
  (hQ : ∀ c a w,Q (.panic c) (a.put oi.dst v) w → Q (.panic c) a w) (hS : S w) (hw : Region.wanted oi (yielded ops a.tmps) = true) (hy : ∀ w,S w → (execOp a.eval oi).run P w = .ok (.value v) w)
  (h : wpAnyT P md ops Q S T fuel (listed.setIfInBounds i true) (a.put oi.dst v) w) : wpAnyT P md ops Q S T (fuel + 1) listed a w :=
 wpAnyT_first (S':=S) hi (Region.noSelect_spec hs) hQ (.inl (by simpa using hT)) (fun _ h => h) fuel listed a w (closed_of hc) (Region.free_spec hi hf) (by simpa using hr) (.inl ⟨hw,hy⟩) hS (fun _ => hS) h

theorem wL (i : Nat) {oi : Oper} (v : Value) {fuel : Nat} {listed : Array Bool} {a : Act} {w : World} (hi : ops[i]? = some oi)
  (hk : (closedB md ops listed && (T.all fun j => waitsB md ops i ops.size j) && Region.noSelect ops && Region.free md ops listed i && (Region.ready md ops listed).contains i) = true)
  (hQ : ∀ c a w,Q (.panic c) (a.put oi.dst v) w → Q (.panic c) a w) (hS : S w) (hw : Region.wanted oi (yielded ops a.tmps) = true) (hy : ∀ w,S w → (execOp a.eval oi).run P w = .ok (.value v) w)
  (h : wpAnyT P md ops Q S T fuel (listed.setIfInBounds i true) (a.put oi.dst v) w) : wpAnyT P md ops Q S T (fuel + 1) listed a w:=by
 simp only [Bool.and_eq_true] at hk
 exact wpAnyT_load hi hk.1.1.1.1 hk.1.1.1.2 hk.1.1.2 hk.1.2 hk.2 hQ hS hw hy h
theorem wpAnyT_one {i : Nat} {o : Oper} {fuel : Nat} {listed : Array Bool} {a : Act} {w : World} (hr : Region.ready md ops listed = [i]) (ho : ops[i]? = some o)
  (h : ∀ K' : Act → World → Prop,Shut (∀ a w,(i ∉ T → S w) → wpAnyT P md ops Q S T fuel (listed.setIfInBounds i true) a w → K' a w) → if Region.wanted o (yielded ops a.tmps) = true then Oper.wp P o a w K' Q else K' (a.put o.dst undef) w) :
  wpAnyT P md ops Q S T (fuel + 1) listed a w :=
 ⟨fun h0 => (by rw [hr] at h0;cases h0),fun j hj => by
  rw [hr] at hj
  simp only [List.mem_singleton] at hj
  subst hj
  exact wpOp_step ho fun K' hK => h K' (fun a w h1 h2 => hK a w ⟨h1,h2⟩)⟩
theorem wpAnyT_done {listed : Array Bool} {a : Act} {w : World} (hr : Region.ready md ops listed = []) (h : Q .normal a w) :
  ∀ fuel,wpAnyT P md ops Q S T fuel listed a w
 | 0 => ⟨hr,h⟩
 | _ + 1 => ⟨fun _ => h,by rw [hr];simp⟩
theorem wp_region_T {id : Nat} {a : Act} {w : World} (S : World → Prop) (T : List Nat) (n : Nat) (L : Array Bool) (hm : P.follows .mixedOrders = true) (hn : ops.size = n) (hL : Array.replicate n false = L)
  (h : wpAnyT P .any ops Q S T n L a w.drew) : (Code.region id ops true).wp P Q a w :=
 wp_region_any hm (by subst hn hL;exact wpAnyT_any _ _ _ _ h)
end
end Go.Proofs.YtcngfbjmpemehaaGreat

/- Slices whose elements are data of several cells,to whatever depth: what they read,which blocks they lean on. No program in sight. -/
namespace Go.Proofs.YtcngfbjmpemehaaGreat
open Go.RowKit

structure Rep {α : Type} (k : Nat) (R : World → List Value → α → List Nat → Prop) : Prop where
 len : ∀ {w c y B},R w c y B → c.length = k
 one : ∀ {w c y B},R w c y B → ∀ u ∈ c,u.oneCell' = true
 lt : ∀ {w c y B},R w c y B → ∀ b ∈ B,b < w.heap.size
 fr : ∀ {w w' c y B S},R w c y B → Fr S w w' → (∀ b ∈ B,b ∉ S) → R w' c y B

section
variable {α : Type} {k : Nat} {R : World → List Value → α → List Nat → Prop}

def Els (R : World → List Value → α → List Nat → Prop) : List α → World → List Value → List Nat → Prop
 | [],_,cells,B => cells = [] ∧ B = []
 | y :: ys,w,cells,B => ∃ c rest B1 B2,cells = c ++ rest ∧ B = B1 ++ B2 ∧ R w c y B1 ∧ Els R ys w rest B2
namespace Els
theorem len (hR : Rep k R) : ∀ {ys : List α} {w : World} {cells : List Value} {B : List Nat},Els R ys w cells B → cells.length = ys.length * k
 | [],_,_,_,h => by obtain ⟨rfl,rfl⟩:=h;simp
 | y :: ys,w,cells,B,h => by
  obtain ⟨c,rest,B1,B2,rfl,rfl,h1,h2⟩:=h
  rw [List.length_append,hR.len h1,len hR h2,List.length_cons,Nat.succ_mul,Nat.add_comm]
theorem one (hR : Rep k R) : ∀ {ys : List α} {w : World} {cells : List Value} {B : List Nat},Els R ys w cells B → ∀ u ∈ cells,u.oneCell' = true
 | [],_,_,_,h => by obtain ⟨rfl,rfl⟩:=h;simp
 | y :: ys,w,cells,B,h => by
  obtain ⟨c,rest,B1,B2,rfl,rfl,h1,h2⟩:=h
  intro u hu
  rcases List.mem_append.1 hu with h | h
  ·exact hR.one h1 u h
  ·exact one hR h2 u h
theorem lt (hR : Rep k R) : ∀ {ys : List α} {w : World} {cells : List Value} {B : List Nat},Els R ys w cells B → ∀ b ∈ B,b < w.heap.size
 | [],_,_,_,h => by obtain ⟨rfl,rfl⟩:=h;simp
 | y :: ys,w,cells,B,h => by
  obtain ⟨c,rest,B1,B2,rfl,rfl,h1,h2⟩:=h
  intro b hb
  rcases List.mem_append.1 hb with h | h
  ·exact hR.lt h1 b h
  ·exact lt hR h2 b h
theorem fr (hR : Rep k R) : ∀ {ys : List α} {w w' : World} {cells : List Value} {B S : List Nat},Els R ys w cells B → Fr S w w' → (∀ b ∈ B,b ∉ S) → Els R ys w' cells B
 | [],_,_,_,_,_,h,_,_ => h
 | y :: ys,w,w',cells,B,S,h,hf,hS => by
  obtain ⟨c,rest,B1,B2,rfl,rfl,h1,h2⟩:=h
  exact ⟨c,rest,B1,B2,rfl,rfl,hR.fr h1 hf (fun b hb => hS b (by simp [hb])),fr hR h2 hf (fun b hb => hS b (by simp [hb]))⟩
theorem snoc : ∀ {ys : List α} {w : World} {cells : List Value} {B : List Nat} {c : List Value} {y : α} {B1 : List Nat},Els R ys w cells B → R w c y B1 → Els R (ys ++ [y]) w (cells ++ c) (B ++ B1)
 | [],_,_,_,c,y,B1,h,h1 => by
  obtain ⟨rfl,rfl⟩:=h
  exact ⟨c,[],B1,[],by simp,by simp,h1,rfl,rfl⟩
 | x :: ys,w,cells,B,c,y,B1,h,h1 => by
  obtain ⟨c0,rest,B0,B2,rfl,rfl,h0,h2⟩:=h
  exact ⟨c0,rest ++ c,B0,B2 ++ B1,by simp,by simp,h0,snoc h2 h1⟩
theorem at_ (hR : Rep k R) : ∀ {ys : List α} {w : World} {cells : List Value} {B : List Nat} (i : Nat) (hi : i < ys.length),Els R ys w cells B → ∃ c B1,R w c ys[i] B1 ∧ (∀ b ∈ B1,b ∈ B) ∧ ∀ j u,c[j]? = some u → cells[i * k + j]? = some u
 | [],_,_,_,i,hi,_ => by simp at hi
 | y :: ys,w,cells,B,0,_,h => by
  obtain ⟨c,rest,B1,B2,rfl,rfl,h1,h2⟩:=h
  refine ⟨c,B1,h1,fun b hb => by simp [hb],fun j u hj => ?_⟩
  rw [Nat.zero_mul,Nat.zero_add,List.getElem?_append_left (List.getElem?_eq_some_iff.1 hj).1]
  exact hj
 | y :: ys,w,cells,B,i + 1,hi,h => by
  obtain ⟨c,rest,B1,B2,rfl,rfl,h1,h2⟩:=h
  obtain ⟨c',B',g1,g2,g3⟩:=at_ hR i (by simpa using hi) h2
  refine ⟨c',B',by simpa using g1,fun b hb => by simp [g2 b hb],fun j u hj => ?_⟩
  have e : (i + 1) * k + j = c.length + (i * k + j):=by rw [hR.len h1,Nat.succ_mul];omega
  rw [e,List.getElem?_append_right (by omega),Nat.add_sub_cancel_left]
  exact g3 j u hj
end Els

def SlEls (k : Nat) (R : World → List Value → α → List Nat → Prop) (w : World) (v : Value) (ys : List α) (B : List Nat) : Prop :=
 ∃ cells a cap,v = .slice a ys.length cap ∧ ys.length ≤ cap ∧ cap ≤ maxLen ∧ (a = none → cap = 0) ∧ Els R ys w cells B ∧
  ∀ p,a = some p → 0 < cap → p.spot = none ∧ p.block < w.heap.size ∧ ∀ i x,cells[i]? = some x → w.cell? ⟨p.block,p.off + i,none⟩ = some x
namespace SlEls
theorem shape {w : World} {v : Value} {ys : List α} {B : List Nat} (h : SlEls k R w v ys B) : ∃ a c,v = .slice a ys.length c:=by
 obtain ⟨cells,a,cap,e,_⟩:=h
 exact ⟨a,cap,e⟩
theorem nil (w : World) : SlEls k R w (.slice none 0 0) [] []:=⟨[],none,0,rfl,by simp,by unfold maxLen;omega,fun _ => rfl,⟨rfl,rfl⟩,fun p hp => by cases hp⟩
theorem len {w : World} {a : Option Addr} {n cap : Nat} {ys : List α} {B : List Nat} (h : SlEls k R w (.slice a n cap) ys B) : n = ys.length ∧ n ≤ cap ∧ cap ≤ maxLen ∧ (a = none → cap = 0):=by
 obtain ⟨cells,a',cap',e,h1,h2,h3,_⟩:=h
 simp only [Value.slice.injEq] at e
 obtain ⟨rfl,rfl,rfl⟩:=e
 exact ⟨rfl,h1,h2,h3⟩
theorem fr (hR : Rep k R) {w w' : World} {v : Value} {ys : List α} {B S : List Nat} (h : SlEls k R w v ys B) (hf : Fr S w w') (hS : ∀ b ∈ B,b ∉ S) (hv : ∀ b,liveOf v = some b → b ∉ S) : SlEls k R w' v ys B:=by
 obtain ⟨cells,a,cap,rfl,h1,h2,h3,h4,h5⟩:=h
 refine ⟨cells,a,cap,rfl,h1,h2,h3,h4.fr hR hf hS,?_⟩
 rintro p rfl h0
 obtain ⟨g1,g2,g3⟩:=h5 p rfl h0
 exact ⟨g1,Nat.lt_of_lt_of_le g2 hf.size,fun i x hx => (hf.cell (p:=⟨p.block,p.off + i,none⟩) g2 (hv _ (by simp [liveOf,h0]))).trans (g3 i x hx)⟩
theorem keep (hR : Rep k R) {w w' : World} {v : Value} {ys : List α} {B : List Nat} (h : SlEls k R w v ys B) (hf : Fr [] w w') : SlEls k R w' v ys B:=h.fr hR hf (by simp) (by simp)
theorem lt (hR : Rep k R) {w : World} {v : Value} {ys : List α} {B : List Nat} (h : SlEls k R w v ys B) : (∀ b ∈ B,b < w.heap.size) ∧ ∀ b,liveOf v = some b → b < w.heap.size:=by
 obtain ⟨cells,a,cap,rfl,h1,h2,h3,h4,h5⟩:=h
 refine ⟨h4.lt hR,fun b hb => ?_⟩
 cases a with
 | none => simp [liveOf] at hb
 | some p =>
  simp only [liveOf] at hb
  split at hb
  ·rename_i h0
   cases hb
   exact (h5 p rfl h0).2.1
  ·cases hb
theorem at_ (hR : Rep k R) {w : World} {a : Option Addr} {n cap : Nat} {ys : List α} {B : List Nat} (h : SlEls k R w (.slice a n cap) ys B) {i : Nat} (hi : i < n) :
  ∃ b o c y B1,a = some ⟨b,o,none⟩ ∧ b < w.heap.size ∧ ys[i]? = some y ∧ R w c y B1 ∧ (∀ x ∈ B1,x ∈ B) ∧ w.rangeAt b (o + i * k) c:=by
 obtain ⟨cells,a',cap',e,h1,h2,h3,h4,h5⟩:=h
 simp only [Value.slice.injEq] at e
 obtain ⟨rfl,rfl,rfl⟩:=e
 cases a with
 | none => have:=h3 rfl;omega
 | some p =>
  obtain ⟨b,o,s⟩:=p
  obtain ⟨g1,g2,g3⟩:=h5 _ rfl (by omega)
  simp only at g1
  subst g1
  obtain ⟨c,B1,q1,q2,q3⟩:=h4.at_ hR i hi
  refine ⟨b,o,c,_,B1,rfl,g2,List.getElem?_eq_getElem hi,q1,q2,fun j u hj => ?_⟩
  have:=g3 _ u (q3 j u hj)
  simpa [Nat.add_assoc] using this
end SlEls
def SlR (k : Nat) (R : World → List Value → α → List Nat → Prop) (w : World) (c : List Value) (ys : List α) (B : List Nat) : Prop :=
 ∃ v B0,c = [v] ∧ SlEls k R w v ys B0 ∧ B = (liveOf v).toList ++ B0
theorem Rep.slice (hR : Rep k R) : Rep 1 (SlR k R) where
 len:=by rintro w c y B ⟨v,B0,rfl,-,-⟩;rfl
 one:=by
  rintro w c y B ⟨v,B0,rfl,h,-⟩ u hu
  obtain ⟨a,cp,rfl⟩:=h.shape
  simp only [List.mem_singleton] at hu
  subst hu
  rfl
 lt:=by
  rintro w c y B ⟨v,B0,rfl,h,rfl⟩ b hb
  rcases List.mem_append.1 hb with hb | hb
  ·exact (h.lt hR).2 b (by simpa using hb)
  ·exact (h.lt hR).1 b hb
 fr:=by
  rintro w w' c y B S ⟨v,B0,rfl,h,rfl⟩ hf hS
  exact ⟨v,B0,rfl,h.fr hR hf (fun b hb => hS b (by simp [hb])) (fun b hb => hS b (by simp [hb])),rfl⟩

def OwnEls (k : Nat) (R : World → List Value → α → List Nat → Prop) (w : World) (base : Nat) (e : TypeId) (v : Value) (ys : List α) (B : List Nat) : Prop :=
 ∃ cells,w.ownsRow base e k v ys.length cells ∧ Els R ys w cells B ∧ ∀ b,blockOf v = some b → b ∉ B
namespace OwnEls
theorem nil (w : World) (base : Nat) (e : TypeId) : OwnEls k R w base e (.slice none 0 0) [] []:=⟨[],⟨by simp,.inl ⟨rfl,rfl⟩⟩,⟨rfl,rfl⟩,by simp [blockOf]⟩
theorem shape {w : World} {base : Nat} {e : TypeId} {v : Value} {ys : List α} {B : List Nat} (h : OwnEls k R w base e v ys B) : ∃ a c,v = .slice a ys.length c:=by
 obtain ⟨cells,⟨_,h | ⟨g,cap,cur,rfl,_⟩⟩,_⟩:=h
 ·obtain ⟨rfl,h0⟩:=h
  exact ⟨none,0,by rw [h0]⟩
 ·exact ⟨_,_,rfl⟩
theorem fr (hR : Rep k R) {w w' : World} {base : Nat} {e : TypeId} {v : Value} {ys : List α} {B S : List Nat} (h : OwnEls k R w base e v ys B) (hf : Fr S w w') (hS : ∀ b ∈ B,b ∉ S) (hv : ∀ b,blockOf v = some b → b ∉ S) : OwnEls k R w' base e v ys B:=by
 obtain ⟨cells,h1,h2,h3⟩:=h
 exact ⟨cells,Own.fr h1 hf hv,h2.fr hR hf hS,h3⟩
theorem keep (hR : Rep k R) {w w' : World} {base : Nat} {e : TypeId} {v : Value} {ys : List α} {B : List Nat} (h : OwnEls k R w base e v ys B) (hf : Fr [] w w') : OwnEls k R w' base e v ys B:=h.fr hR hf (by simp) (by simp)
theorem block {w : World} {base : Nat} {e : TypeId} {v : Value} {ys : List α} {B : List Nat} (h : OwnEls k R w base e v ys B) : ∀ b,blockOf v = some b → base ≤ b ∧ b < w.heap.size:=by
 obtain ⟨cells,h1,h2,h3⟩:=h
 exact Own.block h1
theorem lt (hR : Rep k R) {w : World} {base : Nat} {e : TypeId} {v : Value} {ys : List α} {B : List Nat} (h : OwnEls k R w base e v ys B) : ∀ b ∈ B,b < w.heap.size:=by
 obtain ⟨cells,h1,h2,h3⟩:=h
 exact h2.lt hR
theorem sl {w : World} {base : Nat} {e : TypeId} {v : Value} {ys : List α} {B : List Nat} (h : OwnEls k R w base e v ys B) : SlEls k R w v ys B:=by
 obtain ⟨cells,⟨h1,h⟩,h2,h3⟩:=h
 rcases h with ⟨rfl,h0⟩ | ⟨g,cap,cur,rfl,hb,hg,hc,hm,hs,ht⟩
 ·have : ys = []:=List.eq_nil_of_length_eq_zero h0
  subst this
  obtain ⟨rfl,rfl⟩:=h2
  exact SlEls.nil w
 ·refine ⟨cells,_,cap,rfl,hc,hm,(fun h => by cases h),h2,?_⟩
  rintro p hp _
  simp only [Option.some.injEq] at hp
  subst hp
  refine ⟨rfl,(Array.getElem?_eq_some_iff.1 hg).1,fun i x hx => ?_⟩
  rw [Nat.zero_add,cell_of_row w g i cur _ _ hg,← Array.getElem?_toList]
  rw [← ht,List.getElem?_take] at hx
  split at hx
  ·exact hx
  ·cases hx
theorem made (w : World) (base : Nat) (e : TypeId) (hb : base ≤ w.heap.size) : OwnEls k R (w.alloc (.cells #[] e)) base e (.slice (some ⟨w.heap.size,0,none⟩) 0 0) [] [] :=
 ⟨[],⟨by simp,.inr ⟨w.heap.size,0,#[],rfl,hb,heap_alloc_new w _,Nat.le_refl _,by unfold maxLen;omega,by simp,by simp⟩⟩,⟨rfl,rfl⟩,by simp⟩
end OwnEls

end

theorem box_range {w : World} {g : Nat} {t : TypeId} {c : Array Value} (h : Box w g t c) : w.rangeAt g 0 c.toList:=fun j u hj => by
 rw [Nat.zero_add,h.cell,← Array.getElem?_toList]
 exact hj
theorem mem_toList {b : Nat} {o : Option Nat} : b ∈ o.toList ↔ o = some b:=by cases o <;> simp [eq_comm]
def BytesR (w : World) (c : List Value) (l : List UInt8) (B : List Nat) : Prop:=∃ v,c = [v] ∧ Bytes w v l ∧ B = (liveOf v).toList
theorem Rep.bytes : Rep 1 BytesR where
 len:=by rintro w c y B ⟨v,rfl,-,-⟩;rfl
 one:=by
  rintro w c y B ⟨v,rfl,h,-⟩ u hu
  obtain ⟨a,cp,rfl⟩:=Sl.shape h
  simp only [List.mem_singleton] at hu
  subst hu
  rfl
 lt:=by
  rintro w c y B ⟨v,rfl,h,rfl⟩ b hb
  exact Sl.lt h b (by simpa using hb)
 fr:=by
  rintro w w' c y B S ⟨v,rfl,h,rfl⟩ hf hS
  exact ⟨v,rfl,Sl.frL h hf (fun b hb => hS b (by simp [hb])),rfl⟩
end Go.Proofs.YtcngfbjmpemehaaGreat

/- A drawn region in which one of three operations comes up. No program in sight. -/
namespace Go.Proofs.YtcngfbjmpemehaaGreat
end Go.Proofs.YtcngfbjmpemehaaGreat
