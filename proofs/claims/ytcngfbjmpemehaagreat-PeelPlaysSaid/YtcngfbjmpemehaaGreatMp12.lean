import Derived.Laws.CopyOwn
import Derived.Deep.OwnRows
import Derived.Test.YtcngfbjmpemehaaGreatMp7
set_option maxRecDepth 100000
set_option maxHeartbeats 16000000
open List renaming getElem_toArray → zz1, getElem_cons_zero → zz2, getElem_cons_succ → zz3, setIfInBounds_toArray → zz4, set_cons_zero → zz5, set_cons_succ → zz6, getElem?_toArray → zz7, getElem?_cons_succ → zz8, getElem?_cons_zero → zz9
/- 'copy(d,s)' into a block of the call's own;new rows of zeros. -/
namespace Go.Proofs.YtcngfbjmpemehaaGreat
open Go.RowKit

theorem addr_add (b o j : Nat) : (⟨b,o,none⟩ : Addr).add j = ⟨b,o + j,none⟩:=by unfold Addr.add;split <;> simp_all
theorem wp_copy_fr {P : Program} {w : World} {o : Oper} {a : Act} {K : Act → World → Prop} {Q : Exit → Act → World → Prop} (d s : Operand) (dT sT : TypeId)
  (ho : o.op = .call { callee:=.builtin .copy,args:=#[d,s],argTypes:=#[dT,sT] }) (elem : TypeId) (hu : P.underlying dT = some (.slice elem)) (hsz : (P.info? elem).map (·.size) = some 1)
  (dp : Option Addr) (dLen dCap : Nat) (hd : a.eval d = .slice dp dLen dCap) (vx : Value) (src : List Value) (hs : a.eval s = vx) (hsl : Sl w vx src)
  (g off : Nat) (cur : List Value) (t : TypeId) (hg : Box w g t cur.toArray) (hdp : 0 < dLen → dp = some ⟨g,off,none⟩) (hn : src.length = dLen)
  (hfit : off + dLen ≤ cur.length) (h1 : ∀ v ∈ src,v.oneCell' = true)
  (h : ∀ w',Box w' g t (splice cur off src).toArray → Fr [g] w w' → K (a.put o.dst (goInt src.length)) w') :
  Oper.wp P o a w K Q:=by
 obtain ⟨sp,cap,rfl,g2,g3,g4,g5⟩:=hsl
 by_cases h0 : src.length = 0
 ·obtain rfl : src = []:=List.eq_nil_of_length_eq_zero h0
  have hrun:=run_copy_none (P:=P) w dT sT o.type elem dp sp dLen dCap 0 cap hu hsz (by simp)
  unfold Oper.wp
  simp [execOp,ho,resolve,invoke,builtin,hd,hs,hrun,Result.andThen]
  exact h w (by simpa [splice] using hg) (Fr.refl _ _)
 ·obtain rfl:=hdp (by omega)
  cases sp with
  | none => have:=g4 rfl;omega
  | some ad =>
   obtain ⟨sb,so,ss⟩:=ad
   obtain ⟨hsp,hb,hc⟩:=g5 _ rfl (by omega)
   simp only at hsp
   subst hsp
   have hrun:=run_copy_row (P:=P) w dT sT o.type elem g off dLen dCap ⟨sb,so,none⟩ src.length cap cur.toArray t src hu hsz hg (by rw [hn];simp) (fun j v hv => by rw [addr_add];exact hc j v hv) (by simpa [hn] using hfit) h1
   unfold Oper.wp
   simp [execOp,ho,resolve,invoke,builtin,hd,hs,hrun,Result.andThen]
   exact h _ (by simpa [splice] using hg.setRow _) (Box.frSetRow w g _)
theorem wpList_copy_fr {P : Program} {w : World} {ops : Array Oper} {rest : List Oper} {o : Oper} {a : Act} {Q : Exit → Act → World → Prop} (hgd : o.guard = none) (d s : Operand) (dT sT : TypeId)
  (ho : o.op = .call { callee:=.builtin .copy,args:=#[d,s],argTypes:=#[dT,sT] }) (elem : TypeId) (hu : P.underlying dT = some (.slice elem)) (hsz : (P.info? elem).map (·.size) = some 1)
  (dp : Option Addr) (dLen dCap : Nat) (hd : a.eval d = .slice dp dLen dCap) (vx : Value) (src : List Value) (hs : a.eval s = vx) (hsl : Sl w vx src)
  (g off : Nat) (cur : List Value) (t : TypeId) (hg : Box w g t cur.toArray) (hdp : 0 < dLen → dp = some ⟨g,off,none⟩) (hn : src.length = dLen)
  (hfit : off + dLen ≤ cur.length) (h1 : ∀ v ∈ src,v.oneCell' = true)
  (h : ∀ w',Box w' g t (splice cur off src).toArray → Fr [g] w w' → wpList P ops Q rest (a.put o.dst (goInt src.length)) w') :
  wpList P ops Q (o :: rest) a w :=
 wpList_plain hgd fun K hK => wp_copy_fr d s dT sT ho elem hu hsz dp dLen dCap hd vx src hs hsl g off cur t hg hdp hn hfit h1 fun w' h2 h3 => hK _ _ (h w' h2 h3)
theorem madeCells_one (z : Value) (m : Nat) : madeCells #[z] m = (List.replicate m z).toArray:=by
 apply Array.ext
 ·simp [madeCells]
 ·intro k h1 h2
  have e : k % 1 = 0:=Nat.mod_one k
  simp [madeCells,e]
theorem box_own {w : World} {base g : Nat} {t : TypeId} {xs : List Value} (h : Box w g t xs.toArray) (hb : base ≤ g) (hm : xs.length ≤ maxLen) : w.ownsRow base t 1 (.slice (some ⟨g,0,none⟩) xs.length xs.length) xs.length xs :=
 ⟨by simp,.inr ⟨g,xs.length,xs.toArray,rfl,hb,h,Nat.le_refl _,hm,by simp,by simp⟩⟩
theorem box_sl {w : World} {g off cap : Nat} {t : TypeId} {cur : Array Value} (h : Box w g t cur) (xs : List Value) (hc : ∀ i x,xs[i]? = some x → cur[off + i]? = some x) (hl : xs.length ≤ cap) (hm : cap ≤ maxLen) : Sl w (.slice (some ⟨g,off,none⟩) xs.length cap) xs:=by
 refine ⟨_,cap,rfl,hl,hm,(fun e => by cases e),?_⟩
 rintro p hp _
 simp only [Option.some.injEq] at hp
 subst hp
 exact ⟨rfl,h.lt,fun i x hx => (h.cell (off + i)).trans (hc i x hx)⟩

theorem wpAnyT_two {P : Program} {ops : Array Oper} {Q : Exit → Act → World → Prop} {md : Region.Mode} {S : World → Prop} {T : List Nat} {i j : Nat} {o o' : Oper} {fuel : Nat} {listed : Array Bool} {a : Act} {w : World} (hr : Region.ready md ops listed = [i,j]) (ho : ops[i]? = some o) (ho' : ops[j]? = some o')
  (h : ∀ K' : Act → World → Prop,Shut (∀ a w,(i ∉ T → S w) → wpAnyT P md ops Q S T fuel (listed.setIfInBounds i true) a w → K' a w) → if Region.wanted o (yielded ops a.tmps) = true then Oper.wp P o a w K' Q else K' (a.put o.dst undef) w)
  (h' : ∀ K' : Act → World → Prop,Shut (∀ a w,(j ∉ T → S w) → wpAnyT P md ops Q S T fuel (listed.setIfInBounds j true) a w → K' a w) → if Region.wanted o' (yielded ops a.tmps) = true then Oper.wp P o' a w K' Q else K' (a.put o'.dst undef) w) :
  wpAnyT P md ops Q S T (fuel + 1) listed a w :=
 ⟨fun h0 => (by rw [hr] at h0;cases h0),fun k hk => by
  rw [hr] at hk
  simp only [List.mem_cons,List.not_mem_nil,or_false] at hk
  rcases hk with rfl | rfl
  ·exact wpOp_step ho fun K' hK => h K' (fun a w h1 h2 => hK a w ⟨h1,h2⟩)
  ·exact wpOp_step ho' fun K' hK => h' K' (fun a w h1 h2 => hK a w ⟨h1,h2⟩)⟩
end Go.Proofs.YtcngfbjmpemehaaGreat

/- The load of a struct whole,guarded or not. -/
namespace Go.Proofs.YtcngfbjmpemehaaGreat
open Go.RowKit

theorem wpList_load_row_w {P : Program} {ops : Array Oper} {rest : List Oper} {o : Oper} {a : Act} {w : World} {Q : Exit → Act → World → Prop} (hw : Region.wanted o (yielded ops a.tmps) = true) (ty : TypeId) (x : Operand) (ho : o.op = .load ty x)
  (g : Nat) (hx : a.eval x = .pointer (some ⟨g,0,none⟩)) (t : TypeId) (cs : Array Value) (d : TypeDesc) (hg : Box w g t cs)
  (hu : P.underlying ty = some d) (hd : (match d with | .struct _ | .array _ _ => true | _ => false) = true) (hi : (P.info? ty).map (·.size) = some cs.size)
  (h : wpList P ops Q rest (a.put o.dst (.agg cs)) w) : wpList P ops Q (o :: rest) a w:=by
 unfold wpList
 rw [if_pos hw]
 exact .inl (wp_load_row ty x ho g hx t cs (0,0) d hg hu hd hi h)
end Go.Proofs.YtcngfbjmpemehaaGreat

/- A region that draws its order,by a rule for each operation: whatever order is drawn,what each operation yields meets its own specification. No program in sight. -/
namespace Go.Proofs.YtcngfbjmpemehaaGreat
open Go.RowKit

section
variable {P : Program} {ops : Array Oper} {Q : Exit → Act → World → Prop} {md : Region.Mode}

def canon (ops : Array Oper) (vs : Nat → Value) (a : Act) : List Nat → Act
 | [] => a
 | i :: l => canon ops vs (a.put ((ops[i]?).bind (·.dst)) (vs i)) l

structure Agr (ops : Array Oper) (a0 : Act) (vs : Nat → Value) (L : Nat → Prop) (a : Act) : Prop where
 size : a.tmps.size = a0.tmps.size
 defers : a.defers = a0.defers
 at_ : ∀ i o d,ops[i]? = some o → o.dst = some d → L i → a.tmps[d]? = some (vs i)
 off : ∀ d,(∀ i o,ops[i]? = some o → L i → o.dst ≠ some d) → a.tmps[d]? = a0.tmps[d]?

def DistinctP (ops : Array Oper) : Prop:=∀ (i j : Nat) (o o' : Oper) (d : Tmp),ops[i]? = some o → ops[j]? = some o' → o.dst = some d → o'.dst = some d → i = j
def BoundP (ops : Array Oper) (n : Nat) : Prop:=∀ (i : Nat) (o : Oper) (d : Tmp),ops[i]? = some o → o.dst = some d → d < n
def distinctB (ops : Array Oper) : Bool:=(List.range ops.size).all fun i => (List.range ops.size).all fun j => i == j || match (ops[i]?).bind (·.dst),(ops[j]?).bind (·.dst) with | some d,some e => d != e | _,_ => true
def boundB (ops : Array Oper) (n : Nat) : Bool:=(List.range ops.size).all fun i => match (ops[i]?).bind (·.dst) with | some d => Nat.blt d n | none => true
theorem distinct_of (h : distinctB ops = true) : DistinctP ops:=by
 intro i j o o' d hi hj hd hd'
 unfold distinctB at h
 rw [List.all_eq_true] at h
 have h1:=h i (List.mem_range.2 (Array.getElem?_eq_some_iff.1 hi).1)
 rw [List.all_eq_true] at h1
 have h2:=h1 j (List.mem_range.2 (Array.getElem?_eq_some_iff.1 hj).1)
 simp only [hi,hj,Option.bind_some,hd,hd',bne_self_eq_false,Bool.or_false,beq_iff_eq] at h2
 exact h2
theorem bound_of {n : Nat} (h : boundB ops n = true) : BoundP ops n:=by
 intro i o d hi hd
 unfold boundB at h
 rw [List.all_eq_true] at h
 have h1:=h i (List.mem_range.2 (Array.getElem?_eq_some_iff.1 hi).1)
 simp only [hi,Option.bind_some,hd] at h1
 exact Nat.blt_eq.mp h1

theorem put_at (a : Act) (d : Tmp) (v : Value) (h : d < a.tmps.size) : (a.put (some d) v).tmps[d]? = some v:=by
 simp [Act.put,h]
theorem put_off (a : Act) (x : Option Tmp) (d : Tmp) (v : Value) (h : x ≠ some d) : (a.put x v).tmps[d]? = a.tmps[d]?:=by
 cases x with
 | none => rfl
 | some e => simp [Act.put,Array.getElem?_setIfInBounds_ne (show e ≠ d by rintro rfl;exact h rfl)]
theorem put_size (a : Act) (x : Option Tmp) (v : Value) : (a.put x v).tmps.size = a.tmps.size:=by cases x <;> simp [Act.put]
theorem put_defers (a : Act) (x : Option Tmp) (v : Value) : (a.put x v).defers = a.defers:=by cases x <;> rfl

theorem Agr.put {a0 a : Act} {vs : Nat → Value} {L : Nat → Prop} (h : Agr ops a0 vs L a) (hD : DistinctP ops) (hB : BoundP ops a0.tmps.size) {i : Nat} {o : Oper} (hi : ops[i]? = some o) (v : Value) (vs' : Nat → Value) (hv : vs' i = v) (hvs : ∀ j,j ≠ i → vs' j = vs j) :
  Agr ops a0 vs' (fun j => L j ∨ j = i) (a.put o.dst v):=by
 refine ⟨(put_size ..).trans h.size,(put_defers ..).trans h.defers,?_,?_⟩
 ·intro j oj d hj hd hL
  by_cases e : j = i
  ·subst e
   rw [hi] at hj
   cases hj
   rw [hd,put_at _ _ _ (by rw [h.size];exact hB _ _ _ hi hd),hv]
  ·have hne : o.dst ≠ some d:=fun hd' => e (hD j i oj o d hj hi hd hd')
   rw [put_off _ _ _ _ hne,hvs j e]
   exact h.at_ j oj d hj hd (hL.resolve_right e)
 ·intro d hd
  rw [put_off _ _ _ _ (hd i o hi (.inr rfl))]
  exact h.off d fun j oj hj hL => hd j oj hj (.inl hL)
theorem Agr.congr {a0 a : Act} {vs : Nat → Value} {L L' : Nat → Prop} (h : Agr ops a0 vs L a) (e : ∀ i,L i ↔ L' i) : Agr ops a0 vs L' a :=
 ⟨h.size,h.defers,fun i o d hi hd hL => h.at_ i o d hi hd ((e i).2 hL),fun d hd => h.off d fun i o hi hL => hd i o hi ((e i).1 hL)⟩
theorem Agr.canon {a0 : Act} {vs : Nat → Value} (hD : DistinctP ops) (hB : BoundP ops a0.tmps.size) : ∀ (S : List Nat) (a : Act) (L : Nat → Prop),Agr ops a0 vs L a → (∀ i ∈ S,i < ops.size) → Agr ops a0 vs (fun j => L j ∨ j ∈ S) (canon ops vs a S)
 | [],a,L,h,_ => h.congr (by simp)
 | i :: S,a,L,h,hS => by
  have hi : ops[i]? = some (ops[i]'(hS i (by simp))):=Array.getElem?_eq_getElem _
  unfold Go.Proofs.YtcngfbjmpemehaaGreat.canon
  rw [hi,Option.bind_some]
  refine (Agr.canon hD hB S _ _ (h.put hD hB hi (vs i) vs rfl (fun _ _ => rfl)) (fun j hj => hS j (by simp [hj]))).congr fun j => ?_
  simp only [List.mem_cons,or_assoc]
theorem Agr.start (a0 : Act) (vs : Nat → Value) : Agr ops a0 vs (fun _ => False) a0:=⟨rfl,rfl,fun _ _ _ _ _ h => h.elim,fun _ _ => rfl⟩
theorem Agr.at2 {a0 a b : Act} {vs : Nat → Value} {L M : Nat → Prop} (h : Agr ops a0 vs L a) (k : Agr ops a0 vs M b) (t : Tmp) (ht : (∃ (i : Nat) (o : Oper),ops[i]? = some o ∧ o.dst = some t ∧ L i ∧ M i) ∨ ∀ (i : Nat) (o : Oper),ops[i]? = some o → (L i ∨ M i) → o.dst ≠ some t) : a.tmps[t]? = b.tmps[t]?:=by
 rcases ht with ⟨i,o,hi,hd,h1,h2⟩ | hn
 ·rw [h.at_ i o t hi hd h1,k.at_ i o t hi hd h2]
 ·rw [h.off t fun i o hi hL => hn i o hi (.inl hL),k.off t fun i o hi hM => hn i o hi (.inr hM)]
theorem Agr.all {a0 a b : Act} {vs : Nat → Value} {L M : Nat → Prop} (h : Agr ops a0 vs L a) (k : Agr ops a0 vs M b) (hL : ∀ i,i < ops.size → L i) (hM : ∀ i,i < ops.size → M i) : a = b:=by
 obtain ⟨ta,da⟩:=a
 obtain ⟨tb,db⟩:=b
 have e1 : da = db:=h.defers.trans k.defers.symm
 have e2 : ta = tb:=by
  refine Array.ext_getElem? fun t => ?_
  refine Agr.at2 h k t ?_
  by_cases hx : ∃ (i : Nat) (o : Oper),ops[i]? = some o ∧ o.dst = some t
  ·obtain ⟨i,o,hi,hd⟩:=hx
   have hlt:=(Array.getElem?_eq_some_iff.1 hi).1
   exact .inl ⟨i,o,hi,hd,hL i hlt,hM i hlt⟩
  ·exact .inr fun i o hi _ hd => hx ⟨i,o,hi,hd⟩
 rw [e1,e2]

theorem exec_agree {o : Oper} (hs : ∀ cs b,o.op ≠ .select cs b) {a b : Act} (h : ∀ t ∈ o.looksAt ops,a.tmps[t]? = b.tmps[t]?) : execOp a.eval o = execOp b.eval o ∧ Region.wanted o (yielded ops a.tmps) = Region.wanted o (yielded ops b.tmps):=by
 constructor
 ·refine execOp_congr o hs fun x hx => ?_
  cases x with
  | tmp t =>
   have:=h t (List.mem_append_left _ (List.mem_filterMap.2 ⟨.tmp t,by simpa using hx,rfl⟩))
   simp only [Act.eval,Array.getD_eq_getD_getElem?,this]
  | _ => rfl
 ·unfold Region.wanted
  cases hg : o.guard with
  | none => rfl
  | some gw =>
   obtain ⟨g,w⟩:=gw
   show (yielded ops a.tmps g == some w) = (yielded ops b.tmps g == some w)
   have : yielded ops a.tmps g = yielded ops b.tmps g:=by
    unfold yielded
    cases hq : (ops[g]?).bind (·.dst) with
    | none => rfl
    | some d =>
     have:=h d (List.mem_append_right _ (by simp [hg,hq]))
     simp only [Option.bind_some,this]
   rw [this]

def RuleAt (P : Program) (ops : Array Oper) (Q : Exit → Act → World → Prop) (a0 : Act) (G : World → Prop) (E : World → World → Prop) (Psi : Nat → Value → World → Prop) (depsHold : (Nat → Value) → World → Prop) (D : List Nat) (i : Nat) (o : Oper) : Prop :=
 ∀ (vs : Nat → Value) (w : World),G w → depsHold vs w → ∀ K : Act → World → Prop,Shut (∀ v w',E w w' → G w' → Psi i v w' → K ((canon ops vs a0 D).put o.dst v) w') →
  if Region.wanted o (yielded ops (canon ops vs a0 D).tmps) = true then Oper.wp P o (canon ops vs a0 D) w K Q else Psi i undef w
def depsL (Psi : Nat → Value → World → Prop) : List Nat → (Nat → Value) → World → Prop
 | [],_,_ => True
 | j :: D,vs,w => Psi j (vs j) w ∧ depsL Psi D vs w
theorem depsL_of {Psi : Nat → Value → World → Prop} {vs : Nat → Value} {w : World} : ∀ {D : List Nat},(∀ j ∈ D,Psi j (vs j) w) → depsL Psi D vs w
 | [],_ => trivial
 | j :: D,h => ⟨h j (by simp),depsL_of fun k hk => h k (by simp [hk])⟩
def rulesL (P : Program) (ops : Array Oper) (Q : Exit → Act → World → Prop) (a0 : Act) (G : World → Prop) (E : World → World → Prop) (Psi : Nat → Value → World → Prop) : List Oper → Nat → List (List Nat) → Prop
 | o :: os,i,D :: Ds => RuleAt P ops Q a0 G E Psi (depsL Psi D) D i o ∧ rulesL P ops Q a0 G E Psi os (i + 1) Ds
 | _,_,_ => True
theorem rulesL_at {a0 : Act} {G : World → Prop} {E : World → World → Prop} {Psi : Nat → Value → World → Prop} : ∀ {os : List Oper} {k : Nat} {Ds : List (List Nat)},rulesL P ops Q a0 G E Psi os k Ds → ∀ (i : Nat) (o : Oper) (D : List Nat),os[i]? = some o → Ds[i]? = some D → RuleAt P ops Q a0 G E Psi (depsL Psi D) D (k + i) o
 | [],_,_,_,i,o,D,ho,_ => by simp at ho
 | o1 :: os,k,[],_,i,o,D,_,hD => by simp at hD
 | o1 :: os,k,D1 :: Ds,h,i,o,D,ho,hD => by
  cases i with
  | zero =>
   simp only [zz9,Option.some.injEq] at ho hD
   subst ho hD
   exact h.1
  | succ i =>
   simp only [zz8] at ho hD
   have:=rulesL_at h.2 i o D ho hD
   rwa [show k + 1 + i = k + (i + 1) by omega] at this

def depsB (md : Region.Mode) (ops : Array Oper) (Ds : List (List Nat)) : Bool :=
 Ds.length == ops.size && (List.range ops.size).all fun i => match ops[i]?,Ds[i]? with
  | some o,some D =>
   (D.all fun j => o.after.any fun e => Region.binds md e && (e.on == j || (Ds.getD e.on []).contains j)) &&
   ((o.looksAt ops).all fun t => (D.any fun j => ((ops[j]?).bind (·.dst)) == some t) || (List.range ops.size).all fun j => ((ops[j]?).bind (·.dst)) != some t || waitsB md ops i ops.size j) &&
   (o.after.all fun e => !Region.binds md e || Nat.blt e.on i) &&
   (match o.op with | .select _ _ => false | .defer _ => false | _ => true)
  | _,_ => false
structure DepsOk (md : Region.Mode) (ops : Array Oper) (Ds : List (List Nat)) (i : Nat) (o : Oper) (D : List Nat) : Prop where
 from_ : ∀ j ∈ D,∃ e ∈ o.after,Region.binds md e = true ∧ (e.on = j ∨ j ∈ Ds.getD e.on [])
 looks : ∀ t ∈ o.looksAt ops,(∃ j ∈ D,((ops[j]?).bind (·.dst)) = some t) ∨ ∀ (j : Nat) (o' : Oper),ops[j]? = some o' → o'.dst = some t → waitsB md ops i ops.size j = true
 down : ∀ e ∈ o.after,Region.binds md e = true → e.on < i
 sel : ∀ cs b,o.op ≠ .select cs b
theorem deps_of {Ds : List (List Nat)} (h : depsB md ops Ds = true) {i : Nat} {o : Oper} (hi : ops[i]? = some o) : ∃ D,Ds[i]? = some D ∧ DepsOk md ops Ds i o D:=by
 unfold depsB at h
 rw [Bool.and_eq_true] at h
 have hlt:=(Array.getElem?_eq_some_iff.1 hi).1
 have h1:=List.all_eq_true.1 h.2 i (List.mem_range.2 hlt)
 rw [hi] at h1
 cases hD : Ds[i]? with
 | none => rw [hD] at h1;cases h1
 | some D =>
  rw [hD] at h1
  simp only [Bool.and_eq_true] at h1
  obtain ⟨⟨⟨h2,h3⟩,h4⟩,h5⟩:=h1
  refine ⟨D,rfl,⟨fun j hj => ?_,fun t ht => ?_,fun e he hb => ?_,fun cs b e => ?_⟩⟩
  ·have:=List.all_eq_true.1 h2 j hj
   obtain ⟨e,he,hb⟩:=Array.any_eq_true'.1 this
   simp only [Bool.and_eq_true,Bool.or_eq_true,beq_iff_eq,List.contains_eq_mem,decide_eq_true_eq] at hb
   exact ⟨e,he,hb.1,hb.2⟩
  ·have:=List.all_eq_true.1 h3 t ht
   rw [Bool.or_eq_true] at this
   rcases this with hh | hh
   ·obtain ⟨j,hj,e⟩:=List.any_eq_true.1 hh
    exact .inl ⟨j,hj,beq_iff_eq.1 e⟩
   ·refine .inr fun j o' hj hd => ?_
    have:=List.all_eq_true.1 hh j (List.mem_range.2 (Array.getElem?_eq_some_iff.1 hj).1)
    simpa [hj,hd] using this
  ·have:=Array.all_eq_true_iff_forall_mem.1 h4 e he
   rw [hb] at this
   simp only [Bool.not_true,Bool.false_or] at this
   exact Nat.blt_eq.mp this
  ·rw [e] at h5
   cases h5

theorem ready_all {listed : Array Bool} {Ds : List (List Nat)} (hdeps : depsB md ops Ds = true) (hs : listed.size = ops.size) (h : Region.ready md ops listed = []) : ∀ i,i < ops.size → listed.getD i false = true:=by
 intro i
 induction i using Nat.strongRecOn with
 | _ i ih =>
  intro hi
  have hio : ops[i]? = some ops[i]:=Array.getElem?_eq_getElem hi
  obtain ⟨D,_,hok⟩:=deps_of hdeps hio
  cases hl : listed.getD i false with
  | true => rfl
  | false =>
   have : i ∈ Region.ready md ops listed:=mem_ready.2 ⟨getD_in (by omega) hl,_,hio,fun e he hb => ih e.on (hok.down e he hb) (Nat.lt_trans (hok.down e he hb) hi)⟩
   rw [h] at this
   cases this

section
variable {a0 : Act} {G : World → Prop} {E : World → World → Prop} {Psi : Nat → Value → World → Prop} {Ds : List (List Nat)}
theorem wpAny_rules (hD : DistinctP ops) (hB : BoundP ops a0.tmps.size) (hdeps : depsB md ops Ds = true)
  (hQ : ∀ c (a a' : Act) w,a.defers = a'.defers → Q (.panic c) a w → Q (.panic c) a' w)
  (hrefl : ∀ w,E w w) (hst : ∀ i v w w',E w w' → Psi i v w → Psi i v w')
  (hrules : rulesL P ops Q a0 G E Psi ops.toList 0 Ds)
  (hfin : ∀ (vs : Nat → Value) w,G w → (∀ i,i < ops.size → Psi i (vs i) w) → Q .normal (canon ops vs a0 (List.range ops.size)) w) :
  ∀ (fuel : Nat) (listed : Array Bool) (a : Act) (w : World) (vs : Nat → Value),listed.size = ops.size → fuel + listed.toList.count true = ops.size →
   Agr ops a0 vs (fun i => listed.getD i false = true) a → G w → (∀ i,listed.getD i false = true → Psi i (vs i) w) →
   (∀ i D,Ds[i]? = some D → listed.getD i false = true → ∀ j ∈ D,listed.getD j false = true) → Closed md ops listed → wpAny P md ops Q fuel listed a w:=by
 have fin : ∀ (listed : Array Bool) (a : Act) (w : World) (vs : Nat → Value),(∀ i,i < ops.size → listed.getD i false = true) → Agr ops a0 vs (fun i => listed.getD i false = true) a → G w → (∀ i,listed.getD i false = true → Psi i (vs i) w) → Q .normal a w:=by
  intro listed a w vs hall hA hG hP
  have h2:=Agr.canon hD hB (List.range ops.size) a0 (fun _ => False) (Agr.start a0 vs) (fun i hi => List.mem_range.1 hi)
  rw [hA.all h2 hall (fun i hi => .inr (List.mem_range.2 hi))]
  exact hfin vs w hG fun i hi => hP i (hall i hi)
 intro fuel
 induction fuel with
 | zero =>
  intro listed a w vs hs hc hA hG hP hcl hclo
  have hall : ∀ b ∈ listed.toList,true = b:=List.count_eq_length.1 (by simp only [Array.length_toList];omega)
  have hall2 : ∀ i,i < ops.size → listed.getD i false = true:=fun i hi => by
   have hi2 : i < listed.size:=by omega
   have:=hall listed[i] (by simp)
   simp [Array.getD_eq_getD_getElem?,Array.getElem?_eq_getElem hi2,← this]
  refine ⟨?_,fin listed a w vs hall2 hA hG hP⟩
  apply List.eq_nil_iff_forall_not_mem.2
  intro j hj
  obtain ⟨h1,o,ho,_⟩:=mem_ready.1 hj
  have:=hall2 j (Array.getElem?_eq_some_iff.1 ho).1
  rw [getD_both h1] at this
  cases this
 | succ fuel ih =>
  intro listed a w vs hs hc hA hG hP hcl hclo
  refine ⟨fun h0 => fin listed a w vs (ready_all hdeps hs h0) hA hG hP,fun i hi => ?_⟩
  obtain ⟨hun,o,ho,hall⟩:=mem_ready.1 hi
  obtain ⟨D,hDi,hok⟩:=deps_of hdeps ho
  have hlt:=(Array.getElem?_eq_some_iff.1 ho).1
  have hun2:=getD_both hun
  have hdl : ∀ j ∈ D,listed.getD j false = true:=fun j hj => by
   obtain ⟨e,he,hb,hor⟩:=hok.from_ j hj
   rcases hor with rfl | hm
   ·exact hall e he hb
   ·have hlt2:=Nat.lt_trans (hok.down e he hb) hlt
    obtain ⟨D2,hD2,_⟩:=deps_of hdeps (Array.getElem?_eq_getElem hlt2)
    refine hcl e.on D2 hD2 (hall e he hb) j ?_
    rwa [List.getD_eq_getElem?_getD,hD2] at hm
  have hDlt : ∀ j ∈ D,j < ops.size:=fun j hj => by
   have:=hdl j hj
   rcases Nat.lt_or_ge j listed.size with h' | h'
   ·omega
   ·simp [Array.getD_eq_getD_getElem?,Array.getElem?_eq_none h'] at this
  have hrule:=rulesL_at hrules i o D (by rw [Array.getElem?_toList];exact ho) hDi
  rw [Nat.zero_add] at hrule
  have hC:=Agr.canon hD hB D a0 (fun _ => False) (Agr.start a0 vs) hDlt
  have hag : ∀ t ∈ o.looksAt ops,a.tmps[t]? = (canon ops vs a0 D).tmps[t]?:=fun t ht => by
   refine hA.at2 hC t ?_
   rcases hok.looks t ht with ⟨j,hj,e⟩ | hn
   ·have hjo : ops[j]? = some (ops[j]'(hDlt j hj)):=Array.getElem?_eq_getElem _
    rw [hjo,Option.bind_some] at e
    exact .inl ⟨j,_,hjo,e,hdl j hj,.inr hj⟩
   ·refine .inr fun j oj hj hLM hd => ?_
    have hjl : listed.getD j false = true:=by
     rcases hLM with h | h | h
     ·exact h
     ·exact h.elim
     ·exact hdl j h
    have:=waits_spec hclo ops.size j oj hj (hn j oj hj hd) (hclo j oj hj hjl)
    rw [hun2] at this
    cases this
  obtain ⟨hex,hwa⟩:=exec_agree hok.sel hag
  have hdef : (canon ops vs a0 D).defers = a.defers:=hC.defers.trans hA.defers.symm
  -- what follows behind the operation
  have next : ∀ v w',E w w' → G w' → Psi i v w' → wpAny P md ops Q fuel (listed.setIfInBounds i true) (a.put o.dst v) w':=by
   intro v w' hE hG' hPv
   have hils : i < listed.size:=by omega
   have hgi : ∀ j,(listed.setIfInBounds i true).getD j false = true ↔ (listed.getD j false = true ∨ j = i):=fun j => by
    by_cases e : i = j
    ·subst e
     simp [Array.getD_eq_getD_getElem?,hils]
    ·rw [getD_set_ne false e]
     constructor
     ·exact .inl
     ·rintro (h | h)
      ·exact h
      ·exact absurd h.symm e
   refine ih _ _ _ (fun j => if j = i then v else vs j) (by simpa using hs) ?_ ?_ hG' ?_ ?_ (hclo.set hi)
   ·rw [Array.toList_setIfInBounds,List.count_set (by simpa using hils)]
    have : (listed.toList[i]'(by simpa using hils)) = false:=by
     rw [Array.getD_eq_getD_getElem?,Array.getElem?_eq_getElem hils] at hun2
     simpa using hun2
    rw [this]
    simp only [Bool.false_eq_true,beq_iff_eq,beq_self_eq_true,if_true,if_false,reduceCtorEq,Nat.sub_zero]
    omega
   ·exact (hA.put hD hB ho v _ (by simp) (fun j hj => by simp [hj])).congr fun j => (hgi j).symm
   ·intro j hj
    show Psi j (if j = i then v else vs j) w'
    by_cases e : j = i
    ·subst e;simpa using hPv
    ·rw [if_neg e]
     exact hst j _ w w' hE (hP j (((hgi j).1 hj).resolve_right e))
   ·intro j Dj hj hl k hk
    rw [hgi] at hl ⊢
    rcases hl with hl | rfl
    ·exact .inl (hcl j Dj hj hl k hk)
    ·rw [hDi] at hj
     cases hj
     exact .inl (hdl k hk)
  have hR:=hrule vs w hG (depsL_of fun j hj => hP j (hdl j hj))
  unfold Go.wpOp
  simp only [ho]
  rw [hwa]
  split
  ·rename_i hw
   left
   have hR2:=hR (fun a' w' => ∃ v,a' = (canon ops vs a0 D).put o.dst v ∧ E w w' ∧ G w' ∧ Psi i v w') (fun v w' h1 h2 h3 => ⟨v,rfl,h1,h2,h3⟩)
   rw [if_pos hw] at hR2
   have conv : ∀ u w',(∃ v,(canon ops vs a0 D).put o.dst u = (canon ops vs a0 D).put o.dst v ∧ E w w' ∧ G w' ∧ Psi i v w') → wpAny P md ops Q fuel (listed.setIfInBounds i true) (a.put o.dst u) w':=by
    rintro u w' ⟨v,he,h1,h2,h3⟩
    cases hd : o.dst with
    | none =>
     have:=next v w' h1 h2 h3
     rw [hd] at this
     exact this
    | some d =>
     have hdlt : d < (canon ops vs a0 D).tmps.size:=by rw [hC.size];exact hB i o d ho hd
     have e1:=put_at (canon ops vs a0 D) d u hdlt
     rw [hd] at he
     rw [he,put_at _ _ _ hdlt] at e1
     cases e1
     have:=next u w' h1 h2 h3
     rw [hd] at this
     exact this
   have hdf : ∀ (d : Deferred) u w',(∃ v,({ canon ops vs a0 D with defers:=d :: (canon ops vs a0 D).defers } : Act).put o.dst u = (canon ops vs a0 D).put o.dst v ∧ E w w' ∧ G w' ∧ Psi i v w') → False:=by
    rintro d u w' ⟨v,he,-⟩
    have:=congrArg Act.defers he
    rw [put_defers,put_defers] at this
    have:=congrArg List.length this
    simp at this
   unfold Oper.wp at hR2 ⊢
   rw [hex]
   generalize (execOp (canon ops vs a0 D).eval o).run P w = r at *
   cases r with
   | ok n w' =>
    cases n <;> simp only [Oper.upon] at hR2 ⊢
    case value u => exact conv u w' hR2
    case skip => exact conv _ w' hR2
    case defer d => exact (hdf d _ w' hR2).elim
    case enter f args => 
     refine Calls.mono hR2 fun e w'' he => ?_
     cases e with
     | returned v => exact conv v w'' he
     | panicked c => exact hQ c _ _ _ hdef he
     | outgrown => exact he
    case row row args => exact Rows.mono hR2 fun v w'' he => conv v w'' he
    all_goals first | exact hR2.elim | exact hR2
   | halt x w' => cases x <;> simp only [Oper.upon] at hR2 ⊢ <;> first | exact hR2.elim | exact hQ _ _ _ _ hdef hR2 | exact hR2
  ·rename_i hw
   have hR2:=hR (fun _ _ => True) (fun _ _ _ _ _ => trivial)
   rw [if_neg hw] at hR2
   exact next undef w (hrefl w) hG hR2

/-! ### the same,as a program prints it -/
def canonD (vs : Nat → Value) : Act → List (Nat × Tmp) → Act
 | a,[] => a
 | a,(i,d) :: l => canonD vs (a.put (some d) (vs i)) l
def ddOf (ops : Array Oper) (D : List Nat) : List (Nat × Tmp):=D.filterMap fun i => ((ops[i]?).bind (·.dst)).map (i,·)
theorem canon_dd (vs : Nat → Value) : ∀ (D : List Nat) (a : Act),canon ops vs a D = canonD vs a (ddOf ops D)
 | [],_ => rfl
 | i :: D,a => by
  unfold canon
  rw [canon_dd vs D]
  unfold ddOf
  cases h : (ops[i]?).bind (·.dst) with
  | none => rw [List.filterMap_cons_none (by simp [h])];rfl
  | some d => rw [List.filterMap_cons_some (b:=(i,d)) (by simp [h])];rfl
def psiAt (L : List (Value → World → Prop)) (i : Nat) : Value → World → Prop:=L.getD i fun _ _ => True
def stabL (E : World → World → Prop) : List (Value → World → Prop) → Prop
 | [] => True
 | p :: L => (∀ v w w',E w w' → p v w → p v w') ∧ stabL E L
theorem stab_at {E : World → World → Prop} : ∀ {L : List (Value → World → Prop)},stabL E L → ∀ i v w w',E w w' → psiAt L i v w → psiAt L i v w'
 | [],_,i,v,w,w',_,_ => by unfold psiAt;simp
 | p :: L,h,0,v,w,w',hE,hp => h.1 v w w' hE hp
 | p :: L,h,i + 1,v,w,w',hE,hp => stab_at (L:=L) h.2 i v w w' hE hp
def isV (u : Value) : Value → World → Prop:=fun v _ => v = u
theorem isV_stab {E : World → World → Prop} {u : Value} : ∀ v w w',E w w' → isV u v w → isV u v w':=fun _ _ _ _ h => h
def depsD (L : List (Value → World → Prop)) (vs : Nat → Value) (w : World) : List (Nat × Tmp) → Prop
 | [] => True
 | (j,_) :: D => psiAt L j (vs j) w ∧ depsD L vs w D
theorem depsD_of {L : List (Value → World → Prop)} {vs : Nat → Value} {w : World} : ∀ {D : List (Nat × Tmp)},depsL (psiAt L) (D.map Prod.fst) vs w → depsD L vs w D
 | [],_ => trivial
 | (_,_) :: _,h => ⟨h.1,depsD_of h.2⟩
def RuleD (P : Program) (Q : Exit → Act → World → Prop) (a0 : Act) (G : World → Prop) (E : World → World → Prop) (L : List (Value → World → Prop)) (ops : Array Oper) (D : List (Nat × Tmp)) (i : Nat) (o : Oper) : Prop :=
 ∀ (vs : Nat → Value) (w : World),G w → depsD L vs w D → ∀ K : Act → World → Prop,Shut (∀ v w',E w w' → G w' → psiAt L i v w' → K ((canonD vs a0 D).put o.dst v) w') →
  if Region.wanted o (yielded ops (canonD vs a0 D).tmps) = true then Oper.wp P o (canonD vs a0 D) w K Q else psiAt L i undef w
def rulesD (P : Program) (Q : Exit → Act → World → Prop) (a0 : Act) (G : World → Prop) (E : World → World → Prop) (L : List (Value → World → Prop)) (ops : Array Oper) : List Oper → Nat → List (List (Nat × Tmp)) → Prop
 | o :: os,i,D :: Ds => RuleD P Q a0 G E L ops D i o ∧ rulesD P Q a0 G E L ops os (i + 1) Ds
 | _,_,_ => True
def ddOk (ops : Array Oper) (Dds : List (List (Nat × Tmp))) : Bool:=Dds.all fun D => ddOf ops (D.map Prod.fst) == D
theorem rules_of {a0 : Act} {G : World → Prop} {E : World → World → Prop} {L : List (Value → World → Prop)} : ∀ {os : List Oper} {i : Nat} {Dds : List (List (Nat × Tmp))},ddOk ops Dds = true → rulesD P Q a0 G E L ops os i Dds → rulesL P ops Q a0 G E (psiAt L) os i (Dds.map (List.map Prod.fst))
 | [],_,_,_,_ => by simp [rulesL]
 | o :: os,i,[],_,_ => by simp [rulesL]
 | o :: os,i,D :: Ds,hd,h => by
  unfold ddOk at hd
  rw [List.all_cons,Bool.and_eq_true] at hd
  refine ⟨?_,rules_of (Dds:=Ds) hd.2 h.2⟩
  intro vs w hG hdeps K hK
  have e : canon ops vs a0 (D.map Prod.fst) = canonD vs a0 D:=by rw [canon_dd,beq_iff_eq.1 hd.1]
  rw [e] at hK ⊢
  exact h.1 vs w hG (depsD_of hdeps) K hK
def psiAll (L : List (Value → World → Prop)) (vs : Nat → Value) (w : World) : List Nat → Prop
 | [] => True
 | i :: l => psiAt L i (vs i) w ∧ psiAll L vs w l
theorem psiAll_of {L : List (Value → World → Prop)} {vs : Nat → Value} {w : World} : ∀ {l : List Nat},(∀ i ∈ l,psiAt L i (vs i) w) → psiAll L vs w l
 | [],_ => trivial
 | i :: l,h => ⟨h i (by simp),psiAll_of fun j hj => h j (by simp [hj])⟩

theorem wp_region_rules {id : Nat} {a : Act} {w : World} (G : World → Prop) (E : World → World → Prop) (L : List (Value → World → Prop)) (Dds : List (List (Nat × Tmp))) (n : Nat) (idx : List Nat) (all : List (Nat × Tmp)) (hm : P.follows .mixedOrders = true)
  (hdi : distinctB ops = true) (hn : a.tmps.size = n) (hb : boundB ops n = true) (hdd : ddOk ops Dds = true) (hdeps : depsB .any ops (Dds.map (List.map Prod.fst)) = true) (hall : (List.range ops.size == idx && ddOf ops idx == all) = true)
  (hQ : ∀ c (a a' : Act) w,a.defers = a'.defers → Q (.panic c) a w → Q (.panic c) a' w) (hrefl : ∀ w,E w w) (hG : G w.drew) (hst : stabL E L)
  (hrules : rulesD P Q a G E L ops ops.toList 0 Dds)
  (hfin : ∀ (vs : Nat → Value) w,G w → psiAll L vs w idx → Q .normal (canonD vs a all) w) : (Code.region id ops true).wp P Q a w:=by
 rw [Bool.and_eq_true,beq_iff_eq,beq_iff_eq] at hall
 obtain ⟨rfl,rfl⟩:=hall
 refine wp_region_any hm (wpAny_rules (a0:=a) (G:=G) (E:=E) (Psi:=psiAt L) (Ds:=Dds.map (List.map Prod.fst)) (distinct_of hdi) (by rw [hn];exact bound_of hb) hdeps hQ hrefl (stab_at hst) (rules_of hdd hrules)
  (fun vs w hG hP => by rw [canon_dd];exact hfin vs w hG (psiAll_of fun i hi => hP i (List.mem_range.1 hi))) ops.size _ a _ (fun _ => undef) (by simp) (by simp [List.count_replicate]) ?_ hG ?_ ?_ ?_)
 ·refine (Agr.start a _).congr fun i => ?_
  simp [Array.getD_eq_getD_getElem?,Array.getElem?_replicate]
  split <;> simp
 ·intro i hi
  simp [Array.getD_eq_getD_getElem?,Array.getElem?_replicate] at hi
  split at hi <;> simp at hi
 ·intro i D _ hi
  simp [Array.getD_eq_getD_getElem?,Array.getElem?_replicate] at hi
  split at hi <;> simp at hi
 ·intro i o _ hi
  simp [Array.getD_eq_getD_getElem?,Array.getElem?_replicate] at hi
  split at hi <;> simp at hi
end
end
theorem wp_load_row {P : Program} {w : World} {o : Oper} {a : Act} {K : Act → World → Prop} {Q : Exit → Act → World → Prop} (ty : TypeId) (x : Operand) (ho : o.op = .load ty x)
  (g : Nat) (hx : a.eval x = .pointer (some ⟨g,0,none⟩)) (t : TypeId) (c : Array Value) (d : TypeDesc) (hb : Box w g t c)
  (hu : P.underlying ty = some d) (hd : (match d with | .struct _ | .array _ _ => true | _ => false) = true) (hi : (P.info? ty).map (·.size) = some c.size)
  (h : K (a.put o.dst (.agg c)) w) : Oper.wp P o a w K Q:=by
 unfold Oper.wp
 rw [run_load_row ty x ho g hx t c d hb hu hd hi]
 exact h
end Go.Proofs.YtcngfbjmpemehaaGreat
