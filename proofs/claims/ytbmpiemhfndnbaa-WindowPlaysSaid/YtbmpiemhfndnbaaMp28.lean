import Derived.Test.YtbmpiemhfndnbaaMp7
import Derived.Test.YtbmpiemhfndnbaaMp27
import Derived.Test.YtbmpiemhfndnbaaMp15
import Derived.Test.YtbmpiemhfndnbaaMp18
import Derived.Test.YtbmpiemhfndnbaaMp16
/- The walk of confluxref12.All; imprints as elements of slices (printed by gen_imp14.py). -/
namespace Go.Proofs.Ytbmpiemhfndnbaa
open Go.RowKit

/-- An imprint as nine cells; the reference's as two. -/
def BtR (w : World) (c : List Value) (x : Bt) (B : List Nat) : Prop := ∃ vb, c = (bc x vb).toList ∧ Bytes w vb x.body ∧ B = (liveOf vb).toList
def RbR (w : World) (c : List Value) (x : Bt) (B : List Nat) : Prop := ∃ vh vb, c = [vh, vb] ∧ Bytes w vh x.head ∧ Bytes w vb x.body ∧ B = (liveOf vh).toList ++ (liveOf vb).toList
theorem slice_one {w : World} {v : Value} {xs : List Value} (h : Sl w v xs) : v.oneCell' = true := by
  obtain ⟨a, c, rfl⟩ := h.shape
  rfl
theorem Rep.bt : Rep 9 BtR where
  len := by rintro w c y B ⟨vb, rfl, -, -⟩; rfl
  one := by
    rintro w c y B ⟨vb, rfl, h, -⟩ u hu
    simp [bc] at hu
    rcases hu with rfl | rfl | rfl | rfl | rfl | rfl | rfl | rfl | rfl
    all_goals first | rfl | exact slice_one h
  lt := by
    rintro w c y B ⟨vb, rfl, h, rfl⟩ b hb
    exact Sl.lt h b (by simpa using hb)
  fr := by
    rintro w w' c y B S ⟨vb, rfl, h, rfl⟩ hf hS
    exact ⟨vb, rfl, Sl.frL h hf (fun b hb => hS b (by simp [hb])), rfl⟩
theorem Rep.rb : Rep 2 RbR where
  len := by rintro w c y B ⟨vh, vb, rfl, -, -, -⟩; rfl
  one := by
    rintro w c y B ⟨vh, vb, rfl, h1, h2, -⟩ u hu
    simp only [List.mem_cons, List.not_mem_nil, or_false] at hu
    rcases hu with rfl | rfl
    · exact slice_one h1
    · exact slice_one h2
  lt := by
    rintro w c y B ⟨vh, vb, rfl, h1, h2, rfl⟩ b hb
    rcases List.mem_append.1 hb with hb | hb
    · exact Sl.lt h1 b (by simpa using hb)
    · exact Sl.lt h2 b (by simpa using hb)
  fr := by
    rintro w w' c y B S ⟨vh, vb, rfl, h1, h2, rfl⟩ hf hS
    exact ⟨vh, vb, rfl, Sl.frL h1 hf (fun b hb => hS b (by simp [hb])), Sl.frL h2 hf (fun b hb => hS b (by simp [hb])), rfl⟩
theorem all_take (xs : List Bt) (j : Nat) (h : j < xs.length) : Bt.all (xs.take (j + 1)) = (Bt.all (xs.take j)).add xs[j] := by
  rw [List.take_succ_eq_append_getElem h, bt_all_snoc]
theorem all_small {xs : List Bt} {n : Nat} (h : ∀ x ∈ xs, x.body.length ≤ n) : (Bt.all xs).body.length ≤ n := Bt.fold_small _ _ _ (by simp [Bt.zero]) h

end Go.Proofs.Ytbmpiemhfndnbaa

/- Small lemmas on boxes, elements and imprints (out of the walk of ImprintFolds). -/
namespace Go.Proofs.Ytbmpiemhfndnbaa
open Go.RowKit

theorem box_range {w : World} {g : Nat} {t : TypeId} {c : Array Value} (h : Box w g t c) : w.rangeAt g 0 c.toList := fun j u hj => by
  rw [Nat.zero_add, h.cell, ← Array.getElem?_toList]
  exact hj
theorem mem_toList {b : Nat} {o : Option Nat} : b ∈ o.toList ↔ o = some b := by cases o <;> simp [eq_comm]
theorem OwnEls.open_ {α : Type} {k : Nat} {R : World → List Value → α → List Nat → Prop} {w : World} {base : Nat} {e : TypeId} {a : Option Addr} {n cap : Nat} {ys : List α} {B : List Nat} (h : OwnEls k R w base e (.slice a n cap) ys B) (hb : ∃ g, blockOf (.slice a n cap) = some g) :
    ∃ g o cells, a = some ⟨g, o, none⟩ ∧ base ≤ g ∧ g < w.heap.size ∧ Els R ys w cells B ∧ w.rangeAt g o cells ∧ n = ys.length := by
  obtain ⟨cells, ⟨h1, h | ⟨g, cap', cur, e1, h2, h3, h4, h5, h6, h7⟩⟩, h8, h9⟩ := h
  · obtain ⟨h, _⟩ := h
    obtain ⟨g, hg⟩ := hb
    rw [h] at hg
    simp [blockOf] at hg
  · simp only [Value.slice.injEq] at e1
    obtain ⟨rfl, rfl, rfl⟩ := e1
    refine ⟨g, 0, cells, rfl, h2, (Array.getElem?_eq_some_iff.1 h3).1, h8, fun i x hx => ?_, rfl⟩
    rw [Nat.zero_add, cell_of_row w g i cur _ _ h3, ← Array.getElem?_toList]
    rw [← h7, List.getElem?_take] at hx
    split at hx
    · exact hx
    · cases hx
theorem imp_small {l : List UInt8} (h : l.length ≤ 500) : (imp l).body.length ≤ 500 := by
  show (l.drop 12).length ≤ 500
  rw [List.length_drop]
  omega
theorem wpList_load_midA {P : Program} {ops : Array Oper} {rest : List Oper} {op : Oper} {a : Act} {w : World} {Q : Exit → Act → World → Prop} (hgd : op.guard = none) (ty : TypeId) (x : Operand) (ho : op.op = .load ty x)
    (b o : Nat) (hx : a.eval x = .pointer (some ⟨b, o, none⟩)) (cs : Array Value) (d : TypeDesc) (hc : w.rangeAt b o cs.toList)
    (hu : P.underlying ty = some d) (hd : d.isRow = true) (hi : (P.info? ty).map (·.size) = some cs.size)
    (h : wpList P ops Q rest (a.put op.dst (.agg cs)) w) : wpList P ops Q (op :: rest) a w :=
  wpList_load_mid hgd ty x ho b o hx cs.toList d hc hu hd hi h
theorem imp_lenb {l : List UInt8} {p : Pkt} (h : parseR l = .ok p) : (imp l).len = (imp l).body.length := by
  obtain ⟨h1, h2⟩ := parse_back h
  rw [← h2, imp_len h1, imp_bytes]
theorem and1023 (c : Int) : ∃ n : Nat, bits .and .i64 c 1023 = (n : Int) ∧ n ≤ 1023 := by
  have h : (BitVec.ofInt 64 c &&& BitVec.ofInt 64 1023).toNat ≤ 1023 := by
    rw [BitVec.toNat_and]
    exact Nat.and_le_right
  refine ⟨_, ?_, h⟩
  show IntKind.i64.wrap ((BitVec.ofInt 64 c &&& BitVec.ofInt 64 1023).toNat : Int) = _
  exact IntWalk.i64_in _ (by omega)
end Go.Proofs.Ytbmpiemhfndnbaa

/- A range over a function whose body goes on or breaks off; the iterator may keep cells of its own. No program in sight. -/
namespace Go.Proofs.Ytbmpiemhfndnbaa
open Go.RowKit Go.Shelf

/-- The iterator's contract: it calls yield with each element of xs, in order, as far as rounds go on. -/
def SeqB {α : Type} (F : Fence) (n : Nat) (P : Program) (g : Nat) (lb : Array Value) (encs : α → Array Value) (Xs : List (Nat × Nat)) (xs : List α) (w : World) : Prop :=
  ∀ (l : Nat) (J Jx : List α → World → Prop) (W : World), Below w.heap.size w W → Low Xs W → AbX Xs W.heap.size J → AbX Xs W.heap.size Jx →
    (∀ pre x W1, (pre ++ [x]) <+: xs → J pre W1 → YieldAt F (n - 1) P l (encs x) W1 fun e W' => (e = .returned (.bool true) ∧ J (pre ++ [x]) W' ∧ Kx Xs W1 W') ∨ (e = .returned (.bool false) ∧ Jx (pre ++ [x]) W')) →
    J [] W → CallsIn F n P g (#[.func (.yield l) #[] #[]] ++ lb) W fun e W' => (∃ v, e = .returned v) ∧ ((J xs W' ∧ Kx Xs W W') ∨ ∃ pre, pre <+: xs ∧ Jx pre W')

def postBrk {α : Type} (Xs : List (Nat × Nat)) (I : List α → World → Prop) (Ix : Nat → List α → World → Prop) (xs : List α) (W : World) : Exit → Act → World → Prop
  | .normal, _, W' => Kx Xs W W' ∧ I xs W'
  | .exit id, _, W' => Kx Xs W W' ∧ Ix id xs W'
  | _, _, _ => False

variable {F : Fence} {n : Nat} {P : Program}
theorem wpIn_rangeBrk {α : Type} {g : Operand} {ps : Array Tmp} {assign body : Code} {Q : Exit → Act → World → Prop} {a : Act} {w : World}
    (hro : F.round = none) (h1 : 1 ≤ n) {gf : Nat} {lb : Array Value} (hg : a.eval g = .func (.func gf) #[] lb) (hFg : F.fn gf) (eg : ∀ args w, (callFunc gf args).run P w = .ok (.enter gf args) w)
    {encs : α → Array Value} {Xs : List (Nat × Nat)} {xs : List α} {w0 : World} (hseq : SeqB F (n - 1) P gf lb encs Xs xs w0) (hb0 : Below w0.heap.size w0 w) (hps : ∀ x, (encs x).size = ps.size)
    (hX : ∀ p ∈ Xs, p.1 < w.heap.size) (hlow : Low Xs w)
    (I : List α → World → Prop) (Ix : Nat → List α → World → Prop) (hI : AbX Xs w.heap.size I) (hIx : ∀ id, AbX Xs w.heap.size (Ix id)) (h0 : I [] w) (a₁ : α → Act)
    (hassign : ∀ (l : Nat) (x : α) (W : World) (K : Act → World → Prop), K (a₁ x) W →
      assign.wpIn (F.inRound l) (n - 1 - 1) P (Exit.then K (fun _ _ _ => False)) { tmps := (ps.zip (encs x)).foldl (fun t (p, v) => t.setIfInBounds p v) a.tmps, defers := [] } W)
    (hbody : ∀ (l : Nat) (pre : List α) (x : α) (W : World), w.heap.size ≤ l → (pre ++ [x]) <+: xs → I pre W → Low Xs W → w.heap.size ≤ W.heap.size → body.wpIn (F.inRound l) (n - 1 - 1) P (postBrk Xs I Ix (pre ++ [x]) W) (a₁ x) W)
    (hdone : ∀ (D : Nat) (W : World), w.heap.size ≤ D → I xs W → Kx Xs w W → W.heap[D]? = some (.deferred (some [])) → Q .normal { a with defers := { target := .collected D, args := #[] } :: a.defers } W)
    (hstop : ∀ (D : Nat) (id : Nat) (pre : List α) (W : World), w.heap.size ≤ D → pre <+: xs → Ix id pre W → W.heap[D]? = some (.deferred (some [])) → (Code.exit id).wpIn F n P Q { a with defers := { target := .collected D, args := #[] } :: a.defers } W) :
    (Code.rangeFunc g ps assign body).wpIn F n P Q a w := by
  refine wpIn_rangeFunc ?_
  intro fn hfn
  rw [hro]
  obtain ⟨rc, hrc⟩ : ∃ rc : LoopState → Option Code → Loop, rc = fun st pe => { state := st, pending := pe, fn, tmps := a.tmps, params := ps, assign, body, defers := w.heap.size } := ⟨_, rfl⟩
  obtain ⟨W1, hW1⟩ : ∃ W1, (w.alloc (.deferred (some []))).alloc (.loop (rc .ready none)) = W1 := ⟨_, rfl⟩
  have hf1 : Fr [] w W1 := by rw [← hW1]; exact ((Fr.refl [] w).alloc _).alloc _
  have hs1 : W1.heap.size = w.heap.size + 2 := by rw [← hW1]; simp
  have hL1 : W1.heap[w.heap.size + 1]? = some (.loop (rc .ready none)) := by
    rw [← hW1]; have := World.alloc_heap_new (w.alloc (.deferred (some []))) (.loop (rc .ready none)); rwa [World.size_alloc] at this
  have hK1 : W1.heap[w.heap.size]? = some (.deferred (some [])) := by
    rw [← hW1]; exact (Below.heap_alloc _ _ _ (by simp)).trans (World.alloc_heap_new w _)
  have hI1 : I [] W1 := hI.fr0 h0 hf1
  have hb1 : Below w0.heap.size w0 W1 := hb0.trans (hf1.below.mono hb0.size)
  have hx1 : Kx Xs w W1 := Kx.ofFr hf1 hX
  have put : ∀ (W : World) (o : Obj) (p : Nat × Nat), p ∈ Xs → (W.putObj (w.heap.size + 1) o).heap[p.1]? = W.heap[p.1]? := fun W o p hp => World.putObj_heap_other (by have := hX p hp; omega)
  refine ⟨w.heap.size + 1, [{ target := .collected w.heap.size, args := #[] }], W1, { target := .fn (.func gf) lb, args := #[.func (.yield (w.heap.size + 1)) #[] #[]] }, W1, gf,
    #[.func (.yield (w.heap.size + 1)) #[] #[]] ++ lb, W1, ?_, ?_, ?_, ?_, fun _ => h1, ?_⟩
  · rw [← hW1, hrc]; exact run_enterLoop_outer _ _ _ _ _
  · simp only [resolve, hg]
    simp [go_sem]
  · intro f' hf'; simp [Target.leads] at hf'; subst hf'; exact hFg
  · simp [invoke, go_sem, eg]
  refine (hseq (w.heap.size + 1) (fun pre W => (I pre W ∧ w.heap.size ≤ W.heap.size ∧ Low Xs W) ∧ W.heap[w.heap.size + 1]? = some (.loop (rc .ready none)) ∧ W.heap[w.heap.size]? = some (.deferred (some []))) (fun pre W => ∃ id, Ix id pre W ∧ W.heap[w.heap.size + 1]? = some (.loop (rc .done (some (.exit id)))) ∧ W.heap[w.heap.size]? = some (.deferred (some []))) W1 hb1 (hx1.low hlow) ?_ ?_ ?_ ⟨⟨hI1, hf1.size, hx1.low hlow⟩, hL1, hK1⟩).mono ?_
  · intro s A B row hs hgr hr
    have e : ∀ k, k < W1.heap.size → k < A.heap.size → B.heap[k]? = A.heap[k]? := fun k hk hA => hgr.block k hA (fun e => by have := (hr k e.symm).1; omega)
    refine ⟨⟨hI s A B row hs.1.1 hgr (fun r er => ⟨by have := (hr r er).1; omega, (hr r er).2⟩), Nat.le_trans hs.1.2.1 hgr.size, ?_⟩, ?_, ?_⟩
    · refine hs.1.2.2.congr (fun p hp => ?_) hgr.size
      have := hX p hp
      exact e p.1 (by omega) (by omega)
    · rw [e _ (by omega) (Array.getElem?_eq_some_iff.1 hs.2.1).1]; exact hs.2.1
    · rw [e _ (by omega) (Array.getElem?_eq_some_iff.1 hs.2.2).1]; exact hs.2.2
  · rintro s A B row ⟨id, hs1, hs2, hs3⟩ hgr hr
    have e : ∀ k, k < W1.heap.size → k < A.heap.size → B.heap[k]? = A.heap[k]? := fun k hk hA => hgr.block k hA (fun e => by have := (hr k e.symm).1; omega)
    exact ⟨id, hIx id s A B row hs1 hgr (fun r er => ⟨by have := (hr r er).1; omega, (hr r er).2⟩), by rw [e _ (by omega) (Array.getElem?_eq_some_iff.1 hs2).1]; exact hs2, by rw [e _ (by omega) (Array.getElem?_eq_some_iff.1 hs3).1]; exact hs3⟩
  · rintro pre x W hpre ⟨⟨hi, hsz, hlw⟩, hl, hk⟩
    have hlt : w.heap.size + 1 < W.heap.size := (Array.getElem?_eq_some_iff.1 hl).1
    have hy := run_yield (P := P) (args := encs x) hl (by rw [hrc]; exact hps x)
    rw [hrc] at hy
    refine ⟨fn, _, assign, body, hy, roundIn_of_wpIn hfn (hassign _ x W _ ?_)⟩
    clear hy
    refine ⟨_, run_beginRound hl (by rw [hrc]), ?_⟩
    have hl2 : (W.putObj (w.heap.size + 1) (.loop { rc .ready none with state := .busy })).heap[w.heap.size + 1]? = some (.loop { rc .ready none with state := .busy }) := World.putObj_heap_same hlt
    have hk2 : (W.putObj (w.heap.size + 1) (.loop { rc .ready none with state := .busy })).heap[w.heap.size]? = some (.deferred (some [])) := (World.putObj_heap_other (by omega)).trans hk
    have hz2 : (W.putObj (w.heap.size + 1) (.loop { rc .ready none with state := .busy })).heap.size = W.heap.size := by simp
    have hg2 : ∀ k, Gd Xs W k → Gd Xs (W.putObj (w.heap.size + 1) (.loop { rc .ready none with state := .busy })) k := fun k h => h.congr (put W _)
    have hlw2 : Low Xs (W.putObj (w.heap.size + 1) (.loop { rc .ready none with state := .busy })) := hlw.congr (put W _) (by rw [hz2]; exact Nat.le_refl _)
    have hb2 : ∀ k, k ≠ w.heap.size + 1 → (W.putObj (w.heap.size + 1) (.loop { rc .ready none with state := .busy })).heap[k]? = W.heap[k]? := fun k hk => World.putObj_heap_other hk
    refine wpIn_mono (hbody _ pre x _ (by omega) hpre (hI.putObj _ hi (by omega) hl rfl) hlw2 (by rw [hz2]; exact hsz)) ?_
    generalize W.putObj (w.heap.size + 1) (.loop { rc .ready none with state := .busy }) = W2 at *
    rintro e a3 W3 hp
    cases e with
    | normal =>
      obtain ⟨hkx, hi3⟩ := hp
      have hl3 := hkx.blocks _ _ hl2 (.inr rfl)
      have hk3 := hkx.blocks _ _ hk2 (.inr rfl)
      have hlt3 := (Array.getElem?_eq_some_iff.1 hl3).1
      have hr := run_endRound (P := P) none hl3
      refine ⟨_, _, hr, .inl ⟨rfl, ⟨⟨hI.putObj _ hi3 (by omega) hl3 rfl, ?_, ?_⟩, ?_, ?_⟩, ?_⟩⟩
      · have := hkx.size; rw [putObj_size]; omega
      · exact (hkx.low hlw2).congr (put W3 _) (by simp)
      · rw [World.putObj_heap_same hlt3, hrc]; rfl
      · exact (World.putObj_heap_other (by omega)).trans hk3
      · refine ⟨by have := hkx.size; rw [putObj_size]; omega, ?_, ?_, ?_⟩
        · intro k o hk hgd
          by_cases e : k = w.heap.size + 1
          · subst e
            rw [hl] at hk
            cases hk
            rw [World.putObj_heap_same hlt3, hrc]
            rfl
          · rw [World.putObj_heap_other e]
            exact hkx.blocks k o ((hb2 k e).trans hk) (hgd.imp (hg2 k) id)
        · intro k hk hgd
          exact (hkx.gd k (by omega) (hg2 k hgd)).congr (put W3 _)
        · intro _
          exact (hkx.low hlw2).congr (put W3 _) (by simp)
    | exit id =>
      obtain ⟨hkx, hi3⟩ := hp
      have hl3 := hkx.blocks _ _ hl2 (.inr rfl)
      have hk3 := hkx.blocks _ _ hk2 (.inr rfl)
      have hlt3 := (Array.getElem?_eq_some_iff.1 hl3).1
      have hr := run_endRound (P := P) (some (.exit id)) hl3
      refine ⟨_, _, hr, .inr ⟨rfl, id, (hIx id).putObj _ hi3 (by omega) hl3 rfl, ?_, ?_⟩⟩
      · rw [World.putObj_heap_same hlt3, hrc]; rfl
      · exact (World.putObj_heap_other (by omega)).trans hk3
    | ret => exact hp.elim
    | goto t => exact hp.elim
    | panic ch => exact hp.elim
    | outgrown => exact hp.elim
  · rintro e W2 ⟨⟨v, rfl⟩, ⟨⟨⟨hi, hsz, hlw⟩, hl, hk⟩, hkx⟩ | ⟨pre, hpre, id, hi, hl, hk⟩⟩
    rotate_left
    · exact ⟨some (.exit id), _, by have := run_endLoop (P := P) hl (by rw [hrc]; simp); rw [hrc] at this; exact this, hstop _ id pre _ (Nat.le_refl _) hpre ((hIx id).putObj _ hi (by omega) hl rfl) ((World.putObj_heap_other (by omega)).trans hk)⟩
    have hg2 : ∀ (o : Obj) k, Gd Xs W2 k → Gd Xs (W2.putObj (w.heap.size + 1) o) k := fun o k h => h.congr (put W2 _)
    have hgw : ∀ k, Gd Xs w k → k < w.heap.size → Gd Xs W2 k := fun k h hk => hkx.gd k (by omega) (hx1.gd k hk h)
    refine ⟨none, _, by have := run_endLoop (P := P) hl (by rw [hrc]; simp); rw [hrc] at this; exact this, hdone _ _ (Nat.le_refl _) (hI.putObj _ hi (by omega) hl rfl) ?_ ((World.putObj_heap_other (by omega)).trans hk)⟩
    refine ⟨by rw [putObj_size]; omega, ?_, ?_, ?_⟩
    · intro k o hk' hgd
      have hlt := (Array.getElem?_eq_some_iff.1 hk').1
      rw [World.putObj_heap_other (by omega)]
      exact (hx1.trans hkx).blocks k o hk' hgd
    · intro k hk' hgd
      exact hg2 _ k (hgw k hgd hk')
    · intro _
      exact hlw.congr (put W2 _) (by simp)
/-- The same; what the round's variables are laid into is told by the walk. -/
theorem wpIn_rangeBrkE {α : Type} {g : Operand} {ps : Array Tmp} {assign body : Code} {Q : Exit → Act → World → Prop} {a : Act} {w : World}
    (hro : F.round = none) (h1 : 1 ≤ n) {gf : Nat} {lb : Array Value} (hg : a.eval g = .func (.func gf) #[] lb) (hFg : F.fn gf) (eg : ∀ args w, (callFunc gf args).run P w = .ok (.enter gf args) w)
    {encs : α → Array Value} {Xs : List (Nat × Nat)} {xs : List α} {w0 : World} (hseq : SeqB F (n - 1) P gf lb encs Xs xs w0) (hb0 : Below w0.heap.size w0 w) (hps : ∀ x, (encs x).size = ps.size)
    (hX : ∀ p ∈ Xs, p.1 < w.heap.size) (hlow : Low Xs w)
    (I : List α → World → Prop) (Ix : Nat → List α → World → Prop) (hI : AbX Xs w.heap.size I) (hIx : ∀ id, AbX Xs w.heap.size (Ix id)) (h0 : I [] w)
    (hround : ∀ (x : α), ∃ a₁ : Act, (∀ (l : Nat) (W : World) (K : Act → World → Prop), K a₁ W →
      assign.wpIn (F.inRound l) (n - 1 - 1) P (Exit.then K (fun _ _ _ => False)) { tmps := (ps.zip (encs x)).foldl (fun t (p, v) => t.setIfInBounds p v) a.tmps, defers := [] } W) ∧
      ∀ (l : Nat) (pre : List α) (W : World), w.heap.size ≤ l → (pre ++ [x]) <+: xs → I pre W → Low Xs W → w.heap.size ≤ W.heap.size → body.wpIn (F.inRound l) (n - 1 - 1) P (postBrk Xs I Ix (pre ++ [x]) W) a₁ W)
    (hdone : ∀ (D : Nat) (W : World), w.heap.size ≤ D → I xs W → Kx Xs w W → W.heap[D]? = some (.deferred (some [])) → Q .normal { a with defers := { target := .collected D, args := #[] } :: a.defers } W)
    (hstop : ∀ (D : Nat) (id : Nat) (pre : List α) (W : World), w.heap.size ≤ D → pre <+: xs → Ix id pre W → W.heap[D]? = some (.deferred (some [])) → (Code.exit id).wpIn F n P Q { a with defers := { target := .collected D, args := #[] } :: a.defers } W) :
    (Code.rangeFunc g ps assign body).wpIn F n P Q a w :=
  wpIn_rangeBrk hro h1 hg hFg eg hseq hb0 hps hX hlow I Ix hI hIx h0 (fun x => Classical.choose (hround x)) (fun l x W K hK => (Classical.choose_spec (hround x)).1 l W K hK)
    (fun l pre x W h1 h2 h3 h4 h5 => (Classical.choose_spec (hround x)).2 l pre W h1 h2 h3 h4 h5) hdone hstop
theorem Kx.body2 {Xs : List (Nat × Nat)} {W W' : World} {S : List Nat} (h : Fr S W W') (hS : ∀ g ∈ S, W.heap.size ≤ g ∨ ¬ Gd Xs W g ∧ ∃ o : Obj, W.heap[g]? = some o ∧ o.isCells = true)
    (hn : ∀ p ∈ Xs, ∀ v b, W'.cell? ⟨p.1, p.2, none⟩ = some v → blockOf v = some b → b < W'.heap.size ∧ (W.heap.size ≤ b ∨ ¬ Gd Xs W b)) : Kx Xs W W' := by
  refine ⟨h.size, fun k o hk hg => ?_, fun k hk hg p hp => ⟨(hg p hp).1, fun v hv hb => ?_⟩, fun _ p hp v b hv hb => (hn p hp v b hv hb).1⟩
  · have hlt := (Array.getElem?_eq_some_iff.1 hk).1
    rw [h.block k hlt (fun hm => ?_)]
    · exact hk
    · rcases hS k hm with h1 | ⟨h1, o', ho', hc⟩
      · omega
      · rcases hg with hg | hg
        · exact h1 hg
        · rw [hk] at ho'; cases ho'; rw [hc] at hg; cases hg
  · rcases (hn p hp v k hv hb).2 with h1 | h1
    · omega
    · exact h1 hg
theorem wpListIn_append_fr2 {F : Fence} {n : Nat} {P : Program} {w : World} {ops : Array Oper} {rest : List Oper} {o : Oper} {a : Act} {Q : Exit → Act → World → Prop} (hgd : o.guard = none) (s x : Operand) (t : TypeId)
    (ho : o.op = .call { callee := .builtin .append, args := #[s, x], argTypes := #[t, t] })
    (base : Nat) (e : TypeId) (z : Value) (size bytes : Nat) (ht : P.underlying t = some (.slice e)) (hi : (P.info? e).map (fun i => (i.zero, i.size, i.bytes)) = some (some z, size, bytes)) (hz : z.cells.size = size) (hsz : 0 < size)
    (v : Value) (k : Nat) (xs : List Value) (hs : a.eval s = v) (hown : w.ownsRow base e size v k xs)
    (ad : Addr) (m c : Nat) (news : List Value) (hx : a.eval x = .slice (some ad) m c) (hl : news.length = m * size) (hnews : ∀ j u, news[j]? = some u → w.cell? (ad.add j) = some u) (h1 : ∀ u ∈ news, u.oneCell' = true)
    (h63 : k + m ≤ maxLen) (hbytes : (k + m) * bytes ≤ 140737488355328) (hbase : base ≤ w.heap.size)
    (h : ∀ v' w', w'.ownsRow base e size v' (k + m) (xs ++ news) → Fr (blockOf v).toList w w' → (∀ b, blockOf v' = some b → blockOf v = some b ∨ w.heap.size ≤ b) → (v' = .slice none 0 0 ↔ v = .slice none 0 0 ∧ m = 0) → wpListIn F n P ops Q rest (a.put o.dst v') w') : wpListIn F n P ops Q (o :: rest) a w := by
  refine wpListIn_plain hgd fun K hK => ?_
  obtain ⟨i, hi1, hi2, hi3, hi4⟩ := info_parts hi
  obtain ⟨v', w', hr, h2, h3, h4, h5⟩ := run_append_fresh (P := P) w base t o.type e i z size bytes ht hi1 hi2 hi3 hi4 hz hsz v k xs hown ad m c news hl hnews h1 h63 hbytes hbase
  unfold Oper.wpIn
  refine ⟨by simp [Oper.about, ho, resolve, Target.leads, Sem.run_pure], ?_⟩
  rw [Oper.semAt_plain F _ _ (by rw [ho]; intro c hc'; cases hc')]
  simp [execOp, ho, resolve, invoke, builtin, hs, hx, hr, Result.andThen]
  exact hK _ _ (h v' w' h2 h3 h5 h4)
/-- 'append(s, x)' inside a fence: one element more, of several cells. -/
theorem wpListIn_append_el {α : Type} {k : Nat} {R : World → List Value → α → List Nat → Prop} {F : Fence} {n : Nat} {P : Program} {w : World} {ops : Array Oper} {rest : List Oper} {o : Oper} {a : Act} {Q : Exit → Act → World → Prop} (hR : Rep k R) (hk : 0 < k) (hgd : o.guard = none) (s x : Operand) (t : TypeId)
    (ho : o.op = .call { callee := .builtin .append, args := #[s, x], argTypes := #[t, t] })
    (base : Nat) (e : TypeId) (z : Value) (bytes : Nat) (ht : P.underlying t = some (.slice e)) (hi : (P.info? e).map (fun i => (i.zero, i.size, i.bytes)) = some (some z, k, bytes)) (hz : z.cells.size = k)
    (v : Value) (ys : List α) (B : List Nat) (hs : a.eval s = v) (hown : OwnEls k R w base e v ys B)
    (g off cp : Nat) (hx : a.eval x = .slice (some ⟨g, off, none⟩) 1 cp) (c : List Value) (y : α) (B1 : List Nat) (hc : w.rangeAt g off c) (hy : R w c y B1) (hdis : ∀ b, blockOf v = some b → b ∉ B1)
    (h63 : ys.length + 1 ≤ maxLen) (hbytes : (ys.length + 1) * bytes ≤ 140737488355328) (hbase : base ≤ w.heap.size)
    (h : ∀ v' w', OwnEls k R w' base e v' (ys ++ [y]) (B ++ B1) → Fr (blockOf v).toList w w' → (∀ b, blockOf v' = some b → blockOf v = some b ∨ w.heap.size ≤ b) → wpListIn F n P ops Q rest (a.put o.dst v') w') : wpListIn F n P ops Q (o :: rest) a w := by
  obtain ⟨cells, h1, h2, h3⟩ := hown
  refine wpListIn_append_fr2 hgd s x t ho base e z k bytes ht hi hz hk v ys.length cells hs h1 ⟨g, off, none⟩ 1 cp c hx (by rw [hR.len hy]; omega) (fun j u hj => by rw [Addr.add_mid]; exact hc j u hj) (hR.one hy) h63 hbytes hbase ?_
  intro v' w' q1 q2 q3 q4
  refine h v' w' ⟨cells ++ c, by simpa using q1, (h2.fr hR q2 (fun b hb hm => h3 b (by simpa using hm) hb)).snoc (hR.fr hy q2 (fun b hb hm => hdis b (by simpa using hm) hb)), ?_⟩ q2 q3
  intro b hb hm
  rcases q3 b hb with hv | hn
  · rcases List.mem_append.1 hm with hm | hm
    · exact h3 b hv hm
    · exact hdis b hv hm
  · rcases List.mem_append.1 hm with hm | hm
    · have := h2.lt hR b hm; omega
    · have := hR.lt hy b hm; omega
end Go.Proofs.Ytbmpiemhfndnbaa
