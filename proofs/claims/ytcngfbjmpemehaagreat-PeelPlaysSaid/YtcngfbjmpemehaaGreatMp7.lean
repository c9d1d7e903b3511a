import Derived.Test.YtcngfbjmpemehaaGreatMp3
import Derived.Test.YtcngfbjmpemehaaGreatMp5
import Derived.Test.YtcngfbjmpemehaaGreatMp4
set_option maxRecDepth 100000
set_option maxHeartbeats 16000000
/- More steps of regions: a struct stored whole,a struct loaded whole,as one operation. -/
namespace Go.Proofs.YtcngfbjmpemehaaGreat
open Go.RowKit

theorem wp_store_row {P : Program} {w : World} {ops : Array Oper} {o : Oper} {a : Act} {K : Act → World → Prop} {Q : Exit → Act → World → Prop} {E : Prop} (hgd : o.guard = none) (ty : TypeId) (x y : Operand)
  (ho : o.op = .store ty x y) (g : Nat) (hx : a.eval x = .pointer (some ⟨g,0,none⟩)) (c c' : Array Value) (hy : a.eval y = .agg c') (t : TypeId) (hb : Box w g t c)
  (hi : (P.info? ty).map (·.size) = some c'.size) (hs : c'.size = c.size) (h1 : ∀ u ∈ c'.toList,u.oneCell' = true)
  (h : ∀ w',Box w' g t c' → Fr [g] w w' → K (a.put o.dst undef) w') : if Region.wanted o (yielded ops a.tmps) = true then Oper.wp P o a w K Q else E:=by
 rw [if_pos (by simp [Region.wanted,hgd])]
 have hst:=run_storeCells_at P g 0 t c'.toList 0 c w hb (by simp [hs]) h1
 simp only [Nat.add_zero,List.take_zero,List.nil_append,Nat.zero_add] at hst
 rw [List.drop_of_length_le (by simp [hs]),List.append_nil,Array.toArray_toList] at hst
 cases hq : P.info? ty with
 | none => simp [hq] at hi
 | some i =>
  have hsz : i.size = c'.size:=by simpa [hq] using hi
  unfold Oper.wp execOp
  simp only [ho,hx,hy]
  simp [Instr.storeAt,Instr.sureAddr,storeVar,Sem.run_bind,sizeOf,typeInfo,hq,hsz,Value.cells,hst]
  exact h _ (hb.setRow c') (Box.frSetRow w g c')
theorem Box.as_ {w : World} {g : Nat} {t : TypeId} {c c' : Array Value} (h : Box w g t c) (e : c = c') : Box w g t c':=e ▸ h
theorem run_load_row {P : Program} {w : World} {o : Oper} {a : Act} (ty : TypeId) (x : Operand) (ho : o.op = .load ty x)
  (g : Nat) (hx : a.eval x = .pointer (some ⟨g,0,none⟩)) (t : TypeId) (c : Array Value) (d : TypeDesc) (hb : Box w g t c)
  (hu : P.underlying ty = some d) (hd : (match d with | .struct _ | .array _ _ => true | _ => false) = true) (hi : (P.info? ty).map (·.size) = some c.size) :
  (execOp a.eval o).run P w = .ok (.value (.agg c)) w:=by
 unfold execOp
 simp only [ho,hx,Instr.loadAt,Instr.sureAddr,Sem.run_bind,Sem.run_pure,Result.andThen_ok,run_loadVar_row w g t ty c (0,0) d hb hu hd hi]
theorem wpAnyT_skip {P : Program} {ops : Array Oper} {Q : Exit → Act → World → Prop} {md : Region.Mode} {S : World → Prop} {T : List Nat} {i : Nat} {oi : Oper} {fuel : Nat} {listed : Array Bool} {a : Act} {w : World} (hi : ops[i]? = some oi)
  (hc : closedB md ops listed = true) (hT : (T.all fun j => waitsB md ops i ops.size j) = true)
  (hs : Region.noSelect ops = true) (hf : Region.free md ops listed i = true) (hr : (Region.ready md ops listed).contains i = true)
  (hQ : ∀ c a w,Q (.panic c) (a.put oi.dst undef) w → Q (.panic c) a w) (hS : S w) (hw : Region.wanted oi (yielded ops a.tmps) = false)
  (h : wpAnyT P md ops Q S T fuel (listed.setIfInBounds i true) (a.put oi.dst undef) w) : wpAnyT P md ops Q S T (fuel + 1) listed a w :=
 wpAnyT_first (S':=S) hi (Region.noSelect_spec hs) hQ (.inl (by simpa using hT)) (fun _ h => h) fuel listed a w (closed_of hc) (Region.free_spec hi hf) (by simpa using hr) (.inr ⟨hw,rfl⟩) hS (fun _ => hS) h
end Go.Proofs.YtcngfbjmpemehaaGreat

/- Slices of plain values that a call made: what they are in memory. -/
namespace Go.Proofs.YtcngfbjmpemehaaGreat
open Go.RowKit

def OwnV {α : Type} (w : World) (base : Nat) (t : TypeId) (f : α → Value) (v : Value) (ys : List α) : Prop:=w.ownsRow base t 1 v ys.length (ys.map f)
section
variable {α : Type} {w w' : World} {base : Nat} {t : TypeId} {f : α → Value} {v : Value} {ys : List α}
theorem OwnV.sl (h : OwnV w base t f v ys) : Sl w v (ys.map f):=Sl.ofOwn h
theorem OwnV.isSlice (h : OwnV w base t f v ys) : ∃ a n c,v = .slice a n c:=by
 obtain ⟨a,c,e⟩:=h.sl.shape
 exact ⟨a,_,c,e⟩
theorem OwnV.shape (h : OwnV w base t f v ys) : ∃ a c,v = .slice a ys.length c:=by
 obtain ⟨a,c,e⟩:=h.sl.shape
 rw [List.length_map] at e
 exact ⟨a,c,e⟩
theorem OwnV.keep (h : OwnV w base t f v ys) (hf : Fr [] w w') : OwnV w' base t f v ys:=Own.keep h hf
theorem OwnV.block (h : OwnV w base t f v ys) : ∀ b,blockOf v = some b → base ≤ b ∧ b < w.heap.size:=Own.block h
theorem OwnV.mono {base' : Nat} (h : OwnV w base t f v ys) (hb : base' ≤ base) : OwnV w base' t f v ys:=Own.mono h hb
theorem OwnV.made (w : World) (base : Nat) (t : TypeId) (f : α → Value) (hb : base ≤ w.heap.size) : OwnV (w.alloc (.cells #[] t)) base t f (.slice (some ⟨w.heap.size,0,none⟩) 0 0) []:=World.ownsRow_made w #[] 0 hb (by unfold maxLen;omega) (by simp)
end
end Go.Proofs.YtcngfbjmpemehaaGreat
