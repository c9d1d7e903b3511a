import Derived.Maps.Own
import Derived.Maps.Views
import Derived.Maps.OwnSet
import Derived.Maps.RangeWalk
import Derived.Shelf.SlIterI.Nil
import Derived.Shelf.SortM.Plain
import Derived.Shelf.SortM.SortNone
import Derived.Test.YtbmpiemhfndnbaaMp19
import Derived.Test.YtbmpiemhfndnbaaMp7
import Derived.Test.YtbmpiemhfndnbaaMp12
import Derived.Test.YtbmpiemhfndnbaaMp28
import Derived.Test.YtbmpiemhfndnbaaMp9
/- Windows in memory: a block of seven cells, a map of its own; the walk of numbers (printed by gen_win.py). -/
namespace Go.Proofs.Ytbmpiemhfndnbaa
open Go.RowKit Go.Maps Go.Shelf

def keysA_ren : Go.Shelf.Ren := ⟨fun | 7 => 32 | 10 => 36 | n => n, fun | 23 => 61 | 26 => 2 | 3 => 69 | 28 => 82 | 0 => 0 | 27 => 81 | 33 => 86 | 4 => 4 | n => n, fun | n => n⟩
theorem keysA : Go.Proofs.SlLaysZI.n7 Try.prog keysA_ren := {
  mixed := by kernel_rfl
  f7 := ⟨Try.f32.name, by decide, Try.func32.trans (congrArg some (by kernel_rfl))⟩
  f10 := ⟨Try.f36.name, by decide, Try.func36.trans (congrArg some (by kernel_rfl))⟩
  t0 := Try.underlying0
  a0 := Try.isAgg0
  z0 := Try.sizeOf0
  v0 := Try.zeroValue0
  t4 := Try.underlying4
  a4 := Try.isAgg4
  z4 := Try.sizeOf4
  v4 := Try.zeroValue4
  t23 := Try.underlying61
  a23 := Try.isAgg61
  z23 := Try.sizeOf61
  v23 := Try.zeroValue61
  t26 := Try.underlying2
  a26 := Try.isAgg2
  z26 := Try.sizeOf2
  v26 := Try.zeroValue2
  t27 := Try.underlying81
  a27 := Try.isAgg81
  z27 := Try.sizeOf81
  v27 := Try.zeroValue81
  t28 := Try.underlying82
  a28 := Try.isAgg82
  z28 := Try.sizeOf82
  v28 := Try.zeroValue82
  t33 := Try.underlying86
  a33 := Try.isAgg86
  z33 := Try.sizeOf86
  v33 := Try.zeroValue86 }
def sortedA_ren : Go.Shelf.Ren := ⟨fun | 6 => 31 | 8 => 34 | 9 => 35 | 11 => 37 | 13 => 39 | 12 => 38 | 23 => 49 | 24 => 50 | 14 => 40 | 15 => 41 | 16 => 42 | 17 => 43 | 18 => 44 | 19 => 45 | 20 => 46 | 21 => 47 | 22 => 48 | 25 => 51 | 26 => 52 | 27 => 53 | 28 => 54 | 29 => 55 | 30 => 56 | 31 => 57 | n => n, fun | 26 => 2 | 28 => 82 | 24 => 72 | 0 => 0 | 3 => 3 | 37 => 90 | 48 => 101 | 50 => 103 | 4 => 4 | 40 => 93 | 39 => 92 | 45 => 98 | 5 => 5 | 9 => 9 | 51 => 104 | 55 => 108 | 57 => 110 | 58 => 111 | 33 => 86 | n => n, fun | n => n⟩
theorem sortedA : Go.Proofs.SlLaysZI.n6 Try.prog sortedA_ren := {
  mixed := by kernel_rfl
  f6 := ⟨Try.f31.name, by decide, Try.func31.trans (congrArg some (by kernel_rfl))⟩
  f8 := ⟨Try.f34.name, by decide, Try.func34.trans (congrArg some (by kernel_rfl))⟩
  f11 := ⟨Try.f37.name, by decide, Try.func37.trans (congrArg some (by kernel_rfl))⟩
  t0 := Try.underlying0
  a0 := Try.isAgg0
  z0 := Try.sizeOf0
  v0 := Try.zeroValue0
  t24 := Try.underlying72
  a24 := Try.isAgg72
  z24 := Try.sizeOf72
  v24 := Try.zeroValue72
  t26 := Try.underlying2
  a26 := Try.isAgg2
  z26 := Try.sizeOf2
  v26 := Try.zeroValue2
  t28 := Try.underlying82
  a28 := Try.isAgg82
  z28 := Try.sizeOf82
  v28 := Try.zeroValue82
  i26 := by kernel_rfl }
def sortA_ren : Go.Shelf.Ren := ⟨fun | 5 => 35 | 8 => 39 | 7 => 38 | 19 => 49 | 20 => 50 | 10 => 40 | 11 => 41 | 12 => 42 | 13 => 43 | 14 => 44 | 15 => 45 | 16 => 46 | 17 => 47 | 18 => 48 | 30 => 51 | 31 => 52 | 32 => 53 | 33 => 54 | 34 => 55 | 35 => 56 | 40 => 57 | n => n, fun | 23 => 72 | 25 => 2 | 3 => 3 | 32 => 90 | 22 => 72 | 0 => 0 | 44 => 101 | 46 => 103 | 4 => 4 | 36 => 93 | 35 => 92 | 41 => 98 | 5 => 5 | 9 => 9 | 53 => 104 | 57 => 108 | 63 => 110 | 64 => 111 | n => n, fun | n => n⟩
theorem sortA : Go.Proofs.SlLaysM.n5 Try.prog sortA_ren := {
  mixed := by kernel_rfl
  f5 := ⟨Try.f35.name, by decide, Try.func35.trans (congrArg some (by kernel_rfl))⟩
  f7 := ⟨Try.f38.name, by decide, Try.func38.trans (congrArg some (by kernel_rfl))⟩
  f8 := Try.func39.trans (congrArg some (by kernel_rfl))
  f10 := ⟨Try.f40.name, by decide, Try.func40.trans (congrArg some (by kernel_rfl))⟩
  f11 := ⟨Try.f41.name, by decide, Try.func41.trans (congrArg some (by kernel_rfl))⟩
  f12 := ⟨Try.f42.name, by decide, Try.func42.trans (congrArg some (by kernel_rfl))⟩
  f13 := ⟨Try.f43.name, by decide, Try.func43.trans (congrArg some (by kernel_rfl))⟩
  f14 := ⟨Try.f44.name, by decide, Try.func44.trans (congrArg some (by kernel_rfl))⟩
  f15 := ⟨Try.f45.name, by decide, Try.func45.trans (congrArg some (by kernel_rfl))⟩
  f16 := ⟨Try.f46.name, by decide, Try.func46.trans (congrArg some (by kernel_rfl))⟩
  f17 := ⟨Try.f47.name, by decide, Try.func47.trans (congrArg some (by kernel_rfl))⟩
  f18 := ⟨Try.f48.name, by decide, Try.func48.trans (congrArg some (by kernel_rfl))⟩
  f19 := Try.func49.trans (congrArg some (by kernel_rfl))
  f20 := Try.func50.trans (congrArg some (by kernel_rfl))
  f30 := ⟨Try.f51.name, by decide, Try.func51.trans (congrArg some (by kernel_rfl))⟩
  f31 := Try.func52.trans (congrArg some (by kernel_rfl))
  f32 := Try.func53.trans (congrArg some (by kernel_rfl))
  f33 := ⟨Try.f54.name, by decide, Try.func54.trans (congrArg some (by kernel_rfl))⟩
  f34 := ⟨Try.f55.name, by decide, Try.func55.trans (congrArg some (by kernel_rfl))⟩
  f35 := ⟨Try.f56.name, by decide, Try.func56.trans (congrArg some (by kernel_rfl))⟩
  f40 := ⟨Try.f57.name, by decide, Try.func57.trans (congrArg some (by kernel_rfl))⟩
  t0 := Try.underlying0
  a0 := Try.isAgg0
  z0 := Try.sizeOf0
  v0 := Try.zeroValue0
  t3 := Try.underlying3
  a3 := Try.isAgg3
  z3 := Try.sizeOf3
  v3 := Try.zeroValue3
  t4 := Try.underlying4
  a4 := Try.isAgg4
  z4 := Try.sizeOf4
  v4 := Try.zeroValue4
  t5 := Try.underlying5
  a5 := Try.isAgg5
  z5 := Try.sizeOf5
  v5 := Try.zeroValue5
  t9 := Try.underlying9
  a9 := Try.isAgg9
  z9 := Try.sizeOf9
  v9 := Try.zeroValue9
  t22 := Try.underlying72
  a22 := Try.isAgg72
  z22 := Try.sizeOf72
  v22 := Try.zeroValue72
  t23 := Try.underlying72
  a23 := Try.isAgg72
  z23 := Try.sizeOf72
  v23 := Try.zeroValue72
  t25 := Try.underlying2
  a25 := Try.isAgg2
  z25 := Try.sizeOf2
  v25 := Try.zeroValue2
  t32 := Try.underlying90
  a32 := Try.isAgg90
  z32 := Try.sizeOf90
  v32 := Try.zeroValue90
  t35 := Try.underlying92
  a35 := Try.isAgg92
  z35 := Try.sizeOf92
  v35 := Try.zeroValue92
  t36 := Try.underlying93
  a36 := Try.isAgg93
  z36 := Try.sizeOf93
  v36 := Try.zeroValue93
  t41 := Try.underlying98
  a41 := Try.isAgg98
  z41 := Try.sizeOf98
  v41 := Try.zeroValue98
  t44 := Try.underlying101
  a44 := Try.isAgg101
  z44 := Try.sizeOf101
  v44 := Try.zeroValue101
  t46 := Try.underlying103
  a46 := Try.isAgg103
  z46 := Try.sizeOf103
  v46 := Try.zeroValue103
  t53 := Try.underlying104
  a53 := Try.isAgg104
  z53 := Try.sizeOf104
  v53 := Try.zeroValue104
  t57 := Try.underlying108
  a57 := Try.isAgg108
  z57 := Try.sizeOf108
  v57 := Try.zeroValue108
  t63 := Try.underlying110
  a63 := Try.isAgg110
  z63 := Try.sizeOf110
  v63 := Try.zeroValue110
  t64 := Try.underlying111
  a64 := Try.isAgg111
  z64 := Try.sizeOf111
  v64 := Try.zeroValue111 }

/-- A reader that takes every value as it is. -/
def heldW (v : Value) : Option (DataW Value × List MemPlace) := some (.held v, [])
def lkey (n : Int) : Lit := .int .i64 n
theorem lkey_ne {a b : Int} (h : a ≠ b) : lkey a ≠ lkey b := by
  intro e
  unfold lkey at e
  injection e with _ e
  exact h e
theorem lkey_is (n : Int) : WideAt.IsKeyLit (lkey n) := trivial
theorem lkey_wf {n : Int} (h : -9223372036854775808 ≤ n ∧ n < 9223372036854775808) : (lkey n).wf = true := WalkArith.wf_i64 (by omega)
theorem keyI64 : Keyed Try.prog 2 := int_keyed Try.underlying2
abbrev hv (o : Held_) : Value := .agg #[.int .i64 o.x, .int .i64 o.at_]
abbrev hvz : Value := .agg #[.int .i64 0, .int .i64 0]
theorem zeroHeld (w : World) : (zeroValue 69).run Try.prog w = .ok hvz w := by kernel_rfl
def findH (l : List Held_) (n : Int) : Option Held_ := l.find? fun o => o.n == n
/-- A map that reads as things by their numbers. -/
structure MapH (w : World) (b : Nat) (D : DataW Value) (l : List Held_) : Prop where
  own : w.ownsMap Try.prog 2 heldW b l.length D
  tidy : Tidy D
  look : ∀ n, match findH l n with | none => (∀ z, D.atKey (lkey n) z = z) | some o => ∀ z, D.atKey (lkey n) z = .held (hv o)
  size : Maps.size D = l.length
theorem own_tight {k : TypeId} {R : Value → Option (DataW Value × List MemPlace)} {w : World} {b n : Nat} {D : DataW Value} (h : w.ownsMap Try.prog k R b n D) : w.ownsMap Try.prog k R b (Maps.size D) D := by
  obtain ⟨es, clock, hb, F, hs, rfl⟩ := h
  refine ⟨es, clock, hb, F, ?_, rfl⟩
  rw [size_eq, (Go.WideShapes.sorted_perm _).length_eq, List.length_map]
  simp
theorem findH_none {l : List Held_} {n : Int} : findH l n = none ↔ ∀ o ∈ l, o.n ≠ n := by
  unfold findH
  rw [List.find?_eq_none]
  simp
theorem findH_some {l : List Held_} {n : Int} {o : Held_} (h : findH l n = some o) : o ∈ l ∧ o.n = n := by
  unfold findH at h
  exact ⟨List.mem_of_find?_eq_some h, by simpa using List.find?_some h⟩
theorem findH_mem {l : List Held_} (hs : l.Pairwise fun a b => a.n < b.n) {o : Held_} (ho : o ∈ l) : findH l o.n = some o := by
  induction l with
  | nil => cases ho
  | cons p l ih =>
    have hs2 := List.pairwise_cons.1 hs
    unfold findH
    rw [List.find?_cons]
    rcases List.mem_cons.1 ho with rfl | ho
    · simp
    · have := hs2.1 o ho
      rw [show (p.n == o.n) = false from beq_eq_false_iff_ne.2 (by omega)]
      exact ih hs2.2 ho
theorem MapH.has {w : World} {b : Nat} {D : DataW Value} {l : List Held_} (h : MapH w b D l) (n : Int) : Maps.has D (lkey n) = (findH l n).isSome := by
  have := h.look n
  cases hf : findH l n with
  | none => rw [hf] at this; exact has_false_of_atKey this
  | some o => rw [hf] at this; exact has_true_of_atKey this
set_option maxRecDepth 100000 in
theorem MapH.run {w : World} {b : Nat} {D : DataW Value} {l : List Held_} (h : MapH w b D l) (n : Int) (hn : -9223372036854775808 ≤ n ∧ n < 9223372036854775808) (t : Bool) :
    (Instr.lookup 61 (.map (some b)) (.int .i64 n) t).run Try.prog w = .ok (if t then .tuple #[((findH l n).map hv).getD hvz, .bool (findH l n).isSome] else ((findH l n).map hv).getD hvz) w := by
  obtain ⟨own, -, hlk, -⟩ := h
  replace hlk := hlk n
  obtain ⟨es, clock, hb, F, -, rfl⟩ := own
  have hkey : keyOf Try.prog 2 (.int .i64 n) = some (lkey n) := keyOf_int_mk Try.underlying2 (lkey_wf hn)
  have X := fit_look t keyI64 Try.underlying61 (zeroHeld w) hb F hkey
  cases hk : findH l n with
  | none =>
    rw [hk] at hlk
    rcases X with ⟨hrun, -, -⟩ | ⟨e0, y, -, -, -, hR, hat, -⟩
    · rw [hrun]; cases t <;> rfl
    · exfalso
      cases hR
      have := (hat .nil).symm.trans (hlk .nil)
      cases this
  | some o =>
    rw [hk] at hlk
    rcases X with ⟨-, -, hat⟩ | ⟨e0, y, -, -, hrun, hR, hat, -⟩
    · exfalso
      have := (hat .nil).symm.trans (hlk .nil)
      cases this
    · cases hR
      have := (hat .nil).symm.trans (hlk .nil)
      injection this with this
      rw [hrun, this]; cases t <;> rfl
theorem MapH.fr {w w' : World} {b : Nat} {D : DataW Value} {l : List Held_} {S : List Nat} (h : MapH w b D l) (hf : Fr S w w') (hb : b ∉ S) : MapH w' b D l :=
  ⟨by
    have hlt := h.own.lt
    obtain ⟨es, clock, h1, F, hs, hD⟩ := h.own
    exact ⟨es, clock, (hf.block b hlt hb).trans h1, F, hs, hD⟩, h.tidy, h.look, h.size⟩
theorem MapH.made (w : World) : MapH (w.alloc (.map #[] 0)) w.heap.size (.map []) [] :=
  ⟨World.ownsMap_made _ _ _ _, tidy_empty, fun n z => rfl, rfl⟩
theorem findH_ins {l : List Held_} {o : Held_} (hn : ∀ p ∈ l, p.n ≠ o.n) (n : Int) : findH (insW o l) n = if o.n = n then some o else findH l n := by
  induction l with
  | nil => unfold insW findH; by_cases h : o.n = n <;> simp [h]
  | cons p l ih =>
    have ih := ih (fun q hq => hn q (by simp [hq]))
    have hp := hn p (by simp)
    unfold insW
    split
    · unfold findH
      rw [List.find?_cons]
      by_cases h : o.n = n
      · simp [h]
      · rw [show (o.n == n) = false from beq_eq_false_iff_ne.2 h, if_neg h]
    · unfold findH
      rw [List.find?_cons, List.find?_cons]
      by_cases h : p.n = n
      · rw [show (p.n == n) = true by simpa using h]
        rw [if_neg (by omega)]
      · rw [show (p.n == n) = false from beq_eq_false_iff_ne.2 h]
        exact ih
theorem MapH.put {w w' : World} {b m : Nat} {D : DataW Value} {l : List Held_} (h : MapH w b D l) {o : Held_} (hn : ∀ p ∈ l, p.n ≠ o.n) (hown : w'.ownsMap Try.prog 2 heldW b m (D.put (lkey o.n) (.held (hv o)))) :
    MapH w' b (D.put (lkey o.n) (.held (hv o))) (insW o l) := by
  have hsz : Maps.size (D.put (lkey o.n) (.held (hv o))) = (insW o l).length := by
    rw [size_put h.tidy, h.has, findH_none.2 hn, length_insW, h.size]
    rfl
  refine ⟨by rw [← hsz]; exact own_tight hown, h.tidy.put (lkey_is _) _, fun n => ?_, hsz⟩
  · rw [findH_ins hn]
    by_cases e : o.n = n
    · subst e
      rw [if_pos rfl]
      exact fun z => atKey_put_same h.tidy.isMap (lkey_is _) _ _
    · rw [if_neg e]
      have := h.look n
      cases hf : findH l n with
      | none => rw [hf] at this; exact fun z => by rw [atKey_put_other (lkey_ne (Ne.symm e)), this]
      | some p => rw [hf] at this; exact fun z => by rw [atKey_put_other (lkey_ne (Ne.symm e)), this]
def delH (l : List Held_) (n : Int) : List Held_ := l.filter fun o => !(o.n == n)
theorem findH_del (l : List Held_) (m n : Int) : findH (delH l m) n = if m = n then none else findH l n := by
  unfold findH delH
  by_cases h : m = n
  · subst h
    rw [if_pos rfl, List.find?_eq_none]
    intro o ho
    have := (List.mem_filter.1 ho).2
    simpa using this
  · rw [if_neg h]
    induction l with
    | nil => rfl
    | cons p l ih =>
      rw [List.filter_cons, List.find?_cons]
      by_cases e : p.n = m
      · rw [if_neg (by simpa using e), ih, show (p.n == n) = false from beq_eq_false_iff_ne.2 (by omega)]
      · rw [if_pos (by simpa using e), List.find?_cons, ih]
theorem delH_len {l : List Held_} (hs : l.Pairwise fun a b => a.n < b.n) {n : Int} : (delH l n).length + (if (findH l n).isSome then 1 else 0) = l.length := by
  induction l with
  | nil => rfl
  | cons p l ih =>
    have hs2 := List.pairwise_cons.1 hs
    have ih := ih hs2.2
    unfold delH findH at ih ⊢
    rw [List.filter_cons, List.find?_cons]
    by_cases e : p.n = n
    · have h0 : List.find? (fun o => o.n == n) l = none := by
        rw [List.find?_eq_none]
        intro q hq
        have := hs2.1 q hq
        simp
        omega
      rw [h0] at ih
      rw [if_neg (by simpa using e), show (p.n == n) = true by simpa using e]
      simp at ih ⊢
      omega
    · rw [if_pos (by simpa using e), show (p.n == n) = false from beq_eq_false_iff_ne.2 e]
      simp only [List.length_cons]
      omega
theorem MapH.del {w w' : World} {b m : Nat} {D : DataW Value} {l : List Held_} (h : MapH w b D l) (hs : l.Pairwise fun a b => a.n < b.n) {n : Int} (hown : w'.ownsMap Try.prog 2 heldW b m (D.del (lkey n))) :
    MapH w' b (D.del (lkey n)) (delH l n) := by
  have hsz : Maps.size (D.del (lkey n)) = (delH l n).length := by
    have h1 := size_del h.tidy (k := lkey n)
    have h2 := delH_len hs (n := n)
    rw [h.has, h.size] at h1
    omega
  refine ⟨by rw [← hsz]; exact own_tight hown, h.tidy.del _, fun k => ?_, hsz⟩
  · rw [findH_del]
    by_cases e : n = k
    · subst e
      rw [if_pos rfl]
      exact fun z => atKey_del_same z
    · rw [if_neg e]
      have := h.look k
      cases hf : findH l k with
      | none => rw [hf] at this; exact fun z => by rw [atKey_del_other (lkey_ne (Ne.symm e)), this]
      | some p => rw [hf] at this; exact fun z => by rw [atKey_del_other (lkey_ne (Ne.symm e)), this]

abbrev winc (s : Win) (mb : Nat) : Array Value := #[.int .i64 s.size, .int .i64 s.wait, .int .i64 (s.hi.getD 0), .bool s.hi.isSome, .int .i64 s.next, .int .i64 s.now, .map (some mb)]
/-- A window in the block g, its map in mb. -/
structure WinV (W : World) (g mb : Nat) (s : Win) : Prop where
  box : Box W g 65 (winc s mb)
  map : ∃ D, MapH W mb D s.all
  ne : g ≠ mb
theorem WinV.fr {W W' : World} {g mb : Nat} {s : Win} {S : List Nat} (h : WinV W g mb s) (hf : Fr S W W') (h1 : g ∉ S) (h2 : mb ∉ S) : WinV W' g mb s := by
  obtain ⟨D, hD⟩ := h.map
  exact ⟨h.box.fr hf h1, ⟨D, hD.fr hf h2⟩, h.ne⟩
theorem WinV.keep {W W' : World} {g mb : Nat} {s : Win} (h : WinV W g mb s) (hf : Fr [] W W') : WinV W' g mb s := h.fr hf (by simp) (by simp)
theorem WinV.lt {W : World} {g mb : Nat} {s : Win} (h : WinV W g mb s) : g < W.heap.size ∧ mb < W.heap.size := by
  obtain ⟨D, hD⟩ := h.map
  exact ⟨h.box.lt, hD.own.lt⟩
theorem keys_sorted {w : World} {b : Nat} {D : DataW Value} {l : List Held_} (h : MapH w b D l) (hs : l.Pairwise fun a b => a.n < b.n) : (l.map (·.n)).Perm (intKeys D) := by
  obtain ⟨es, hD, hpw, _⟩ := h.own.entries keyI64
  obtain ⟨es', hD', hko⟩ := h.own.keysOf
  obtain rfl : es = es' := by rw [hD] at hD'; simpa using hD'
  subst hD
  refine perm_intKeys hpw (fun p hp => by obtain ⟨v, hv⟩ := hko p hp; obtain ⟨x, _, hx, _⟩ := Maps.keyOf_i64 Try.underlying2 hv; exact ⟨x, hx⟩) ?_ (fun x => ?_)
  · refine List.Pairwise.map _ (fun a b hab => ?_) hs
    exact Int.ne_of_lt hab
  · rw [show has (.map es) (.int .i64 x) = has (.map es) (lkey x) from rfl, h.has, List.mem_map]
    constructor
    · rintro ⟨o, ho, rfl⟩
      rw [findH_mem hs ho]
      rfl
    · intro hx
      cases hf : findH l x with
      | none => rw [hf] at hx; cases hx
      | some o => exact ⟨o, (findH_some hf).1, (findH_some hf).2⟩
theorem sorted_id {l : List Held_} (hs : l.Pairwise fun a b => a.n < b.n) : (l.map (·.n)).mergeSort leI = l.map (·.n) :=
  List.mergeSort_of_pairwise (List.Pairwise.map _ (fun a b hab => by simp only [leI, decide_eq_true_eq]; exact Int.le_of_lt hab) hs)
/-- slices.Sort's two contracts at this dump, at the fence that asks nothing. -/
theorem sortsA (m : Nat) : AnyZI.SortsIn Try.prog sortedA_ren Fence.wide m :=
  ⟨fun blk off cap ss W hH hblk hsz => callsIn_wide.2 (AnyM.slices_Sort_int sortA blk off cap ss W hH hblk hsz),
   fun p cap W => callsIn_wide.2 (AnyM.slices_Sort_int_none sortA p cap W)⟩
set_option maxRecDepth 100000 in
set_option maxHeartbeats 4000000 in
theorem wNumbers_any {w : World} {g mb : Nat} {s : Win} (h : WinV w g mb s) (hs : s.all.Pairwise fun a b => a.n < b.n) (hl : s.all.length ≤ 1000) :
    Calls Try.prog 23 #[.pointer (some ⟨g, 0, none⟩)] w fun e w' => ∃ v, e = .returned v ∧ OwnV w' w.heap.size 2 (Value.int .i64) v (s.all.map (·.n)) ∧ Fr [] w w' := by
  obtain ⟨D, hD⟩ := h.map
  have hbl := hD.own.lt
  have x6 := h.box.cell 6
  simp only [winc, List.getElem?_toArray, List.getElem?_cons_succ, List.getElem?_cons_zero] at x6
  refine (callsIn_wide (n := 6)).1 ?_
  have hseq : SeqGives Fence.wide 2 Try.prog 36 #[.pointer (some ⟨w.heap.size, 0, none⟩)] encZ (fun ss => ss.Perm (intKeys D)) (Maps.size D) (w.alloc (.cells #[.map (some mb)] 61)) :=
    AnyZI.keys_gives (ρ := keysA_ren) { keysA with } Fence.wide _ trivial rfl (by omega) w.heap.size mb _ D _ (by simp) (by simp) (by
      obtain ⟨es, clock, hb, Ft, hs, hD⟩ := hD.own
      exact ⟨es, clock, (Below.heap_alloc _ _ mb hbl).trans hb, Ft, hs, hD⟩)
  have cK : ∀ mb W, CallsIn Fence.wide 5 Try.prog 32 #[.map mb] W fun e w' => e = .returned (.func (.func 36) #[] #[.pointer (some ⟨W.heap.size, 0, none⟩)]) ∧ w' = W.alloc (.cells #[.map mb] 61) := fun mb W => AnyZI.keys_in keysA Fence.wide 5 trivial rfl mb W
  have cS := AnyZI.sorted_in sortedA Fence.wide 5 trivial trivial trivial trivial rfl (by omega) (sortsA _) (enters_of Try.func35 (by kernel_rfl) rfl) 36 #[.pointer (some ⟨w.heap.size, 0, none⟩)] trivial (enters_of Try.func36 (by kernel_rfl) rfl) _ _ (by rw [hD.size]; unfold maxLen; omega) (by rw [hD.size]; omega) _ hseq
  change CallsIn _ _ Try.prog 31 _ _ _ at cS
  have hfK : Fence.wide.fn 32 := trivial
  have hfS : Fence.wide.fn 31 := trivial
  refine callsIn_of_wp Try.func23 rfl trivial ?_ rfl
  simp only [Try.ntmps23, List.size_toArray, List.length_cons, List.length_nil, Nat.reduceAdd, Nat.reduceSub, Array.replicate_succ, Array.replicate_zero, List.push_toArray, List.append_toArray, List.nil_append, List.cons_append]
  gi_wp2_with (first
    | (gi_at_call 32; refine (cK _ _).mono ?_; rintro e w' ⟨rfl, rfl⟩)
    | (gi_at_call 31; refine cS.mono ?_; rintro e w' ⟨v, ss, rfl, hS, hrow, hnil, hb⟩))
  go_ret
  have hp : ss.Perm (s.all.map (·.n)) := hS.trans (keys_sorted hD hs).symm
  refine ⟨v, rfl, ?_, ((Fr.refl [] w).alloc _).trans (Fr.ofBelow hb)⟩
  have hrow2 := Own.mono hrow (base' := w.heap.size) (by simp)
  rw [mergeSort_of_perm_i hp, sorted_id hs, hp.length_eq] at hrow2
  exact hrow2
end Go.Proofs.Ytbmpiemhfndnbaa
