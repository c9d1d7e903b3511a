import Derived.StillTailTactics
import Derived.Test.YtngfenjekgdfbaaMu1
/- More plain facts for walks: a region whose head only reads, with a struct loaded whole. -/
namespace Go.Proofs.Ytngfenjekgdfbaa
open Go.RowKit

theorem wpStill_load_row {P : Program} {ops : Array Oper} {w : World} {Q : Act → Prop} {a : Act} {o : Oper} {rest : List Oper} (hgd : o.guard = none) (ty : TypeId) (x : Operand) (ho : o.op = .load ty x)
    (g : Nat) (hx : a.eval x = .pointer (some ⟨g, 0, none⟩)) (t : TypeId) (c : Array Value) (d : TypeDesc) (hb : Box w g t c)
    (hu : P.underlying ty = some d) (hd : (match d with | .struct _ | .array _ _ => true | _ => false) = true) (hi : (P.info? ty).map (·.size) = some c.size)
    (h : wpStill P ops w Q rest (a.put o.dst (.agg c))) : wpStill P ops w Q (o :: rest) a := by
  unfold wpStill
  rw [if_pos (by simp [Region.wanted, hgd])]
  unfold Oper.still execOp
  simp only [ho, hx, Instr.loadAt, Instr.sureAddr, Sem.run_bind, Sem.run_pure, Result.andThen_ok, run_loadVar_row w g t ty c (0, 0) d hb hu hd hi]
  exact ⟨rfl, h⟩
theorem Box.drew {w : World} {g : Nat} {t : TypeId} {c : Array Value} (h : Box w g t c) : Box w.drew g t c := h
theorem Rd.drewB {w : World} {g i : Nat} {v : Value} (h : w.cell? ⟨g, i, none⟩ = some v) : w.drew.cell? ⟨g, i, none⟩ = some v := h

theorem one_new (w : World) (c1 : Array Value) (t1 : TypeId) :
    ∃ w2, w.alloc (.cells c1 t1) = w2 ∧ Fr [] w w2 ∧ Box w2 w.heap.size t1 c1 ∧ w2.heap.size = w.heap.size + 1 :=
  ⟨_, rfl, (Fr.refl [] w).alloc _, Box.new w t1 c1, by simp⟩
theorem two_new (w : World) (c1 : Array Value) (t1 : TypeId) (c2 : Array Value) (t2 : TypeId) :
    ∃ w2, (w.alloc (.cells c1 t1)).alloc (.cells c2 t2) = w2 ∧ Fr [] w w2 ∧ Box w2 w.heap.size t1 c1 ∧ Box w2 (w.heap.size + 1) t2 c2 ∧ w2.heap.size = w.heap.size + 2 :=
  ⟨_, rfl, ((Fr.refl [] w).alloc _).alloc _, (Box.new w t1 c1).keep ((Fr.refl [] _).alloc _), by simpa using Box.new (w.alloc (.cells c1 t1)) t2 c2, by simp⟩
/-- A cell of a box written. -/
theorem set_new {w : World} {g : Nat} {t : TypeId} {c : Array Value} (h : Box w g t c) (i : Nat) (v : Value) :
    ∃ w2, w.setCell ⟨g, i, none⟩ v = w2 ∧ Fr [g] w w2 ∧ Box w2 g t (c.setIfInBounds i v) ∧ w2.heap.size = w.heap.size :=
  ⟨_, rfl, (Fr.refl [g] w).set (.inl (by simp)) v, h.set i v, by simp⟩

theorem ok_inj {α : Type} {a b : α} {v w : World} (h : Result.ok a v = Result.ok b w) : a = b := by injection h

/-- What append hands back lies where the old slice lay, or in a new block. -/
theorem run_append_fresh {P : Program} (w : World) (base : Nat) (t ty e : TypeId) (i : TypeInfo) (z : Value) (size bytes : Nat) (ht : P.underlying t = some (.slice e)) (hi : P.info? e = some i) (hz : i.zero = some z)
    (hsize : i.size = size) (hby : i.bytes = bytes) (hzs : z.cells.size = size) (hsz : 0 < size)
    (v : Value) (n : Nat) (xs : List Value) (hown : w.ownsRow base e size v n xs)
    (a : Addr) (m c : Nat) (news : List Value) (hl : news.length = m * size) (hnews : ∀ j u, news[j]? = some u → w.cell? (a.add j) = some u) (h1 : ∀ u ∈ news, u.oneCell' = true)
    (h63 : n + m ≤ maxLen) (hbytes : (n + m) * bytes ≤ 140737488355328) (hbase : base ≤ w.heap.size) :
    ∃ v' w', (Builtin.append_ #[t, t] ty #[v, .slice (some a) m c]).run P w = .ok v' w' ∧ w'.ownsRow base e size v' (n + m) (xs ++ news) ∧ Fr (blockOf v).toList w w' ∧
      (v' = .slice none 0 0 ↔ v = .slice none 0 0 ∧ m = 0) ∧ ∀ b, blockOf v' = some b → blockOf v = some b ∨ w.heap.size ≤ b := by
  obtain ⟨v', w', hr, ho, hg, hn⟩ := run_append_own (P := P) w base t ty e i z size bytes ht hi hz hsize hby hzs hsz v n xs hown a m c news hl hnews h1 h63 hbytes hbase
  rw [blockOf_own] at hg
  refine ⟨v', w', hr, ho, ((Fr.refl (blockOf v).toList w).grown hg (fun k hk => .inl (by simp [hk]))), hn, ?_⟩
  subst hsize
  subst hby
  have h63' : n + m ≤ 9223372036854775807 := by simpa [maxLen] using h63
  rcases hown.2 with ⟨rfl, rfl⟩ | ⟨g, cap, cur, rfl, hbg, hgg, hnc, hcm, hcs, htake⟩
  · by_cases hm : m = 0
    · intro b hb
      rw [hn.2 ⟨rfl, hm⟩] at hb
      simp [blockOf] at hb
    · have e2 := run_append_nil (P := P) w t ty e i z ht hi hz a m c news hl hnews (by omega) (by omega) (by have hb := hbytes; simp only [Nat.zero_add] at hb; omega)
      have hv := ok_inj (hr.symm.trans e2)
      subst hv
      intro b hb
      simp only [blockOf, Option.some.injEq] at hb
      exact .inr (by omega)
  · by_cases hroom : n + m ≤ cap
    · have hfit : n * i.size + news.length ≤ cur.size := by rw [hl, hcs, ← Nat.add_mul]; exact Nat.mul_le_mul_right _ hroom
      have e2 := run_append_room (P := P) w t ty e i ht hi g n cap cur hgg a m c news hl hnews h1 hroom hfit
      have hv := ok_inj (hr.symm.trans e2)
      subst hv
      exact fun b hb => .inl hb
    · have e2 := run_append_grow (P := P) w t ty e i z ht hi hz ⟨g, 0, none⟩ n cap xs hown.1 (hown.cells (g := g) rfl) a m c news hl hnews (by omega) (by omega) (growslice_fits (by omega) hbytes)
      have hv := ok_inj (hr.symm.trans e2)
      subst hv
      intro b hb
      simp only [blockOf, Option.some.injEq] at hb
      exact .inr (by omega)

theorem wp_append_fresh {P : Program} {w : World} {o : Oper} {a : Act} {K : Act → World → Prop} {Q : Exit → Act → World → Prop} (s x : Operand) (t : TypeId)
    (ho : o.op = .call { callee := .builtin .append, args := #[s, x], argTypes := #[t, t] })
    (base : Nat) (e : TypeId) (z : Value) (size bytes : Nat) (ht : P.underlying t = some (.slice e)) (hi : (P.info? e).map (fun i => (i.zero, i.size, i.bytes)) = some (some z, size, bytes)) (hz : z.cells.size = size) (hsz : 0 < size)
    (v : Value) (n : Nat) (xs : List Value) (hs : a.eval s = v) (hown : w.ownsRow base e size v n xs)
    (ad : Addr) (m c : Nat) (news : List Value) (hx : a.eval x = .slice (some ad) m c) (hl : news.length = m * size) (hnews : ∀ j u, news[j]? = some u → w.cell? (ad.add j) = some u) (h1 : ∀ u ∈ news, u.oneCell' = true)
    (h63 : n + m ≤ maxLen) (hbytes : (n + m) * bytes ≤ 140737488355328) (hbase : base ≤ w.heap.size)
    (h : ∀ v' w', w'.ownsRow base e size v' (n + m) (xs ++ news) → Fr (blockOf v).toList w w' → (∀ b, blockOf v' = some b → blockOf v = some b ∨ w.heap.size ≤ b) → (v' = .slice none 0 0 ↔ v = .slice none 0 0 ∧ m = 0) → K (a.put o.dst v') w') : o.wp P a w K Q := by
  obtain ⟨i, hi1, hi2, hi3, hi4⟩ := info_parts hi
  obtain ⟨v', w', hr, h2, h3, h4, h5⟩ := run_append_fresh (P := P) w base t o.type e i z size bytes ht hi1 hi2 hi3 hi4 hz hsz v n xs hown ad m c news hl hnews h1 h63 hbytes hbase
  unfold Oper.wp execOp
  simp only [ho, resolve, invoke, builtin, Sem.run_bind, Sem.run_pure, Result.andThen_ok, List.map_toArray, List.map_cons, List.map_nil, hs, hx, hr]
  exact h v' w' h2 h3 h5 h4

/-- append of the call's own slice: as one step of a region that draws; as one operation. -/
theorem step_append_fr {P : Program} {ops : Array Oper} {o : Oper} {a : Act} {w : World} {K : Act → World → Prop} {Q : Exit → Act → World → Prop} {E : Prop}
    (hgd : o.guard = none) (s x : Operand) (t : TypeId) (ho : o.op = .call { callee := .builtin .append, args := #[s, x], argTypes := #[t, t] })
    (base : Nat) (e : TypeId) (z : Value) (size bytes : Nat) (ht : P.underlying t = some (.slice e)) (hi : (P.info? e).map (fun i => (i.zero, i.size, i.bytes)) = some (some z, size, bytes)) (hz : z.cells.size = size) (hsz : 0 < size)
    (v : Value) (n : Nat) (xs : List Value) (hs : a.eval s = v) (hown : w.ownsRow base e size v n xs)
    (ad : Addr) (m c : Nat) (news : List Value) (hx : a.eval x = .slice (some ad) m c) (hl : news.length = m * size) (hnews : ∀ j u, news[j]? = some u → w.cell? (ad.add j) = some u) (h1 : ∀ u ∈ news, u.oneCell' = true)
    (h63 : n + m ≤ maxLen) (hbytes : (n + m) * bytes ≤ 140737488355328) (hbase : base ≤ w.heap.size)
    (h : ∀ v' w', w'.ownsRow base e size v' (n + m) (xs ++ news) → Fr (blockOf v).toList w w' → (∀ b, blockOf v' = some b → blockOf v = some b ∨ w.heap.size ≤ b) → (v' = .slice none 0 0 ↔ v = .slice none 0 0 ∧ m = 0) → K (a.put o.dst v') w') :
    if Region.wanted o (yielded ops a.tmps) = true then Oper.wp P o a w K Q else E := by
  rw [if_pos (by simp [Region.wanted, hgd])]
  exact wp_append_fresh s x t ho base e z size bytes ht hi hz hsz v n xs hs hown ad m c news hx hl hnews h1 h63 hbytes hbase h
theorem wpList_append_fr {P : Program} {w : World} {ops : Array Oper} {rest : List Oper} {o : Oper} {a : Act} {Q : Exit → Act → World → Prop} (hgd : o.guard = none) (s x : Operand) (t : TypeId)
    (ho : o.op = .call { callee := .builtin .append, args := #[s, x], argTypes := #[t, t] })
    (base : Nat) (e : TypeId) (z : Value) (size bytes : Nat) (ht : P.underlying t = some (.slice e)) (hi : (P.info? e).map (fun i => (i.zero, i.size, i.bytes)) = some (some z, size, bytes)) (hz : z.cells.size = size) (hsz : 0 < size)
    (v : Value) (n : Nat) (xs : List Value) (hs : a.eval s = v) (hown : w.ownsRow base e size v n xs)
    (ad : Addr) (m c : Nat) (news : List Value) (hx : a.eval x = .slice (some ad) m c) (hl : news.length = m * size) (hnews : ∀ j u, news[j]? = some u → w.cell? (ad.add j) = some u) (h1 : ∀ u ∈ news, u.oneCell' = true)
    (h63 : n + m ≤ maxLen) (hbytes : (n + m) * bytes ≤ 140737488355328) (hbase : base ≤ w.heap.size)
    (h : ∀ v' w', w'.ownsRow base e size v' (n + m) (xs ++ news) → Fr (blockOf v).toList w w' → (∀ b, blockOf v' = some b → blockOf v = some b ∨ w.heap.size ≤ b) → (v' = .slice none 0 0 ↔ v = .slice none 0 0 ∧ m = 0) → wpList P ops Q rest (a.put o.dst v') w') : wpList P ops Q (o :: rest) a w :=
  wpList_plain hgd fun _ hK => wp_append_fresh s x t ho base e z size bytes ht hi hz hsz v n xs hs hown ad m c news hx hl hnews h1 h63 hbytes hbase fun v' w' h2 h3 h4 h5 => hK _ _ (h v' w' h2 h3 h4 h5)
/-- .. of whatever slice of one-cell elements, nil too. -/
theorem wpList_append_slf {P : Program} {w : World} {ops : Array Oper} {rest : List Oper} {o : Oper} {a : Act} {Q : Exit → Act → World → Prop} (hgd : o.guard = none) (s x : Operand) (t : TypeId)
    (ho : o.op = .call { callee := .builtin .append, args := #[s, x], argTypes := #[t, t] })
    (base : Nat) (e : TypeId) (z : Value) (bytes : Nat) (ht : P.underlying t = some (.slice e)) (hi : (P.info? e).map (fun i => (i.zero, i.size, i.bytes)) = some (some z, 1, bytes)) (hz : z.cells.size = 1)
    (v : Value) (n : Nat) (xs : List Value) (hs : a.eval s = v) (hown : w.ownsRow base e 1 v n xs)
    (vx : Value) (news : List Value) (hx : a.eval x = vx) (hnew : Sl w vx news) (h1 : ∀ u ∈ news, u.oneCell' = true)
    (h63 : n + news.length ≤ maxLen) (hbytes : (n + news.length) * bytes ≤ 140737488355328) (hbase : base ≤ w.heap.size)
    (h : ∀ v' w', w'.ownsRow base e 1 v' (n + news.length) (xs ++ news) → Fr (blockOf v).toList w w' → (∀ b, blockOf v' = some b → blockOf v = some b ∨ w.heap.size ≤ b) → wpList P ops Q rest (a.put o.dst v') w') : wpList P ops Q (o :: rest) a w := by
  obtain ⟨i, hi1, hi2, hi3, hi4⟩ := info_parts hi
  obtain ⟨ad, cap, rfl, h2, h3, h4, h5⟩ := hnew
  cases ad with
  | none =>
    obtain rfl := h4 rfl
    have hn : news = [] := List.eq_nil_of_length_eq_zero (by omega)
    subst hn
    refine wpList_append_own_none hgd s x t ho base e i 1 ht hi1 v n xs hs hown hx (h v w ?_ (Fr.refl _ _) (fun b hb => .inl hb))
    simpa using hown
  | some p =>
    refine wpList_append_fr hgd s x t ho base e z 1 bytes ht hi hz (by omega) v n xs hs hown p news.length cap news hx (by simp) ?_ h1 h63 hbytes hbase (fun v' w' g1 g2 g3 _ => h v' w' g1 g2 g3)
    intro j u hu
    have hj := (List.getElem?_eq_some_iff.1 hu).1
    obtain ⟨sp, hb, hc⟩ := h5 p rfl (by omega)
    obtain ⟨pb, po, ps⟩ := p
    simp only at sp
    subst sp
    have := hc j u hu
    have hadd : (⟨pb, po, none⟩ : Addr).add j = ⟨pb, po + j, none⟩ := by unfold Addr.add; split <;> simp_all
    rw [hadd]
    exact this

/-- Eleven cells of a box written one after the other. -/
theorem set11 {w : World} {g : Nat} {t : TypeId} {y0 y1 y2 y3 y4 y5 y6 y7 y8 y9 y10 : Value} (h : Box w g t #[y0, y1, y2, y3, y4, y5, y6, y7, y8, y9, y10]) (x0 x1 x2 x3 x4 x5 x6 x7 x8 x9 x10 : Value) :
    ∃ w2, (((((((((((w.setCell ⟨g, 0, none⟩ x0).setCell ⟨g, 1, none⟩ x1).setCell ⟨g, 2, none⟩ x2).setCell ⟨g, 3, none⟩ x3).setCell ⟨g, 4, none⟩ x4).setCell ⟨g, 5, none⟩ x5).setCell ⟨g, 6, none⟩ x6).setCell ⟨g, 7, none⟩ x7).setCell ⟨g, 8, none⟩ x8).setCell ⟨g, 9, none⟩ x9).setCell ⟨g, 10, none⟩ x10) = w2 ∧
      Fr [g] w w2 ∧ Box w2 g t #[x0, x1, x2, x3, x4, x5, x6, x7, x8, x9, x10] := by
  have hm : g ∈ [g] ∨ w.heap.size ≤ g := .inl (by simp)
  have h0 : Box _ g t #[x0, y1, y2, y3, y4, y5, y6, y7, y8, y9, y10] := h.set 0 x0
  have h1 : Box _ g t #[x0, x1, y2, y3, y4, y5, y6, y7, y8, y9, y10] := h0.set 1 x1
  have h2 : Box _ g t #[x0, x1, x2, y3, y4, y5, y6, y7, y8, y9, y10] := h1.set 2 x2
  have h3 : Box _ g t #[x0, x1, x2, x3, y4, y5, y6, y7, y8, y9, y10] := h2.set 3 x3
  have h4 : Box _ g t #[x0, x1, x2, x3, x4, y5, y6, y7, y8, y9, y10] := h3.set 4 x4
  have h5 : Box _ g t #[x0, x1, x2, x3, x4, x5, y6, y7, y8, y9, y10] := h4.set 5 x5
  have h6 : Box _ g t #[x0, x1, x2, x3, x4, x5, x6, y7, y8, y9, y10] := h5.set 6 x6
  have h7 : Box _ g t #[x0, x1, x2, x3, x4, x5, x6, x7, y8, y9, y10] := h6.set 7 x7
  have h8 : Box _ g t #[x0, x1, x2, x3, x4, x5, x6, x7, x8, y9, y10] := h7.set 8 x8
  have h9 : Box _ g t #[x0, x1, x2, x3, x4, x5, x6, x7, x8, x9, y10] := h8.set 9 x9
  have h10 : Box _ g t #[x0, x1, x2, x3, x4, x5, x6, x7, x8, x9, x10] := h9.set 10 x10
  exact ⟨_, rfl, (((((((((((Fr.refl [g] w).set hm x0).set hm x1).set hm x2).set hm x3).set hm x4).set hm x5).set hm x6).set hm x7).set hm x8).set hm x9).set hm x10, h10⟩

/-- A function with a struct in memory as its first result, two slots behind it. -/
theorem results_row_2 {P : Program} {fn : Func} {p q r : Tmp} {ty : TypeId} (h : fn.results = #[.cell p ty, .tmp q, .tmp r]) (tmps : Array Value) (w : World) (g : Nat) (t : TypeId) (c : Array Value) (d : TypeDesc)
    (hp : tmps.getD p undef = .pointer (some ⟨g, 0, none⟩)) (hb : Box w g t c) (hu : P.underlying ty = some d) (hd : (match d with | .struct _ | .array _ _ => true | _ => false) = true) (hi : (P.info? ty).map (·.size) = some c.size) :
    (results fn tmps).run P w = .ok (.tuple #[.agg c, tmps.getD q undef, tmps.getD r undef]) w := by
  have hp' : tmps[p]?.getD undef = .pointer (some ⟨g, 0, none⟩) := by simpa using hp
  have h1 := run_loadVar_row (P := P) w g t ty c (0, 0) d hb hu hd hi
  simp [results, h, hp', asAddr, h1]
theorem results_row_1 {P : Program} {fn : Func} {p q : Tmp} {ty : TypeId} (h : fn.results = #[.cell p ty, .tmp q]) (tmps : Array Value) (w : World) (g : Nat) (t : TypeId) (c : Array Value) (d : TypeDesc)
    (hp : tmps.getD p undef = .pointer (some ⟨g, 0, none⟩)) (hb : Box w g t c) (hu : P.underlying ty = some d) (hd : (match d with | .struct _ | .array _ _ => true | _ => false) = true) (hi : (P.info? ty).map (·.size) = some c.size) :
    (results fn tmps).run P w = .ok (.tuple #[.agg c, tmps.getD q undef]) w := by
  have hp' : tmps[p]?.getD undef = .pointer (some ⟨g, 0, none⟩) := by simpa using hp
  have h1 := run_loadVar_row (P := P) w g t ty c (0, 0) d hb hu hd hi
  simp [results, h, hp', asAddr, h1]
end Go.Proofs.Ytngfenjekgdfbaa
