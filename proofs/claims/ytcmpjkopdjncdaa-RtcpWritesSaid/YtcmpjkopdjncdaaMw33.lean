import Derived.Maps.Own
import Derived.Maps.Views
import Derived.Test.YtcmpjkopdjncdaaMw32
/- The walk of parity.Some (printed by gen_some.py). -/
namespace Go.Proofs.Ytcmpjkopdjncdaa
open Go.RowKit Go.Maps

def Ints (w : World) (v : Value) (xs : List Int) : Prop := Sl w v (xs.map (Value.int .i64))
/-- Are places in range, each once? -/
def pickOk (n : Nat) (xs : List Int) : Prop := (∀ x ∈ xs, 0 ≤ x ∧ x < n) ∧ xs.Nodup
instance (n : Nat) (xs : List Int) : Decidable (pickOk n xs) := by unfold pickOk; infer_instance
def pick (ls : List (List UInt8)) (xs : List Int) : List (List UInt8) := xs.map fun x => ls.getD x.toNat []
def someR (ls : List (List UInt8)) (xs : List Int) : Except Int Rep_ := if pickOk ls.length xs then mkP (pick ls xs) else .error 1
def seenD (xs : List Int) : DataW Unit := xs.foldl (fun D x => D.put (.int .i64 x) (.lit (.bool true))) (.map [])
theorem seen_fold (y : Int) : ∀ (xs : List Int) (D : DataW Unit), IsMap D → (xs.foldl (fun D x => D.put (.int .i64 x) (.lit (.bool true))) D).atKey (.int .i64 y) (.lit (.bool false)) = if y ∈ xs then .lit (.bool true) else D.atKey (.int .i64 y) (.lit (.bool false))
  | [], D, _ => by simp
  | x :: xs, D, hD => by
    rw [List.foldl_cons, seen_fold y xs _ (hD.put _ _)]
    by_cases h : y ∈ xs
    · simp [h]
    · by_cases hx : y = x
      · subst hx
        simp [h, atKey_put_same hD (k := .int .i64 y) trivial]
      · have : ¬ y ∈ x :: xs := by simp [h, hx]
        rw [if_neg h, if_neg this, atKey_put_other (by simpa using hx)]
theorem seen_at (xs : List Int) (y : Int) : (seenD xs).atKey (.int .i64 y) (.lit (.bool false)) = .lit (.bool (decide (y ∈ xs))) := by
  unfold seenD
  rw [seen_fold y xs _ isMap_empty]
  by_cases h : y ∈ xs
  · simp [h]
  · simp [h, DataW.atKey]
theorem plainElem_bool_inv {P : Program} {e : TypeId} (he : P.underlying e = some .bool) {v : Value} {z : DataW Unit × List MemPlace} (h : plainElem P e v = some z) : ∃ a, v = .bool a ∧ z = (.lit (.bool a), []) := by
  unfold plainElem at h
  rw [he] at h
  cases v <;> simp at h
  exact ⟨_, rfl, h.symm⟩
theorem zeroBool (w : World) : (zeroValue 4).run Try.prog w = .ok (.bool false) w := by kernel_rfl
theorem keyInt : Keyed Try.prog 3 := int_keyed Try.underlying3
theorem Ints.at_ {w : World} {b o n c : Nat} {xs : List Int} (h : Ints w (.slice (some ⟨b, o, none⟩) n c) xs) (i : Nat) (hi : i < xs.length) : w.cell? ⟨b, o + i, none⟩ = some (.int .i64 xs[i]) := by
  have hlen : n = xs.length := by have := Sl.len h; simpa using this.1
  obtain ⟨b', o', e, _, hc⟩ := Sl.at_ h (k := i) (by omega)
  cases e
  exact hc i (.int .i64 xs[i]) (by rw [List.getElem?_map, List.getElem?_eq_getElem hi]; rfl)
theorem Els.bytes {w : World} : ∀ {ys : List (List UInt8)} {cells : List Value} {B : List Nat}, Els BytesR ys w cells B → cells.length = ys.length ∧ ∀ (i : Nat) (x : Value) (a : List UInt8), cells[i]? = some x → ys[i]? = some a → Bytes w x a
  | [], cells, B, h => by obtain ⟨rfl, rfl⟩ := h; exact ⟨rfl, fun i x a hx => by simp at hx⟩
  | y :: ys, cells, B, h => by
    obtain ⟨c, rest, B1, B2, rfl, rfl, ⟨v, rfl, hv, -⟩, h2⟩ := h
    obtain ⟨g1, g2⟩ := Els.bytes h2
    refine ⟨by simp [g1], fun i x a hx ha => ?_⟩
    cases i with
    | zero => simp at hx ha; subst hx ha; exact hv
    | succ i => exact g2 i x a (by simpa using hx) (by simpa using ha)
theorem SlEls.rows {w : World} {v : Value} {ys : List (List UInt8)} {B : List Nat} (h : SlEls 1 BytesR w v ys B) : BRows w v ys := by
  obtain ⟨cells, a, cap, rfl, h1, h2, h3, h4, h5⟩ := h
  obtain ⟨g1, g2⟩ := h4.bytes
  exact ⟨cells, ⟨a, cap, by rw [g1], by omega, h2, h3, h5⟩, g1, g2⟩
theorem BRows.at_ {w : World} {av : Option Addr} {n c : Nat} {ls : List (List UInt8)} (h : BRows w (.slice av n c) ls) (i : Nat) (hi : i < ls.length) :
    ∃ b o al cl, av = some ⟨b, o, none⟩ ∧ b < w.heap.size ∧ w.cell? ⟨b, o + i, none⟩ = some (.slice al ls[i].length cl) ∧ Bytes w (.slice al ls[i].length cl) ls[i] := by
  obtain ⟨cells, h1, h2, h3⟩ := h
  have hn := Sl.len h1
  have hic : i < cells.length := by omega
  obtain ⟨b, o, e, hb, hc⟩ := Sl.at_ h1 (k := i) (by omega)
  have hy := h3 i cells[i] ls[i] (List.getElem?_eq_getElem hic) (List.getElem?_eq_getElem hi)
  obtain ⟨al, cl, e2⟩ := hy.shape
  rw [List.length_map] at e2
  rw [e2] at hy
  exact ⟨b, o, al, cl, e, hb, by rw [hc i cells[i] (List.getElem?_eq_getElem hic), e2], hy⟩
theorem Fr.ownsMap {H : Type} {P : Program} {k : TypeId} {R : Value → Option (DataW H × List MemPlace)} {w w' : World} {S : List Nat} {b n : Nat} {D : DataW H} (hf : Fr S w w') (h : w.ownsMap P k R b n D) (hb : b ∉ S) : w'.ownsMap P k R b n D := by
  have hlt := h.lt
  obtain ⟨es, clock, h1, F, hs, hD⟩ := h
  exact ⟨es, clock, (hf.block b hlt hb).trans h1, F, hs, hD⟩
theorem seenD_snoc (xs : List Int) (x : Int) : (seenD xs).put (.int .i64 x) (.lit (.bool true)) = seenD (xs ++ [x]) := by unfold seenD; rw [List.foldl_append]; rfl
theorem pick_snoc (ls : List (List UInt8)) (xs : List Int) (x : Int) : pick ls (xs ++ [x]) = pick ls xs ++ [ls.getD x.toNat []] := by simp [pick]
theorem pickOk_snoc {n : Nat} {xs : List Int} {x : Int} (h : pickOk n xs) (h0 : 0 ≤ x) (h1 : x < n) (h2 : ¬ x ∈ xs) : pickOk n (xs ++ [x]) := by
  refine ⟨fun y hy => ?_, ?_⟩
  · rcases List.mem_append.1 hy with hy | hy
    · exact h.1 y hy
    · simp at hy; subst hy; exact ⟨h0, h1⟩
  · rw [List.nodup_append]
    refine ⟨h.2, by simp, fun a ha b hb => ?_⟩
    simp at hb
    subst hb
    exact fun e => h2 (by rw [← e]; exact ha)
theorem pickOk_bad {n : Nat} {a b : List Int} {x : Int} (h : ¬ (0 ≤ x ∧ x < n) ∨ x ∈ a) : ¬ pickOk n (a ++ x :: b) := by
  rintro ⟨h1, h2⟩
  rcases h with h | h
  · exact h (h1 x (by simp))
  · rw [List.nodup_append] at h2
    exact h2.2.2 x h x (by simp) rfl
set_option maxRecDepth 100000 in
theorem info_bs : (Try.prog.info? 22).map (fun i => (i.zero, i.size, i.bytes)) = some (some (.slice none 0 0), 1, 24) := by kernel_rfl
end Go.Proofs.Ytcmpjkopdjncdaa

/- Slices of rows put behind each other; a part of a slice's rows as elements. -/
namespace Go.Proofs.Ytcmpjkopdjncdaa
open Go.RowKit

section
variable {α : Type} {k : Nat} {R : World → List Value → α → List Nat → Prop}
theorem Els.append : ∀ {ys zs : List α} {w : World} {c1 c2 : List Value} {B1 B2 : List Nat}, Els R ys w c1 B1 → Els R zs w c2 B2 → Els R (ys ++ zs) w (c1 ++ c2) (B1 ++ B2)
  | [], zs, w, c1, c2, B1, B2, h, h2 => by obtain ⟨rfl, rfl⟩ := h; exact h2
  | y :: ys, zs, w, c1, c2, B1, B2, h, h2 => by
    obtain ⟨c, rest, D1, D2, rfl, rfl, h3, h4⟩ := h
    exact ⟨c, rest ++ c2, D1, D2 ++ B2, by simp, by simp, h3, Els.append h4 h2⟩
/-- 'append(s, part...)' in a region that draws. -/
theorem step_append_els {P : Program} {ops : Array Oper} {o : Oper} {a : Act} {w : World} {K : Act → World → Prop} {Q : Exit → Act → World → Prop} {E : Prop} (hR : Rep k R) (hk : 0 < k)
    (hgd : o.guard = none) (s x : Operand) (t : TypeId) (ho : o.op = .call { callee := .builtin .append, args := #[s, x], argTypes := #[t, t] })
    (base : Nat) (e : TypeId) (z : Value) (bytes : Nat) (ht : P.underlying t = some (.slice e)) (hi : (P.info? e).map (fun i => (i.zero, i.size, i.bytes)) = some (some z, k, bytes)) (hz : z.cells.size = k)
    (v : Value) (ys : List α) (B : List Nat) (hs : a.eval s = v) (hown : OwnEls k R w base e v ys B)
    (ad : Addr) (m c : Nat) (hx : a.eval x = .slice (some ad) m c) (zs : List α) (hm : zs.length = m) (cells : List Value) (B2 : List Nat) (hc : Els R zs w cells B2) (hnews : ∀ j u, cells[j]? = some u → w.cell? (ad.add j) = some u) (hdis : ∀ b, blockOf v = some b → b ∉ B2)
    (h63 : ys.length + m ≤ maxLen) (hbytes : (ys.length + m) * bytes ≤ 140737488355328) (hbase : base ≤ w.heap.size)
    (h : ∀ v' w', OwnEls k R w' base e v' (ys ++ zs) (B ++ B2) → Fr (blockOf v).toList w w' → (∀ b, blockOf v' = some b → blockOf v = some b ∨ w.heap.size ≤ b) → K (a.put o.dst v') w') :
    if Region.wanted o (yielded ops a.tmps) = true then Oper.wp P o a w K Q else E := by
  subst hm
  obtain ⟨own, h1, h2, h3⟩ := hown
  refine step_append_fr hgd s x t ho base e z k bytes ht hi hz hk v ys.length own hs h1 ad zs.length c cells hx (hc.len hR) hnews (hc.one hR) h63 hbytes hbase ?_
  intro v' w' q1 q2 q3 q4
  refine h v' w' ⟨own ++ cells, by simpa using q1, Els.append (h2.fr hR q2 (fun b hb hm => h3 b (by simpa using hm) hb)) (hc.fr hR q2 (fun b hb hm => hdis b (by simpa using hm) hb)), ?_⟩ q2 q3
  intro b hb hm
  rcases q3 b hb with hv | hn
  · rcases List.mem_append.1 hm with hm | hm
    · exact h3 b hv hm
    · exact hdis b hv hm
  · rcases List.mem_append.1 hm with hm | hm
    · have := h2.lt hR b hm; omega
    · have := hc.lt hR b hm; omega
end
theorem els_rows {w : World} : ∀ {vs : List Value} {ls : List (List UInt8)}, vs.length = ls.length → (∀ (i : Nat) (x : Value) (a : List UInt8), vs[i]? = some x → ls[i]? = some a → Bytes w x a) → ∃ B, Els BytesR ls w vs B
  | [], [], _, _ => ⟨[], rfl, rfl⟩
  | v :: vs, l :: ls, hl, h => by
    obtain ⟨B, hB⟩ := els_rows (vs := vs) (ls := ls) (by simpa using hl) (fun i x a hx ha => h (i + 1) x a (by simpa using hx) (by simpa using ha))
    exact ⟨(liveOf v).toList ++ B, [v], vs, (liveOf v).toList, B, rfl, rfl, ⟨v, rfl, h 0 v l rfl rfl, rfl⟩, hB⟩
theorem BRows.nil (w : World) : BRows w (.slice none 0 0) [] := ⟨[], Sl.nil w, rfl, fun i x a hx => by simp at hx⟩
theorem BRows.pre {w : World} {a : Option Addr} {n c : Nat} {ls : List (List UInt8)} (h : BRows w (.slice a n c) ls) (k : Nat) (hk : k ≤ n) (c' : Nat) (h1 : k ≤ c') (h2 : c' ≤ c) : BRows w (.slice a k c') (ls.take k) := by
  obtain ⟨vs, g1, g2, g3⟩ := h
  have hn := (g1.len).1
  refine ⟨vs.take k, g1.pre k c' hk h1 h2, by rw [List.length_take, List.length_take, g2], fun i x y hx hy => ?_⟩
  rw [List.getElem?_take] at hx hy
  split at hx
  · rename_i hi
    rw [if_pos hi] at hy
    exact g3 i x y hx hy
  · cases hx
/-- Rows from a place on. -/
theorem BRows.from_ {w : World} {b o n c : Nat} {ls : List (List UInt8)} (h : BRows w (.slice (some ⟨b, o, none⟩) n c) ls) (k m : Nat) (hk : k + m = n) : BRows w (.slice (if c = k then some ⟨b, o, none⟩ else some ⟨b, o + k, none⟩) m (c - k)) (ls.drop k) := by
  obtain ⟨vs, g1, g2, g3⟩ := h
  have hn := (g1.len).1
  have h2 := g1.sub' k m (by omega)
  rw [List.take_of_length_le (by rw [List.length_drop]; omega)] at h2
  refine ⟨vs.drop k, h2, by rw [List.length_drop, List.length_drop, g2], fun i x y hx hy => ?_⟩
  rw [List.getElem?_drop] at hx hy
  exact g3 (k + i) x y hx hy
/-- A part of rows, as elements: where it lies. -/
theorem rows_ad {w : World} {b o n c : Nat} {ls : List (List UInt8)} (h : BRows w (.slice (some ⟨b, o, none⟩) n c) ls) (k m : Nat) (hk : k + m ≤ n) :
    ∃ ad cells B, (if c = k then some (⟨b, o, none⟩ : Addr) else some ⟨b, o + k, none⟩) = some ad ∧ Els BytesR ((ls.drop k).take m) w cells B ∧ (∀ x ∈ B, x < w.heap.size) ∧ ∀ j u, cells[j]? = some u → w.cell? (ad.add j) = some u := by
  obtain ⟨vs, g1, g2, g3⟩ := h
  obtain ⟨hn, hnc, -, -⟩ := g1.len
  obtain ⟨B, hB⟩ := els_rows (w := w) (vs := (vs.drop k).take m) (ls := (ls.drop k).take m) (by simp [g2]) (fun i x y hx hy => by
    rw [List.getElem?_take] at hx hy
    split at hx
    · rename_i hi
      rw [if_pos hi, List.getElem?_drop] at hy
      rw [List.getElem?_drop] at hx
      exact g3 (k + i) x y hx hy
    · cases hx)
  by_cases hc : c = k
  · refine ⟨⟨b, o, none⟩, _, B, by rw [if_pos hc], hB, hB.lt Rep.bytes, fun j u hj => ?_⟩
    have := (List.getElem?_eq_some_iff.1 hj).1
    rw [List.length_take] at this
    omega
  · refine ⟨⟨b, o + k, none⟩, _, B, by rw [if_neg hc], hB, hB.lt Rep.bytes, fun j u hj => ?_⟩
    have hj' := hj
    rw [List.getElem?_take] at hj
    split at hj
    · rename_i hi
      rw [List.getElem?_drop] at hj
      obtain ⟨b', o', e, -, hc2⟩ := g1.at_ (k := k + j) (by omega)
      cases e
      rw [Addr.add_mid]
      have := hc2 (k + j) u hj
      simpa [Nat.add_assoc] using this
    · cases hj
end Go.Proofs.Ytcmpjkopdjncdaa
