import Derived.OpenShut
import Derived.Deep.Fields
import Derived.SizedLaws
import Derived.Test.YtcmpjkopdjncdaaMw23
import Derived.Test.YtcmpjkopdjncdaaMw37
import Derived.Test.YtcmpjkopdjncdaaMw42
import Derived.Test.YtcmpjkopdjncdaaMw41
/- Slices of data of several cells, to whatever depth, opened out of a law's arguments; and the items of package rtcp. -/
namespace Go.Proofs.Ytcmpjkopdjncdaa
open Go.RowKit Go.ChangeShapes Go.WideShapes Go.Deep

section
variable {α : Type} {k : Nat} {R : World → List Value → α → List Nat → Prop}
theorem Els.of_list {w : World} {C : Nat → List Value} {Y : Nat → α} {B : Nat → List Nat} : ∀ {is : List Nat}, (∀ i ∈ is, R w (C i) (Y i) (B i)) → Els R (is.map Y) w (is.flatMap C) (is.flatMap B)
  | [], _ => ⟨rfl, rfl⟩
  | i :: is, h => ⟨C i, is.flatMap C, B i, is.flatMap B, by simp, by simp, h i (by simp), Els.of_list fun j hj => h j (by simp [hj])⟩
theorem Els.nob (hR : ∀ w c y B, R w c y B → B = []) : ∀ {ys : List α} {w : World} {cells : List Value} {B : List Nat}, Els R ys w cells B → B = []
  | [], _, _, _, h => h.2
  | y :: ys, w, cells, B, h => by
    obtain ⟨c, rest, B1, B2, -, rfl, h1, h2⟩ := h
    rw [hR _ _ _ _ h1, Els.nob hR h2]
    rfl
theorem SlEls.nob (hR : ∀ w c y B, R w c y B → B = []) {w : World} {v : Value} {ys : List α} {B : List Nat} (h : SlEls k R w v ys B) : SlEls k R w v ys [] := by
  obtain ⟨cells, a, cap, h1, h2, h3, h4, h5, h6⟩ := h
  obtain rfl := Els.nob hR h5
  exact ⟨cells, a, cap, h1, h2, h3, h4, h5, h6⟩
theorem flat_atK {C : Nat → List Value} (hk : 0 < k) : ∀ {is : List Nat} {i : Nat} {x : Value}, (∀ i ∈ is, (C i).length = k) → (is.flatMap C)[i]? = some x → ∃ j r n, i = j * k + r ∧ is[j]? = some n ∧ (C n)[r]? = some x
  | [], i, x, _, h => by simp at h
  | n :: is, i, x, hl, h => by
    rw [List.flatMap_cons] at h
    have h0 := hl n (by simp)
    by_cases hi : i < k
    · rw [List.getElem?_append_left (by omega)] at h
      exact ⟨0, i, n, by omega, rfl, h⟩
    · rw [List.getElem?_append_right (by omega), h0] at h
      obtain ⟨j, r, m, e, h1, h2⟩ := flat_atK hk (fun i hi => hl i (by simp [hi])) h
      refine ⟨j + 1, r, m, ?_, h1, h2⟩
      rw [Nat.succ_mul]
      omega
end
section
variable {H : Type} {enc : TypeId × Value → H} {P : Program} {w : World} {base : Nat}
/-- All that this datum holds is of a size that memory holds. -/
def Sized7 (P : Program) (t : TypeId) (d : DataW H) : Prop := ∀ m ∈ d.weights P t, m ≤ reachBytes
theorem Sized7.slice {t e : TypeId} (ht : P.underlying t = some (.slice e)) {l r : List (DataW H)} (h : Sized7 P t (.slice l r)) : (l.length + r.length) * P.bytesOf e ≤ reachBytes ∧ (∀ d ∈ l, Sized7 P e d) ∧ ∀ d ∈ r, Sized7 P e d := by
  have hall : ∀ (l : List (DataW H)) (d : DataW H), d ∈ l → ∀ n ∈ d.weights P e, n ∈ DataW.weightsAll P e l := by
    intro l
    induction l with
    | nil => intro d hd; cases hd
    | cons x l ih =>
      intro d hd n hn
      simp only [DataW.weightsAll, List.mem_append]
      rcases List.mem_cons.1 hd with rfl | hd
      · exact .inl hn
      · exact .inr (ih d hd n hn)
  unfold Sized7 at h
  simp only [DataW.weights, ht, List.mem_cons, List.mem_append] at h
  exact ⟨h _ (.inl rfl), fun d hd m hm => h m (.inr (.inl (hall l d hd m hm))), fun d hd m hm => h m (.inr (.inr (hall r d hd m hm)))⟩
theorem Sized7.field {t : TypeId} {fs : Array Field} (ht : P.underlying t = some (.struct fs)) {ds : List (DataW H)} (h : Sized7 P t (.agg ds)) {i : Nat} {f : Field} {d : DataW H} (hf : fs[i]? = some f) (hd : ds[i]? = some d) : Sized7 P f.type d := by
  intro m hm
  unfold Sized7 at h
  simp only [DataW.weights, ht] at h
  exact h m (DataW.weights_mem_each (j := i) (by rw [List.getElem?_map, Array.getElem?_toList, hf]; rfl) hd m hm)
/-- A slice of such data that came in. -/
theorem open_els {α : Type} [Inhabited α] {k : Nat} {R : World → List Value → α → List Nat → Prop} {Q : α → Prop} {t e : TypeId} {fuel : Nat} {v : Value} {d : DataW H} {ps : List MemPlace}
    (hRk : Rep k R) (ht : P.underlying t = some (.slice e)) (hc : P.cellsOf e = k) (hk : 0 < k)
    (hR : ∀ (n : Nat) (cs : List Value) (d : DataW H) (ps : List MemPlace), DataW.trod enc P w base (fun _ => true) true n e cs = some (d, ps) → cs.length = k → Sized7 P e d → ∃ y B, R w cs y B ∧ Q y)
    (h : DataW.trod enc P w base (fun _ => true) true fuel t [v] = some (d, ps)) (hs : Sized7 P t d) : ∃ ys B, SlEls k R w v ys B ∧ (∀ y ∈ ys, Q y) ∧ ys.length * P.bytesOf e ≤ reachBytes := by
  rcases open_slice ht h with ⟨hcs, _⟩ | ⟨a, len, cap, m, n, D, Pl, hcs, _, hl, hm, hmm, hd, hx⟩
  · simp only [List.cons.injEq, and_true] at hcs
    subst hcs
    exact ⟨[], [], SlEls.nil w, by simp, by simp⟩
  · simp only [List.cons.injEq, and_true] at hcs
    subst hcs
    simp only [if_true] at hmm
    subst hmm
    rw [hc] at hx
    obtain ⟨rfl, -⟩ := Prod.mk.inj hd
    obtain ⟨hw, hw1, hw2⟩ := hs.slice ht
    simp only [List.length_map, List.length_range] at hw
    have each : ∀ i, i < m → ∃ y : (List Value × α × List Nat), y.1.length = k ∧ R w y.1 y.2.1 y.2.2 ∧ Q y.2.1 ∧ ∀ r, r < k → w.cell? ((a.add (i * k)).add r) = y.1[r]? := by
      intro i hi
      obtain ⟨cs, hcs, ht⟩ := hx i hi
      obtain ⟨_, hlen, hat⟩ := World.cells?_some hcs
      have hsi : Sized7 P e (D i) := by
        by_cases h : i < len
        · exact hw1 _ (List.mem_map.2 ⟨i, List.mem_range.2 h, rfl⟩)
        · exact hw2 _ (List.mem_map.2 ⟨i - len, List.mem_range.2 (by omega), by rw [show len + (i - len) = i by omega]⟩)
      obtain ⟨y, B, h1, h2⟩ := hR n cs (D i) (Pl i) ht hlen hsi
      exact ⟨(cs, y, B), hlen, h1, h2, hat⟩
    obtain ⟨Y, hY⟩ := choose_lt each
    refine ⟨(List.range len).map fun i => (Y i).2.1, (List.range len).flatMap fun i => (Y i).2.2, ⟨(List.range len).flatMap fun i => (Y i).1, some a, m, by simp, by simpa using hl, hm, (fun h => by cases h), Els.of_list (C := fun i => (Y i).1) (Y := fun i => (Y i).2.1) (B := fun i => (Y i).2.2) (fun i hi => (hY i (by have := List.mem_range.1 hi; omega)).2.1), fun p hp h0 => ?_⟩, fun y hy => ?_, ?_⟩
    · cases hp
      obtain ⟨hl0, hR0, -, k0⟩ := hY 0 h0
      have k1 := k0 0 hk
      rw [List.getElem?_eq_getElem (by omega)] at k1
      have h1 := cell_addr k1
      obtain ⟨ab, ao, asp⟩ := a
      have e0 : ((⟨ab, ao, asp⟩ : Addr).add (0 * k)).add 0 = ⟨ab, ao, asp⟩ := by simp [Addr.add]
      rw [e0] at h1
      obtain ⟨hs, hb⟩ := h1
      simp only at hs hb
      subst hs
      have hadd : ∀ o i, (⟨ab, o, none⟩ : Addr).add i = ⟨ab, o + i, none⟩ := fun o i => by unfold Addr.add; split <;> simp_all
      refine ⟨rfl, hb, fun i x hx => ?_⟩
      obtain ⟨j, r, q, rfl, h1, h2⟩ := flat_atK hk (fun i hi => (hY i (by have := List.mem_range.1 hi; omega)).1) hx
      have hj : j < len := by
        have := (List.getElem?_eq_some_iff.1 h1).1
        simpa using this
      rw [List.getElem?_range hj] at h1
      cases h1
      have hr : r < k := by
        have h3 := (List.getElem?_eq_some_iff.1 h2).1
        rw [(hY j (by omega)).1] at h3
        exact h3
      have := (hY j (by omega)).2.2.2 r hr
      rw [hadd, hadd] at this
      rw [show ao + (j * k + r) = ao + j * k + r by omega, this]
      exact h2
    · obtain ⟨i, hi, rfl⟩ := List.mem_map.1 hy
      exact (hY i (by have := List.mem_range.1 hi; omega)).2.2.1
    · simp only [List.length_map, List.length_range]
      exact Nat.le_trans (Nat.mul_le_mul_right _ (by omega)) hw
end
end Go.Proofs.Ytcmpjkopdjncdaa

/- The items of package rtcp, opened out of a law's arguments. -/
namespace Go.Proofs.Ytcmpjkopdjncdaa
open Go.RowKit Go.ChangeShapes Go.WideShapes Go.Deep

instance : Inhabited Rpt := ⟨⟨0, 0, 0, 0, 0, 0, 0⟩⟩
instance : Inhabited Chk := ⟨⟨0, []⟩⟩
instance : Inhabited Itm := ⟨Itm.zero 0⟩
/-- What an argument's item is sure to be. -/
def QRpt (r : Rpt) : Prop := -2147483648 ≤ r.lost ∧ r.lost ≤ 2147483647
def QChk (c : Chk) : Prop := c.texts.length ≤ 5864062014805
def QItm (x : Itm) : Prop := (∀ r ∈ x.reps, QRpt r) ∧ ∀ c ∈ x.chks, QChk c
section
variable {H : Type} {enc : TypeId × Value → H} {w : World} {base b0 : Nat}
theorem u32_of {n : Int} (h : (Lit.int .u32 n).wf = true) : (((UInt32.ofNat n.toNat).toNat : Nat) : Int) = n := by
  have := wf_u32 h
  rw [UInt32.toNat_ofNat']
  omega
theorem u64_of {n : Int} (h : (Lit.int .u64 n).wf = true) : (((UInt64.ofNat n.toNat).toNat : Nat) : Int) = n := by
  simp [Lit.wf, IntKind.min, IntKind.max, IntKind.signed, IntKind.bits] at h
  rw [UInt64.toNat_ofNat']
  omega
theorem strB_data (s : ByteArray) : strB s.data.toList = s := by cases s; rfl
set_option maxRecDepth 100000 in
theorem open_rpt {n : Nat} {cs : List Value} {d : DataW H} {ps : List MemPlace} (h : DataW.trod enc Try.prog w base (fun _ => true) true n 57 cs = some (d, ps)) (hl : cs.length = 7) : ∃ y B, RptR w cs y B ∧ QRpt y := by
  have c1 : Try.prog.cellsOf 36 = 1 := by kernel_rfl
  have c2 : Try.prog.cellsOf 3 = 1 := by kernel_rfl
  have c3 : Try.prog.cellsOf 21 = 1 := by kernel_rfl
  match cs, hl with
  | [e0, e1, e2, e3, e4, e5, e6], _ =>
    obtain ⟨xs, n', _, _, _, hlen2, hg⟩ := DataW.trod_struct Try.underlying57 h
    match xs, hlen2 with
    | [y0, y1, y2, y3, y4, y5, y6], _ =>
      have g0 := hg 0 _ rfl; have g1 := hg 1 _ rfl; have g2 := hg 2 _ rfl; have g3 := hg 3 _ rfl; have g4 := hg 4 _ rfl; have g5 := hg 5 _ rfl; have g6 := hg 6 _ rfl
      simp [c1, c2, c3] at g0 g1 g2 g3 g4 g5 g6
      obtain ⟨n0, q0, -, r0⟩ := DataW.trod_int Try.underlying36 g0
      obtain ⟨n1, q1, -, r1⟩ := DataW.trod_int Try.underlying3 g1
      obtain ⟨n2, q2, -, r2⟩ := DataW.trod_int Try.underlying21 g2
      obtain ⟨n3, q3, -, r3⟩ := DataW.trod_int Try.underlying36 g3
      obtain ⟨n4, q4, -, r4⟩ := DataW.trod_int Try.underlying36 g4
      obtain ⟨n5, q5, -, r5⟩ := DataW.trod_int Try.underlying36 g5
      obtain ⟨n6, q6, -, r6⟩ := DataW.trod_int Try.underlying36 g6
      simp only [List.cons.injEq, and_true] at q0 q1 q2 q3 q4 q5 q6
      subst q0 q1 q2 q3 q4 q5 q6
      refine ⟨⟨UInt32.ofNat n0.toNat, n1, n2, UInt32.ofNat n3.toNat, UInt32.ofNat n4.toNat, UInt32.ofNat n5.toNat, UInt32.ofNat n6.toNat⟩, [], ⟨?_, rfl⟩, ?_⟩
      · show _ = [_, _, _, _, _, _, _]
        rw [u32_of r0, u32_of r3, u32_of r4, u32_of r5, u32_of r6]
      · simp [Lit.wf, IntKind.min, IntKind.max, IntKind.signed, IntKind.bits] at r2
        exact ⟨by show -2147483648 ≤ n2; omega, by show n2 ≤ 2147483647; omega⟩
set_option maxRecDepth 100000 in
theorem open_txt {n : Nat} {cs : List Value} {d : DataW H} {ps : List MemPlace} (h : DataW.trod enc Try.prog w base (fun _ => true) true n 90 cs = some (d, ps)) (hl : cs.length = 2) : ∃ y B, TxtR w cs y B ∧ True := by
  have c1 : Try.prog.cellsOf 9 = 1 := by kernel_rfl
  have c2 : Try.prog.cellsOf 3 = 1 := by kernel_rfl
  match cs, hl with
  | [e0, e1], _ =>
    obtain ⟨xs, n', _, _, _, hlen2, hg⟩ := DataW.trod_struct Try.underlying90 h
    match xs, hlen2 with
    | [y0, y1], _ =>
      have g0 := hg 0 _ rfl; have g1 := hg 1 _ rfl
      simp [c1, c2] at g0 g1
      obtain ⟨n0, q0, -, r0⟩ := DataW.trod_int Try.underlying3 g0
      obtain ⟨s, q1, -, r1⟩ := DataW.trod_string Try.underlying9 g1
      simp only [List.cons.injEq, and_true] at q0 q1
      subst q0 q1
      refine ⟨(n0, s.data.toList), [], ⟨?_, rfl⟩, trivial⟩
      show _ = [_, _]
      rw [strB_data]
set_option maxRecDepth 100000 in
theorem open_chk {n : Nat} {cs : List Value} {d : DataW H} {ps : List MemPlace} (h : DataW.trod enc Try.prog w base (fun _ => true) true n 87 cs = some (d, ps)) (hl : cs.length = 2) (hs : Sized7 Try.prog 87 d) : ∃ y B, ChkR w cs y B ∧ QChk y := by
  have c1 : Try.prog.cellsOf 36 = 1 := by kernel_rfl
  have c2 : Try.prog.cellsOf 85 = 1 := by kernel_rfl
  have hb : Try.prog.bytesOf 90 = 24 := by kernel_rfl
  match cs, hl with
  | [e0, e1], _ =>
    obtain ⟨xs, n', _, hd, _, hlen2, hg⟩ := DataW.trod_struct Try.underlying87 h
    match xs, hlen2 with
    | [y0, (d1, p1)], _ =>
      have g0 := hg 0 _ rfl; have g1 := hg 1 _ rfl
      simp [c1, c2] at g0 g1
      obtain ⟨rfl, -⟩ := Prod.mk.inj hd
      have hs1 := hs.field Try.underlying87 (i := 1) (d := d1) rfl rfl
      obtain ⟨n0, q0, -, r0⟩ := DataW.trod_int Try.underlying36 g0
      obtain ⟨ts, B, hS, -, hlen⟩ := open_els (Q := fun _ => True) Rep.txt Try.underlying85 (by kernel_rfl) (by decide) (fun n cs d ps h hl _ => open_txt h hl) g1 hs1
      simp only [List.cons.injEq, and_true] at q0
      subst q0
      have hS' := hS.nob (fun w c y B h => h.2)
      refine ⟨⟨UInt32.ofNat n0.toNat, ts⟩, (liveOf e1).toList, ⟨e1, ?_, hS', rfl⟩, ?_⟩
      · rw [u32_of r0]
      · rw [hb] at hlen
        unfold reachBytes at hlen
        show ts.length ≤ _
        omega
set_option maxRecDepth 100000 in
theorem open_src {n : Nat} {cs : List Value} {d : DataW H} {ps : List MemPlace} (h : DataW.trod enc Try.prog w base (fun _ => true) true n 36 cs = some (d, ps)) : ∃ y B, SrcR w cs y B ∧ True := by
  obtain ⟨n0, q0, -, r0⟩ := DataW.trod_int Try.underlying36 h
  subst q0
  exact ⟨UInt32.ofNat n0.toNat, [], ⟨by rw [u32_of r0], rfl⟩, trivial⟩
set_option maxRecDepth 100000 in
theorem open_itm {n : Nat} {cs : List Value} {d : DataW H} {ps : List MemPlace} (h : DataW.trod enc Try.prog w base (fun _ => true) true n 42 cs = some (d, ps)) (hl : cs.length = 10) (hs : Sized7 Try.prog 42 d) : ∃ y B, ItR w cs y B ∧ QItm y := by
  have c1 : Try.prog.cellsOf 36 = 1 := by kernel_rfl
  have c2 : Try.prog.cellsOf 3 = 1 := by kernel_rfl
  have c3 : Try.prog.cellsOf 37 = 1 := by kernel_rfl
  have c4 : Try.prog.cellsOf 9 = 1 := by kernel_rfl
  have c5 : Try.prog.cellsOf 38 = 1 := by kernel_rfl
  have c6 : Try.prog.cellsOf 39 = 1 := by kernel_rfl
  have c7 : Try.prog.cellsOf 40 = 1 := by kernel_rfl
  match cs, hl with
  | [e0, e1, e2, e3, e4, e5, e6, e7, e8, e9], _ =>
    obtain ⟨xs, n', _, hd, _, hlen2, hg⟩ := DataW.trod_struct Try.underlying42 h
    match xs, hlen2 with
    | [y0, y1, y2, y3, y4, y5, (d6, p6), (d7, p7), (d8, p8), y9], _ =>
      have g0 := hg 0 _ rfl; have g1 := hg 1 _ rfl; have g2 := hg 2 _ rfl; have g3 := hg 3 _ rfl; have g4 := hg 4 _ rfl; have g5 := hg 5 _ rfl; have g6 := hg 6 _ rfl; have g7 := hg 7 _ rfl; have g8 := hg 8 _ rfl; have g9 := hg 9 _ rfl
      simp [c1, c2, c3, c4, c5, c6, c7] at g0 g1 g2 g3 g4 g5 g6 g7 g8 g9
      obtain ⟨rfl, -⟩ := Prod.mk.inj hd
      have hs6 := hs.field Try.underlying42 (i := 6) (d := d6) rfl rfl
      have hs7 := hs.field Try.underlying42 (i := 7) (d := d7) rfl rfl
      have hs8 := hs.field Try.underlying42 (i := 8) (d := d8) rfl rfl
      obtain ⟨n0, q0, -, r0⟩ := DataW.trod_int Try.underlying3 g0
      obtain ⟨n1, q1, -, r1⟩ := DataW.trod_int Try.underlying36 g1
      obtain ⟨n2, q2, -, r2⟩ := DataW.trod_int Try.underlying37 g2
      obtain ⟨n3, q3, -, r3⟩ := DataW.trod_int Try.underlying36 g3
      obtain ⟨n4, q4, -, r4⟩ := DataW.trod_int Try.underlying36 g4
      obtain ⟨n5, q5, -, r5⟩ := DataW.trod_int Try.underlying36 g5
      obtain ⟨s, q9, -, -⟩ := DataW.trod_string Try.underlying9 g9
      obtain ⟨rs, B6, hS6, hq6, -⟩ := open_els (Q := QRpt) Rep.rpt Try.underlying38 (by kernel_rfl) (by decide) (fun n cs d ps h hl _ => open_rpt h hl) g6 hs6
      obtain ⟨ks, B7, hS7, hq7, -⟩ := open_els (Q := QChk) Rep.chk Try.underlying39 (by kernel_rfl) (by decide) (fun n cs d ps h hl hs => open_chk h hl hs) g7 hs7
      obtain ⟨ss, B8, hS8, -, -⟩ := open_els (Q := fun _ => True) Rep.src Try.underlying40 (by kernel_rfl) (by decide) (fun n cs d ps h hl hs => open_src h) g8 hs8
      simp only [List.cons.injEq, and_true] at q0 q1 q2 q3 q4 q5 q9
      subst q0 q1 q2 q3 q4 q5 q9
      refine ⟨⟨n0, UInt32.ofNat n1.toNat, UInt64.ofNat n2.toNat, UInt32.ofNat n3.toNat, UInt32.ofNat n4.toNat, UInt32.ofNat n5.toNat, rs, ks, ss, s.data.toList⟩, _, ⟨e6, e7, e8, B7, ?_, hS6.nob (fun w c y B h => h.2), hS7, hS8.nob (fun w c y B h => h.2), rfl⟩, hq6, hq7⟩
      show _ = [_, _, _, _, _, _, _, _, _, _]
      rw [u32_of r1, u64_of r2, u32_of r3, u32_of r4, u32_of r5, strB_data]
set_option maxRecDepth 100000 in
theorem open_items_arg {v : Value} {d : DataW H} {ps : List MemPlace} (hok : Value.okWide Try.prog w .any b0 25 v) (h : DataW.Trod enc Try.prog w base (fun _ => true) true 25 v d ps) (hs : Sized7 Try.prog 25 d) : ∃ (xs : List Itm) (B : List Nat), SlEls 10 ItR w v xs B ∧ (∀ x ∈ xs, QItm x) ∧ xs.length ≤ 1099511627744 := by
  have hb : Try.prog.bytesOf 42 = 128 := by kernel_rfl
  obtain ⟨a, len, cap, rfl⟩ := okWide_slice Try.underlying25 hok
  obtain ⟨fuel, hf⟩ := h
  obtain ⟨xs, B, hS, hq, hlen⟩ := open_els (Q := QItm) Rep.itm Try.underlying25 (by kernel_rfl) (by decide) (fun n cs d ps h hl hs => open_itm h hl hs) hf hs
  refine ⟨xs, B, hS, hq, ?_⟩
  rw [hb] at hlen
  unfold reachBytes at hlen
  omega
end
end Go.Proofs.Ytcmpjkopdjncdaa

/- The walk of confluxlaw07.few (printed by gen_7lfew.py). -/
namespace Go.Proofs.Ytcmpjkopdjncdaa
open Go.RowKit

/-- Few items, of few parts. -/
def fews (xs : List Itm) : Bool := xs.all few7 && decide (xs.length ≤ 8)
theorem few7_no {x : Itm} (h : ¬ (x.reps.length ≤ 40 ∧ x.chks.length ≤ 40)) : few7 x = false := by
  unfold few7
  by_cases h1 : x.reps.length ≤ 40
  · rw [decide_eq_false (p := x.chks.length ≤ 40) (fun h2 => h ⟨h1, h2⟩)]; simp
  · rw [decide_eq_false h1]; simp
theorem fews_no {xs : List Itm} {x : Itm} (hx : x ∈ xs) (h : few7 x = false) : fews xs = false := by
  unfold fews
  rw [all_no hx h]
  rfl
set_option maxRecDepth 100000 in
set_option maxHeartbeats 8000000 in
theorem l07few_any {w : World} {v : Value} {xs : List Itm} {B : List Nat} (h : SlEls 10 ItR w v xs B) (hq : ∀ x ∈ xs, QItm x) (hn : xs.length ≤ 1099511627776) :
    Calls Try.prog 15 #[v] w fun e w' => e = .returned (.bool (fews xs)) ∧ Fr [] w w' := by
  obtain ⟨a, cap, rfl⟩ := h.shape
  have HL := Lib.hid h; have HQ := Lib.hid hq
  clear h hq
  obtain ⟨n, hnn⟩ : ∃ n, xs.length = n := ⟨_, rfl⟩
  rw [hnn] at hn HL ⊢
  have HN := Lib.hid hnn
  clear hnn
  go_enter Try.func15, Try.ntmps15
  go_upto_region 2 with fail
  go_loopw [7] (fun iv wr => ∃ (j : Nat), j ≤ n ∧ iv = .int .i64 (j : Nat) ∧ (xs.take j).all few7 = true ∧ Fr [] w wr) (fun iv _ => n - (intOf iv).toNat)
  case atStart => exact ⟨0, Nat.zero_le _, rfl, rfl, Fr.refl _ _⟩
  case round =>
    obtain ⟨j, hj, rfl, htk, hF⟩ := hrel
    have HT := Lib.hid htk; have HF := Lib.hid hF
    clear htk hF
    by_cases hlt : j < n
    · obtain ⟨b, o, c, y, B1, ea, -, hy, ⟨vr, vc, vs, Bc, rfl, hr, hc, hs, -⟩, -, hrg⟩ := (HL.out.keep Rep.itm HF.out).at_ Rep.itm (i := j) hlt
      subst ea
      obtain ⟨ar, cr, rfl⟩ := hr.shape
      obtain ⟨ac, cc, rfl⟩ := hc.shape
      obtain ⟨as_, cs, rfl⟩ := hs.shape
      have HRG := Lib.hid hrg; have HY := Lib.hid hy
      have HYQ := Lib.hid (HQ.out y (List.mem_of_getElem? hy))
      obtain ⟨wa, ea, hFa, hBa, hsa⟩ := one_new wr (itc y (.slice ar y.reps.length cr) (.slice ac y.chks.length cc) (.slice as_ y.srcs.length cs)) 42
      have EA := Lib.hid ea; have HX := Lib.hid hBa; have HR := Lib.hid (hr.keep Rep.rpt hFa); have HC := Lib.hid (hc.keep Rep.chk hFa); have HS := Lib.hid (hs.keep Rep.src hFa); have HF := Lib.hid (HF.out.trans hFa)
      clear hrg hy ea hFa hBa hsa hr hc hs
      have x6 := HX.out.cell 6; have x7 := HX.out.cell 7
      simp only [itc, List.getElem?_toArray, List.getElem?_cons_succ, List.getElem?_cons_zero] at x6 x7
      obtain ⟨nr, hnr⟩ : ∃ m, y.reps.length = m := ⟨_, rfl⟩
      obtain ⟨nc, hnc⟩ : ∃ m, y.chks.length = m := ⟨_, rfl⟩
      rw [hnr] at x6
      rw [hnc] at x7
      have HNR := Lib.hid hnr; have HNC := Lib.hid hnc
      clear hnr hnc
      by_cases h0 : nr ≤ 40
      rotate_left
      · have t0 : (40 : Int) < ((nr : Nat) : Int) := by omega
        have HX2 : Hid (fews xs = false) := Lib.hid (fews_no (List.mem_of_getElem? HY.out) (few7_no (by rw [HNR.out]; exact fun h => h0 h.1)))
        clear h0
        go_upto_region 4 with (refine wpList_load_midA rfl 42 (.tmp 9) rfl b (o + j * 10) rfl (itc y (.slice ar y.reps.length cr) (.slice ac y.chks.length cc) (.slice as_ y.srcs.length cs)) _ HRG.out Try.underlying42 rfl (by kernel_rfl) ?_)
        rw [EA.out]
        clear EA
        go_wp2_with fail
        go_ret
        exact ⟨ret_bool HX2.out.symm, HF.out⟩
      have t0 : ¬ ((40 : Int) < ((nr : Nat) : Int)) := by omega
      by_cases h1 : nc ≤ 40
      rotate_left
      · have t1 : (40 : Int) < ((nc : Nat) : Int) := by omega
        have HX2 : Hid (fews xs = false) := Lib.hid (fews_no (List.mem_of_getElem? HY.out) (few7_no (by rw [HNC.out]; exact fun h => h1 h.2)))
        clear h1
        go_upto_region 4 with (refine wpList_load_midA rfl 42 (.tmp 9) rfl b (o + j * 10) rfl (itc y (.slice ar y.reps.length cr) (.slice ac y.chks.length cc) (.slice as_ y.srcs.length cs)) _ HRG.out Try.underlying42 rfl (by kernel_rfl) ?_)
        rw [EA.out]
        clear EA
        go_wp2_with fail
        go_ret
        exact ⟨ret_bool HX2.out.symm, HF.out⟩
      have t1 : ¬ ((40 : Int) < ((nc : Nat) : Int)) := by omega
      have HCN : Hid (nc ≤ 40) := Lib.hid h1
      clear h0 h1
      go_upto_region 4 with (refine wpList_load_midA rfl 42 (.tmp 9) rfl b (o + j * 10) rfl (itc y (.slice ar y.reps.length cr) (.slice ac y.chks.length cc) (.slice as_ y.srcs.length cs)) _ HRG.out Try.underlying42 rfl (by kernel_rfl) ?_)
      rw [EA.out]
      clear EA
      go_wp2_with (refine wpList_load_row_w rfl 42 (.tmp 4) rfl wr.heap.size rfl 42 _ _ HX.out Try.underlying42 rfl (by kernel_rfl) ?_)
      refine (l07as_chk HR.out HC.out HS.out HYQ.out.2 (by rw [HNC.out]; have := HCN.out; omega)).mono ?_
      rintro e w4 ⟨vc', B', rfl, hr, hc, -, hs, hF⟩
      obtain ⟨ac2, cc2, rfl⟩ := hc.shape
      have HR := Lib.hid hr; have HC := Lib.hid hc.sl; have HS := Lib.hid hs; have HF := Lib.hid (HF.out.trans hF)
      clear hr hc hs hF t0 t1 x6 x7
      go_wp2_with fail
      refine (r07Few_any HR.out HC.out HS.out).mono ?_
      rintro e w5 ⟨rfl, hF⟩
      have HF := Lib.hid (HF.out.trans hF)
      clear hF
      cases hb : few7 y with
      | false =>
        have HX2 : Hid (fews xs = false) := Lib.hid (fews_no (List.mem_of_getElem? HY.out) hb)
        clear hb
        go_wp2_with fail
        go_ret
        exact ⟨ret_bool HX2.out.symm, HF.out⟩
      | true =>
        have HE := Lib.hid hb
        clear hb
        go_wp2_with fail
        refine ⟨⟨j + 1, by omega, by go_num, all_take_next HY.out HT.out HE.out, HF.out⟩, by simp [intOf]; omega⟩
    · obtain rfl : j = n := by omega
      have hT := HT.out
      rw [List.take_of_length_le (by rw [HN.out]; exact Nat.le_refl _)] at hT
      have HX2 : Hid (fews xs = decide ((j : Int) ≤ 8)) := Lib.hid (by unfold fews; rw [hT, HN.out, Bool.true_and]; exact decide_eq_decide.2 (by omega))
      clear hT
      go_wp2_with fail
      go_ret
      exact ⟨ret_bool HX2.out.symm, HF.out⟩
end Go.Proofs.Ytcmpjkopdjncdaa
