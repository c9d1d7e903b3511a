/- The walk of confluxlaw21.WindowPlays (printed by gen_winplays.py). -/
import Derived.Test.YtbmpiemhfndnbaaMp36
import Derived.Test.YtbmpiemhfndnbaaMp24
import Derived.Test.YtbmpiemhfndnbaaMp37
import Derived.Test.YtbmpiemhfndnbaaMpR21c
import Derived.Test.YtbmpiemhfndnbaaMp15
namespace Go.Proofs.Ytbmpiemhfndnbaa
open Go.RowKit Go.Maps Go.Shelf

/-- Behind k steps of WindowPlays. -/
structure PRel (w W : World) (g mb X k : Nat) (s : Win) (v : Value) : Prop where
  win : WinV W g mb s
  i : WInv k s
  b : Box W X 28 (rwc s v)
  a : SlEls 3 OneR W v s.all []
  nb : ∀ b, liveOf v = some b → b ≠ g ∧ b ≠ mb ∧ b ≠ X
  f : Fr [] w W
theorem WInv.nums {c : Nat} {s : Win} (h : WInv c s) (hc : c ≤ 1000) : ∀ o ∈ s.all, 0 ≤ o.n ∧ o.n ≤ 1099511627776 := fun o ho => by
  cases hh : s.hi with
  | none => rw [(h.old hh).1] at ho; cases ho
  | some k => have h1 := h.hi k hh; have := h1.2.2.2.2.2 o ho; have := h.low o ho; omega
/-- What the ways of a step leave. -/
structure PCut (w W : World) (g mb X k : Nat) (s : Win) (got : List Held_) (gv wv v : Value) : Prop where
  rel : PRel w W g mb X (k + 1) s v
  e : SlEls 2 OutR W gv got []
  u : SlEls 3 OneR W wv got []
  n : ∀ o ∈ got, 0 ≤ o.n ∧ o.n ≤ 1099511627776
  l : got.length ≤ 64
theorem bits_127 (a : Int) : 0 ≤ bits BinOp.and IntKind.i64 a 127 ∧ bits BinOp.and IntKind.i64 a 127 ≤ 127 := by
  unfold bits
  simp only
  have h1 : (BitVec.ofInt IntKind.i64.bits a &&& BitVec.ofInt IntKind.i64.bits 127).toNat ≤ 127 := by
    rw [BitVec.toNat_and]
    exact Nat.le_trans Nat.and_le_right (by decide)
  generalize (BitVec.ofInt IntKind.i64.bits a &&& BitVec.ofInt IntKind.i64.bits 127).toNat = n at *
  rw [IntWalk.i64_in _ (by omega)]
  omega
theorem release_sub {c : Nat} {s : Win} (h : WInv c s) (now : Int) : ∀ o ∈ (s.release now).2, o ∈ s.all := fun o ho => by
  have ht := h.tick now
  have h1 : (s.release now).2 ++ (s.release now).1.all = s.all := (relL_spec (s.tick now).wait (s.tick now).now (s.tick now).next (s.tick now).all ht.sorted ht.low).1
  rw [← h1]
  simp [ho]
theorem release_len {c : Nat} {s : Win} (h : WInv c s) (now : Int) : (s.release now).2.length ≤ s.all.length := by
  have ht := h.tick now
  have h1 : (s.release now).2 ++ (s.release now).1.all = s.all := (relL_spec (s.tick now).wait (s.tick now).now (s.tick now).next (s.tick now).all ht.sorted ht.low).1
  rw [← h1, List.length_append]
  omega
theorem put_sub (s : Win) (q : UInt16) (x now : Int) : (s.put q x now).2.1.Sublist s.all := by
  unfold Win.put
  simp only
  split
  · exact List.nil_sublist _
  · split
    · exact List.nil_sublist _
    · exact List.filter_sublist
theorem SlEls.pre {w : World} {a : Option Addr} {n c : Nat} {l : List Held_} (h : SlEls 3 OneR w (.slice a n c) l []) (k : Nat) (hk : k ≤ n) : SlEls 3 OneR w (.slice a k c) (l.take k) [] := by
  obtain ⟨cells, a', c', e, h1, h2, h3, h4, h5⟩ := h
  simp only [Value.slice.injEq] at e
  obtain ⟨rfl, rfl, rfl⟩ := e
  have key : ∀ (l : List Held_) (cells : List Value) (k : Nat), Els OneR l w cells [] → k ≤ l.length → Els OneR (l.take k) w (cells.take (k * 3)) [] := by
    intro l
    induction l with
    | nil => intro cells k h hk; obtain ⟨rfl, -⟩ := h; simp at hk; subst hk; exact ⟨rfl, rfl⟩
    | cons y l ih =>
      intro cells k h hk
      obtain ⟨c, rest, B1, B2, rfl, hB, ⟨rfl, rfl⟩, h6⟩ := h
      obtain rfl : B2 = [] := by simpa using hB.symm
      cases k with
      | zero => exact ⟨by simp, rfl⟩
      | succ k =>
        refine ⟨(onec y).toList, rest.take (k * 3), [], [], ?_, rfl, ⟨rfl, rfl⟩, ih rest k h6 (by simpa using hk)⟩
        rw [show (k + 1) * 3 = (onec y).toList.length + k * 3 by simp; omega, List.take_length_add_append]
  have hl : (l.take k).length = k := by rw [List.length_take]; omega
  refine ⟨cells.take (k * 3), _, _, by rw [hl], by rw [hl]; omega, h2, h3, key l cells k h4 (by omega), fun p hp h0 => ?_⟩
  obtain ⟨g1, g2, g3⟩ := h5 p hp h0
  refine ⟨g1, g2, fun i x hx => g3 i x ?_⟩
  rw [List.getElem?_take] at hx
  split at hx
  · exact hx
  · cases hx
theorem PRel.keep {w W W' : World} {g mb X k : Nat} {s : Win} {v : Value} (h : PRel w W g mb X k s v) (hf : Fr [] W W') : PRel w W' g mb X k s v := ⟨h.win.keep hf, h.i, h.b.keep hf, h.a.keep Rep.held hf, h.nb, h.f.trans hf⟩
theorem PCut.keep {w W W' : World} {g mb X k : Nat} {s : Win} {got : List Held_} {gv wv v : Value} (h : PCut w W g mb X k s got gv wv v) (hf : Fr [] W W') : PCut w W' g mb X k s got gv wv v := ⟨h.rel.keep hf, h.e.keep Rep.out hf, h.u.keep Rep.held hf, h.n, h.l⟩
theorem WInv.rnx {c : Nat} {s : Win} (h : WInv c s) (hc : c ≤ 1000) : (s.hi.isSome = true ∧ rnx s = s.next ∧ 0 ≤ s.next ∧ s.next ≤ 4400000000) ∨ (s.hi.isSome = false ∧ rnx s = -1) := by
  have hb := h.bounds hc
  obtain ⟨size, wait, hi, next, now, all⟩ := s
  cases hi with
  | none => exact .inr ⟨rfl, rfl⟩
  | some k => exact .inl ⟨rfl, rfl, hb.2.2.2⟩
set_option maxRecDepth 100000 in
set_option maxHeartbeats 16000000 in
theorem WindowPlays_any {w : World} (size wait : Int) {v : Value} {ops : List Op21_} (h : SlEls 3 OpR w v ops []) (most : Int) :
    Calls Try.prog 3 #[.int .i64 size, .int .i64 wait, v, .int .i64 most] w fun e w' => e = .returned (.bool true) ∧ Fr [] w w' := by
  obtain ⟨av, cv, rfl⟩ := h.shape
  have HL := Lib.hid h
  have HF : Hid (Fr [] w w) := Lib.hid (Fr.refl _ _)
  clear h
  go_enter Try.func3, Try.ntmps3
  go_wp2_with fail
  refine l21alive_any.mono ?_
  rintro e w1 ⟨rfl, hF⟩
  have HF := Lib.hid (HF.out.trans hF)
  clear hF
  by_cases h80 : 80 < ops.length
  · have hc : decide ((80 : Int) < (ops.length : Int)) = true := decide_eq_true (by omega)
    go_wp2_with fail
    go_ret
    first | exact ⟨rfl, HF.out⟩ | exact ⟨ret_bool (by simp), HF.out⟩
  have hc : decide ((80 : Int) < (ops.length : Int)) = false := decide_eq_false (by omega)
  go_wp2_with fail
  refine (wNew_any size wait).mono ?_
  rintro e w2 ⟨g, mb, rfl, hV, hF, hg, hmb⟩
  have HW1 : Hid (w.heap.size ≤ w1.heap.size) := Lib.hid HF.out.size
  have HF := Lib.hid (HF.out.trans hF)
  have HV := Lib.hid hV
  have HGM : Hid (w.heap.size ≤ g ∧ w.heap.size ≤ mb) := Lib.hid (by have := HW1.out; omega)
  clear hV hc hF hg hmb HW1
  go_wp2_with fail
  refine (r21New_any size wait).mono ?_
  rintro e w3 ⟨rfl, hF⟩
  have HV := Lib.hid (HV.out.keep hF); have HF := Lib.hid (HF.out.trans hF)
  have HI0 := Lib.hid (WInv.new size wait)
  have HA0 : Hid ((Win.new size wait).all = []) := Lib.hid rfl
  clear hF
  generalize Win.new size wait = s0 at *
  go_upto_region 6 with (refine wpList_store_row rfl 28 (.tmp 10) (.tmp 36) rfl w3.heap.size rfl _ _ rfl 28 (Box.new w3 28 (rw6 0 0 (.slice none 0 0) 0 0 0)) (by kernel_rfl) rfl one_rw6 ?_; intro w4 hY hG; have hFn := ((Fr.refl [] w3).alloc _).step hG (by simp); have HFn := Lib.hid hFn; have HY := Lib.hid hY; clear hG hFn hY)
  have HAP : Hid (w.heap.size ≤ g ∧ w.heap.size ≤ mb ∧ w.heap.size ≤ w3.heap.size ∧ g < w3.heap.size ∧ mb < w3.heap.size) := Lib.hid (by have h1 := HV.out.lt; have h2 := HGM.out; have h3 := HF.out.size; omega)
  have HP0 : Hid (PRel w w4 g mb w3.heap.size 0 s0 (.slice none 0 0)) := Lib.hid ⟨HV.out.keep HFn.out, HI0.out, HY.out, by rw [HA0.out]; exact SlEls.nil _, fun b hb => by simp [liveOf] at hb, HF.out.trans HFn.out⟩
  clear HV HI0 HA0 HY HFn HF
  generalize hX : w3.heap.size = X at *
  have HXA : Hid (w.heap.size ≤ X ∧ g < X ∧ mb < X) := Lib.hid (by have := HAP.out; omega)
  clear hX HAP
  go_upto_region 7 with fail
  have hb127 := bits_127 most
  have hmw : wrap64 (1 + bits BinOp.and IntKind.i64 most 127) = 1 + bits BinOp.and IntKind.i64 most 127 := IntWalk.wrap64_in _ ⟨by omega, by omega⟩
  obtain ⟨mn, hmn⟩ : ∃ mn : Nat, wrap64 (1 + bits BinOp.and IntKind.i64 most 127) = (mn : Int) := ⟨(1 + bits BinOp.and IntKind.i64 most 127).toNat, by omega⟩
  have hmb : 1 ≤ mn ∧ mn ≤ 128 := by omega
  clear hmw hb127
  try simp only [hmn]
  generalize bits BinOp.and IntKind.i64 most 127 = m0 at *
  clear hmn
  go_upto_region 8 with fail
  go_loopw [42] (fun iv wr => ∃ (k : Nat) (s : Win) (vv : Value), k ≤ ops.length ∧ iv = .int .i64 k ∧ PRel w wr g mb X k s vv) (fun iv _ => ops.length - (Lib.intOf iv).toNat)
  case atStart => exact ⟨0, s0, _, Nat.zero_le _, rfl, HP0.out⟩
  case round =>
    clear HP0
    obtain ⟨k, s, vv, hk, rfl, hR⟩ := hrel
    have HR := Lib.hid hR
    obtain ⟨ax, cx, rfl⟩ := hR.a.shape
    clear hR
    by_cases hlt : k < ops.length
    · obtain ⟨b, o, cc, op, B1, ea, -, hop, ⟨rfl, -, hnw1, hnw2⟩, -, hrg⟩ := (HL.out.keep Rep.op HR.out.f).at_ Rep.op (i := k) hlt
      subst ea
      have HRG := Lib.hid hrg
      have hb80 : k < 80 := by omega
      clear hop hrg
      obtain ⟨oo, oq, on⟩ := op
      replace HRG : Hid (wr.rangeAt b (o + k * 3) [.bool oo, .int .u16 (oq.toNat : Nat), .int .i64 on]) := HRG
      simp only at hnw1 hnw2
      go_upto_region 10 with (first | (refine wpList_load_midA rfl 32 (.tmp 45) rfl b (o + k * 3) rfl #[.bool oo, .int .u16 (oq.toNat : Nat), .int .i64 on] _ HRG.out Try.underlying32 rfl (by kernel_rfl) ?_) | (refine wpList_store_row rfl 32 (.tmp 12) (.tmp 46) rfl wr.heap.size rfl _ _ rfl 32 (Box.new wr 32 #[.bool false, .int .u16 0, .int .i64 0]) (by kernel_rfl) rfl (by simp [Value.oneCell']) ?_; intro w5 hY hG; have hFn := ((Fr.refl [] wr).alloc _).step hG (by simp); have HFn := Lib.hid hFn; have HY := Lib.hid hY; clear hG hFn hY))
      have x0 := HY.out.cell 0; have x1 := HY.out.cell 1; have x2 := HY.out.cell 2
      simp only [List.getElem?_toArray, List.getElem?_cons_zero, List.getElem?_cons_succ] at x0 x1 x2
      have HXL : Hid (X < wr.heap.size) := Lib.hid HR.out.b.lt
      generalize hP : wr.heap.size = P at *
      have HPP := Lib.hid hP
      clear hP
      go_upto_if 48 with fail
      have HV5 := Lib.hid (HR.out.win.keep HFn.out); have HB5 := Lib.hid (HR.out.b.keep HFn.out); have HA5 := Lib.hid (HR.out.a.keep Rep.held HFn.out); have HF5 := Lib.hid (HR.out.f.trans HFn.out)
      have HNS := Lib.hid (HR.out.i.nums (by omega)); have HLS : Hid (s.all.length ≤ 64) := Lib.hid (HR.out.i.bounds (by omega)).2.2.1
      have HXP : Hid (X < P ∧ P < w5.heap.size) := Lib.hid ⟨HXL.out, HY.out.lt⟩
      go_cut [13, 14] (fun gv wv wx => ∃ (s2 : Win) (got : List Held_) (vx : Value), PCut w wx g mb X k s2 got gv wv vx)
      case first =>
        cases oo with
        | true =>
          go_wp2_with fail
          refine (wRelease_any HV5.out HR.out.i (by omega) on).mono ?_
          rintro e w6 ⟨v6, rfl, hE, hV, hF⟩
          have HE := Lib.hid hE; have HV := Lib.hid hV; have HF6 := Lib.hid hF
          have hgx : X ≠ g ∧ X ≠ mb := by have := HXA.out; omega
          have hgp : P ≠ g ∧ P ≠ mb := by have := HXA.out; have := HXP.out; omega
          have HA6 := Lib.hid (HA5.out.fr Rep.held hF (by simp) (fun b hb hm => by have h9 := HR.out.nb b hb; simp at hm; omega)); have HZ6 := Lib.hid hF.size
          have HB6 := Lib.hid (HB5.out.fr hF (by simp; omega)); have HY6 := Lib.hid (HY.out.fr hF (by simp; omega)); have HF0 := Lib.hid (HF5.out.step hF (fun x hx => .inr (by have := HXA.out; have := HGM.out; simp at hx; omega)))
          have HI2 := Lib.hid ((HR.out.i.release on).mono (Nat.le_succ k)); have HSB := Lib.hid (release_sub HR.out.i on); have HSL := Lib.hid (release_len HR.out.i on)
          have HRL := Lib.hid (fun W h => r21Release_any (w := W) (v := .slice ax s.all.length cx) HR.out.i (by omega) h on)
          clear hE hV hF hgx hgp x0 x1 x2
          have x2 := HY6.out.cell 2
          simp only [List.getElem?_toArray, List.getElem?_cons_zero, List.getElem?_cons_succ] at x2
          generalize hsr : s.release on = sr at *
          obtain ⟨s2, got⟩ := sr
          clear hsr
          simp only at HE HV HI2 HSB HSL HRL
          obtain ⟨a6, c6, e6⟩ := HE.out.shape
          subst e6
          go_wp2_with (refine wpList_load_row_w rfl 28 (.tmp 10) rfl X rfl 28 _ _ HB6.out Try.underlying28 rfl (by kernel_rfl) ?_)
          refine (HRL.out _ HA6.out).mono ?_
          rintro e w7 ⟨v1, v2, rfl, ha1, ha2, hl1, hl2, hF⟩
          obtain ⟨a7, c7, rfl⟩ := ha1.shape
          obtain ⟨a8, c8, rfl⟩ := ha2.shape
          have HA7 := Lib.hid ha1; have HU7 := Lib.hid ha2; have HL1 := Lib.hid hl1; have HL2 := Lib.hid hl2; have HF7 := Lib.hid hF
          have HB7 := Lib.hid (HB6.out.keep hF)
          clear ha1 ha2 hl1 hl2 hF
          go_wp2_with (refine wpList_store_row rfl 28 (.tmp 10) (.tmp 58) rfl X rfl _ _ rfl 28 HB7.out (by kernel_rfl) rfl one_rw6 ?_; intro w8 hY hG; have HYS := Lib.hid hY; have HGS := Lib.hid hG; clear hY hG)
          go_meet
          have hX9 : X < w5.heap.size := by have := HXP.out; omega
          have hgx : X ≠ g ∧ X ≠ mb := by have := HXA.out; omega
          exact ⟨s2, got, .slice a7 s2.all.length c7, ⟨⟨(HV.out.keep HF7.out).fr HGS.out (by simp; omega) (by simp; omega), HI2.out, HYS.out, HA7.out.fr Rep.held HGS.out (by simp) (fun b hb hm => (by have h9 := HR.out.nb b (HL1.out b hb); simp at hm; exact h9.2.2 hm)), fun b hb => (by exact HR.out.nb b (HL1.out b hb)), (HF0.out.trans HF7.out).step HGS.out (fun x hx => .inr (by have := HXA.out; simp at hx; omega))⟩, (HE.out.sl.keep Rep.out HF7.out).fr Rep.out HGS.out (by simp) (fun b hb hm => (by have := (HE.out.block b (live_block hb)).1; simp at hm; omega)), HU7.out.fr Rep.held HGS.out (by simp) (fun b hb hm => (by have := HL2.out b hb; have := HZ6.out; simp at hm; omega)), fun o ho => HNS.out o (HSB.out o ho), Nat.le_trans HSL.out HLS.out⟩⟩
        | false =>
          go_wp2_with fail
          refine (wPut_any HV5.out HR.out.i (by omega) oq k on).mono ?_
          rintro e w6 ⟨v6, rfl, hE, hV, hF⟩
          have HE := Lib.hid hE; have HV := Lib.hid hV; have HF6 := Lib.hid hF
          have hgx : X ≠ g ∧ X ≠ mb := by have := HXA.out; omega
          have hgp : P ≠ g ∧ P ≠ mb := by have := HXA.out; have := HXP.out; omega
          have HA6 := Lib.hid (HA5.out.fr Rep.held hF (by simp) (fun b hb hm => by have h9 := HR.out.nb b hb; simp at hm; omega)); have HZ6 := Lib.hid hF.size
          have HB6 := Lib.hid (HB5.out.fr hF (by simp; omega)); have HY6 := Lib.hid (HY.out.fr hF (by simp; omega)); have HF0 := Lib.hid (HF5.out.step hF (fun x hx => .inr (by have := HGM.out; simp at hx; omega)))
          have HI2 := Lib.hid (HR.out.i.put oq k on); have HSB := Lib.hid (fun o h => (put_sub s oq k on).subset (a := o) h); have HSL := Lib.hid (put_sub s oq k on).length_le
          have HRL := Lib.hid (fun W h => r21Put_any (w := W) (v := .slice ax s.all.length cx) HR.out.i (by omega) h oq k on)
          clear hE hV hF hgx hgp x0 x1 x2
          have x1 := HY6.out.cell 1; have x2 := HY6.out.cell 2
          simp only [List.getElem?_toArray, List.getElem?_cons_zero, List.getElem?_cons_succ] at x1 x2
          generalize hsr : s.put oq k on = sr at *
          obtain ⟨s2, got, en⟩ := sr
          clear hsr
          simp only at HE HV HI2 HSB HSL HRL
          obtain ⟨a6, c6, e6⟩ := HE.out.shape
          subst e6
          go_wp2_with (refine wpList_load_row_w rfl 28 (.tmp 10) rfl X rfl 28 _ _ HB6.out Try.underlying28 rfl (by kernel_rfl) ?_)
          refine (HRL.out _ HA6.out).mono ?_
          rintro e w7 ⟨v1, v2, rfl, ha1, ha2, hl1, hl2, hF⟩
          obtain ⟨a7, c7, rfl⟩ := ha1.shape
          obtain ⟨a8, c8, rfl⟩ := ha2.shape
          have HA7 := Lib.hid ha1; have HU7 := Lib.hid ha2; have HL1 := Lib.hid hl1; have HL2 := Lib.hid hl2; have HF7 := Lib.hid hF
          have HB7 := Lib.hid (HB6.out.keep hF)
          clear ha1 ha2 hl1 hl2 hF
          go_upto_region 17 with (refine wpList_store_row rfl 28 (.tmp 17) (.tmp 78) rfl w7.heap.size rfl _ _ rfl 28 (Box.new w7 28 (rw6 0 0 (.slice none 0 0) 0 0 0)) (by kernel_rfl) rfl one_rw6 ?_; intro wq hY hG; have hFn := ((Fr.refl [] w7).alloc _).step hG (by simp); have HFQ := Lib.hid hFn; have HYQ := Lib.hid hY; clear hG hFn hY)
          have HF7 := Lib.hid (HF7.out.trans HFQ.out); have HB7 := Lib.hid (HB7.out.keep HFQ.out); have HA7 := Lib.hid (HA7.out.keep Rep.held HFQ.out); have HU7 := Lib.hid (HU7.out.keep Rep.held HFQ.out)
          generalize hQ : w7.heap.size = Q at *
          clear hQ HFQ x1 x2
          refine wp_region_T (fun w' => Fr [] wq.drew w') [5] 6 #[false, false, false, false, false, false] (by kernel_rfl) rfl rfl ?_
          try simp only [List.append_eq, List.cons_append, List.nil_append]
          have hF := (Fr.refl [] wq).drew
          have HB7 := Lib.hid (HB7.out.keep hF)
          have HYQ := Lib.hid (HYQ.out.keep hF)
          have HF7 := Lib.hid (HF7.out.trans hF)
          have HA7 := Lib.hid (HA7.out.keep Rep.held hF)
          have HU7 := Lib.hid (HU7.out.keep Rep.held hF)
          clear hF
          have HSS : Hid (Fr [] wq.drew wq.drew) := Lib.hid (Fr.refl _ _)
          generalize wq.drew = wd at *
          refine wpAnyT_load (i := 0) (v := ?_) rfl (by kernel_rfl) (by kernel_rfl) (by kernel_rfl) (by kernel_rfl) (by kernel_rfl) (fun _ _ _ h => h) HSS.out (by rfl) ?_ ?_
          rotate_left
          · intro w hSw; skip; go_simp; try with_reducible rfl
          simp only [Act.put, List.getElem_toArray, List.getElem_cons_zero, List.getElem_cons_succ, List.setIfInBounds_toArray, List.set_cons_zero, List.set_cons_succ]
          refine wpAnyT_load (i := 1) (v := ?_) rfl (by kernel_rfl) (by kernel_rfl) (by kernel_rfl) (by kernel_rfl) (by kernel_rfl) (fun _ _ _ h => h) HSS.out (by rfl) ?_ ?_
          rotate_left
          · intro w hSw; skip; go_simp; try with_reducible rfl
          simp only [Act.put, List.getElem_toArray, List.getElem_cons_zero, List.getElem_cons_succ, List.setIfInBounds_toArray, List.set_cons_zero, List.set_cons_succ]
          refine wpAnyT_load (i := 2) (v := ?_) rfl (by kernel_rfl) (by kernel_rfl) (by kernel_rfl) (by kernel_rfl) (by kernel_rfl) (fun _ _ _ h => h) HSS.out (by rfl) ?_ ?_
          rotate_left
          · intro w' hSw; refine run_load_row 28 (.tmp 17) ?_ Q ?_ 28 _ _ (HYQ.out.keep hSw) Try.underlying28 rfl (by kernel_rfl) <;> rfl
          simp only [Act.put, List.getElem_toArray, List.getElem_cons_zero, List.getElem_cons_succ, List.setIfInBounds_toArray, List.set_cons_zero, List.set_cons_succ]
          refine wpAnyT_load (i := 3) (v := ?_) rfl (by kernel_rfl) (by kernel_rfl) (by kernel_rfl) (by kernel_rfl) (by kernel_rfl) (fun _ _ _ h => h) HSS.out (by rfl) ?_ ?_
          rotate_left
          · intro w hSw; skip; go_simp; try with_reducible rfl
          simp only [Act.put, List.getElem_toArray, List.getElem_cons_zero, List.getElem_cons_succ, List.setIfInBounds_toArray, List.set_cons_zero, List.set_cons_succ]
          refine wpAnyT_load (i := 4) (v := ?_) rfl (by kernel_rfl) (by kernel_rfl) (by kernel_rfl) (by kernel_rfl) (by kernel_rfl) (fun _ _ _ h => h) HSS.out (by rfl) ?_ ?_
          rotate_left
          · intro w hSw; skip; go_simp; try with_reducible rfl
          simp only [Act.put, List.getElem_toArray, List.getElem_cons_zero, List.getElem_cons_succ, List.setIfInBounds_toArray, List.set_cons_zero, List.set_cons_succ]
          refine wpAnyT_one (i := 5) (by kernel_rfl) rfl (fun K hK => ?_)
          have hF := HSS.out
          have HB7 := Lib.hid (HB7.out.keep hF)
          have HYQ := Lib.hid (HYQ.out.keep hF)
          have HF7 := Lib.hid (HF7.out.trans hF)
          have HA7 := Lib.hid (HA7.out.keep Rep.held hF)
          have HU7 := Lib.hid (HU7.out.keep Rep.held hF)
          clear hF
          refine wp_store_row rfl 28 (.tmp 10) (.tmp 83) rfl X rfl _ _ rfl 28 HB7.out (by kernel_rfl) rfl one_rw6 ?_
          intro w8 hY hG
          have HYS := Lib.hid hY; have HGS := Lib.hid hG
          clear hY hG
          refine hK.out _ _ (fun _ => by rename_i h; exact absurd (by simp) h) ?_
          clear hK K
          simp only [Act.put, List.getElem_toArray, List.getElem_cons_zero, List.getElem_cons_succ, List.setIfInBounds_toArray, List.set_cons_zero, List.set_cons_succ]
          refine wpAnyT_done (by kernel_rfl) ?_ _
          have en0 : (en == en) = true := beq_self_eq_true _
          go_wp2_with fail
          go_meet
          have hX9 : X < w5.heap.size := by have := HXP.out; omega
          have hgx : X ≠ g ∧ X ≠ mb := by have := HXA.out; omega
          exact ⟨s2, got, .slice a7 s2.all.length c7, ⟨⟨(HV.out.keep HF7.out).fr HGS.out (by simp; omega) (by simp; omega), HI2.out, HYS.out, HA7.out.fr Rep.held HGS.out (by simp) (fun b hb hm => (by have h8 := HL1.out b hb; have h9 := HR.out.nb b; have h7 := HZ6.out; have h6 := HXA.out; rcases h8 with h8 | h8; (· simp at hm; exact (h9 h8).2.2 hm); (· simp at hm; omega))), fun b hb => (by have h8 := HL1.out b hb; have h9 := HR.out.nb b; have h7 := HZ6.out; have h6 := HXA.out; rcases h8 with h8 | h8; (· exact h9 h8); (· omega)), (HF0.out.trans HF7.out).step HGS.out (fun x hx => .inr (by have := HXA.out; simp at hx; omega))⟩, (HE.out.sl.keep Rep.out HF7.out).fr Rep.out HGS.out (by simp) (fun b hb hm => (by have := (HE.out.block b (live_block hb)).1; simp at hm; omega)), HU7.out.fr Rep.held HGS.out (by simp) (fun b hb hm => (by have := HL2.out b hb; have := HZ6.out; simp at hm; omega)), fun o ho => HNS.out o (HSB.out o ho), Nat.le_trans HSL.out HLS.out⟩⟩
      case rest =>
        obtain ⟨s2, got, vx, hcut⟩ := hcut
        obtain ⟨ag, cg, rfl⟩ := hcut.e.shape
        obtain ⟨aw, cw, rfl⟩ := hcut.u.shape
        obtain ⟨ax2, cx2, rfl⟩ := hcut.rel.a.shape
        have HC := Lib.hid hcut
        clear hcut x0 x1 x2 HV5 HB5 HA5 HF5 HR HY HFn HNS HLS HXP
        go_wp2_with fail
        refine (wDue_any HC.out.rel.win HC.out.rel.i).mono ?_
        rintro e w7 ⟨rfl, hF⟩
        have HC := Lib.hid (HC.out.keep hF)
        clear hF
        have hbd := HC.out.rel.i.bounds (by omega)
        have hll := hbd.2.2.1
        have HDU := Lib.hid (fun W h => r21Due_any (w := W) (s := s2) (next := rnx s2) (hi := rhi s2) (now := s2.now) (v := .slice ax2 s2.all.length cx2) HC.out.rel.i.wait (fun o ho => by have h1 := HC.out.rel.i.time o ho; have h2 := HC.out.rel.i.now; omega) hll h)
        clear hbd
        go_wp2_with (refine wpList_load_row_w rfl 28 (.tmp 10) rfl X rfl 28 _ _ HC.out.rel.b Try.underlying28 rfl (by kernel_rfl) ?_)
        refine (HDU.out _ HC.out.rel.a).mono ?_
        rintro e w8 ⟨rfl, hF⟩
        have HC := Lib.hid (HC.out.keep hF)
        clear hF HDU
        go_wp2_with fail
        refine (wNext_any HC.out.rel.win).mono ?_
        rintro e w9 ⟨rfl, hF⟩
        have HC := Lib.hid (HC.out.keep hF)
        clear hF
        have hrn := HC.out.rel.i.rnx (by omega)
        obtain ⟨kk, hkk⟩ : ∃ kk, kk = min mn s2.all.length := ⟨_, rfl⟩
        have HKK : Hid ((kk : Int) = min (mn : Int) (s2.all.length : Int)) := Lib.hid (by omega)
        have HKC : Hid (kk ≤ cx2 ∧ kk ≤ s2.all.length) := Lib.hid (by have := HC.out.rel.a.len; omega)
        have HTT : Hid (s2.all.take kk = s2.all.take mn) := Lib.hid (by
          by_cases h : mn ≤ s2.all.length
          · rw [hkk, Nat.min_eq_left h]
          · rw [hkk, Nat.min_eq_right (by omega), List.take_length, List.take_of_length_le (by omega)])
        have HPRE : Hid (∀ W, SlEls 3 OneR W (.slice ax2 s2.all.length cx2) s2.all [] → SlEls 3 OneR W (.slice ax2 kk cx2) (s2.all.take mn) []) := Lib.hid (fun W h => by rw [← HTT.out]; exact h.pre kk HKC.out.2)
        have HNT : Hid (∀ o ∈ s2.all.take mn, 0 ≤ o.n ∧ o.n ≤ 1099511627776) := Lib.hid (fun o ho => HC.out.rel.i.nums (by omega) o (List.mem_of_mem_take ho))
        have HLT : Hid ((s2.all.take mn).length ≤ 200) := Lib.hid (by rw [List.length_take]; omega)
        clear hkk
        generalize (dueL s2.wait s2.all).getD 0 = D0 at *
        generalize (dueL s2.wait s2.all).isSome = ds at *
        rcases hrn with ⟨hs1, hs2, hs3, hs4⟩ | ⟨hs1, hs2⟩
        · rw [hs1]
          obtain ⟨NN, hNN⟩ : ∃ NN, s2.next = NN := ⟨_, rfl⟩
          rw [hNN] at hs2 hs3 hs4 ⊢
          have HNN := Lib.hid hs2
          have hm1 : NN.tmod 65536 = NN % 65536 := Int.tmod_eq_emod_of_nonneg hs3
          have hm2 : IntKind.u16.wrap (NN % 65536) = (((low16 NN).toNat : Nat) : Int) := by rw [low16_nat, IntKind.wrap_u16]; omega
          have hm3 : IntKind.i64.wrap (NN % 65536) = NN % 65536 := IntWalk.i64_in _ (by omega)
          generalize (low16 NN).toNat = qn at *
          clear hs1 hs2 hNN
          go_upto_region 23 with fail
          refine wp_region_rules (fun w' => Fr [] w9.drew w') (Fr []) [isV ?p1x0, isV ?p1x1, isV (.bool true), isV (.bool false), isV (.bool false), isV ?p1x5, isV ?p1x6, fun v w' => SlEls 2 OutR w' v (s2.all.take mn) [], isV ?p1x8, isV (.slice ax2 s2.all.length cx2), isV ?p1x10, isV ?p1x11, isV (.slice ax2 s2.all.length cx2), isV (.int .i64 ((s2.all.length : Nat) : Int)), isV (.int .i64 ((kk : Nat) : Int)), isV (.slice ax2 kk cx2), isV (.bool true), isV (.bool false), isV (.bool false), isV (.bool false), isV ?p1x20, isV (.int .i64 ((s2.all.length : Nat) : Int)), isV ?p1x22, isV (.slice ax2 s2.all.length cx2), isV (.int .i64 ((s2.all.length : Nat) : Int)), isV (.bool false), isV (.bool false), isV (.bool false), isV ?p1x28, isV ?p1x29, isV (.bool false), isV (.bool false), isV (.bool false), isV ?p1x33, isV ?p1x34, isV (.bool false), isV (.bool false), isV (.bool false), isV ?p1x38, isV ?p1x39, isV (.int .i64 NN), isV (.bool true), isV (.bool false), isV (.bool false), isV (.bool false), isV ?p1x45, isV (.bool true), isV ?p1x47, isV ?p1x48, isV (.int .i64 NN), isV ?p1x50, isV ?p1x51, isV (.bool false), isV (.bool false), isV (.bool false)] [[], [], [(0, 102), (1, 103)], [(2, 104)], [(3, 105)], [(4, 106)], [(4, 106)], [(4, 106), (5, 107), (6, 108)], [(4, 106)], [(4, 106), (8, 110)], [(4, 106)], [(4, 106)], [(4, 106), (11, 113)], [(4, 106), (12, 114)], [(4, 106), (10, 112), (13, 115)], [(4, 106), (9, 111), (14, 116)], [(4, 106), (7, 109), (15, 117)], [(4, 106), (16, 118)], [(4, 106), (17, 119)], [(18, 120)], [(19, 121)], [(19, 121), (20, 122)], [(19, 121)], [(19, 121), (22, 124)], [(19, 121), (23, 125)], [(19, 121), (21, 123), (24, 126)], [(19, 121), (25, 127)], [(26, 128)], [(27, 129)], [(27, 129)], [(27, 129), (28, 130), (29, 131)], [(27, 129), (30, 132)], [(31, 133)], [(32, 134)], [(32, 134)], [(32, 134), (33, 135), (34, 136)], [(32, 134), (35, 137)], [(36, 138)], [(37, 139)], [(37, 139)], [(37, 139), (39, 141)], [(37, 139), (40, 142)], [(37, 139), (38, 140), (41, 143)], [(37, 139), (42, 144)], [(43, 145)], [(44, 146)], [(44, 146), (45, 147)], [(46, 148)], [(46, 148)], [(46, 148), (48, 150)], [(46, 148), (49, 151)], [(46, 148), (50, 152)], [(46, 148), (47, 149), (51, 153)], [(44, 146), (46, 148), (52, 154)], [(44, 146), (53, 155)]] 158 [0, 1, 2, 3, 4, 5, 6, 7, 8, 9, 10, 11, 12, 13, 14, 15, 16, 17, 18, 19, 20, 21, 22, 23, 24, 25, 26, 27, 28, 29, 30, 31, 32, 33, 34, 35, 36, 37, 38, 39, 40, 41, 42, 43, 44, 45, 46, 47, 48, 49, 50, 51, 52, 53, 54] [(0, 102), (1, 103), (2, 104), (3, 105), (4, 106), (5, 107), (6, 108), (7, 109), (8, 110), (9, 111), (10, 112), (11, 113), (12, 114), (13, 115), (14, 116), (15, 117), (16, 118), (17, 119), (18, 120), (19, 121), (20, 122), (21, 123), (22, 124), (23, 125), (24, 126), (25, 127), (26, 128), (27, 129), (28, 130), (29, 131), (30, 132), (31, 133), (32, 134), (33, 135), (34, 136), (35, 137), (36, 138), (37, 139), (38, 140), (39, 141), (40, 142), (41, 143), (42, 144), (43, 145), (44, 146), (45, 147), (46, 148), (47, 149), (48, 150), (49, 151), (50, 152), (51, 153), (52, 154), (53, 155), (54, 156)] (by kernel_rfl) (by kernel_rfl) rfl (by kernel_rfl) (by kernel_rfl) (by kernel_rfl) (by kernel_rfl) (by intro c a a' W h hq; cases a; cases a'; cases h; exact hq) (fun w => Fr.refl _ w) (Fr.refl _ _) ⟨isV_stab, isV_stab, isV_stab, isV_stab, isV_stab, isV_stab, isV_stab, fun _ _ _ h1 h2 => h2.keep Rep.out h1, isV_stab, isV_stab, isV_stab, isV_stab, isV_stab, isV_stab, isV_stab, isV_stab, isV_stab, isV_stab, isV_stab, isV_stab, isV_stab, isV_stab, isV_stab, isV_stab, isV_stab, isV_stab, isV_stab, isV_stab, isV_stab, isV_stab, isV_stab, isV_stab, isV_stab, isV_stab, isV_stab, isV_stab, isV_stab, isV_stab, isV_stab, isV_stab, isV_stab, isV_stab, isV_stab, isV_stab, isV_stab, isV_stab, isV_stab, isV_stab, isV_stab, isV_stab, isV_stab, isV_stab, isV_stab, isV_stab, isV_stab, trivial⟩ ⟨?_, ?_, ?_, ?_, ?_, ?_, ?_, ?_, ?_, ?_, ?_, ?_, ?_, ?_, ?_, ?_, ?_, ?_, ?_, ?_, ?_, ?_, ?_, ?_, ?_, ?_, ?_, ?_, ?_, ?_, ?_, ?_, ?_, ?_, ?_, ?_, ?_, ?_, ?_, ?_, ?_, ?_, ?_, ?_, ?_, ?_, ?_, ?_, ?_, ?_, ?_, ?_, ?_, ?_, ?_, trivial⟩ ?_
          rotate_left 20
          · intro vs w' hG hd K hK
            clear hd
            simp only [canonD, Act.put, List.getElem_toArray, List.getElem_cons_zero, List.getElem_cons_succ, List.setIfInBounds_toArray, List.set_cons_zero, List.set_cons_succ] at hK ⊢
            refine Eq.mpr (if_pos (by rfl)) ?_
            go_simp
            refine hK.out _ _ (Fr.refl _ _) hG ?_
            show _ = _
            rfl
          · intro vs w' hG hd K hK
            clear hd
            simp only [canonD, Act.put, List.getElem_toArray, List.getElem_cons_zero, List.getElem_cons_succ, List.setIfInBounds_toArray, List.set_cons_zero, List.set_cons_succ] at hK ⊢
            refine Eq.mpr (if_pos (by rfl)) ?_
            go_simp
            refine hK.out _ _ (Fr.refl _ _) hG ?_
            show _ = _
            rfl
          · intro vs w' hG hd K hK
            obtain ⟨h0, h1, -⟩ := hd
            replace h0 : vs 0 = _ := h0
            replace h1 : vs 1 = _ := h1
            simp only [canonD, Act.put, List.getElem_toArray, List.getElem_cons_zero, List.getElem_cons_succ, List.setIfInBounds_toArray, List.set_cons_zero, List.set_cons_succ, h0, h1] at hK ⊢
            have hW : Fr [] w9 w' := (Fr.refl [] w9).drew.trans hG
            refine Eq.mpr (if_pos (by rfl)) ?_
            go_simp
            refine (l21same_any (HC.out.e.keep Rep.out hW) (HC.out.u.keep Rep.held hW) HC.out.n (Nat.le_trans HC.out.l (by omega))).mono ?_
            rintro e wz ⟨rfl, hF⟩
            go_simp
            exact hK.out _ _ hF (hG.trans hF) rfl
          · intro vs w' hG hd K hK
            obtain ⟨h2, -⟩ := hd
            replace h2 : vs 2 = _ := h2
            simp only [canonD, Act.put, List.getElem_toArray, List.getElem_cons_zero, List.getElem_cons_succ, List.setIfInBounds_toArray, List.set_cons_zero, List.set_cons_succ, h2] at hK ⊢
            refine Eq.mpr (if_pos (by rfl)) ?_
            go_simp
            refine hK.out _ _ (Fr.refl _ _) hG ?_
            show _ = _
            first | rfl | exact congrArg Value.bool (decide_eq_true (by omega)) | exact congrArg Value.bool (decide_eq_false (by omega)) | (exact congrArg Value.bool (by simp))
          · intro vs w' hG hd K hK
            obtain ⟨h3, -⟩ := hd
            replace h3 : vs 3 = _ := h3
            simp only [canonD, Act.put, List.getElem_toArray, List.getElem_cons_zero, List.getElem_cons_succ, List.setIfInBounds_toArray, List.set_cons_zero, List.set_cons_succ, h3] at hK ⊢
            refine Eq.mpr (if_pos (by rfl)) ?_
            go_simp
            refine hK.out _ _ (Fr.refl _ _) hG ?_
            show _ = _
            first | rfl | exact congrArg Value.bool (decide_eq_true (by omega)) | exact congrArg Value.bool (decide_eq_false (by omega)) | (exact congrArg Value.bool (by simp))
          · intro vs w' hG hd K hK
            obtain ⟨h4, -⟩ := hd
            replace h4 : vs 4 = _ := h4
            simp only [canonD, Act.put, List.getElem_toArray, List.getElem_cons_zero, List.getElem_cons_succ, List.setIfInBounds_toArray, List.set_cons_zero, List.set_cons_succ, h4] at hK ⊢
            refine Eq.mpr (if_pos (by rfl)) ?_
            go_simp
            refine hK.out _ _ (Fr.refl _ _) hG ?_
            show _ = _
            rfl
          · intro vs w' hG hd K hK
            obtain ⟨h4, -⟩ := hd
            replace h4 : vs 4 = _ := h4
            simp only [canonD, Act.put, List.getElem_toArray, List.getElem_cons_zero, List.getElem_cons_succ, List.setIfInBounds_toArray, List.set_cons_zero, List.set_cons_succ, h4] at hK ⊢
            refine Eq.mpr (if_pos (by rfl)) ?_
            go_simp
            refine hK.out _ _ (Fr.refl _ _) hG ?_
            show _ = _
            rfl
          · intro vs w' hG hd K hK
            obtain ⟨h4, h5, h6, -⟩ := hd
            replace h4 : vs 4 = _ := h4
            replace h5 : vs 5 = _ := h5
            replace h6 : vs 6 = _ := h6
            simp only [canonD, Act.put, List.getElem_toArray, List.getElem_cons_zero, List.getElem_cons_succ, List.setIfInBounds_toArray, List.set_cons_zero, List.set_cons_succ, h4, h5, h6] at hK ⊢
            have hW : Fr [] w9 w' := (Fr.refl [] w9).drew.trans hG
            refine Eq.mpr (if_pos (by rfl)) ?_
            go_simp
            refine (l21held_any (HC.out.rel.win.keep hW) HC.out.rel.i (by omega) (mn : Int) (by omega)).mono ?_
            rintro e wz ⟨v, rfl, hO, hF⟩
            go_simp
            exact hK.out _ _ hF (hG.trans hF) (by have h9 := hO.sl; rw [Int.toNat_natCast] at h9; exact h9)
          · intro vs w' hG hd K hK
            obtain ⟨h4, -⟩ := hd
            replace h4 : vs 4 = _ := h4
            simp only [canonD, Act.put, List.getElem_toArray, List.getElem_cons_zero, List.getElem_cons_succ, List.setIfInBounds_toArray, List.set_cons_zero, List.set_cons_succ, h4] at hK ⊢
            refine Eq.mpr (if_pos (by rfl)) ?_
            go_simp
            refine hK.out _ _ (Fr.refl _ _) hG ?_
            show _ = _
            rfl
          · intro vs w' hG hd K hK
            obtain ⟨h4, h8, -⟩ := hd
            replace h4 : vs 4 = _ := h4
            replace h8 : vs 8 = _ := h8
            simp only [canonD, Act.put, List.getElem_toArray, List.getElem_cons_zero, List.getElem_cons_succ, List.setIfInBounds_toArray, List.set_cons_zero, List.set_cons_succ, h4, h8] at hK ⊢
            have hW : Fr [] w9 w' := (Fr.refl [] w9).drew.trans hG
            have x2 := (HC.out.rel.b.keep hW).cell 2
            simp only [rw6, List.getElem?_toArray, List.getElem?_cons_succ, List.getElem?_cons_zero] at x2
            refine Eq.mpr (if_pos (by rfl)) ?_
            go_simp
            refine hK.out _ _ (Fr.refl _ _) hG ?_
            show _ = _
            rfl
          · intro vs w' hG hd K hK
            obtain ⟨h4, -⟩ := hd
            replace h4 : vs 4 = _ := h4
            simp only [canonD, Act.put, List.getElem_toArray, List.getElem_cons_zero, List.getElem_cons_succ, List.setIfInBounds_toArray, List.set_cons_zero, List.set_cons_succ, h4] at hK ⊢
            refine Eq.mpr (if_pos (by rfl)) ?_
            go_simp
            refine hK.out _ _ (Fr.refl _ _) hG ?_
            show _ = _
            rfl
          · intro vs w' hG hd K hK
            obtain ⟨h4, -⟩ := hd
            replace h4 : vs 4 = _ := h4
            simp only [canonD, Act.put, List.getElem_toArray, List.getElem_cons_zero, List.getElem_cons_succ, List.setIfInBounds_toArray, List.set_cons_zero, List.set_cons_succ, h4] at hK ⊢
            refine Eq.mpr (if_pos (by rfl)) ?_
            go_simp
            refine hK.out _ _ (Fr.refl _ _) hG ?_
            show _ = _
            rfl
          · intro vs w' hG hd K hK
            obtain ⟨h4, h11, -⟩ := hd
            replace h4 : vs 4 = _ := h4
            replace h11 : vs 11 = _ := h11
            simp only [canonD, Act.put, List.getElem_toArray, List.getElem_cons_zero, List.getElem_cons_succ, List.setIfInBounds_toArray, List.set_cons_zero, List.set_cons_succ, h4, h11] at hK ⊢
            have hW : Fr [] w9 w' := (Fr.refl [] w9).drew.trans hG
            have x2 := (HC.out.rel.b.keep hW).cell 2
            simp only [rw6, List.getElem?_toArray, List.getElem?_cons_succ, List.getElem?_cons_zero] at x2
            refine Eq.mpr (if_pos (by rfl)) ?_
            go_simp
            refine hK.out _ _ (Fr.refl _ _) hG ?_
            show _ = _
            rfl
          · intro vs w' hG hd K hK
            obtain ⟨h4, h12, -⟩ := hd
            replace h4 : vs 4 = _ := h4
            replace h12 : vs 12 = _ := h12
            simp only [canonD, Act.put, List.getElem_toArray, List.getElem_cons_zero, List.getElem_cons_succ, List.setIfInBounds_toArray, List.set_cons_zero, List.set_cons_succ, h4, h12] at hK ⊢
            refine Eq.mpr (if_pos (by rfl)) ?_
            go_simp
            refine hK.out _ _ (Fr.refl _ _) hG ?_
            show _ = _
            rfl
          · intro vs w' hG hd K hK
            obtain ⟨h4, h10, h13, -⟩ := hd
            replace h4 : vs 4 = _ := h4
            replace h10 : vs 10 = _ := h10
            replace h13 : vs 13 = _ := h13
            simp only [canonD, Act.put, List.getElem_toArray, List.getElem_cons_zero, List.getElem_cons_succ, List.setIfInBounds_toArray, List.set_cons_zero, List.set_cons_succ, h4, h10, h13] at hK ⊢
            refine Eq.mpr (if_pos (by rfl)) ?_
            go_simp
            refine hK.out _ _ (Fr.refl _ _) hG ?_
            show _ = _
            first | rfl | exact congrArg (Value.int .i64) (by have := HKK.out; omega)
          · intro vs w' hG hd K hK
            obtain ⟨h4, h9, h14, -⟩ := hd
            replace h4 : vs 4 = _ := h4
            replace h9 : vs 9 = _ := h9
            replace h14 : vs 14 = _ := h14
            simp only [canonD, Act.put, List.getElem_toArray, List.getElem_cons_zero, List.getElem_cons_succ, List.setIfInBounds_toArray, List.set_cons_zero, List.set_cons_succ, h4, h9, h14] at hK ⊢
            have hk1 := HKC.out
            refine Eq.mpr (if_pos (by rfl)) ?_
            go_simp
            refine hK.out _ _ (Fr.refl _ _) hG ?_
            show _ = _
            rfl
          · intro vs w' hG hd K hK
            obtain ⟨h4, h7, h15, -⟩ := hd
            replace h4 : vs 4 = _ := h4
            replace h7 : SlEls 2 OutR w' (vs 7) (s2.all.take mn) [] := h7
            replace h15 : vs 15 = _ := h15
            simp only [canonD, Act.put, List.getElem_toArray, List.getElem_cons_zero, List.getElem_cons_succ, List.setIfInBounds_toArray, List.set_cons_zero, List.set_cons_succ, h4, h15] at hK ⊢
            generalize vs 7 = v7 at *
            have hW : Fr [] w9 w' := (Fr.refl [] w9).drew.trans hG
            refine Eq.mpr (if_pos (by rfl)) ?_
            go_simp
            refine (l21same_any h7 (HPRE.out _ (HC.out.rel.a.keep Rep.held hW)) HNT.out HLT.out).mono ?_
            rintro e wz ⟨rfl, hF⟩
            go_simp
            exact hK.out _ _ hF (hG.trans hF) rfl
          · intro vs w' hG hd K hK
            obtain ⟨h4, h16, -⟩ := hd
            replace h4 : vs 4 = _ := h4
            replace h16 : vs 16 = _ := h16
            simp only [canonD, Act.put, List.getElem_toArray, List.getElem_cons_zero, List.getElem_cons_succ, List.setIfInBounds_toArray, List.set_cons_zero, List.set_cons_succ, h4, h16] at hK ⊢
            refine Eq.mpr (if_pos (by rfl)) ?_
            go_simp
            refine hK.out _ _ (Fr.refl _ _) hG ?_
            show _ = _
            first | rfl | exact congrArg Value.bool (decide_eq_true (by omega)) | exact congrArg Value.bool (decide_eq_false (by omega)) | (exact congrArg Value.bool (by simp))
          · intro vs w' hG hd K hK
            obtain ⟨h4, h17, -⟩ := hd
            replace h4 : vs 4 = _ := h4
            replace h17 : vs 17 = _ := h17
            simp only [canonD, Act.put, List.getElem_toArray, List.getElem_cons_zero, List.getElem_cons_succ, List.setIfInBounds_toArray, List.set_cons_zero, List.set_cons_succ, h4, h17] at hK ⊢
            refine Eq.mpr (if_pos (by rfl)) ?_
            go_simp
            refine hK.out _ _ (Fr.refl _ _) hG ?_
            show _ = _
            first | rfl | exact congrArg Value.bool (decide_eq_true (by omega)) | exact congrArg Value.bool (decide_eq_false (by omega)) | (exact congrArg Value.bool (by simp))
          · intro vs w' hG hd K hK
            obtain ⟨h18, -⟩ := hd
            replace h18 : vs 18 = _ := h18
            simp only [canonD, Act.put, List.getElem_toArray, List.getElem_cons_zero, List.getElem_cons_succ, List.setIfInBounds_toArray, List.set_cons_zero, List.set_cons_succ, h18] at hK ⊢
            refine Eq.mpr (if_pos (by rfl)) ?_
            go_simp
            refine hK.out _ _ (Fr.refl _ _) hG ?_
            show _ = _
            first | rfl | exact congrArg Value.bool (decide_eq_true (by omega)) | exact congrArg Value.bool (decide_eq_false (by omega)) | (exact congrArg Value.bool (by simp))
          · intro vs w' hG hd K hK
            obtain ⟨h19, -⟩ := hd
            replace h19 : vs 19 = _ := h19
            simp only [canonD, Act.put, List.getElem_toArray, List.getElem_cons_zero, List.getElem_cons_succ, List.setIfInBounds_toArray, List.set_cons_zero, List.set_cons_succ, h19] at hK ⊢
            refine Eq.mpr (if_pos (by rfl)) ?_
            go_simp
            refine hK.out _ _ (Fr.refl _ _) hG ?_
            show _ = _
            rfl
          · intro vs w' hG hd K hK
            obtain ⟨h19, h20, -⟩ := hd
            replace h19 : vs 19 = _ := h19
            replace h20 : vs 20 = _ := h20
            simp only [canonD, Act.put, List.getElem_toArray, List.getElem_cons_zero, List.getElem_cons_succ, List.setIfInBounds_toArray, List.set_cons_zero, List.set_cons_succ, h19, h20] at hK ⊢
            have hW : Fr [] w9 w' := (Fr.refl [] w9).drew.trans hG
            refine Eq.mpr (if_pos (by rfl)) ?_
            go_simp
            refine (wLen_any (HC.out.rel.win.keep hW)).mono ?_
            rintro e wz ⟨rfl, rfl⟩
            go_simp
            exact hK.out _ _ (Fr.refl _ _) hG rfl
          · intro vs w' hG hd K hK
            obtain ⟨h19, -⟩ := hd
            replace h19 : vs 19 = _ := h19
            simp only [canonD, Act.put, List.getElem_toArray, List.getElem_cons_zero, List.getElem_cons_succ, List.setIfInBounds_toArray, List.set_cons_zero, List.set_cons_succ, h19] at hK ⊢
            refine Eq.mpr (if_pos (by rfl)) ?_
            go_simp
            refine hK.out _ _ (Fr.refl _ _) hG ?_
            show _ = _
            rfl
          · intro vs w' hG hd K hK
            obtain ⟨h19, h22, -⟩ := hd
            replace h19 : vs 19 = _ := h19
            replace h22 : vs 22 = _ := h22
            simp only [canonD, Act.put, List.getElem_toArray, List.getElem_cons_zero, List.getElem_cons_succ, List.setIfInBounds_toArray, List.set_cons_zero, List.set_cons_succ, h19, h22] at hK ⊢
            have hW : Fr [] w9 w' := (Fr.refl [] w9).drew.trans hG
            have x2 := (HC.out.rel.b.keep hW).cell 2
            simp only [rw6, List.getElem?_toArray, List.getElem?_cons_succ, List.getElem?_cons_zero] at x2
            refine Eq.mpr (if_pos (by rfl)) ?_
            go_simp
            refine hK.out _ _ (Fr.refl _ _) hG ?_
            show _ = _
            rfl
          · intro vs w' hG hd K hK
            obtain ⟨h19, h23, -⟩ := hd
            replace h19 : vs 19 = _ := h19
            replace h23 : vs 23 = _ := h23
            simp only [canonD, Act.put, List.getElem_toArray, List.getElem_cons_zero, List.getElem_cons_succ, List.setIfInBounds_toArray, List.set_cons_zero, List.set_cons_succ, h19, h23] at hK ⊢
            refine Eq.mpr (if_pos (by rfl)) ?_
            go_simp
            refine hK.out _ _ (Fr.refl _ _) hG ?_
            show _ = _
            rfl
          · intro vs w' hG hd K hK
            obtain ⟨h19, h21, h24, -⟩ := hd
            replace h19 : vs 19 = _ := h19
            replace h21 : vs 21 = _ := h21
            replace h24 : vs 24 = _ := h24
            simp only [canonD, Act.put, List.getElem_toArray, List.getElem_cons_zero, List.getElem_cons_succ, List.setIfInBounds_toArray, List.set_cons_zero, List.set_cons_succ, h19, h21, h24] at hK ⊢
            refine Eq.mpr (if_pos (by rfl)) ?_
            go_simp
            refine hK.out _ _ (Fr.refl _ _) hG ?_
            show _ = _
            first | rfl | exact congrArg Value.bool (decide_eq_true (by omega)) | exact congrArg Value.bool (decide_eq_false (by omega)) | (exact congrArg Value.bool (by simp))
          · intro vs w' hG hd K hK
            obtain ⟨h19, h25, -⟩ := hd
            replace h19 : vs 19 = _ := h19
            replace h25 : vs 25 = _ := h25
            simp only [canonD, Act.put, List.getElem_toArray, List.getElem_cons_zero, List.getElem_cons_succ, List.setIfInBounds_toArray, List.set_cons_zero, List.set_cons_succ, h19, h25] at hK ⊢
            refine Eq.mpr (if_pos (by rfl)) ?_
            go_simp
            refine hK.out _ _ (Fr.refl _ _) hG ?_
            show _ = _
            first | rfl | exact congrArg Value.bool (decide_eq_true (by omega)) | exact congrArg Value.bool (decide_eq_false (by omega)) | (exact congrArg Value.bool (by simp))
          · intro vs w' hG hd K hK
            obtain ⟨h26, -⟩ := hd
            replace h26 : vs 26 = _ := h26
            simp only [canonD, Act.put, List.getElem_toArray, List.getElem_cons_zero, List.getElem_cons_succ, List.setIfInBounds_toArray, List.set_cons_zero, List.set_cons_succ, h26] at hK ⊢
            refine Eq.mpr (if_pos (by rfl)) ?_
            go_simp
            refine hK.out _ _ (Fr.refl _ _) hG ?_
            show _ = _
            first | rfl | exact congrArg Value.bool (decide_eq_true (by omega)) | exact congrArg Value.bool (decide_eq_false (by omega)) | (exact congrArg Value.bool (by simp))
          · intro vs w' hG hd K hK
            obtain ⟨h27, -⟩ := hd
            replace h27 : vs 27 = _ := h27
            simp only [canonD, Act.put, List.getElem_toArray, List.getElem_cons_zero, List.getElem_cons_succ, List.setIfInBounds_toArray, List.set_cons_zero, List.set_cons_succ, h27] at hK ⊢
            refine Eq.mpr (if_pos (by rfl)) ?_
            go_simp
            refine hK.out _ _ (Fr.refl _ _) hG ?_
            show _ = _
            rfl
          · intro vs w' hG hd K hK
            obtain ⟨h27, -⟩ := hd
            replace h27 : vs 27 = _ := h27
            simp only [canonD, Act.put, List.getElem_toArray, List.getElem_cons_zero, List.getElem_cons_succ, List.setIfInBounds_toArray, List.set_cons_zero, List.set_cons_succ, h27] at hK ⊢
            refine Eq.mpr (if_pos (by rfl)) ?_
            go_simp
            refine hK.out _ _ (Fr.refl _ _) hG ?_
            show _ = _
            rfl
          · intro vs w' hG hd K hK
            obtain ⟨h27, h28, h29, -⟩ := hd
            replace h27 : vs 27 = _ := h27
            replace h28 : vs 28 = _ := h28
            replace h29 : vs 29 = _ := h29
            simp only [canonD, Act.put, List.getElem_toArray, List.getElem_cons_zero, List.getElem_cons_succ, List.setIfInBounds_toArray, List.set_cons_zero, List.set_cons_succ, h27, h28, h29] at hK ⊢
            refine Eq.mpr (if_pos (by rfl)) ?_
            go_simp
            refine hK.out _ _ (Fr.refl _ _) hG ?_
            show _ = _
            first | rfl | exact congrArg Value.bool (decide_eq_true (by omega)) | exact congrArg Value.bool (decide_eq_false (by omega)) | (exact congrArg Value.bool (by simp))
          · intro vs w' hG hd K hK
            obtain ⟨h27, h30, -⟩ := hd
            replace h27 : vs 27 = _ := h27
            replace h30 : vs 30 = _ := h30
            simp only [canonD, Act.put, List.getElem_toArray, List.getElem_cons_zero, List.getElem_cons_succ, List.setIfInBounds_toArray, List.set_cons_zero, List.set_cons_succ, h27, h30] at hK ⊢
            refine Eq.mpr (if_pos (by rfl)) ?_
            go_simp
            refine hK.out _ _ (Fr.refl _ _) hG ?_
            show _ = _
            first | rfl | exact congrArg Value.bool (decide_eq_true (by omega)) | exact congrArg Value.bool (decide_eq_false (by omega)) | (exact congrArg Value.bool (by simp))
          · intro vs w' hG hd K hK
            obtain ⟨h31, -⟩ := hd
            replace h31 : vs 31 = _ := h31
            simp only [canonD, Act.put, List.getElem_toArray, List.getElem_cons_zero, List.getElem_cons_succ, List.setIfInBounds_toArray, List.set_cons_zero, List.set_cons_succ, h31] at hK ⊢
            refine Eq.mpr (if_pos (by rfl)) ?_
            go_simp
            refine hK.out _ _ (Fr.refl _ _) hG ?_
            show _ = _
            first | rfl | exact congrArg Value.bool (decide_eq_true (by omega)) | exact congrArg Value.bool (decide_eq_false (by omega)) | (exact congrArg Value.bool (by simp))
          · intro vs w' hG hd K hK
            obtain ⟨h32, -⟩ := hd
            replace h32 : vs 32 = _ := h32
            simp only [canonD, Act.put, List.getElem_toArray, List.getElem_cons_zero, List.getElem_cons_succ, List.setIfInBounds_toArray, List.set_cons_zero, List.set_cons_succ, h32] at hK ⊢
            refine Eq.mpr (if_pos (by rfl)) ?_
            go_simp
            refine hK.out _ _ (Fr.refl _ _) hG ?_
            show _ = _
            rfl
          · intro vs w' hG hd K hK
            obtain ⟨h32, -⟩ := hd
            replace h32 : vs 32 = _ := h32
            simp only [canonD, Act.put, List.getElem_toArray, List.getElem_cons_zero, List.getElem_cons_succ, List.setIfInBounds_toArray, List.set_cons_zero, List.set_cons_succ, h32] at hK ⊢
            refine Eq.mpr (if_pos (by rfl)) ?_
            go_simp
            refine hK.out _ _ (Fr.refl _ _) hG ?_
            show _ = _
            rfl
          · intro vs w' hG hd K hK
            obtain ⟨h32, h33, h34, -⟩ := hd
            replace h32 : vs 32 = _ := h32
            replace h33 : vs 33 = _ := h33
            replace h34 : vs 34 = _ := h34
            simp only [canonD, Act.put, List.getElem_toArray, List.getElem_cons_zero, List.getElem_cons_succ, List.setIfInBounds_toArray, List.set_cons_zero, List.set_cons_succ, h32, h33, h34] at hK ⊢
            refine Eq.mpr (if_pos (by rfl)) ?_
            go_simp
            refine hK.out _ _ (Fr.refl _ _) hG ?_
            show _ = _
            first | rfl | exact congrArg Value.bool (decide_eq_true (by omega)) | exact congrArg Value.bool (decide_eq_false (by omega)) | (exact congrArg Value.bool (by simp))
          · intro vs w' hG hd K hK
            obtain ⟨h32, h35, -⟩ := hd
            replace h32 : vs 32 = _ := h32
            replace h35 : vs 35 = _ := h35
            simp only [canonD, Act.put, List.getElem_toArray, List.getElem_cons_zero, List.getElem_cons_succ, List.setIfInBounds_toArray, List.set_cons_zero, List.set_cons_succ, h32, h35] at hK ⊢
            refine Eq.mpr (if_pos (by rfl)) ?_
            go_simp
            refine hK.out _ _ (Fr.refl _ _) hG ?_
            show _ = _
            first | rfl | exact congrArg Value.bool (decide_eq_true (by omega)) | exact congrArg Value.bool (decide_eq_false (by omega)) | (exact congrArg Value.bool (by simp))
          · intro vs w' hG hd K hK
            obtain ⟨h36, -⟩ := hd
            replace h36 : vs 36 = _ := h36
            simp only [canonD, Act.put, List.getElem_toArray, List.getElem_cons_zero, List.getElem_cons_succ, List.setIfInBounds_toArray, List.set_cons_zero, List.set_cons_succ, h36] at hK ⊢
            refine Eq.mpr (if_pos (by rfl)) ?_
            go_simp
            refine hK.out _ _ (Fr.refl _ _) hG ?_
            show _ = _
            first | rfl | exact congrArg Value.bool (decide_eq_true (by omega)) | exact congrArg Value.bool (decide_eq_false (by omega)) | (exact congrArg Value.bool (by simp))
          · intro vs w' hG hd K hK
            obtain ⟨h37, -⟩ := hd
            replace h37 : vs 37 = _ := h37
            simp only [canonD, Act.put, List.getElem_toArray, List.getElem_cons_zero, List.getElem_cons_succ, List.setIfInBounds_toArray, List.set_cons_zero, List.set_cons_succ, h37] at hK ⊢
            refine Eq.mpr (if_pos (by rfl)) ?_
            go_simp
            refine hK.out _ _ (Fr.refl _ _) hG ?_
            show _ = _
            rfl
          · intro vs w' hG hd K hK
            obtain ⟨h37, -⟩ := hd
            replace h37 : vs 37 = _ := h37
            simp only [canonD, Act.put, List.getElem_toArray, List.getElem_cons_zero, List.getElem_cons_succ, List.setIfInBounds_toArray, List.set_cons_zero, List.set_cons_succ, h37] at hK ⊢
            refine Eq.mpr (if_pos (by rfl)) ?_
            go_simp
            refine hK.out _ _ (Fr.refl _ _) hG ?_
            show _ = _
            rfl
          · intro vs w' hG hd K hK
            obtain ⟨h37, h39, -⟩ := hd
            replace h37 : vs 37 = _ := h37
            replace h39 : vs 39 = _ := h39
            simp only [canonD, Act.put, List.getElem_toArray, List.getElem_cons_zero, List.getElem_cons_succ, List.setIfInBounds_toArray, List.set_cons_zero, List.set_cons_succ, h37, h39] at hK ⊢
            have hW : Fr [] w9 w' := (Fr.refl [] w9).drew.trans hG
            have x3 := (HC.out.rel.b.keep hW).cell 3
            simp only [rw6, List.getElem?_toArray, List.getElem?_cons_succ, List.getElem?_cons_zero] at x3
            rw [HNN.out] at x3
            refine Eq.mpr (if_pos (by rfl)) ?_
            go_simp
            refine hK.out _ _ (Fr.refl _ _) hG ?_
            show _ = _
            rfl
          · intro vs w' hG hd K hK
            obtain ⟨h37, h40, -⟩ := hd
            replace h37 : vs 37 = _ := h37
            replace h40 : vs 40 = _ := h40
            simp only [canonD, Act.put, List.getElem_toArray, List.getElem_cons_zero, List.getElem_cons_succ, List.setIfInBounds_toArray, List.set_cons_zero, List.set_cons_succ, h37, h40] at hK ⊢
            refine Eq.mpr (if_pos (by rfl)) ?_
            go_simp
            refine hK.out _ _ (Fr.refl _ _) hG ?_
            show _ = _
            first | rfl | exact congrArg Value.bool (decide_eq_true (by omega)) | exact congrArg Value.bool (decide_eq_false (by omega)) | (exact congrArg Value.bool (by simp))
          · intro vs w' hG hd K hK
            obtain ⟨h37, h38, h41, -⟩ := hd
            replace h37 : vs 37 = _ := h37
            replace h38 : vs 38 = _ := h38
            replace h41 : vs 41 = _ := h41
            simp only [canonD, Act.put, List.getElem_toArray, List.getElem_cons_zero, List.getElem_cons_succ, List.setIfInBounds_toArray, List.set_cons_zero, List.set_cons_succ, h37, h38, h41] at hK ⊢
            refine Eq.mpr (if_pos (by rfl)) ?_
            go_simp
            refine hK.out _ _ (Fr.refl _ _) hG ?_
            show _ = _
            first | rfl | exact congrArg Value.bool (decide_eq_true (by omega)) | exact congrArg Value.bool (decide_eq_false (by omega)) | (exact congrArg Value.bool (by simp))
          · intro vs w' hG hd K hK
            obtain ⟨h37, h42, -⟩ := hd
            replace h37 : vs 37 = _ := h37
            replace h42 : vs 42 = _ := h42
            simp only [canonD, Act.put, List.getElem_toArray, List.getElem_cons_zero, List.getElem_cons_succ, List.setIfInBounds_toArray, List.set_cons_zero, List.set_cons_succ, h37, h42] at hK ⊢
            refine Eq.mpr (if_pos (by rfl)) ?_
            go_simp
            refine hK.out _ _ (Fr.refl _ _) hG ?_
            show _ = _
            first | rfl | exact congrArg Value.bool (decide_eq_true (by omega)) | exact congrArg Value.bool (decide_eq_false (by omega)) | (exact congrArg Value.bool (by simp))
          · intro vs w' hG hd K hK
            obtain ⟨h43, -⟩ := hd
            replace h43 : vs 43 = _ := h43
            simp only [canonD, Act.put, List.getElem_toArray, List.getElem_cons_zero, List.getElem_cons_succ, List.setIfInBounds_toArray, List.set_cons_zero, List.set_cons_succ, h43] at hK ⊢
            refine Eq.mpr (if_pos (by rfl)) ?_
            go_simp
            refine hK.out _ _ (Fr.refl _ _) hG ?_
            show _ = _
            first | rfl | exact congrArg Value.bool (decide_eq_true (by omega)) | exact congrArg Value.bool (decide_eq_false (by omega)) | (exact congrArg Value.bool (by simp))
          · intro vs w' hG hd K hK
            obtain ⟨h44, -⟩ := hd
            replace h44 : vs 44 = _ := h44
            simp only [canonD, Act.put, List.getElem_toArray, List.getElem_cons_zero, List.getElem_cons_succ, List.setIfInBounds_toArray, List.set_cons_zero, List.set_cons_succ, h44] at hK ⊢
            refine Eq.mpr (if_pos (by rfl)) ?_
            go_simp
            refine hK.out _ _ (Fr.refl _ _) hG ?_
            show _ = _
            rfl
          · intro vs w' hG hd K hK
            obtain ⟨h44, h45, -⟩ := hd
            replace h44 : vs 44 = _ := h44
            replace h45 : vs 45 = _ := h45
            simp only [canonD, Act.put, List.getElem_toArray, List.getElem_cons_zero, List.getElem_cons_succ, List.setIfInBounds_toArray, List.set_cons_zero, List.set_cons_succ, h44, h45] at hK ⊢
            refine Eq.mpr (if_pos (by rfl)) ?_
            go_simp
            refine hK.out _ _ (Fr.refl _ _) hG ?_
            show _ = _
            first | rfl | exact congrArg Value.bool (decide_eq_true (by omega)) | exact congrArg Value.bool (decide_eq_false (by omega)) | (exact congrArg Value.bool (by simp))
          · intro vs w' hG hd K hK
            obtain ⟨h46, -⟩ := hd
            replace h46 : vs 46 = _ := h46
            simp only [canonD, Act.put, List.getElem_toArray, List.getElem_cons_zero, List.getElem_cons_succ, List.setIfInBounds_toArray, List.set_cons_zero, List.set_cons_succ, h46] at hK ⊢
            refine Eq.mpr (if_pos (by rfl)) ?_
            go_simp
            refine hK.out _ _ (Fr.refl _ _) hG ?_
            show _ = _
            rfl
          · intro vs w' hG hd K hK
            obtain ⟨h46, -⟩ := hd
            replace h46 : vs 46 = _ := h46
            simp only [canonD, Act.put, List.getElem_toArray, List.getElem_cons_zero, List.getElem_cons_succ, List.setIfInBounds_toArray, List.set_cons_zero, List.set_cons_succ, h46] at hK ⊢
            refine Eq.mpr (if_pos (by rfl)) ?_
            go_simp
            refine hK.out _ _ (Fr.refl _ _) hG ?_
            show _ = _
            rfl
          · intro vs w' hG hd K hK
            obtain ⟨h46, h48, -⟩ := hd
            replace h46 : vs 46 = _ := h46
            replace h48 : vs 48 = _ := h48
            simp only [canonD, Act.put, List.getElem_toArray, List.getElem_cons_zero, List.getElem_cons_succ, List.setIfInBounds_toArray, List.set_cons_zero, List.set_cons_succ, h46, h48] at hK ⊢
            have hW : Fr [] w9 w' := (Fr.refl [] w9).drew.trans hG
            have x3 := (HC.out.rel.b.keep hW).cell 3
            simp only [rw6, List.getElem?_toArray, List.getElem?_cons_succ, List.getElem?_cons_zero] at x3
            rw [HNN.out] at x3
            refine Eq.mpr (if_pos (by rfl)) ?_
            go_simp
            refine hK.out _ _ (Fr.refl _ _) hG ?_
            show _ = _
            rfl
          · intro vs w' hG hd K hK
            obtain ⟨h46, h49, -⟩ := hd
            replace h46 : vs 46 = _ := h46
            replace h49 : vs 49 = _ := h49
            simp only [canonD, Act.put, List.getElem_toArray, List.getElem_cons_zero, List.getElem_cons_succ, List.setIfInBounds_toArray, List.set_cons_zero, List.set_cons_succ, h46, h49] at hK ⊢
            refine Eq.mpr (if_pos (by rfl)) ?_
            go_simp
            refine hK.out _ _ (Fr.refl _ _) hG ?_
            show _ = _
            rfl
          · intro vs w' hG hd K hK
            obtain ⟨h46, h50, -⟩ := hd
            replace h46 : vs 46 = _ := h46
            replace h50 : vs 50 = _ := h50
            simp only [canonD, Act.put, List.getElem_toArray, List.getElem_cons_zero, List.getElem_cons_succ, List.setIfInBounds_toArray, List.set_cons_zero, List.set_cons_succ, h46, h50] at hK ⊢
            refine Eq.mpr (if_pos (by rfl)) ?_
            go_simp
            refine hK.out _ _ (Fr.refl _ _) hG ?_
            show _ = _
            rfl
          · intro vs w' hG hd K hK
            obtain ⟨h46, h47, h51, -⟩ := hd
            replace h46 : vs 46 = _ := h46
            replace h47 : vs 47 = _ := h47
            replace h51 : vs 51 = _ := h51
            simp only [canonD, Act.put, List.getElem_toArray, List.getElem_cons_zero, List.getElem_cons_succ, List.setIfInBounds_toArray, List.set_cons_zero, List.set_cons_succ, h46, h47, h51] at hK ⊢
            refine Eq.mpr (if_pos (by rfl)) ?_
            go_simp
            refine hK.out _ _ (Fr.refl _ _) hG ?_
            show _ = _
            first | rfl | exact congrArg Value.bool (decide_eq_true (by omega)) | exact congrArg Value.bool (decide_eq_false (by omega)) | (exact congrArg Value.bool (by simp))
          · intro vs w' hG hd K hK
            obtain ⟨h44, h46, h52, -⟩ := hd
            replace h44 : vs 44 = _ := h44
            replace h46 : vs 46 = _ := h46
            replace h52 : vs 52 = _ := h52
            simp only [canonD, Act.put, List.getElem_toArray, List.getElem_cons_zero, List.getElem_cons_succ, List.setIfInBounds_toArray, List.set_cons_zero, List.set_cons_succ, h44, h46, h52] at hK ⊢
            refine Eq.mpr (if_pos (by rfl)) ?_
            go_simp
            refine hK.out _ _ (Fr.refl _ _) hG ?_
            show _ = _
            first | rfl | exact congrArg Value.bool (decide_eq_true (by omega)) | exact congrArg Value.bool (decide_eq_false (by omega)) | (exact congrArg Value.bool (by simp))
          · intro vs w' hG hd K hK
            obtain ⟨h44, h53, -⟩ := hd
            replace h44 : vs 44 = _ := h44
            replace h53 : vs 53 = _ := h53
            simp only [canonD, Act.put, List.getElem_toArray, List.getElem_cons_zero, List.getElem_cons_succ, List.setIfInBounds_toArray, List.set_cons_zero, List.set_cons_succ, h44, h53] at hK ⊢
            refine Eq.mpr (if_pos (by rfl)) ?_
            go_simp
            refine hK.out _ _ (Fr.refl _ _) hG ?_
            show _ = _
            first | rfl | exact congrArg Value.bool (decide_eq_true (by omega)) | exact congrArg Value.bool (decide_eq_false (by omega)) | (exact congrArg Value.bool (by simp))
          intro vs w' hG hP
          obtain ⟨h0, h1, h2, h3, h4, h5, h6, h7, h8, h9, h10, h11, h12, h13, h14, h15, h16, h17, h18, h19, h20, h21, h22, h23, h24, h25, h26, h27, h28, h29, h30, h31, h32, h33, h34, h35, h36, h37, h38, h39, h40, h41, h42, h43, h44, h45, h46, h47, h48, h49, h50, h51, h52, h53, h54, -⟩ := hP
          replace h0 : vs 0 = _ := h0
          replace h1 : vs 1 = _ := h1
          replace h2 : vs 2 = _ := h2
          replace h3 : vs 3 = _ := h3
          replace h4 : vs 4 = _ := h4
          replace h5 : vs 5 = _ := h5
          replace h6 : vs 6 = _ := h6
          replace h7 : SlEls 2 OutR w' (vs 7) (s2.all.take mn) [] := h7
          replace h8 : vs 8 = _ := h8
          replace h9 : vs 9 = _ := h9
          replace h10 : vs 10 = _ := h10
          replace h11 : vs 11 = _ := h11
          replace h12 : vs 12 = _ := h12
          replace h13 : vs 13 = _ := h13
          replace h14 : vs 14 = _ := h14
          replace h15 : vs 15 = _ := h15
          replace h16 : vs 16 = _ := h16
          replace h17 : vs 17 = _ := h17
          replace h18 : vs 18 = _ := h18
          replace h19 : vs 19 = _ := h19
          replace h20 : vs 20 = _ := h20
          replace h21 : vs 21 = _ := h21
          replace h22 : vs 22 = _ := h22
          replace h23 : vs 23 = _ := h23
          replace h24 : vs 24 = _ := h24
          replace h25 : vs 25 = _ := h25
          replace h26 : vs 26 = _ := h26
          replace h27 : vs 27 = _ := h27
          replace h28 : vs 28 = _ := h28
          replace h29 : vs 29 = _ := h29
          replace h30 : vs 30 = _ := h30
          replace h31 : vs 31 = _ := h31
          replace h32 : vs 32 = _ := h32
          replace h33 : vs 33 = _ := h33
          replace h34 : vs 34 = _ := h34
          replace h35 : vs 35 = _ := h35
          replace h36 : vs 36 = _ := h36
          replace h37 : vs 37 = _ := h37
          replace h38 : vs 38 = _ := h38
          replace h39 : vs 39 = _ := h39
          replace h40 : vs 40 = _ := h40
          replace h41 : vs 41 = _ := h41
          replace h42 : vs 42 = _ := h42
          replace h43 : vs 43 = _ := h43
          replace h44 : vs 44 = _ := h44
          replace h45 : vs 45 = _ := h45
          replace h46 : vs 46 = _ := h46
          replace h47 : vs 47 = _ := h47
          replace h48 : vs 48 = _ := h48
          replace h49 : vs 49 = _ := h49
          replace h50 : vs 50 = _ := h50
          replace h51 : vs 51 = _ := h51
          replace h52 : vs 52 = _ := h52
          replace h53 : vs 53 = _ := h53
          replace h54 : vs 54 = _ := h54
          simp only [canonD, Act.put, List.getElem_toArray, List.getElem_cons_zero, List.getElem_cons_succ, List.setIfInBounds_toArray, List.set_cons_zero, List.set_cons_succ, h0, h1, h2, h3, h4, h5, h6, h8, h9, h10, h11, h12, h13, h14, h15, h16, h17, h18, h19, h20, h21, h22, h23, h24, h25, h26, h27, h28, h29, h30, h31, h32, h33, h34, h35, h36, h37, h38, h39, h40, h41, h42, h43, h44, h45, h46, h47, h48, h49, h50, h51, h52, h53, h54]
          generalize vs 7 = v7 at *
          clear h0 h1 h2 h3 h4 h5 h6 h8 h9 h10 h11 h12 h13 h14 h15 h16 h17 h18 h19 h20 h21 h22 h23 h24 h25 h26 h27 h28 h29 h30 h31 h32 h33 h34 h35 h36 h37 h38 h39 h40 h41 h42 h43 h44 h45 h46 h47 h48 h49 h50 h51 h52 h53 h54
          have hF := (Fr.refl [] w9).drew.trans hG
          have HC := Lib.hid (HC.out.keep hF)
          clear hF hG
          go_wp2_with fail
          exact ⟨⟨k + 1, s2, _, by omega, by go_num, HC.out.rel⟩, by simp [Lib.intOf]; omega⟩
        · rw [hs1]
          obtain ⟨NN, hNN⟩ : ∃ NN, NN = (-1 : Int) := ⟨_, rfl⟩
          have HNN : Hid (rnx s2 = NN) := Lib.hid (by rw [hs2, hNN])
          have hneg : NN < 0 := by omega
          generalize (low16 s2.next).toNat = qn at *
          clear hs1 hs2 hNN
          go_upto_region 23 with fail
          refine wp_region_rules (fun w' => Fr [] w9.drew w') (Fr []) [isV ?p2x0, isV ?p2x1, isV (.bool true), isV (.bool false), isV (.bool false), isV ?p2x5, isV ?p2x6, fun v w' => SlEls 2 OutR w' v (s2.all.take mn) [], isV ?p2x8, isV (.slice ax2 s2.all.length cx2), isV ?p2x10, isV ?p2x11, isV (.slice ax2 s2.all.length cx2), isV (.int .i64 ((s2.all.length : Nat) : Int)), isV (.int .i64 ((kk : Nat) : Int)), isV (.slice ax2 kk cx2), isV (.bool true), isV (.bool false), isV (.bool false), isV (.bool false), isV ?p2x20, isV (.int .i64 ((s2.all.length : Nat) : Int)), isV ?p2x22, isV (.slice ax2 s2.all.length cx2), isV (.int .i64 ((s2.all.length : Nat) : Int)), isV (.bool false), isV (.bool false), isV (.bool false), isV ?p2x28, isV ?p2x29, isV (.bool false), isV (.bool false), isV (.bool false), isV ?p2x33, isV ?p2x34, isV (.bool false), isV (.bool false), isV (.bool false), isV ?p2x38, isV ?p2x39, isV (.int .i64 NN), isV (.bool false), isV (.bool false), isV (.bool false), isV (.bool false), isV ?p2x45, isV (.bool false), isV undef, isV undef, isV undef, isV undef, isV undef, isV undef, isV (.bool false), isV (.bool false)] [[], [], [(0, 102), (1, 103)], [(2, 104)], [(3, 105)], [(4, 106)], [(4, 106)], [(4, 106), (5, 107), (6, 108)], [(4, 106)], [(4, 106), (8, 110)], [(4, 106)], [(4, 106)], [(4, 106), (11, 113)], [(4, 106), (12, 114)], [(4, 106), (10, 112), (13, 115)], [(4, 106), (9, 111), (14, 116)], [(4, 106), (7, 109), (15, 117)], [(4, 106), (16, 118)], [(4, 106), (17, 119)], [(18, 120)], [(19, 121)], [(19, 121), (20, 122)], [(19, 121)], [(19, 121), (22, 124)], [(19, 121), (23, 125)], [(19, 121), (21, 123), (24, 126)], [(19, 121), (25, 127)], [(26, 128)], [(27, 129)], [(27, 129)], [(27, 129), (28, 130), (29, 131)], [(27, 129), (30, 132)], [(31, 133)], [(32, 134)], [(32, 134)], [(32, 134), (33, 135), (34, 136)], [(32, 134), (35, 137)], [(36, 138)], [(37, 139)], [(37, 139)], [(37, 139), (39, 141)], [(37, 139), (40, 142)], [(37, 139), (38, 140), (41, 143)], [(37, 139), (42, 144)], [(43, 145)], [(44, 146)], [(44, 146), (45, 147)], [(46, 148)], [(46, 148)], [(46, 148), (48, 150)], [(46, 148), (49, 151)], [(46, 148), (50, 152)], [(46, 148), (47, 149), (51, 153)], [(44, 146), (46, 148), (52, 154)], [(44, 146), (53, 155)]] 158 [0, 1, 2, 3, 4, 5, 6, 7, 8, 9, 10, 11, 12, 13, 14, 15, 16, 17, 18, 19, 20, 21, 22, 23, 24, 25, 26, 27, 28, 29, 30, 31, 32, 33, 34, 35, 36, 37, 38, 39, 40, 41, 42, 43, 44, 45, 46, 47, 48, 49, 50, 51, 52, 53, 54] [(0, 102), (1, 103), (2, 104), (3, 105), (4, 106), (5, 107), (6, 108), (7, 109), (8, 110), (9, 111), (10, 112), (11, 113), (12, 114), (13, 115), (14, 116), (15, 117), (16, 118), (17, 119), (18, 120), (19, 121), (20, 122), (21, 123), (22, 124), (23, 125), (24, 126), (25, 127), (26, 128), (27, 129), (28, 130), (29, 131), (30, 132), (31, 133), (32, 134), (33, 135), (34, 136), (35, 137), (36, 138), (37, 139), (38, 140), (39, 141), (40, 142), (41, 143), (42, 144), (43, 145), (44, 146), (45, 147), (46, 148), (47, 149), (48, 150), (49, 151), (50, 152), (51, 153), (52, 154), (53, 155), (54, 156)] (by kernel_rfl) (by kernel_rfl) rfl (by kernel_rfl) (by kernel_rfl) (by kernel_rfl) (by kernel_rfl) (by intro c a a' W h hq; cases a; cases a'; cases h; exact hq) (fun w => Fr.refl _ w) (Fr.refl _ _) ⟨isV_stab, isV_stab, isV_stab, isV_stab, isV_stab, isV_stab, isV_stab, fun _ _ _ h1 h2 => h2.keep Rep.out h1, isV_stab, isV_stab, isV_stab, isV_stab, isV_stab, isV_stab, isV_stab, isV_stab, isV_stab, isV_stab, isV_stab, isV_stab, isV_stab, isV_stab, isV_stab, isV_stab, isV_stab, isV_stab, isV_stab, isV_stab, isV_stab, isV_stab, isV_stab, isV_stab, isV_stab, isV_stab, isV_stab, isV_stab, isV_stab, isV_stab, isV_stab, isV_stab, isV_stab, isV_stab, isV_stab, isV_stab, isV_stab, isV_stab, isV_stab, isV_stab, isV_stab, isV_stab, isV_stab, isV_stab, isV_stab, isV_stab, isV_stab, trivial⟩ ⟨?_, ?_, ?_, ?_, ?_, ?_, ?_, ?_, ?_, ?_, ?_, ?_, ?_, ?_, ?_, ?_, ?_, ?_, ?_, ?_, ?_, ?_, ?_, ?_, ?_, ?_, ?_, ?_, ?_, ?_, ?_, ?_, ?_, ?_, ?_, ?_, ?_, ?_, ?_, ?_, ?_, ?_, ?_, ?_, ?_, ?_, ?_, ?_, ?_, ?_, ?_, ?_, ?_, ?_, ?_, trivial⟩ ?_
          rotate_left 16
          · intro vs w' hG hd K hK
            clear hd
            simp only [canonD, Act.put, List.getElem_toArray, List.getElem_cons_zero, List.getElem_cons_succ, List.setIfInBounds_toArray, List.set_cons_zero, List.set_cons_succ] at hK ⊢
            refine Eq.mpr (if_pos (by rfl)) ?_
            go_simp
            refine hK.out _ _ (Fr.refl _ _) hG ?_
            show _ = _
            rfl
          · intro vs w' hG hd K hK
            clear hd
            simp only [canonD, Act.put, List.getElem_toArray, List.getElem_cons_zero, List.getElem_cons_succ, List.setIfInBounds_toArray, List.set_cons_zero, List.set_cons_succ] at hK ⊢
            refine Eq.mpr (if_pos (by rfl)) ?_
            go_simp
            refine hK.out _ _ (Fr.refl _ _) hG ?_
            show _ = _
            rfl
          · intro vs w' hG hd K hK
            obtain ⟨h0, h1, -⟩ := hd
            replace h0 : vs 0 = _ := h0
            replace h1 : vs 1 = _ := h1
            simp only [canonD, Act.put, List.getElem_toArray, List.getElem_cons_zero, List.getElem_cons_succ, List.setIfInBounds_toArray, List.set_cons_zero, List.set_cons_succ, h0, h1] at hK ⊢
            have hW : Fr [] w9 w' := (Fr.refl [] w9).drew.trans hG
            refine Eq.mpr (if_pos (by rfl)) ?_
            go_simp
            refine (l21same_any (HC.out.e.keep Rep.out hW) (HC.out.u.keep Rep.held hW) HC.out.n (Nat.le_trans HC.out.l (by omega))).mono ?_
            rintro e wz ⟨rfl, hF⟩
            go_simp
            exact hK.out _ _ hF (hG.trans hF) rfl
          · intro vs w' hG hd K hK
            obtain ⟨h2, -⟩ := hd
            replace h2 : vs 2 = _ := h2
            simp only [canonD, Act.put, List.getElem_toArray, List.getElem_cons_zero, List.getElem_cons_succ, List.setIfInBounds_toArray, List.set_cons_zero, List.set_cons_succ, h2] at hK ⊢
            refine Eq.mpr (if_pos (by rfl)) ?_
            go_simp
            refine hK.out _ _ (Fr.refl _ _) hG ?_
            show _ = _
            first | rfl | exact congrArg Value.bool (decide_eq_true (by omega)) | exact congrArg Value.bool (decide_eq_false (by omega)) | (exact congrArg Value.bool (by simp))
          · intro vs w' hG hd K hK
            obtain ⟨h3, -⟩ := hd
            replace h3 : vs 3 = _ := h3
            simp only [canonD, Act.put, List.getElem_toArray, List.getElem_cons_zero, List.getElem_cons_succ, List.setIfInBounds_toArray, List.set_cons_zero, List.set_cons_succ, h3] at hK ⊢
            refine Eq.mpr (if_pos (by rfl)) ?_
            go_simp
            refine hK.out _ _ (Fr.refl _ _) hG ?_
            show _ = _
            first | rfl | exact congrArg Value.bool (decide_eq_true (by omega)) | exact congrArg Value.bool (decide_eq_false (by omega)) | (exact congrArg Value.bool (by simp))
          · intro vs w' hG hd K hK
            obtain ⟨h4, -⟩ := hd
            replace h4 : vs 4 = _ := h4
            simp only [canonD, Act.put, List.getElem_toArray, List.getElem_cons_zero, List.getElem_cons_succ, List.setIfInBounds_toArray, List.set_cons_zero, List.set_cons_succ, h4] at hK ⊢
            refine Eq.mpr (if_pos (by rfl)) ?_
            go_simp
            refine hK.out _ _ (Fr.refl _ _) hG ?_
            show _ = _
            rfl
          · intro vs w' hG hd K hK
            obtain ⟨h4, -⟩ := hd
            replace h4 : vs 4 = _ := h4
            simp only [canonD, Act.put, List.getElem_toArray, List.getElem_cons_zero, List.getElem_cons_succ, List.setIfInBounds_toArray, List.set_cons_zero, List.set_cons_succ, h4] at hK ⊢
            refine Eq.mpr (if_pos (by rfl)) ?_
            go_simp
            refine hK.out _ _ (Fr.refl _ _) hG ?_
            show _ = _
            rfl
          · intro vs w' hG hd K hK
            obtain ⟨h4, h5, h6, -⟩ := hd
            replace h4 : vs 4 = _ := h4
            replace h5 : vs 5 = _ := h5
            replace h6 : vs 6 = _ := h6
            simp only [canonD, Act.put, List.getElem_toArray, List.getElem_cons_zero, List.getElem_cons_succ, List.setIfInBounds_toArray, List.set_cons_zero, List.set_cons_succ, h4, h5, h6] at hK ⊢
            have hW : Fr [] w9 w' := (Fr.refl [] w9).drew.trans hG
            refine Eq.mpr (if_pos (by rfl)) ?_
            go_simp
            refine (l21held_any (HC.out.rel.win.keep hW) HC.out.rel.i (by omega) (mn : Int) (by omega)).mono ?_
            rintro e wz ⟨v, rfl, hO, hF⟩
            go_simp
            exact hK.out _ _ hF (hG.trans hF) (by have h9 := hO.sl; rw [Int.toNat_natCast] at h9; exact h9)
          · intro vs w' hG hd K hK
            obtain ⟨h4, -⟩ := hd
            replace h4 : vs 4 = _ := h4
            simp only [canonD, Act.put, List.getElem_toArray, List.getElem_cons_zero, List.getElem_cons_succ, List.setIfInBounds_toArray, List.set_cons_zero, List.set_cons_succ, h4] at hK ⊢
            refine Eq.mpr (if_pos (by rfl)) ?_
            go_simp
            refine hK.out _ _ (Fr.refl _ _) hG ?_
            show _ = _
            rfl
          · intro vs w' hG hd K hK
            obtain ⟨h4, h8, -⟩ := hd
            replace h4 : vs 4 = _ := h4
            replace h8 : vs 8 = _ := h8
            simp only [canonD, Act.put, List.getElem_toArray, List.getElem_cons_zero, List.getElem_cons_succ, List.setIfInBounds_toArray, List.set_cons_zero, List.set_cons_succ, h4, h8] at hK ⊢
            have hW : Fr [] w9 w' := (Fr.refl [] w9).drew.trans hG
            have x2 := (HC.out.rel.b.keep hW).cell 2
            simp only [rw6, List.getElem?_toArray, List.getElem?_cons_succ, List.getElem?_cons_zero] at x2
            refine Eq.mpr (if_pos (by rfl)) ?_
            go_simp
            refine hK.out _ _ (Fr.refl _ _) hG ?_
            show _ = _
            rfl
          · intro vs w' hG hd K hK
            obtain ⟨h4, -⟩ := hd
            replace h4 : vs 4 = _ := h4
            simp only [canonD, Act.put, List.getElem_toArray, List.getElem_cons_zero, List.getElem_cons_succ, List.setIfInBounds_toArray, List.set_cons_zero, List.set_cons_succ, h4] at hK ⊢
            refine Eq.mpr (if_pos (by rfl)) ?_
            go_simp
            refine hK.out _ _ (Fr.refl _ _) hG ?_
            show _ = _
            rfl
          · intro vs w' hG hd K hK
            obtain ⟨h4, -⟩ := hd
            replace h4 : vs 4 = _ := h4
            simp only [canonD, Act.put, List.getElem_toArray, List.getElem_cons_zero, List.getElem_cons_succ, List.setIfInBounds_toArray, List.set_cons_zero, List.set_cons_succ, h4] at hK ⊢
            refine Eq.mpr (if_pos (by rfl)) ?_
            go_simp
            refine hK.out _ _ (Fr.refl _ _) hG ?_
            show _ = _
            rfl
          · intro vs w' hG hd K hK
            obtain ⟨h4, h11, -⟩ := hd
            replace h4 : vs 4 = _ := h4
            replace h11 : vs 11 = _ := h11
            simp only [canonD, Act.put, List.getElem_toArray, List.getElem_cons_zero, List.getElem_cons_succ, List.setIfInBounds_toArray, List.set_cons_zero, List.set_cons_succ, h4, h11] at hK ⊢
            have hW : Fr [] w9 w' := (Fr.refl [] w9).drew.trans hG
            have x2 := (HC.out.rel.b.keep hW).cell 2
            simp only [rw6, List.getElem?_toArray, List.getElem?_cons_succ, List.getElem?_cons_zero] at x2
            refine Eq.mpr (if_pos (by rfl)) ?_
            go_simp
            refine hK.out _ _ (Fr.refl _ _) hG ?_
            show _ = _
            rfl
          · intro vs w' hG hd K hK
            obtain ⟨h4, h12, -⟩ := hd
            replace h4 : vs 4 = _ := h4
            replace h12 : vs 12 = _ := h12
            simp only [canonD, Act.put, List.getElem_toArray, List.getElem_cons_zero, List.getElem_cons_succ, List.setIfInBounds_toArray, List.set_cons_zero, List.set_cons_succ, h4, h12] at hK ⊢
            refine Eq.mpr (if_pos (by rfl)) ?_
            go_simp
            refine hK.out _ _ (Fr.refl _ _) hG ?_
            show _ = _
            rfl
          · intro vs w' hG hd K hK
            obtain ⟨h4, h10, h13, -⟩ := hd
            replace h4 : vs 4 = _ := h4
            replace h10 : vs 10 = _ := h10
            replace h13 : vs 13 = _ := h13
            simp only [canonD, Act.put, List.getElem_toArray, List.getElem_cons_zero, List.getElem_cons_succ, List.setIfInBounds_toArray, List.set_cons_zero, List.set_cons_succ, h4, h10, h13] at hK ⊢
            refine Eq.mpr (if_pos (by rfl)) ?_
            go_simp
            refine hK.out _ _ (Fr.refl _ _) hG ?_
            show _ = _
            first | rfl | exact congrArg (Value.int .i64) (by have := HKK.out; omega)
          · intro vs w' hG hd K hK
            obtain ⟨h4, h9, h14, -⟩ := hd
            replace h4 : vs 4 = _ := h4
            replace h9 : vs 9 = _ := h9
            replace h14 : vs 14 = _ := h14
            simp only [canonD, Act.put, List.getElem_toArray, List.getElem_cons_zero, List.getElem_cons_succ, List.setIfInBounds_toArray, List.set_cons_zero, List.set_cons_succ, h4, h9, h14] at hK ⊢
            have hk1 := HKC.out
            refine Eq.mpr (if_pos (by rfl)) ?_
            go_simp
            refine hK.out _ _ (Fr.refl _ _) hG ?_
            show _ = _
            rfl
          · intro vs w' hG hd K hK
            obtain ⟨h4, h7, h15, -⟩ := hd
            replace h4 : vs 4 = _ := h4
            replace h7 : SlEls 2 OutR w' (vs 7) (s2.all.take mn) [] := h7
            replace h15 : vs 15 = _ := h15
            simp only [canonD, Act.put, List.getElem_toArray, List.getElem_cons_zero, List.getElem_cons_succ, List.setIfInBounds_toArray, List.set_cons_zero, List.set_cons_succ, h4, h15] at hK ⊢
            generalize vs 7 = v7 at *
            have hW : Fr [] w9 w' := (Fr.refl [] w9).drew.trans hG
            refine Eq.mpr (if_pos (by rfl)) ?_
            go_simp
            refine (l21same_any h7 (HPRE.out _ (HC.out.rel.a.keep Rep.held hW)) HNT.out HLT.out).mono ?_
            rintro e wz ⟨rfl, hF⟩
            go_simp
            exact hK.out _ _ hF (hG.trans hF) rfl
          · intro vs w' hG hd K hK
            obtain ⟨h4, h16, -⟩ := hd
            replace h4 : vs 4 = _ := h4
            replace h16 : vs 16 = _ := h16
            simp only [canonD, Act.put, List.getElem_toArray, List.getElem_cons_zero, List.getElem_cons_succ, List.setIfInBounds_toArray, List.set_cons_zero, List.set_cons_succ, h4, h16] at hK ⊢
            refine Eq.mpr (if_pos (by rfl)) ?_
            go_simp
            refine hK.out _ _ (Fr.refl _ _) hG ?_
            show _ = _
            first | rfl | exact congrArg Value.bool (decide_eq_true (by omega)) | exact congrArg Value.bool (decide_eq_false (by omega)) | (exact congrArg Value.bool (by simp))
          · intro vs w' hG hd K hK
            obtain ⟨h4, h17, -⟩ := hd
            replace h4 : vs 4 = _ := h4
            replace h17 : vs 17 = _ := h17
            simp only [canonD, Act.put, List.getElem_toArray, List.getElem_cons_zero, List.getElem_cons_succ, List.setIfInBounds_toArray, List.set_cons_zero, List.set_cons_succ, h4, h17] at hK ⊢
            refine Eq.mpr (if_pos (by rfl)) ?_
            go_simp
            refine hK.out _ _ (Fr.refl _ _) hG ?_
            show _ = _
            first | rfl | exact congrArg Value.bool (decide_eq_true (by omega)) | exact congrArg Value.bool (decide_eq_false (by omega)) | (exact congrArg Value.bool (by simp))
          · intro vs w' hG hd K hK
            obtain ⟨h18, -⟩ := hd
            replace h18 : vs 18 = _ := h18
            simp only [canonD, Act.put, List.getElem_toArray, List.getElem_cons_zero, List.getElem_cons_succ, List.setIfInBounds_toArray, List.set_cons_zero, List.set_cons_succ, h18] at hK ⊢
            refine Eq.mpr (if_pos (by rfl)) ?_
            go_simp
            refine hK.out _ _ (Fr.refl _ _) hG ?_
            show _ = _
            first | rfl | exact congrArg Value.bool (decide_eq_true (by omega)) | exact congrArg Value.bool (decide_eq_false (by omega)) | (exact congrArg Value.bool (by simp))
          · intro vs w' hG hd K hK
            obtain ⟨h19, -⟩ := hd
            replace h19 : vs 19 = _ := h19
            simp only [canonD, Act.put, List.getElem_toArray, List.getElem_cons_zero, List.getElem_cons_succ, List.setIfInBounds_toArray, List.set_cons_zero, List.set_cons_succ, h19] at hK ⊢
            refine Eq.mpr (if_pos (by rfl)) ?_
            go_simp
            refine hK.out _ _ (Fr.refl _ _) hG ?_
            show _ = _
            rfl
          · intro vs w' hG hd K hK
            obtain ⟨h19, h20, -⟩ := hd
            replace h19 : vs 19 = _ := h19
            replace h20 : vs 20 = _ := h20
            simp only [canonD, Act.put, List.getElem_toArray, List.getElem_cons_zero, List.getElem_cons_succ, List.setIfInBounds_toArray, List.set_cons_zero, List.set_cons_succ, h19, h20] at hK ⊢
            have hW : Fr [] w9 w' := (Fr.refl [] w9).drew.trans hG
            refine Eq.mpr (if_pos (by rfl)) ?_
            go_simp
            refine (wLen_any (HC.out.rel.win.keep hW)).mono ?_
            rintro e wz ⟨rfl, rfl⟩
            go_simp
            exact hK.out _ _ (Fr.refl _ _) hG rfl
          · intro vs w' hG hd K hK
            obtain ⟨h19, -⟩ := hd
            replace h19 : vs 19 = _ := h19
            simp only [canonD, Act.put, List.getElem_toArray, List.getElem_cons_zero, List.getElem_cons_succ, List.setIfInBounds_toArray, List.set_cons_zero, List.set_cons_succ, h19] at hK ⊢
            refine Eq.mpr (if_pos (by rfl)) ?_
            go_simp
            refine hK.out _ _ (Fr.refl _ _) hG ?_
            show _ = _
            rfl
          · intro vs w' hG hd K hK
            obtain ⟨h19, h22, -⟩ := hd
            replace h19 : vs 19 = _ := h19
            replace h22 : vs 22 = _ := h22
            simp only [canonD, Act.put, List.getElem_toArray, List.getElem_cons_zero, List.getElem_cons_succ, List.setIfInBounds_toArray, List.set_cons_zero, List.set_cons_succ, h19, h22] at hK ⊢
            have hW : Fr [] w9 w' := (Fr.refl [] w9).drew.trans hG
            have x2 := (HC.out.rel.b.keep hW).cell 2
            simp only [rw6, List.getElem?_toArray, List.getElem?_cons_succ, List.getElem?_cons_zero] at x2
            refine Eq.mpr (if_pos (by rfl)) ?_
            go_simp
            refine hK.out _ _ (Fr.refl _ _) hG ?_
            show _ = _
            rfl
          · intro vs w' hG hd K hK
            obtain ⟨h19, h23, -⟩ := hd
            replace h19 : vs 19 = _ := h19
            replace h23 : vs 23 = _ := h23
            simp only [canonD, Act.put, List.getElem_toArray, List.getElem_cons_zero, List.getElem_cons_succ, List.setIfInBounds_toArray, List.set_cons_zero, List.set_cons_succ, h19, h23] at hK ⊢
            refine Eq.mpr (if_pos (by rfl)) ?_
            go_simp
            refine hK.out _ _ (Fr.refl _ _) hG ?_
            show _ = _
            rfl
          · intro vs w' hG hd K hK
            obtain ⟨h19, h21, h24, -⟩ := hd
            replace h19 : vs 19 = _ := h19
            replace h21 : vs 21 = _ := h21
            replace h24 : vs 24 = _ := h24
            simp only [canonD, Act.put, List.getElem_toArray, List.getElem_cons_zero, List.getElem_cons_succ, List.setIfInBounds_toArray, List.set_cons_zero, List.set_cons_succ, h19, h21, h24] at hK ⊢
            refine Eq.mpr (if_pos (by rfl)) ?_
            go_simp
            refine hK.out _ _ (Fr.refl _ _) hG ?_
            show _ = _
            first | rfl | exact congrArg Value.bool (decide_eq_true (by omega)) | exact congrArg Value.bool (decide_eq_false (by omega)) | (exact congrArg Value.bool (by simp))
          · intro vs w' hG hd K hK
            obtain ⟨h19, h25, -⟩ := hd
            replace h19 : vs 19 = _ := h19
            replace h25 : vs 25 = _ := h25
            simp only [canonD, Act.put, List.getElem_toArray, List.getElem_cons_zero, List.getElem_cons_succ, List.setIfInBounds_toArray, List.set_cons_zero, List.set_cons_succ, h19, h25] at hK ⊢
            refine Eq.mpr (if_pos (by rfl)) ?_
            go_simp
            refine hK.out _ _ (Fr.refl _ _) hG ?_
            show _ = _
            first | rfl | exact congrArg Value.bool (decide_eq_true (by omega)) | exact congrArg Value.bool (decide_eq_false (by omega)) | (exact congrArg Value.bool (by simp))
          · intro vs w' hG hd K hK
            obtain ⟨h26, -⟩ := hd
            replace h26 : vs 26 = _ := h26
            simp only [canonD, Act.put, List.getElem_toArray, List.getElem_cons_zero, List.getElem_cons_succ, List.setIfInBounds_toArray, List.set_cons_zero, List.set_cons_succ, h26] at hK ⊢
            refine Eq.mpr (if_pos (by rfl)) ?_
            go_simp
            refine hK.out _ _ (Fr.refl _ _) hG ?_
            show _ = _
            first | rfl | exact congrArg Value.bool (decide_eq_true (by omega)) | exact congrArg Value.bool (decide_eq_false (by omega)) | (exact congrArg Value.bool (by simp))
          · intro vs w' hG hd K hK
            obtain ⟨h27, -⟩ := hd
            replace h27 : vs 27 = _ := h27
            simp only [canonD, Act.put, List.getElem_toArray, List.getElem_cons_zero, List.getElem_cons_succ, List.setIfInBounds_toArray, List.set_cons_zero, List.set_cons_succ, h27] at hK ⊢
            refine Eq.mpr (if_pos (by rfl)) ?_
            go_simp
            refine hK.out _ _ (Fr.refl _ _) hG ?_
            show _ = _
            rfl
          · intro vs w' hG hd K hK
            obtain ⟨h27, -⟩ := hd
            replace h27 : vs 27 = _ := h27
            simp only [canonD, Act.put, List.getElem_toArray, List.getElem_cons_zero, List.getElem_cons_succ, List.setIfInBounds_toArray, List.set_cons_zero, List.set_cons_succ, h27] at hK ⊢
            refine Eq.mpr (if_pos (by rfl)) ?_
            go_simp
            refine hK.out _ _ (Fr.refl _ _) hG ?_
            show _ = _
            rfl
          · intro vs w' hG hd K hK
            obtain ⟨h27, h28, h29, -⟩ := hd
            replace h27 : vs 27 = _ := h27
            replace h28 : vs 28 = _ := h28
            replace h29 : vs 29 = _ := h29
            simp only [canonD, Act.put, List.getElem_toArray, List.getElem_cons_zero, List.getElem_cons_succ, List.setIfInBounds_toArray, List.set_cons_zero, List.set_cons_succ, h27, h28, h29] at hK ⊢
            refine Eq.mpr (if_pos (by rfl)) ?_
            go_simp
            refine hK.out _ _ (Fr.refl _ _) hG ?_
            show _ = _
            first | rfl | exact congrArg Value.bool (decide_eq_true (by omega)) | exact congrArg Value.bool (decide_eq_false (by omega)) | (exact congrArg Value.bool (by simp))
          · intro vs w' hG hd K hK
            obtain ⟨h27, h30, -⟩ := hd
            replace h27 : vs 27 = _ := h27
            replace h30 : vs 30 = _ := h30
            simp only [canonD, Act.put, List.getElem_toArray, List.getElem_cons_zero, List.getElem_cons_succ, List.setIfInBounds_toArray, List.set_cons_zero, List.set_cons_succ, h27, h30] at hK ⊢
            refine Eq.mpr (if_pos (by rfl)) ?_
            go_simp
            refine hK.out _ _ (Fr.refl _ _) hG ?_
            show _ = _
            first | rfl | exact congrArg Value.bool (decide_eq_true (by omega)) | exact congrArg Value.bool (decide_eq_false (by omega)) | (exact congrArg Value.bool (by simp))
          · intro vs w' hG hd K hK
            obtain ⟨h31, -⟩ := hd
            replace h31 : vs 31 = _ := h31
            simp only [canonD, Act.put, List.getElem_toArray, List.getElem_cons_zero, List.getElem_cons_succ, List.setIfInBounds_toArray, List.set_cons_zero, List.set_cons_succ, h31] at hK ⊢
            refine Eq.mpr (if_pos (by rfl)) ?_
            go_simp
            refine hK.out _ _ (Fr.refl _ _) hG ?_
            show _ = _
            first | rfl | exact congrArg Value.bool (decide_eq_true (by omega)) | exact congrArg Value.bool (decide_eq_false (by omega)) | (exact congrArg Value.bool (by simp))
          · intro vs w' hG hd K hK
            obtain ⟨h32, -⟩ := hd
            replace h32 : vs 32 = _ := h32
            simp only [canonD, Act.put, List.getElem_toArray, List.getElem_cons_zero, List.getElem_cons_succ, List.setIfInBounds_toArray, List.set_cons_zero, List.set_cons_succ, h32] at hK ⊢
            refine Eq.mpr (if_pos (by rfl)) ?_
            go_simp
            refine hK.out _ _ (Fr.refl _ _) hG ?_
            show _ = _
            rfl
          · intro vs w' hG hd K hK
            obtain ⟨h32, -⟩ := hd
            replace h32 : vs 32 = _ := h32
            simp only [canonD, Act.put, List.getElem_toArray, List.getElem_cons_zero, List.getElem_cons_succ, List.setIfInBounds_toArray, List.set_cons_zero, List.set_cons_succ, h32] at hK ⊢
            refine Eq.mpr (if_pos (by rfl)) ?_
            go_simp
            refine hK.out _ _ (Fr.refl _ _) hG ?_
            show _ = _
            rfl
          · intro vs w' hG hd K hK
            obtain ⟨h32, h33, h34, -⟩ := hd
            replace h32 : vs 32 = _ := h32
            replace h33 : vs 33 = _ := h33
            replace h34 : vs 34 = _ := h34
            simp only [canonD, Act.put, List.getElem_toArray, List.getElem_cons_zero, List.getElem_cons_succ, List.setIfInBounds_toArray, List.set_cons_zero, List.set_cons_succ, h32, h33, h34] at hK ⊢
            refine Eq.mpr (if_pos (by rfl)) ?_
            go_simp
            refine hK.out _ _ (Fr.refl _ _) hG ?_
            show _ = _
            first | rfl | exact congrArg Value.bool (decide_eq_true (by omega)) | exact congrArg Value.bool (decide_eq_false (by omega)) | (exact congrArg Value.bool (by simp))
          · intro vs w' hG hd K hK
            obtain ⟨h32, h35, -⟩ := hd
            replace h32 : vs 32 = _ := h32
            replace h35 : vs 35 = _ := h35
            simp only [canonD, Act.put, List.getElem_toArray, List.getElem_cons_zero, List.getElem_cons_succ, List.setIfInBounds_toArray, List.set_cons_zero, List.set_cons_succ, h32, h35] at hK ⊢
            refine Eq.mpr (if_pos (by rfl)) ?_
            go_simp
            refine hK.out _ _ (Fr.refl _ _) hG ?_
            show _ = _
            first | rfl | exact congrArg Value.bool (decide_eq_true (by omega)) | exact congrArg Value.bool (decide_eq_false (by omega)) | (exact congrArg Value.bool (by simp))
          · intro vs w' hG hd K hK
            obtain ⟨h36, -⟩ := hd
            replace h36 : vs 36 = _ := h36
            simp only [canonD, Act.put, List.getElem_toArray, List.getElem_cons_zero, List.getElem_cons_succ, List.setIfInBounds_toArray, List.set_cons_zero, List.set_cons_succ, h36] at hK ⊢
            refine Eq.mpr (if_pos (by rfl)) ?_
            go_simp
            refine hK.out _ _ (Fr.refl _ _) hG ?_
            show _ = _
            first | rfl | exact congrArg Value.bool (decide_eq_true (by omega)) | exact congrArg Value.bool (decide_eq_false (by omega)) | (exact congrArg Value.bool (by simp))
          · intro vs w' hG hd K hK
            obtain ⟨h37, -⟩ := hd
            replace h37 : vs 37 = _ := h37
            simp only [canonD, Act.put, List.getElem_toArray, List.getElem_cons_zero, List.getElem_cons_succ, List.setIfInBounds_toArray, List.set_cons_zero, List.set_cons_succ, h37] at hK ⊢
            refine Eq.mpr (if_pos (by rfl)) ?_
            go_simp
            refine hK.out _ _ (Fr.refl _ _) hG ?_
            show _ = _
            rfl
          · intro vs w' hG hd K hK
            obtain ⟨h37, -⟩ := hd
            replace h37 : vs 37 = _ := h37
            simp only [canonD, Act.put, List.getElem_toArray, List.getElem_cons_zero, List.getElem_cons_succ, List.setIfInBounds_toArray, List.set_cons_zero, List.set_cons_succ, h37] at hK ⊢
            refine Eq.mpr (if_pos (by rfl)) ?_
            go_simp
            refine hK.out _ _ (Fr.refl _ _) hG ?_
            show _ = _
            rfl
          · intro vs w' hG hd K hK
            obtain ⟨h37, h39, -⟩ := hd
            replace h37 : vs 37 = _ := h37
            replace h39 : vs 39 = _ := h39
            simp only [canonD, Act.put, List.getElem_toArray, List.getElem_cons_zero, List.getElem_cons_succ, List.setIfInBounds_toArray, List.set_cons_zero, List.set_cons_succ, h37, h39] at hK ⊢
            have hW : Fr [] w9 w' := (Fr.refl [] w9).drew.trans hG
            have x3 := (HC.out.rel.b.keep hW).cell 3
            simp only [rw6, List.getElem?_toArray, List.getElem?_cons_succ, List.getElem?_cons_zero] at x3
            rw [HNN.out] at x3
            refine Eq.mpr (if_pos (by rfl)) ?_
            go_simp
            refine hK.out _ _ (Fr.refl _ _) hG ?_
            show _ = _
            rfl
          · intro vs w' hG hd K hK
            obtain ⟨h37, h40, -⟩ := hd
            replace h37 : vs 37 = _ := h37
            replace h40 : vs 40 = _ := h40
            simp only [canonD, Act.put, List.getElem_toArray, List.getElem_cons_zero, List.getElem_cons_succ, List.setIfInBounds_toArray, List.set_cons_zero, List.set_cons_succ, h37, h40] at hK ⊢
            refine Eq.mpr (if_pos (by rfl)) ?_
            go_simp
            refine hK.out _ _ (Fr.refl _ _) hG ?_
            show _ = _
            first | rfl | exact congrArg Value.bool (decide_eq_true (by omega)) | exact congrArg Value.bool (decide_eq_false (by omega)) | (exact congrArg Value.bool (by simp))
          · intro vs w' hG hd K hK
            obtain ⟨h37, h38, h41, -⟩ := hd
            replace h37 : vs 37 = _ := h37
            replace h38 : vs 38 = _ := h38
            replace h41 : vs 41 = _ := h41
            simp only [canonD, Act.put, List.getElem_toArray, List.getElem_cons_zero, List.getElem_cons_succ, List.setIfInBounds_toArray, List.set_cons_zero, List.set_cons_succ, h37, h38, h41] at hK ⊢
            refine Eq.mpr (if_pos (by rfl)) ?_
            go_simp
            refine hK.out _ _ (Fr.refl _ _) hG ?_
            show _ = _
            first | rfl | exact congrArg Value.bool (decide_eq_true (by omega)) | exact congrArg Value.bool (decide_eq_false (by omega)) | (exact congrArg Value.bool (by simp))
          · intro vs w' hG hd K hK
            obtain ⟨h37, h42, -⟩ := hd
            replace h37 : vs 37 = _ := h37
            replace h42 : vs 42 = _ := h42
            simp only [canonD, Act.put, List.getElem_toArray, List.getElem_cons_zero, List.getElem_cons_succ, List.setIfInBounds_toArray, List.set_cons_zero, List.set_cons_succ, h37, h42] at hK ⊢
            refine Eq.mpr (if_pos (by rfl)) ?_
            go_simp
            refine hK.out _ _ (Fr.refl _ _) hG ?_
            show _ = _
            first | rfl | exact congrArg Value.bool (decide_eq_true (by omega)) | exact congrArg Value.bool (decide_eq_false (by omega)) | (exact congrArg Value.bool (by simp))
          · intro vs w' hG hd K hK
            obtain ⟨h43, -⟩ := hd
            replace h43 : vs 43 = _ := h43
            simp only [canonD, Act.put, List.getElem_toArray, List.getElem_cons_zero, List.getElem_cons_succ, List.setIfInBounds_toArray, List.set_cons_zero, List.set_cons_succ, h43] at hK ⊢
            refine Eq.mpr (if_pos (by rfl)) ?_
            go_simp
            refine hK.out _ _ (Fr.refl _ _) hG ?_
            show _ = _
            first | rfl | exact congrArg Value.bool (decide_eq_true (by omega)) | exact congrArg Value.bool (decide_eq_false (by omega)) | (exact congrArg Value.bool (by simp))
          · intro vs w' hG hd K hK
            obtain ⟨h44, -⟩ := hd
            replace h44 : vs 44 = _ := h44
            simp only [canonD, Act.put, List.getElem_toArray, List.getElem_cons_zero, List.getElem_cons_succ, List.setIfInBounds_toArray, List.set_cons_zero, List.set_cons_succ, h44] at hK ⊢
            refine Eq.mpr (if_pos (by rfl)) ?_
            go_simp
            refine hK.out _ _ (Fr.refl _ _) hG ?_
            show _ = _
            rfl
          · intro vs w' hG hd K hK
            obtain ⟨h44, h45, -⟩ := hd
            replace h44 : vs 44 = _ := h44
            replace h45 : vs 45 = _ := h45
            simp only [canonD, Act.put, List.getElem_toArray, List.getElem_cons_zero, List.getElem_cons_succ, List.setIfInBounds_toArray, List.set_cons_zero, List.set_cons_succ, h44, h45] at hK ⊢
            refine Eq.mpr (if_pos (by rfl)) ?_
            go_simp
            refine hK.out _ _ (Fr.refl _ _) hG ?_
            show _ = _
            first | rfl | exact congrArg Value.bool (decide_eq_true (by omega)) | exact congrArg Value.bool (decide_eq_false (by omega)) | (exact congrArg Value.bool (by simp))
          · intro vs w' hG hd K hK
            obtain ⟨h46, -⟩ := hd
            replace h46 : vs 46 = _ := h46
            simp only [canonD, Act.put, List.getElem_toArray, List.getElem_cons_zero, List.getElem_cons_succ, List.setIfInBounds_toArray, List.set_cons_zero, List.set_cons_succ, h46] at hK ⊢
            refine Eq.mpr (if_neg (fun h => Bool.noConfusion (show false = true from h))) ?_
            rfl
          · intro vs w' hG hd K hK
            obtain ⟨h46, -⟩ := hd
            replace h46 : vs 46 = _ := h46
            simp only [canonD, Act.put, List.getElem_toArray, List.getElem_cons_zero, List.getElem_cons_succ, List.setIfInBounds_toArray, List.set_cons_zero, List.set_cons_succ, h46] at hK ⊢
            refine Eq.mpr (if_neg (fun h => Bool.noConfusion (show false = true from h))) ?_
            rfl
          · intro vs w' hG hd K hK
            obtain ⟨h46, h48, -⟩ := hd
            replace h46 : vs 46 = _ := h46
            replace h48 : vs 48 = _ := h48
            simp only [canonD, Act.put, List.getElem_toArray, List.getElem_cons_zero, List.getElem_cons_succ, List.setIfInBounds_toArray, List.set_cons_zero, List.set_cons_succ, h46, h48] at hK ⊢
            refine Eq.mpr (if_neg (fun h => Bool.noConfusion (show false = true from h))) ?_
            rfl
          · intro vs w' hG hd K hK
            obtain ⟨h46, h49, -⟩ := hd
            replace h46 : vs 46 = _ := h46
            replace h49 : vs 49 = _ := h49
            simp only [canonD, Act.put, List.getElem_toArray, List.getElem_cons_zero, List.getElem_cons_succ, List.setIfInBounds_toArray, List.set_cons_zero, List.set_cons_succ, h46, h49] at hK ⊢
            refine Eq.mpr (if_neg (fun h => Bool.noConfusion (show false = true from h))) ?_
            rfl
          · intro vs w' hG hd K hK
            obtain ⟨h46, h50, -⟩ := hd
            replace h46 : vs 46 = _ := h46
            replace h50 : vs 50 = _ := h50
            simp only [canonD, Act.put, List.getElem_toArray, List.getElem_cons_zero, List.getElem_cons_succ, List.setIfInBounds_toArray, List.set_cons_zero, List.set_cons_succ, h46, h50] at hK ⊢
            refine Eq.mpr (if_neg (fun h => Bool.noConfusion (show false = true from h))) ?_
            rfl
          · intro vs w' hG hd K hK
            obtain ⟨h46, h47, h51, -⟩ := hd
            replace h46 : vs 46 = _ := h46
            replace h47 : vs 47 = _ := h47
            replace h51 : vs 51 = _ := h51
            simp only [canonD, Act.put, List.getElem_toArray, List.getElem_cons_zero, List.getElem_cons_succ, List.setIfInBounds_toArray, List.set_cons_zero, List.set_cons_succ, h46, h47, h51] at hK ⊢
            refine Eq.mpr (if_neg (fun h => Bool.noConfusion (show false = true from h))) ?_
            rfl
          · intro vs w' hG hd K hK
            obtain ⟨h44, h46, h52, -⟩ := hd
            replace h44 : vs 44 = _ := h44
            replace h46 : vs 46 = _ := h46
            replace h52 : vs 52 = _ := h52
            simp only [canonD, Act.put, List.getElem_toArray, List.getElem_cons_zero, List.getElem_cons_succ, List.setIfInBounds_toArray, List.set_cons_zero, List.set_cons_succ, h44, h46, h52] at hK ⊢
            refine Eq.mpr (if_pos (by rfl)) ?_
            go_simp
            refine hK.out _ _ (Fr.refl _ _) hG ?_
            show _ = _
            first | rfl | exact congrArg Value.bool (decide_eq_true (by omega)) | exact congrArg Value.bool (decide_eq_false (by omega)) | (exact congrArg Value.bool (by simp))
          · intro vs w' hG hd K hK
            obtain ⟨h44, h53, -⟩ := hd
            replace h44 : vs 44 = _ := h44
            replace h53 : vs 53 = _ := h53
            simp only [canonD, Act.put, List.getElem_toArray, List.getElem_cons_zero, List.getElem_cons_succ, List.setIfInBounds_toArray, List.set_cons_zero, List.set_cons_succ, h44, h53] at hK ⊢
            refine Eq.mpr (if_pos (by rfl)) ?_
            go_simp
            refine hK.out _ _ (Fr.refl _ _) hG ?_
            show _ = _
            first | rfl | exact congrArg Value.bool (decide_eq_true (by omega)) | exact congrArg Value.bool (decide_eq_false (by omega)) | (exact congrArg Value.bool (by simp))
          intro vs w' hG hP
          obtain ⟨h0, h1, h2, h3, h4, h5, h6, h7, h8, h9, h10, h11, h12, h13, h14, h15, h16, h17, h18, h19, h20, h21, h22, h23, h24, h25, h26, h27, h28, h29, h30, h31, h32, h33, h34, h35, h36, h37, h38, h39, h40, h41, h42, h43, h44, h45, h46, h47, h48, h49, h50, h51, h52, h53, h54, -⟩ := hP
          replace h0 : vs 0 = _ := h0
          replace h1 : vs 1 = _ := h1
          replace h2 : vs 2 = _ := h2
          replace h3 : vs 3 = _ := h3
          replace h4 : vs 4 = _ := h4
          replace h5 : vs 5 = _ := h5
          replace h6 : vs 6 = _ := h6
          replace h7 : SlEls 2 OutR w' (vs 7) (s2.all.take mn) [] := h7
          replace h8 : vs 8 = _ := h8
          replace h9 : vs 9 = _ := h9
          replace h10 : vs 10 = _ := h10
          replace h11 : vs 11 = _ := h11
          replace h12 : vs 12 = _ := h12
          replace h13 : vs 13 = _ := h13
          replace h14 : vs 14 = _ := h14
          replace h15 : vs 15 = _ := h15
          replace h16 : vs 16 = _ := h16
          replace h17 : vs 17 = _ := h17
          replace h18 : vs 18 = _ := h18
          replace h19 : vs 19 = _ := h19
          replace h20 : vs 20 = _ := h20
          replace h21 : vs 21 = _ := h21
          replace h22 : vs 22 = _ := h22
          replace h23 : vs 23 = _ := h23
          replace h24 : vs 24 = _ := h24
          replace h25 : vs 25 = _ := h25
          replace h26 : vs 26 = _ := h26
          replace h27 : vs 27 = _ := h27
          replace h28 : vs 28 = _ := h28
          replace h29 : vs 29 = _ := h29
          replace h30 : vs 30 = _ := h30
          replace h31 : vs 31 = _ := h31
          replace h32 : vs 32 = _ := h32
          replace h33 : vs 33 = _ := h33
          replace h34 : vs 34 = _ := h34
          replace h35 : vs 35 = _ := h35
          replace h36 : vs 36 = _ := h36
          replace h37 : vs 37 = _ := h37
          replace h38 : vs 38 = _ := h38
          replace h39 : vs 39 = _ := h39
          replace h40 : vs 40 = _ := h40
          replace h41 : vs 41 = _ := h41
          replace h42 : vs 42 = _ := h42
          replace h43 : vs 43 = _ := h43
          replace h44 : vs 44 = _ := h44
          replace h45 : vs 45 = _ := h45
          replace h46 : vs 46 = _ := h46
          replace h47 : vs 47 = _ := h47
          replace h48 : vs 48 = _ := h48
          replace h49 : vs 49 = _ := h49
          replace h50 : vs 50 = _ := h50
          replace h51 : vs 51 = _ := h51
          replace h52 : vs 52 = _ := h52
          replace h53 : vs 53 = _ := h53
          replace h54 : vs 54 = _ := h54
          simp only [canonD, Act.put, List.getElem_toArray, List.getElem_cons_zero, List.getElem_cons_succ, List.setIfInBounds_toArray, List.set_cons_zero, List.set_cons_succ, h0, h1, h2, h3, h4, h5, h6, h8, h9, h10, h11, h12, h13, h14, h15, h16, h17, h18, h19, h20, h21, h22, h23, h24, h25, h26, h27, h28, h29, h30, h31, h32, h33, h34, h35, h36, h37, h38, h39, h40, h41, h42, h43, h44, h45, h46, h47, h48, h49, h50, h51, h52, h53, h54]
          generalize vs 7 = v7 at *
          clear h0 h1 h2 h3 h4 h5 h6 h8 h9 h10 h11 h12 h13 h14 h15 h16 h17 h18 h19 h20 h21 h22 h23 h24 h25 h26 h27 h28 h29 h30 h31 h32 h33 h34 h35 h36 h37 h38 h39 h40 h41 h42 h43 h44 h45 h46 h47 h48 h49 h50 h51 h52 h53 h54
          have hF := (Fr.refl [] w9).drew.trans hG
          have HC := Lib.hid (HC.out.keep hF)
          clear hF hG
          go_wp2_with fail
          exact ⟨⟨k + 1, s2, _, by omega, by go_num, HC.out.rel⟩, by simp [Lib.intOf]; omega⟩
    · obtain rfl : k = ops.length := by omega
      clear hk hlt
      have HF := Lib.hid HR.out.f
      go_wp2_with fail
      go_ret
      exact ⟨rfl, HF.out⟩
end Go.Proofs.Ytbmpiemhfndnbaa
