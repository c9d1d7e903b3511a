import Derived.Test.YtchbgiindfoepaaMs27
/- The walk of imprint.Fold, over whatever iterator of imprints. -/
namespace Go.Proofs.Ytchbgiindfoepaa
open Go.RowKit Go.Shelf
attribute [local go_sem] Oper.semAt_some

/-- An imprint that reads so in w. -/
def BtAt (w : World) : Type := { x : Value × Bt // BtV w x.1 x.2 ∧ x.2.body.length ≤ 1099511627776 }
theorem bt_all_len {w : World} (zs : List (BtAt w)) : (Bt.all (zs.map (·.1.2))).body.length ≤ 1099511627776 :=
  Bt.fold_small _ _ _ (by simp [Bt.zero]) (fun x hx => by obtain ⟨z, _, rfl⟩ := List.mem_map.1 hx; exact z.2.2)
theorem bt_all_snoc (xs : List Bt) (x : Bt) : Bt.all (xs ++ [x]) = (Bt.all xs).add x := by simp [Bt.all]

set_option maxRecDepth 100000 in
set_option maxHeartbeats 4000000 in
theorem impFold_any {w : World} {gf : Nat} {lb : Array Value} (zs : List (BtAt w)) {Sp : List (BtAt w) → Prop} {N : Nat}
    (hseq : ∀ w0, Below w.heap.size w w0 → SeqStopsK Fence.wide 5 Try.prog gf lb (fun x : BtAt w => #[x.1.1]) (Below w.heap.size) (fun ys => ys = zs) Sp N w0) (eg : ∀ args w, (callFunc gf args).run Try.prog w = .ok (.enter gf args) w) :
    Calls Try.prog 14 #[.func (.func gf) #[] lb] w fun e w' => ∃ v', e = .returned v' ∧ BtO w' w.heap.size v' (Bt.all (zs.map (·.1.2))) ∧ Fr [] w w' := by
  refine (callsIn_wide (n := 6)).1 ?_
  refine callsIn_of_wp_marks Try.func14 rfl trivial ?_ rfl
  simp only [Try.ntmps14, List.size_toArray, List.length_cons, List.length_nil, Nat.reduceAdd, Nat.reduceSub, Array.replicate_succ, Array.replicate_zero, List.push_toArray, List.append_toArray, List.nil_append, List.cons_append]
  obtain ⟨w1, e1, hF1, hB1, hB2, hs1⟩ := two_new w (bc Bt.zero (.slice none 0 0)) 28 (bc Bt.zero (.slice none 0 0)) 28
  have HB1 := Lib.hid hB1; have HB2 := Lib.hid hB2
  have HF1 := Lib.hid hF1
  have E1 := Lib.hid e1
  have hW1 := hs1
  clear hB1 hB2 hF1 hs1 e1
  gi_wp2
  first | rw [E1.out] | (have := E1.out; simp only [bc_zero] at this; rw [this]; clear this)
  clear E1
  refine wpIn_rangeFunc_ownH rfl (by omega) (gf := gf) (lb := lb) rfl trivial eg
    (hseq w1 HF1.out.below) belowK_t (belowK_b (by omega)) (Below.refl _ _) (fun _ => rfl)
    (fun pre W => (Box W w.heap.size 28 (bc Bt.zero (.slice none 0 0)) ∧ ∃ v, Box W (w.heap.size + 1) 28 (bc (Bt.all (pre.map (·.1.2))) v) ∧ OwnB W (w.heap.size + 2) v (Bt.all (pre.map (·.1.2))).body) ∧ Below w.heap.size w W)
    (fun _ _ _ => False)
    (OwnFrom.and (fun s A B row hs hg hr => by
      obtain ⟨h0, v, h1, h2⟩ := hs
      have hr' := fun r e => (hr r e).2
      exact ⟨h0.other hg hr', v, h1.other hg hr', h2.other hg hr'⟩) (ownFrom_below (Nat.le_refl _) (by omega)))
    (fun _ _ _ _ _ hs _ _ => hs)
    ⟨⟨HB1.out, _, HB2.out, World.ownsRow_nil _ _ _ _⟩, HF1.out.below⟩
    (fun x a' W => ∃ Bx vb, w.heap.size + 2 ≤ Bx ∧ x.1.1 = .agg (bc x.1.2 vb) ∧ Bytes w vb x.1.2.body ∧ Box W Bx 28 (bc x.1.2 vb) ∧ a' = { tmps := #[.func (.func gf) #[] lb, undef, .pointer (some ⟨w.heap.size, 0, none⟩), .pointer (some ⟨w.heap.size + 1, 0, none⟩), .pointer (some ⟨Bx, 0, none⟩), .func (.func gf) #[] lb, x.1.1, undef, undef, undef, undef], defers := [] })
    (fun x a' s A B row hs hg hr => by
      obtain ⟨Bx, vb, h1, h2, h3, h4, h5⟩ := hs
      exact ⟨Bx, vb, h1, h2, h3, h4.other hg (fun r e => (hr r e).2), h5⟩)
    ?assign ?body ?done ?stop
  case assign =>
    rintro l pre x W K ⟨⟨h0, v, h1, h2⟩, hB⟩ hK
    obtain ⟨vb, ev, hb⟩ := x.2.1
    have hone : ∀ u ∈ (bc x.1.2 vb).toList, u.oneCell' = true := by
      obtain ⟨a, c, rfl⟩ := Sl.shape hb
      simp [bc, Value.oneCell']
    have EV := Lib.hid ev
    clear ev
    gi_wp2_with (refine wpListIn_store_row rfl 28 (.tmp 4) (.tmp 6) rfl W.heap.size rfl _ (bc x.1.2 vb) EV.out 28 (Box.new W 28 (bc Bt.zero (.slice none 0 0))) (by kernel_rfl) rfl hone ?_; intro w2 hY hG)
    have hF2 : Fr [] W w2 := ((Fr.refl [] W).alloc _).step hG (by simp)
    exact hK _ _ ((hF2.keepsOthers (by simp)).from _) (hF2.below.mono hB.size) ⟨⟨h0.keep hF2, v, h1.keep hF2, h2.keep hF2⟩, hB.trans (hF2.below.mono hB.size)⟩
      ⟨W.heap.size, vb, by have := h1.lt; omega, EV.out, hb, hY, rfl⟩
  case body =>
    rintro l pre x a' W hl ⟨r, hr⟩ ⟨⟨h0, v, h1, h2⟩, hB⟩ ⟨Bx, vb, hBx, ev, hb, hbx, rfl⟩ hlt
    have hone : ∀ u ∈ (bc x.1.2 vb).toList, u.oneCell' = true := by
      obtain ⟨a, c, rfl⟩ := Sl.shape hb
      simp [bc, Value.oneCell']
    have hcall := CallsIn.inRound l ((callsIn_wide (n := 3)).2 (impAdd_any (w := W) (x := Bt.all (pre.map (·.1.2))) (y := x.1.2) ⟨v, rfl, h2.bytes⟩ ⟨vb, rfl, Sl.keep hb (Fr.ofBelow hB)⟩ (bt_all_len pre) x.2.2))
    gi_wp2_with (first | (refine wpListIn_load_row rfl 28 (.tmp 3) rfl (w.heap.size + 1) rfl 28 _ _ h1 Try.underlying28 rfl (by kernel_rfl) ?_) | (refine wpListIn_load_row rfl 28 (.tmp 4) rfl Bx rfl 28 _ _ hbx Try.underlying28 rfl (by kernel_rfl) ?_) | (refine ⟨trivial, ?_⟩; gi_at_call 20; refine hcall.mono ?_; rintro e W2 ⟨v', rfl, ⟨vo, rfl, hO⟩, hF2⟩) | (refine wpListIn_store_row rfl 28 (.tmp 3) (.tmp 9) rfl (w.heap.size + 1) rfl _ (bc ((Bt.all (pre.map (·.1.2))).add x.1.2) vo) rfl 28 (h1.keep hF2) (by kernel_rfl) rfl (by obtain ⟨a, c, rfl⟩ := Sl.shape hO.bytes; simp [bc, Value.oneCell']) ?_; intro W3 hY hG))
    have hF3 : Fr [w.heap.size + 1] W W3 := hF2.any.trans hG
    have hB3 : Below w.heap.size W W3 := hF3.belowOf (by simp) hB.size
    refine ⟨(hF3.keepsOthers (fun g hg o ho => ?_)).from _, hB3, ⟨(h0.fr hF3 (by simp)), vo, ?_, ?_⟩, hB.trans hB3⟩
    · simp at hg
      subst hg
      have hb1 := h1
      unfold Box at hb1
      rw [hb1] at ho; cases ho; rfl
    · rw [List.map_append, List.map_cons, List.map_nil, bt_all_snoc]; exact hY
    · rw [List.map_append, List.map_cons, List.map_nil, bt_all_snoc]
      exact (hO.fr hG (fun b hb hm => by have := (hO.block b hb).1; have := h1.lt; simp at hm; omega)).mono (by have := h1.lt; omega)
  case done =>
    rintro D ys W hD rfl ⟨⟨h0, v, h1, h2⟩, hB⟩ hK
    gi_wp2_with (first | (refine wpListIn_load_row rfl 28 (.tmp 3) rfl (w.heap.size + 1) rfl 28 _ _ h1 Try.underlying28 rfl (by kernel_rfl) ?_) | (refine wpListIn_store_row rfl 28 (.tmp 2) (.tmp 10) rfl w.heap.size rfl _ (bc (Bt.all (ys.map (·.1.2))) v) rfl 28 h0 (by kernel_rfl) rfl (by obtain ⟨a, c, rfl⟩ := Sl.shape h2.bytes; simp [bc, Value.oneCell']) ?_; intro W2 hY hG))
    have hDl : D < W.heap.size := (Array.getElem?_eq_some_iff.1 hK).1
    have hDn : D ≠ w.heap.size := by omega
    have hK2 : W2.heap[D]? = some (.deferred (some [])) := (hG.block D hDl (by simp; omega)).trans hK
    refine ⟨by simp, .inl ⟨_, _, rfl, run_takeDeferred hK2, ?_⟩⟩
    have hFD : Fr [D] W2 (W2.putObj D (.deferred none)) := Fr.ofGrown (grownBy_putObj' W2 D _)
    have hr0 : ∀ r, some D = some r → ∃ o : Obj, W2.heap[r]? = some o ∧ o.isCells = false := fun r e => by cases e; exact ⟨_, hK2, rfl⟩
    have hY2 := hY.other (grownBy_putObj' W2 D (.deferred none)) hr0
    have hO2 := (h2.fr hG (fun b hb hm => by have := (h2.block b hb).1; simp at hm; omega)).other (grownBy_putObj' W2 D (.deferred none)) hr0
    exact ⟨_, results_cell_row rfl _ _ w.heap.size 28 _ (0, 0) _ rfl hY2 Try.underlying28 rfl (by kernel_rfl), _, rfl, ⟨v, rfl, hO2.mono (by omega)⟩, ((Fr.ofBelow hB).step hG (fun g hg => .inr (by simp at hg; omega))).step hFD (fun g hg => .inr (by simp at hg; omega))⟩
  case stop =>
    rintro D c pre W _ _ h _
    exact h.elim
end Go.Proofs.Ytchbgiindfoepaa

/- The walk of imprint.Packet (printed by gen_imp5.py). -/
namespace Go.Proofs.Ytchbgiindfoepaa
open Go.RowKit

theorem ib_first (a : UInt8) : ib ((128 ||| (a.toNat &&& 63) : Nat) : Int) = 128 ||| (a &&& 63) := by
  have h : 128 ||| (a.toNat &&& 63) < 256 := Nat.or_lt_two_pow (n := 8) (by omega) (Nat.lt_of_le_of_lt Nat.and_le_left a.toNat_lt)
  rw [← UInt8.toNat_inj, UInt8.toNat_or, UInt8.toNat_and]
  unfold ib
  rw [UInt8.toNat_ofNat']
  show _ = 128 ||| (a.toNat &&& 63)
  omega
theorem ib_byte (a : UInt8) : ib ((a.toNat : Nat) : Int) = a := by
  rw [← UInt8.toNat_inj]
  unfold ib
  rw [UInt8.toNat_ofNat']
  have := a.toNat_lt
  omega
theorem or128' (m : Nat) (hm : m < 256) : bits .or .i64 128 (m : Int) = ((128 ||| m : Nat) : Int) := i64_or_nat 128 m (by omega) (by omega)
set_option maxRecDepth 100000 in
set_option maxHeartbeats 4000000 in
theorem impPacket_any {w : World} {v : Value} {x : Bt} (h : BtV w v x) (hl : x.body.length ≤ 1099511627776) (s : UInt16) (t : UInt32) :
    Calls Try.prog 23 #[v, .int .u16 (s.toNat : Nat), .int .u32 (t.toNat : Nat)] w fun e w' =>
      (∃ l v', x.pack s t = .ok l ∧ e = .returned (.tuple #[v', .int .i64 0]) ∧ OwnB w' w.heap.size v' l ∧ Fr [] w w') ∨
      (x.pack s t = .error 42 ∧ e = .returned (.tuple #[.slice none 0 0, .int .i64 42]) ∧ Fr [] w w') := by
  obtain ⟨a, c, rfl, hb⟩ := h.open_
  have hcap := (Sl.len hb).2.1
  have HGL : Hid (∀ k, liveOf (.slice a x.body.length c) = some k → k < w.heap.size) := Lib.hid (fun k hk => Sl.lt hb k hk)
  obtain ⟨w1, e1, hF1, hB1, hs1⟩ := one_new w (bc x (.slice a x.body.length c)) 28
  have HF := Lib.hid hF1; have HB := Lib.hid hB1; have HV := Lib.hid (h.keep hF1); have G := Lib.hid (Sl.keep hb hF1)
  have E1 := Lib.hid e1
  have hs1' := hs1
  have hlen := x.len_lt
  have hsl := s.toNat_lt; have htl := t.toNat_lt
  clear h hb hF1 hB1 e1 hs1
  go_enter Try.func23, Try.ntmps23
  go_upto_region 1 with (fail)
  rw [E1.out]
  clear E1
  go_wp2_with (refine wpList_load_row rfl 28 (.tmp 3) rfl w.heap.size rfl 28 _ _ _ HB.out Try.underlying28 rfl (by kernel_rfl) ?_)
  refine (impLength_any HV.out).mono ?_
  rintro e w2 ⟨rfl, hF⟩
  have HB := Lib.hid (HB.out.keep hF); have HF := Lib.hid (HF.out.trans hF); have G := Lib.hid (Sl.keep G.out hF)
  have hs2 := hF.size
  clear hF HV
  obtain ⟨x0, x1, x2, x3, x4, x5, x6, x7, x8⟩ := HB.out.bcells
  by_cases c1 : x.body.length < x.len
  · go_wp2_with fail
    go_ret2
    exact .inr ⟨by unfold Bt.pack; rw [if_pos (by omega)], rfl, HF.out⟩
  by_cases c2 : 1488 < x.len
  · go_wp2_with fail
    go_ret2
    exact .inr ⟨by unfold Bt.pack; rw [if_pos (by omega)], rfl, HF.out⟩
  have c3 : ¬ (x.body.length < x.len ∨ 1488 < x.len) := by omega
  have hpk : x.pack s t = match parseR (x.out s t) with | .ok _ => .ok (x.out s t) | .error _ => .error 42 := by unfold Bt.pack; rw [if_neg c3]; rfl
  have HPK := Lib.hid hpk
  clear hpk c3
  obtain ⟨w3, e3, hF3, hB3, hs3⟩ := one_new w2 #[.slice none 0 0] 115
  have HW3 : Hid (Wr w3 w2.heap.size (.slice none 0 0) (w2.heap.size + 1) []) := Lib.hid ⟨hB3, World.ownsRow_nil _ _ _ _, by omega, by omega⟩
  have HB := Lib.hid (HB.out.keep hF3); have HF := Lib.hid (HF.out.trans hF3); have G := Lib.hid (Sl.keep G.out hF3)
  have E3 := Lib.hid e3
  have HWS := Lib.hid (WS.start HW3.out)
  have hWl : w.heap.size < w2.heap.size := by omega
  clear hF3 hB3 e3 hs3
  go_upto_region 5 with (fail)
  rw [E3.out]
  clear E3 x0 x1 x2 x3 x4 x5 x6 x7 x8
  have h063 : x.h0.toNat &&& 63 < 256 := Nat.lt_of_le_of_lt Nat.and_le_left x.h0.toNat_lt
  have hor := or128' (x.h0.toNat &&& 63) h063
  have hand := u8_and63 x.h0
  rw [UInt8.toNat_and] at hand
  have hif := ib_first x.h0; have hi1 := ib_byte x.h1
  have HIF := Lib.hid hif; have HI1 := Lib.hid hi1
  have hx1 := x.h1.toNat_lt
  clear hif hi1
  generalize hh0 : x.h0.toNat = b0 at *
  generalize hh1 : x.h1.toNat = b1 at *
  have HH0 := Lib.hid hh0; have HH1 := Lib.hid hh1
  clear hh0 hh1
  obtain ⟨x0, x1, x2, x3, x4, x5, x6, x7, x8⟩ := (HB.out.fr HWS.out.fr (by simp [blockOf]; omega)).bcells
  rw [HH0.out] at x0
  rw [HH1.out] at x1
  go_wp2_with fail
  clear x0 x1 x2 x3 x4 x5 x6 x7 x8
  clear hor hand
  refine (wbyte_any HWS.out.wr ((128 ||| (b0 &&& 63) : Nat) : Int) (by simp [beN_len, Bt.head]; try omega)).mono ?_
  rintro e w4 ⟨v4, rfl, h⟩
  have HN := Lib.hid (HWS.out.trans h)
  clear h HWS
  have HWS := HN
  clear HN
  obtain ⟨x0, x1, x2, x3, x4, x5, x6, x7, x8⟩ := (HB.out.fr HWS.out.fr (by simp [blockOf]; omega)).bcells
  rw [HH0.out] at x0
  rw [HH1.out] at x1
  go_wp2_with fail
  clear x0 x1 x2 x3 x4 x5 x6 x7 x8
  refine (wbyte_any HWS.out.wr ((b1 : Nat) : Int) (by simp [beN_len, Bt.head]; try omega)).mono ?_
  rintro e w5 ⟨v5, rfl, h⟩
  have HN := Lib.hid (HWS.out.trans h)
  clear h HWS
  have HWS := HN
  clear HN
  obtain ⟨x0, x1, x2, x3, x4, x5, x6, x7, x8⟩ := (HB.out.fr HWS.out.fr (by simp [blockOf]; omega)).bcells
  rw [HH0.out] at x0
  rw [HH1.out] at x1
  go_wp2_with fail
  clear x0 x1 x2 x3 x4 x5 x6 x7 x8
  refine (wword_any HWS.out.wr s.toNat hsl (by simp [beN_len, Bt.head]; try omega)).mono ?_
  rintro e w6 ⟨v6, rfl, h⟩
  have HN := Lib.hid (HWS.out.trans h)
  clear h HWS
  have HWS := HN
  clear HN
  have HH4 : Hid (Bytes w6 (.slice (some ⟨w.heap.size, 2, none⟩) 4 6) [x.h2, x.h3, x.h4, x.h5]) := Lib.hid (box_sl (off := 2) (cap := 6) (HB.out.fr HWS.out.fr (by simp [blockOf]; omega)) ([x.h2, x.h3, x.h4, x.h5].map B8) (by
    intro i y hy
    have hl : i < 4 := (List.getElem?_eq_some_iff.1 hy).1
    match i, hl with
    | 0, _ | 1, _ | 2, _ | 3, _ => exact hy) (by simp) (by unfold maxLen; omega))
  obtain ⟨x0, x1, x2, x3, x4, x5, x6, x7, x8⟩ := (HB.out.fr HWS.out.fr (by simp [blockOf]; omega)).bcells
  rw [HH0.out] at x0
  rw [HH1.out] at x1
  go_wp2_with fail
  clear x0 x1 x2 x3 x4 x5 x6 x7 x8
  refine (wput_any HWS.out.wr HH4.out (by simp) (by simp [beN_len, Bt.head]; try omega)).mono ?_
  rintro e w7 ⟨v7, rfl, h⟩
  have HN := Lib.hid (HWS.out.trans h)
  clear h HWS
  have HWS := HN
  clear HN
  obtain ⟨x0, x1, x2, x3, x4, x5, x6, x7, x8⟩ := (HB.out.fr HWS.out.fr (by simp [blockOf]; omega)).bcells
  rw [HH0.out] at x0
  rw [HH1.out] at x1
  go_wp2_with fail
  clear x0 x1 x2 x3 x4 x5 x6 x7 x8
  refine (wlong_any HWS.out.wr t.toNat htl (by simp [beN_len, Bt.head]; try omega)).mono ?_
  rintro e w8 ⟨v8, rfl, h⟩
  have HN := Lib.hid (HWS.out.trans h)
  clear h HWS
  have HWS := HN
  clear HN
  have hsl1 : x.len ≤ c := by omega
  have HBD : Hid (Bytes w8 (.slice a x.len c) (x.body.take x.len)) := Lib.hid (by
    have h1 := Sl.frL G.out HWS.out.fr (fun k hk hm => by have := HGL.out k hk; simp [blockOf] at hm; omega)
    have h2 := Sl.pre h1 x.len c (by omega) (by omega) (Nat.le_refl _)
    unfold Bytes
    rwa [List.map_take])
  have hc2i : ((x.len : Nat) : Int) ≤ (c : Nat) := by omega
  obtain ⟨x0, x1, x2, x3, x4, x5, x6, x7, x8⟩ := (HB.out.fr HWS.out.fr (by simp [blockOf]; omega)).bcells
  rw [HH0.out] at x0
  rw [HH1.out] at x1
  go_wp2_with fail
  clear x0 x1 x2 x3 x4 x5 x6 x7 x8
  refine (wput_any HWS.out.wr HBD.out (by rw [List.length_take]; omega) (by simp [beN_len, Bt.head]; try omega)).mono ?_
  rintro e w9 ⟨v9, rfl, h⟩
  have HN := Lib.hid (HWS.out.trans h)
  clear h HWS
  have HWS := HN
  clear HN
  have HOUT : Hid ([] ++ [ib ((128 ||| (b0 &&& 63) : Nat) : Int)] ++ [ib ((b1 : Nat) : Int)] ++ beN s.toNat 2 ++ [x.h2, x.h3, x.h4, x.h5] ++ beN t.toNat 4 ++ x.body.take x.len = x.out s t) := Lib.hid (by
    rw [HIF.out, HI1.out]; unfold Bt.out; simp)
  rw [HOUT.out] at HWS
  have HOL : Hid ((x.out s t).length ≤ 1500) := Lib.hid (by unfold Bt.out; simp [beN_len]; omega)
  go_wp2_with fail
  refine (wdone_any HWS.out.wr (by have := HOL.out; omega)).mono ?_
  rintro e wa ⟨va, rfl, hO, hF⟩
  have HWS := Lib.hid (HWS.out.quiet hF); have HOA := Lib.hid hO.bytes
  clear hO hF
  go_wp2_with fail
  refine (Parse_any HOA.out).mono ?_
  rintro e wb (⟨vp, p, hp, rfl, hVp, hF⟩ | ⟨k, hp, rfl, hF⟩)
  rotate_left
  · have HP := Lib.hid hp
    have hk : (k != 0) = true := by simpa using parseR_err hp
    have HWS := Lib.hid (HWS.out.quiet hF)
    clear hp hF
    unfold pz
    go_upto_region 13 with (refine wpList_store_row rfl 88 (.tmp 10) (.tmp 50) rfl wb.heap.size rfl _ _ rfl 88 (Box.new wb 88 #[.bool false, .int .i64 0, .int .u16 0, .int .u32 0, .int .u32 0, .slice none 0 0, .bool false, .int .u16 0, .slice none 0 0, .slice none 0 0, .slice none 0 0]) (by kernel_rfl) rfl (oneCell_pz) ?_; intro wc hY hG; have hFn := ((Fr.refl [] wb).alloc _).step hG (by simp); have HFn := Lib.hid hFn; have HY := Lib.hid hY; clear hG hFn hY)
    have HWS := Lib.hid (HWS.out.quiet HFn.out)
    clear HFn HY
    go_wp2_with fail
    go_ret2
    exact .inr ⟨by rw [HPK.out, HP.out], rfl, HWS.out.outer HW3.out HF.out (by omega)⟩
  · have HP := Lib.hid hp
    obtain ⟨q1, k1, q2, k2, q3, k3, q4, k4, rfl, -, -, -, -⟩ := hVp.open_
    have HWS := Lib.hid (HWS.out.quiet hF)
    clear hp hF hVp
    go_upto_region 14 with (refine wpList_store_row rfl 88 (.tmp 10) (.tmp 50) rfl wb.heap.size rfl _ _ rfl 88 (Box.new wb 88 #[.bool false, .int .i64 0, .int .u16 0, .int .u32 0, .int .u32 0, .slice none 0 0, .bool false, .int .u16 0, .slice none 0 0, .slice none 0 0, .slice none 0 0]) (by kernel_rfl) rfl (oneCell_pc _ _ _ _ _ _ _ _ _ _ _ ⟨_, _, _, rfl⟩ ⟨_, _, _, rfl⟩ ⟨_, _, _, rfl⟩ ⟨_, _, _, rfl⟩) ?_; intro wc hY hG; have hFn := ((Fr.refl [] wb).alloc _).step hG (by simp); have HFn := Lib.hid hFn; have HY := Lib.hid hY; clear hG hFn hY)
    have HWS := Lib.hid (HWS.out.quiet HFn.out)
    have hszc := (HWS.out.outer HW3.out HF.out (by omega)).size
    clear HFn HY
    go_wp2_with fail
    refine (wdone_any HWS.out.wr (by have := HOL.out; omega)).mono ?_
    rintro e wd ⟨vd, rfl, hO, hF⟩
    have HWS := Lib.hid (HWS.out.quiet hF); have HOD := Lib.hid (hO.mono hszc)
    clear hO hF
    go_wp2_with fail
    go_ret2
    exact .inl ⟨_, _, by rw [HPK.out, HP.out], rfl, HOD.out, HWS.out.outer HW3.out HF.out (by omega)⟩
end Go.Proofs.Ytchbgiindfoepaa

/- The iterator of confluxlaw12.alive: 'yield(x) && yield(x2) && yield(x)'. -/
namespace Go.Proofs.Ytchbgiindfoepaa
open Go.RowKit Go.Shelf
attribute [local go_sem] Oper.semAt_some

set_option maxRecDepth 100000 in
set_option maxHeartbeats 4000000 in
theorem l12alive1_stops {w0 : World} (n : Nat) (hn : 1 ≤ n) (B1 B2 n₀ : Nat) (w : World) (c1 c2 : Array Value) (hb1 : Box w B1 28 c1) (hb2 : Box w B2 28 c2) (h1 : B1 < n₀) (h2 : B2 < n₀) (hs1 : c1.size = 9) (hs2 : c2.size = 9) (hn₀ : n₀ ≤ w.heap.size)
    (y1 y2 : BtAt w0) (e1 : y1.1.1 = .agg c1) (e2 : y2.1.1 = .agg c2) :
    SeqStopsK Fence.wide n Try.prog 53 #[.pointer (some ⟨B1, 0, none⟩), .pointer (some ⟨B2, 0, none⟩)] (fun x : BtAt w0 => #[x.1.1]) (Below n₀) (fun ys => ys = [y1, y2, y1]) (fun pre => pre <+: [y1, y2, y1]) 3 w := fun l J Jx W hW _ _ hY h0 => by
  have hbW := hW.mono hn₀
  have hB1 := Lib.hid (hb1.belowN hbW h1); have hB2 := Lib.hid (hb2.belowN hbW h2)
  have hi1 : (Try.prog.info? 28).map (·.size) = some c1.size := by rw [hs1]; kernel_rfl
  have hi2 : (Try.prog.info? 28).map (·.size) = some c2.size := by rw [hs2]; kernel_rfl
  have HI1 := Lib.hid hi1; have HI2 := Lib.hid hi2
  have HY := Lib.hid hY
  clear hi1 hi2 hb1 hb2 hs1 hs2 hbW hW hY
  show CallsIn _ _ _ _ #[.func (.yield l) #[] #[], .pointer (some ⟨B1, 0, none⟩), .pointer (some ⟨B2, 0, none⟩)] W _
  refine callsIn_of_wp Try.func53 rfl trivial ?_ rfl
  simp only [Try.ntmps53, List.size_toArray, List.length_cons, List.length_nil, Nat.reduceAdd, Nat.reduceSub, Array.replicate_succ, Array.replicate_zero, List.push_toArray, List.append_toArray, List.nil_append, List.cons_append]
  obtain ⟨fn, tmps, assign, body, hy, hR⟩ := HY.out [] y1 W h0 (by simp)
  try dsimp only at hy
  rw [e1] at hy
  gi_wp2_with (refine wpListIn_load_row_w rfl 28 (.tmp 1) rfl B1 rfl 28 _ _ hB1.out Try.underlying28 rfl HI1.out ?_)
  refine hR.mono ?_
  rintro e W1 (⟨rfl, hJ1, hk1⟩ | ⟨rfl, hJx1⟩)
  rotate_left
  · clear hy
    gi_wp2
    all_goals (refine ⟨fun _ h => (by cases h), ?_⟩)
    all_goals gi_wp2
    go_goals
    go_end0
    exact ⟨⟨_, rfl⟩, .inr ⟨_, ⟨[y2, y1], rfl⟩, hJx1⟩⟩
  clear hy hR
  have hB1 := Lib.hid (hB1.out.belowN hk1 h1); have hB2 := Lib.hid (hB2.out.belowN hk1 h2)
  obtain ⟨fn2, tmps2, assign2, body2, hy, hR⟩ := HY.out _ y2 W1 hJ1 (by simp)
  try dsimp only at hy
  rw [e2] at hy
  gi_wp2_with (refine wpListIn_load_row_w rfl 28 (.tmp 2) rfl B2 rfl 28 _ _ hB2.out Try.underlying28 rfl HI2.out ?_)
  refine hR.mono ?_
  rintro e W2 (⟨rfl, hJ2, hk2⟩ | ⟨rfl, hJx2⟩)
  rotate_left
  · clear hy
    gi_wp2
    all_goals (refine ⟨fun _ h => (by cases h), ?_⟩)
    all_goals gi_wp2
    go_goals
    go_end0
    exact ⟨⟨_, rfl⟩, .inr ⟨_, ⟨[y1], rfl⟩, hJx2⟩⟩
  clear hy hR
  have hB1 := Lib.hid (hB1.out.belowN hk2 h1)
  obtain ⟨fn3, tmps3, assign3, body3, hy, hR⟩ := HY.out _ y1 W2 hJ2 (by simp)
  try dsimp only at hy
  rw [e1] at hy
  gi_wp2_with (refine wpListIn_load_row_w rfl 28 (.tmp 1) rfl B1 rfl 28 _ _ hB1.out Try.underlying28 rfl HI1.out ?_)
  refine hR.mono ?_
  rintro e W3 (⟨rfl, hJ3, hk3⟩ | ⟨rfl, hJx3⟩)
  · clear hy
    gi_wp2
    go_end0
    exact ⟨⟨_, rfl⟩, .inl ⟨_, rfl, hJ3⟩⟩
  · clear hy
    gi_wp2
    go_end0
    exact ⟨⟨_, rfl⟩, .inr ⟨_, ⟨[], rfl⟩, hJx3⟩⟩
end Go.Proofs.Ytchbgiindfoepaa
