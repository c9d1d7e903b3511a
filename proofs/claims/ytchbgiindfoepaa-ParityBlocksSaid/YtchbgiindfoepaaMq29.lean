import Derived.Test.YtchbgiindfoepaaMq28
/- The walk of imprint.Fold, over whatever iterator of imprints. -/
namespace Go.Proofs.Ytchbgiindfoepaa
open Go.RowKit Go.Shelf
attribute [local go_sem] Oper.semAt_some

/-- An imprint that reads so in w. -/
def BtAt (w : World) : Type := { x : Value × Bt // BtV w x.1 x.2 ∧ x.2.body.length ≤ 1099511627776 }
theorem bt_all_len {w : World} (zs : List (BtAt w)) : (Bt.all (zs.map (·.1.2))).body.length ≤ 1099511627776 :=
  Bt.fold_small _ _ _ (by simp [Bt.zero]) (fun x hx => by obtain ⟨z, _, rfl⟩ := List.mem_map.1 hx; exact z.2.2)
theorem bt_all_snoc (xs : List Bt) (x : Bt) : Bt.all (xs ++ [x]) = (Bt.all xs).add x := by simp [Bt.all]

set_option maxRecDepth 100000 in
set_option maxHeartbeats 4000000 in
theorem impFold_any {w : World} {gf : Nat} {lb : Array Value} (zs : List (BtAt w)) {Sp : List (BtAt w) → Prop} {N : Nat}
    (hseq : ∀ w0, Below w.heap.size w w0 → SeqStopsK Fence.wide 5 Try.prog gf lb (fun x : BtAt w => #[x.1.1]) (Below w.heap.size) (fun ys => ys = zs) Sp N w0) (eg : ∀ args w, (callFunc gf args).run Try.prog w = .ok (.enter gf args) w) :
    Calls Try.prog 14 #[.func (.func gf) #[] lb] w fun e w' => ∃ v', e = .returned v' ∧ BtO w' w.heap.size v' (Bt.all (zs.map (·.1.2))) ∧ Fr [] w w' := by
  refine (callsIn_wide (n := 6)).1 ?_
  refine callsIn_of_wp_marks Try.func14 rfl trivial ?_ rfl
  simp only [Try.ntmps14, List.size_toArray, List.length_cons, List.length_nil, Nat.reduceAdd, Nat.reduceSub, Array.replicate_succ, Array.replicate_zero, List.push_toArray, List.append_toArray, List.nil_append, List.cons_append]
  obtain ⟨w1, e1, hF1, hB1, hB2, hs1⟩ := two_new w (bc Bt.zero (.slice none 0 0)) 28 (bc Bt.zero (.slice none 0 0)) 28
  have HB1 := Lib.hid hB1; have HB2 := Lib.hid hB2
  have HF1 := Lib.hid hF1
  have E1 := Lib.hid e1
  have hW1 := hs1
  clear hB1 hB2 hF1 hs1 e1
  gi_wp2
  first | rw [E1.out] | (have := E1.out; simp only [bc_zero] at this; rw [this]; clear this)
  clear E1
  refine wpIn_rangeFunc_ownH rfl (by omega) (gf := gf) (lb := lb) rfl trivial eg
    (hseq w1 HF1.out.below) belowK_t (belowK_b (by omega)) (Below.refl _ _) (fun _ => rfl)
    (fun pre W => (Box W w.heap.size 28 (bc Bt.zero (.slice none 0 0)) ∧ ∃ v, Box W (w.heap.size + 1) 28 (bc (Bt.all (pre.map (·.1.2))) v) ∧ OwnB W (w.heap.size + 2) v (Bt.all (pre.map (·.1.2))).body) ∧ Below w.heap.size w W)
    (fun _ _ _ => False)
    (OwnFrom.and (fun s A B row hs hg hr => by
      obtain ⟨h0, v, h1, h2⟩ := hs
      have hr' := fun r e => (hr r e).2
      exact ⟨h0.other hg hr', v, h1.other hg hr', h2.other hg hr'⟩) (ownFrom_below (Nat.le_refl _) (by omega)))
    (fun _ _ _ _ _ hs _ _ => hs)
    ⟨⟨HB1.out, _, HB2.out, World.ownsRow_nil _ _ _ _⟩, HF1.out.below⟩
    (fun x a' W => ∃ Bx vb, w.heap.size + 2 ≤ Bx ∧ x.1.1 = .agg (bc x.1.2 vb) ∧ Bytes w vb x.1.2.body ∧ Box W Bx 28 (bc x.1.2 vb) ∧ a' = { tmps := #[.func (.func gf) #[] lb, undef, .pointer (some ⟨w.heap.size, 0, none⟩), .pointer (some ⟨w.heap.size + 1, 0, none⟩), .pointer (some ⟨Bx, 0, none⟩), .func (.func gf) #[] lb, x.1.1, undef, undef, undef, undef], defers := [] })
    (fun x a' s A B row hs hg hr => by
      obtain ⟨Bx, vb, h1, h2, h3, h4, h5⟩ := hs
      exact ⟨Bx, vb, h1, h2, h3, h4.other hg (fun r e => (hr r e).2), h5⟩)
    ?assign ?body ?done ?stop
  case assign =>
    rintro l pre x W K ⟨⟨h0, v, h1, h2⟩, hB⟩ hK
    obtain ⟨vb, ev, hb⟩ := x.2.1
    have hone : ∀ u ∈ (bc x.1.2 vb).toList, u.oneCell' = true := by
      obtain ⟨a, c, rfl⟩ := Sl.shape hb
      simp [bc, Value.oneCell']
    have EV := Lib.hid ev
    clear ev
    gi_wp2_with (refine wpListIn_store_row rfl 28 (.tmp 4) (.tmp 6) rfl W.heap.size rfl _ (bc x.1.2 vb) EV.out 28 (Box.new W 28 (bc Bt.zero (.slice none 0 0))) (by kernel_rfl) rfl hone ?_; intro w2 hY hG)
    have hF2 : Fr [] W w2 := ((Fr.refl [] W).alloc _).step hG (by simp)
    exact hK _ _ ((hF2.keepsOthers (by simp)).from _) (hF2.below.mono hB.size) ⟨⟨h0.keep hF2, v, h1.keep hF2, h2.keep hF2⟩, hB.trans (hF2.below.mono hB.size)⟩
      ⟨W.heap.size, vb, by have := h1.lt; omega, EV.out, hb, hY, rfl⟩
  case body =>
    rintro l pre x a' W hl ⟨r, hr⟩ ⟨⟨h0, v, h1, h2⟩, hB⟩ ⟨Bx, vb, hBx, ev, hb, hbx, rfl⟩ hlt
    have hone : ∀ u ∈ (bc x.1.2 vb).toList, u.oneCell' = true := by
      obtain ⟨a, c, rfl⟩ := Sl.shape hb
      simp [bc, Value.oneCell']
    have hcall := CallsIn.inRound l ((callsIn_wide (n := 3)).2 (impAdd_any (w := W) (x := Bt.all (pre.map (·.1.2))) (y := x.1.2) ⟨v, rfl, h2.bytes⟩ ⟨vb, rfl, Sl.keep hb (Fr.ofBelow hB)⟩ (bt_all_len pre) x.2.2))
    gi_wp2_with (first | (refine wpListIn_load_row rfl 28 (.tmp 3) rfl (w.heap.size + 1) rfl 28 _ _ h1 Try.underlying28 rfl (by kernel_rfl) ?_) | (refine wpListIn_load_row rfl 28 (.tmp 4) rfl Bx rfl 28 _ _ hbx Try.underlying28 rfl (by kernel_rfl) ?_) | (refine ⟨trivial, ?_⟩; gi_at_call 20; refine hcall.mono ?_; rintro e W2 ⟨v', rfl, ⟨vo, rfl, hO⟩, hF2⟩) | (refine wpListIn_store_row rfl 28 (.tmp 3) (.tmp 9) rfl (w.heap.size + 1) rfl _ (bc ((Bt.all (pre.map (·.1.2))).add x.1.2) vo) rfl 28 (h1.keep hF2) (by kernel_rfl) rfl (by obtain ⟨a, c, rfl⟩ := Sl.shape hO.bytes; simp [bc, Value.oneCell']) ?_; intro W3 hY hG))
    have hF3 : Fr [w.heap.size + 1] W W3 := hF2.any.trans hG
    have hB3 : Below w.heap.size W W3 := hF3.belowOf (by simp) hB.size
    refine ⟨(hF3.keepsOthers (fun g hg o ho => ?_)).from _, hB3, ⟨(h0.fr hF3 (by simp)), vo, ?_, ?_⟩, hB.trans hB3⟩
    · simp at hg
      subst hg
      have hb1 := h1
      unfold Box at hb1
      rw [hb1] at ho; cases ho; rfl
    · rw [List.map_append, List.map_cons, List.map_nil, bt_all_snoc]; exact hY
    · rw [List.map_append, List.map_cons, List.map_nil, bt_all_snoc]
      exact (hO.fr hG (fun b hb hm => by have := (hO.block b hb).1; have := h1.lt; simp at hm; omega)).mono (by have := h1.lt; omega)
  case done =>
    rintro D ys W hD rfl ⟨⟨h0, v, h1, h2⟩, hB⟩ hK
    gi_wp2_with (first | (refine wpListIn_load_row rfl 28 (.tmp 3) rfl (w.heap.size + 1) rfl 28 _ _ h1 Try.underlying28 rfl (by kernel_rfl) ?_) | (refine wpListIn_store_row rfl 28 (.tmp 2) (.tmp 10) rfl w.heap.size rfl _ (bc (Bt.all (ys.map (·.1.2))) v) rfl 28 h0 (by kernel_rfl) rfl (by obtain ⟨a, c, rfl⟩ := Sl.shape h2.bytes; simp [bc, Value.oneCell']) ?_; intro W2 hY hG))
    have hDl : D < W.heap.size := (Array.getElem?_eq_some_iff.1 hK).1
    have hDn : D ≠ w.heap.size := by omega
    have hK2 : W2.heap[D]? = some (.deferred (some [])) := (hG.block D hDl (by simp; omega)).trans hK
    refine ⟨by simp, .inl ⟨_, _, rfl, run_takeDeferred hK2, ?_⟩⟩
    have hFD : Fr [D] W2 (W2.putObj D (.deferred none)) := Fr.ofGrown (grownBy_putObj' W2 D _)
    have hr0 : ∀ r, some D = some r → ∃ o : Obj, W2.heap[r]? = some o ∧ o.isCells = false := fun r e => by cases e; exact ⟨_, hK2, rfl⟩
    have hY2 := hY.other (grownBy_putObj' W2 D (.deferred none)) hr0
    have hO2 := (h2.fr hG (fun b hb hm => by have := (h2.block b hb).1; simp at hm; omega)).other (grownBy_putObj' W2 D (.deferred none)) hr0
    exact ⟨_, results_cell_row rfl _ _ w.heap.size 28 _ (0, 0) _ rfl hY2 Try.underlying28 rfl (by kernel_rfl), _, rfl, ⟨v, rfl, hO2.mono (by omega)⟩, ((Fr.ofBelow hB).step hG (fun g hg => .inr (by simp at hg; omega))).step hFD (fun g hg => .inr (by simp at hg; omega))⟩
  case stop =>
    rintro D c pre W _ _ h _
    exact h.elim
end Go.Proofs.Ytchbgiindfoepaa

/- The walk of confluxref12.Of (printed by gen_imp4.py). -/
namespace Go.Proofs.Ytchbgiindfoepaa
open Go.RowKit

theorem and63_mod (a : UInt8) : (a &&& 63).toNat = a.toNat % 64 := by
  rw [UInt8.toNat_and]
  exact Nat.and_two_pow_sub_one_eq_mod a.toNat 6
theorem imp_head {l : List UInt8} {n : Nat} (hn : l.length = n + 12) (hs : n ≤ 1488) : (imp l).head.map B8 = [.int .u8 (((l.getD 0 0).toNat : Int) % 64), .int .u8 ((l.getD 1 0).toNat : Nat), .int .u8 ((l.getD 4 0).toNat : Nat), .int .u8 ((l.getD 5 0).toNat : Nat), .int .u8 ((l.getD 6 0).toNat : Nat), .int .u8 ((l.getD 7 0).toNat : Nat), .int .u8 ((n : Int) / 256), .int .u8 ((n : Int) % 256)] := by
  have h1 : (UInt8.ofNat (n / 256)).toNat = n / 256 := by rw [UInt8.toNat_ofNat']; omega
  have h2 : (UInt8.ofNat n).toNat = n % 256 := by rw [UInt8.toNat_ofNat']
  unfold imp Bt.head B8
  simp only [hn, Nat.add_sub_cancel, List.map_cons, List.map_nil, h1, h2, and63_mod]
  rfl
set_option maxRecDepth 100000 in
set_option maxHeartbeats 4000000 in
theorem r12OfN_any {w : World} {v : Value} {l : List UInt8} (hl : Bytes w v l) :
    Calls Try.prog 72 #[v] w fun e w' =>
      (∃ v' p, parseR l = .ok p ∧ e = .returned (.tuple #[v', .int .i64 0]) ∧ RBN w' w.heap.size v' (imp l).head (imp l).body ∧ Fr [] w w') ∨
      (∃ v' k, parseR l = .error k ∧ e = .returned (.tuple #[v', .int .i64 k]) ∧ RBV w' v' (List.replicate 8 0) [] ∧ Fr [] w w') := by
  obtain ⟨av, cv, rfl⟩ := hl.shape
  simp only [List.length_map] at hl ⊢
  have HL := Lib.hid hl
  obtain ⟨iu8, hi1, hi2, hi3, hi4⟩ := info_parts info_u8
  have HI1 := Lib.hid hi1; have HI2 := Lib.hid hi2; have HI3 := Lib.hid hi3; have HI4 := Lib.hid hi4
  obtain ⟨w1, e1, hF1, hB1, hs1⟩ := one_new w #[.slice none 0 0, .slice none 0 0] 37
  have HF := Lib.hid hF1; have HR := Lib.hid hB1
  have E1 := Lib.hid e1
  have hs1' := hs1
  clear hl hF1 hB1 e1 hs1 hi1 hi2 hi3 hi4
  go_enter Try.func72, Try.ntmps72
  go_upto_region 1 with (fail)
  rw [E1.out]
  clear E1
  go_wp2_with fail
  refine (R5Parse_any (HL.out.keep HF.out)).mono ?_
  rintro e w2 (⟨vp, p, hp, rfl, hVp, hF⟩ | ⟨k, hp, rfl, hF⟩)
  rotate_left
  · have HP := Lib.hid hp
    have hk : (k != 0) = true := by simpa using parseR_err hp
    have HR := Lib.hid (HR.out.keep hF); have HF := Lib.hid (HF.out.trans hF)
    have hs2 := hF.size
    clear hp hF
    unfold pz
    go_upto_region 3 with (refine wpList_store_row rfl 88 (.tmp 4) (.tmp 10) rfl w2.heap.size rfl _ _ rfl 88 (Box.new w2 88 #[.bool false, .int .i64 0, .int .u16 0, .int .u32 0, .int .u32 0, .slice none 0 0, .bool false, .int .u16 0, .slice none 0 0, .slice none 0 0, .slice none 0 0]) (by kernel_rfl) rfl (oneCell_pz) ?_; intro w3 hY hG; have hFn := ((Fr.refl [] w2).alloc _).step hG (by simp); have HFn := Lib.hid hFn; have HY := Lib.hid hY; clear hG hFn hY)
    have HR := Lib.hid (HR.out.keep HFn.out); have HF := Lib.hid (HF.out.trans HFn.out)
    have hs3 := HFn.out.size
    clear HFn HY
    obtain ⟨w4, e4, hF4, hB4, hs4⟩ := one_new w3 (madeCells #[.int .u8 0] 8) 5
    rw [madeCells_one] at hB4
    have HB4 := Lib.hid hB4; have HR := Lib.hid (HR.out.keep hF4); have HF := Lib.hid (HF.out.trans hF4)
    have E4 := Lib.hid e4
    clear hF4 hB4 e4
    have hsw : w.heap.size < w3.heap.size := by omega
    go_wp2_with (first | (refine wpList_make_row _ rfl _ _ _ rfl 5 iu8 (.int .u8 0) Try.underlying25 HI1.out HI2.out HI3.out rfl .i64 .i64 8 rfl rfl (by rw [HI4.out]; omega) (by omega) ?_; rw [E4.out]; clear E4) | (refine wpList_store_row rfl 37 (.tmp 2) (.tmp 15) rfl w.heap.size rfl _ #[.slice (some ⟨w3.heap.size, 0, none⟩) 8 8, .slice none 0 0] rfl 37 HR.out (by kernel_rfl) rfl (by simp [Value.oneCell']) ?_; intro w5 hY hG))
    refine bodyPost_ret (results_row_1 rfl _ _ w.heap.size 37 _ _ rfl hY Try.underlying37 rfl (by kernel_rfl)) rfl (.inr ⟨_, k, HP.out, rfl, ⟨_, _, rfl, ?_, Sl.nil _⟩, HF.out.step hG (by simp)⟩)
    have hb : Box w5 w3.heap.size 5 (List.replicate 8 (.int .u8 0)).toArray := HB4.out.fr hG (by simp; omega)
    exact box_sl (off := 0) (cap := 8) hb ((List.replicate 8 (0 : UInt8)).map B8) (by intro i y hy; simpa [B8] using hy) (by simp) (by unfold maxLen; omega)
  · have HP := Lib.hid hp
    obtain ⟨h12, h15⟩ := parse_len hp
    obtain ⟨b, o, ea, hbl, -⟩ := HL.out.at_ (k := 0) (by omega)
    subst ea
    obtain ⟨q1, k1, q2, k2, q3, k3, q4, k4, rfl, -, -, -, -⟩ := hVp.open_
    have HR := Lib.hid (HR.out.keep hF); have HF := Lib.hid (HF.out.trans hF)
    have hs2 := hF.size
    clear hp hF hVp
    go_upto_region 4 with (refine wpList_store_row rfl 88 (.tmp 4) (.tmp 10) rfl w2.heap.size rfl _ _ rfl 88 (Box.new w2 88 #[.bool false, .int .i64 0, .int .u16 0, .int .u32 0, .int .u32 0, .slice none 0 0, .bool false, .int .u16 0, .slice none 0 0, .slice none 0 0, .slice none 0 0]) (by kernel_rfl) rfl (oneCell_pc _ _ _ _ _ _ _ _ _ _ _ ⟨_, _, _, rfl⟩ ⟨_, _, _, rfl⟩ ⟨_, _, _, rfl⟩ ⟨_, _, _, rfl⟩) ?_; intro w3 hY hG; have hFn := ((Fr.refl [] w2).alloc _).step hG (by simp); have HFn := Lib.hid hFn; have HY := Lib.hid hY; clear hG hFn hY)
    have HR := Lib.hid (HR.out.keep HFn.out); have HF := Lib.hid (HF.out.trans HFn.out)
    have hs3 := HFn.out.size
    clear HFn HY
    obtain ⟨n, hn⟩ : ∃ n, l.length = n + 12 := ⟨l.length - 12, by omega⟩
    have HN := Lib.hid hn
    have hn15 : n ≤ 1488 := by omega
    have hIH := imp_head hn hn15
    obtain ⟨d0, hd0⟩ : ∃ d, l.getD 0 0 = d := ⟨_, rfl⟩
    obtain ⟨d1, hd1⟩ : ∃ d, l.getD 1 0 = d := ⟨_, rfl⟩
    obtain ⟨d4, hd4⟩ : ∃ d, l.getD 4 0 = d := ⟨_, rfl⟩
    obtain ⟨d5, hd5⟩ : ∃ d, l.getD 5 0 = d := ⟨_, rfl⟩
    obtain ⟨d6, hd6⟩ : ∃ d, l.getD 6 0 = d := ⟨_, rfl⟩
    obtain ⟨d7, hd7⟩ : ∃ d, l.getD 7 0 = d := ⟨_, rfl⟩
    rw [hd0, hd1, hd4, hd5, hd6, hd7] at hIH
    have HIH := Lib.hid hIH
    have hF3d := (Fr.refl [] w3).drew
    have HB : Hid (Bytes w3.drew _ l) := Lib.hid ((HL.out.keep HF.out).keep hF3d); have HR := Lib.hid (HR.out.keep hF3d); have HF := Lib.hid (HF.out.trans hF3d)
    have hcl : n + 12 ≤ cv := by have := Sl.len HL.out; rw [hn] at this; exact this.2.1
    have c0 := HB.out.cell 0 (by omega)
    rw [hd0] at c0
    have c1 := HB.out.cell 1 (by omega)
    rw [hd1] at c1
    have c4 := HB.out.cell 4 (by omega)
    rw [hd4] at c4
    have c5 := HB.out.cell 5 (by omega)
    rw [hd5] at c5
    have c6 := HB.out.cell 6 (by omega)
    rw [hd6] at c6
    have c7 := HB.out.cell 7 (by omega)
    rw [hd7] at c7
    have HSS := Lib.hid (And.intro c0 (And.intro c1 (And.intro c4 (And.intro c5 (And.intro c6 c7)))))
    rw [hn] at HL HB ⊢
    obtain ⟨qP, hqP⟩ : ∃ q, (if cv = 12 then some (⟨b, o, none⟩ : Addr) else some ⟨b, o + 12, none⟩) = q := ⟨_, rfl⟩
    have HD : Hid (Bytes w3.drew (.slice qP n (cv - 12)) (l.drop 12)) := Lib.hid (by
      have := Sl.sub HB.out 12 n (by omega)
      simp only [Option.map_some, addr_add] at this
      rw [hqP] at this
      unfold Bytes
      rwa [← List.map_drop, List.take_of_length_le (by simp; omega)] at this)
    have HDL : Hid ((l.drop 12).length = n) := Lib.hid (by simp; omega)
    have hcv : 12 ≤ cv := by omega
    have hii : (12 : Int) ≤ (n : Int) + 12 := by omega
    have hi0 : (0 : Int) < (n : Int) + 12 := by omega
    have hi1 : (1 : Int) < (n : Int) + 12 := by omega
    have hi4 : (4 : Int) < (n : Int) + 12 := by omega
    have hi5 : (5 : Int) < (n : Int) + 12 := by omega
    have hi6 : (6 : Int) < (n : Int) + 12 := by omega
    have hi7 : (7 : Int) < (n : Int) + 12 := by omega
    clear hn h12 h15 c0 c1 c4 c5 c6 c7 hd0 hd1 hd4 hd5 hd6 hd7 hIH hF3d
    have hm0 : (d0.toNat : Int).tmod 64 = (d0.toNat : Int) % 64 := Int.tmod_eq_emod_of_nonneg (by omega)
    have hm1 : IntKind.i64.wrap ((n : Int) / 256) = (n : Int) / 256 := IntWalk.i64_in _ (by omega)
    have hm2 : IntKind.u8.wrap ((n : Int) / 256) = (n : Int) / 256 := by rw [IntKind.wrap_u8]; omega
    have hm3 : (n : Int).tmod 256 = (n : Int) % 256 := Int.tmod_eq_emod_of_nonneg (by omega)
    have hm4 : IntKind.u8.wrap ((n : Int) % 256) = (n : Int) % 256 := by rw [IntKind.wrap_u8]; omega
    go_upto_region 5 with (fail)
    refine wp_region_T (fun w' => w'.cell? ⟨b, o + 0, none⟩ = some (.int .u8 (d0.toNat : Nat)) ∧ w'.cell? ⟨b, o + 1, none⟩ = some (.int .u8 (d1.toNat : Nat)) ∧ w'.cell? ⟨b, o + 4, none⟩ = some (.int .u8 (d4.toNat : Nat)) ∧ w'.cell? ⟨b, o + 5, none⟩ = some (.int .u8 (d5.toNat : Nat)) ∧ w'.cell? ⟨b, o + 6, none⟩ = some (.int .u8 (d6.toNat : Nat)) ∧ w'.cell? ⟨b, o + 7, none⟩ = some (.int .u8 (d7.toNat : Nat))) [] 32 #[false, false, false, false, false, false, false, false, false, false, false, false, false, false, false, false, false, false, false, false, false, false, false, false, false, false, false, false, false, false, false, false] (by kernel_rfl) rfl rfl ?_
    generalize w3.drew = wd at *
    refine wpAnyT_load (i := 0) (v := ?_) rfl (by kernel_rfl) (by kernel_rfl) (by kernel_rfl) (by kernel_rfl) (by kernel_rfl) (fun _ _ _ h => h) HSS.out (by rfl) ?_ ?_
    rotate_left
    · intro w hSw; obtain ⟨z0, z1, z4, z5, z6, z7⟩ := hSw; rw [Nat.add_zero] at z0; go_simp; try with_reducible rfl
    simp only [Act.put, List.getElem_toArray, List.getElem_cons_zero, List.getElem_cons_succ, List.setIfInBounds_toArray, List.set_cons_zero, List.set_cons_succ]
    refine wpAnyT_load (i := 1) (v := ?_) rfl (by kernel_rfl) (by kernel_rfl) (by kernel_rfl) (by kernel_rfl) (by kernel_rfl) (fun _ _ _ h => h) HSS.out (by rfl) ?_ ?_
    rotate_left
    · intro w hSw; obtain ⟨z0, z1, z4, z5, z6, z7⟩ := hSw; rw [Nat.add_zero] at z0; go_simp; try with_reducible rfl
    simp only [Act.put, List.getElem_toArray, List.getElem_cons_zero, List.getElem_cons_succ, List.setIfInBounds_toArray, List.set_cons_zero, List.set_cons_succ]
    refine wpAnyT_load (i := 2) (v := ?_) rfl (by kernel_rfl) (by kernel_rfl) (by kernel_rfl) (by kernel_rfl) (by kernel_rfl) (fun _ _ _ h => h) HSS.out (by rfl) ?_ ?_
    rotate_left
    · intro w hSw; obtain ⟨z0, z1, z4, z5, z6, z7⟩ := hSw; rw [Nat.add_zero] at z0; go_simp; try with_reducible rfl
    simp only [Act.put, List.getElem_toArray, List.getElem_cons_zero, List.getElem_cons_succ, List.setIfInBounds_toArray, List.set_cons_zero, List.set_cons_succ]
    refine wpAnyT_load (i := 3) (v := ?_) rfl (by kernel_rfl) (by kernel_rfl) (by kernel_rfl) (by kernel_rfl) (by kernel_rfl) (fun _ _ _ h => h) HSS.out (by rfl) ?_ ?_
    rotate_left
    · intro w hSw; obtain ⟨z0, z1, z4, z5, z6, z7⟩ := hSw; rw [Nat.add_zero] at z0; go_simp; try with_reducible rfl
    simp only [Act.put, List.getElem_toArray, List.getElem_cons_zero, List.getElem_cons_succ, List.setIfInBounds_toArray, List.set_cons_zero, List.set_cons_succ]
    refine wpAnyT_load (i := 4) (v := ?_) rfl (by kernel_rfl) (by kernel_rfl) (by kernel_rfl) (by kernel_rfl) (by kernel_rfl) (fun _ _ _ h => h) HSS.out (by rfl) ?_ ?_
    rotate_left
    · intro w hSw; obtain ⟨z0, z1, z4, z5, z6, z7⟩ := hSw; rw [Nat.add_zero] at z0; go_simp; try with_reducible rfl
    simp only [Act.put, List.getElem_toArray, List.getElem_cons_zero, List.getElem_cons_succ, List.setIfInBounds_toArray, List.set_cons_zero, List.set_cons_succ]
    refine wpAnyT_load (i := 5) (v := ?_) rfl (by kernel_rfl) (by kernel_rfl) (by kernel_rfl) (by kernel_rfl) (by kernel_rfl) (fun _ _ _ h => h) HSS.out (by rfl) ?_ ?_
    rotate_left
    · intro w hSw; obtain ⟨z0, z1, z4, z5, z6, z7⟩ := hSw; rw [Nat.add_zero] at z0; go_simp; try with_reducible rfl
    simp only [Act.put, List.getElem_toArray, List.getElem_cons_zero, List.getElem_cons_succ, List.setIfInBounds_toArray, List.set_cons_zero, List.set_cons_succ]
    refine wpAnyT_load (i := 6) (v := ?_) rfl (by kernel_rfl) (by kernel_rfl) (by kernel_rfl) (by kernel_rfl) (by kernel_rfl) (fun _ _ _ h => h) HSS.out (by rfl) ?_ ?_
    rotate_left
    · intro w hSw; obtain ⟨z0, z1, z4, z5, z6, z7⟩ := hSw; rw [Nat.add_zero] at z0; go_simp; try with_reducible rfl
    simp only [Act.put, List.getElem_toArray, List.getElem_cons_zero, List.getElem_cons_succ, List.setIfInBounds_toArray, List.set_cons_zero, List.set_cons_succ]
    refine wpAnyT_load (i := 7) (v := ?_) rfl (by kernel_rfl) (by kernel_rfl) (by kernel_rfl) (by kernel_rfl) (by kernel_rfl) (fun _ _ _ h => h) HSS.out (by rfl) ?_ ?_
    rotate_left
    · intro w hSw; obtain ⟨z0, z1, z4, z5, z6, z7⟩ := hSw; rw [Nat.add_zero] at z0; go_simp; try with_reducible rfl
    simp only [Act.put, List.getElem_toArray, List.getElem_cons_zero, List.getElem_cons_succ, List.setIfInBounds_toArray, List.set_cons_zero, List.set_cons_succ]
    refine wpAnyT_load (i := 8) (v := ?_) rfl (by kernel_rfl) (by kernel_rfl) (by kernel_rfl) (by kernel_rfl) (by kernel_rfl) (fun _ _ _ h => h) HSS.out (by rfl) ?_ ?_
    rotate_left
    · intro w hSw; obtain ⟨z0, z1, z4, z5, z6, z7⟩ := hSw; rw [Nat.add_zero] at z0; go_simp; try with_reducible rfl
    simp only [Act.put, List.getElem_toArray, List.getElem_cons_zero, List.getElem_cons_succ, List.setIfInBounds_toArray, List.set_cons_zero, List.set_cons_succ]
    refine wpAnyT_load (i := 9) (v := ?_) rfl (by kernel_rfl) (by kernel_rfl) (by kernel_rfl) (by kernel_rfl) (by kernel_rfl) (fun _ _ _ h => h) HSS.out (by rfl) ?_ ?_
    rotate_left
    · intro w hSw; obtain ⟨z0, z1, z4, z5, z6, z7⟩ := hSw; rw [Nat.add_zero] at z0; go_simp; try with_reducible rfl
    simp only [Act.put, List.getElem_toArray, List.getElem_cons_zero, List.getElem_cons_succ, List.setIfInBounds_toArray, List.set_cons_zero, List.set_cons_succ]
    refine wpAnyT_load (i := 10) (v := ?_) rfl (by kernel_rfl) (by kernel_rfl) (by kernel_rfl) (by kernel_rfl) (by kernel_rfl) (fun _ _ _ h => h) HSS.out (by rfl) ?_ ?_
    rotate_left
    · intro w hSw; obtain ⟨z0, z1, z4, z5, z6, z7⟩ := hSw; rw [Nat.add_zero] at z0; go_simp; try with_reducible rfl
    simp only [Act.put, List.getElem_toArray, List.getElem_cons_zero, List.getElem_cons_succ, List.setIfInBounds_toArray, List.set_cons_zero, List.set_cons_succ]
    refine wpAnyT_load (i := 11) (v := ?_) rfl (by kernel_rfl) (by kernel_rfl) (by kernel_rfl) (by kernel_rfl) (by kernel_rfl) (fun _ _ _ h => h) HSS.out (by rfl) ?_ ?_
    rotate_left
    · intro w hSw; obtain ⟨z0, z1, z4, z5, z6, z7⟩ := hSw; rw [Nat.add_zero] at z0; go_simp; try with_reducible rfl
    simp only [Act.put, List.getElem_toArray, List.getElem_cons_zero, List.getElem_cons_succ, List.setIfInBounds_toArray, List.set_cons_zero, List.set_cons_succ]
    refine wpAnyT_load (i := 12) (v := ?_) rfl (by kernel_rfl) (by kernel_rfl) (by kernel_rfl) (by kernel_rfl) (by kernel_rfl) (fun _ _ _ h => h) HSS.out (by rfl) ?_ ?_
    rotate_left
    · intro w hSw; obtain ⟨z0, z1, z4, z5, z6, z7⟩ := hSw; rw [Nat.add_zero] at z0; go_simp; try with_reducible rfl
    simp only [Act.put, List.getElem_toArray, List.getElem_cons_zero, List.getElem_cons_succ, List.setIfInBounds_toArray, List.set_cons_zero, List.set_cons_succ]
    refine wpAnyT_load (i := 13) (v := ?_) rfl (by kernel_rfl) (by kernel_rfl) (by kernel_rfl) (by kernel_rfl) (by kernel_rfl) (fun _ _ _ h => h) HSS.out (by rfl) ?_ ?_
    rotate_left
    · intro w hSw; obtain ⟨z0, z1, z4, z5, z6, z7⟩ := hSw; rw [Nat.add_zero] at z0; go_simp; try with_reducible rfl
    simp only [Act.put, List.getElem_toArray, List.getElem_cons_zero, List.getElem_cons_succ, List.setIfInBounds_toArray, List.set_cons_zero, List.set_cons_succ]
    refine wpAnyT_load (i := 14) (v := ?_) rfl (by kernel_rfl) (by kernel_rfl) (by kernel_rfl) (by kernel_rfl) (by kernel_rfl) (fun _ _ _ h => h) HSS.out (by rfl) ?_ ?_
    rotate_left
    · intro w hSw; obtain ⟨z0, z1, z4, z5, z6, z7⟩ := hSw; rw [Nat.add_zero] at z0; go_simp; try with_reducible rfl
    simp only [Act.put, List.getElem_toArray, List.getElem_cons_zero, List.getElem_cons_succ, List.setIfInBounds_toArray, List.set_cons_zero, List.set_cons_succ]
    refine wpAnyT_load (i := 15) (v := ?_) rfl (by kernel_rfl) (by kernel_rfl) (by kernel_rfl) (by kernel_rfl) (by kernel_rfl) (fun _ _ _ h => h) HSS.out (by rfl) ?_ ?_
    rotate_left
    · intro w hSw; obtain ⟨z0, z1, z4, z5, z6, z7⟩ := hSw; rw [Nat.add_zero] at z0; go_simp; try with_reducible rfl
    simp only [Act.put, List.getElem_toArray, List.getElem_cons_zero, List.getElem_cons_succ, List.setIfInBounds_toArray, List.set_cons_zero, List.set_cons_succ]
    refine wpAnyT_load (i := 16) (v := ?_) rfl (by kernel_rfl) (by kernel_rfl) (by kernel_rfl) (by kernel_rfl) (by kernel_rfl) (fun _ _ _ h => h) HSS.out (by rfl) ?_ ?_
    rotate_left
    · intro w hSw; obtain ⟨z0, z1, z4, z5, z6, z7⟩ := hSw; rw [Nat.add_zero] at z0; go_simp; try with_reducible rfl
    simp only [Act.put, List.getElem_toArray, List.getElem_cons_zero, List.getElem_cons_succ, List.setIfInBounds_toArray, List.set_cons_zero, List.set_cons_succ]
    refine wpAnyT_load (i := 17) (v := ?_) rfl (by kernel_rfl) (by kernel_rfl) (by kernel_rfl) (by kernel_rfl) (by kernel_rfl) (fun _ _ _ h => h) HSS.out (by rfl) ?_ ?_
    rotate_left
    · intro w hSw; obtain ⟨z0, z1, z4, z5, z6, z7⟩ := hSw; rw [Nat.add_zero] at z0; go_simp; try with_reducible rfl
    simp only [Act.put, List.getElem_toArray, List.getElem_cons_zero, List.getElem_cons_succ, List.setIfInBounds_toArray, List.set_cons_zero, List.set_cons_succ]
    refine wpAnyT_load (i := 18) (v := ?_) rfl (by kernel_rfl) (by kernel_rfl) (by kernel_rfl) (by kernel_rfl) (by kernel_rfl) (fun _ _ _ h => h) HSS.out (by rfl) ?_ ?_
    rotate_left
    · intro w hSw; obtain ⟨z0, z1, z4, z5, z6, z7⟩ := hSw; rw [Nat.add_zero] at z0; go_simp; try with_reducible rfl
    simp only [Act.put, List.getElem_toArray, List.getElem_cons_zero, List.getElem_cons_succ, List.setIfInBounds_toArray, List.set_cons_zero, List.set_cons_succ]
    refine wpAnyT_load (i := 19) (v := ?_) rfl (by kernel_rfl) (by kernel_rfl) (by kernel_rfl) (by kernel_rfl) (by kernel_rfl) (fun _ _ _ h => h) HSS.out (by rfl) ?_ ?_
    rotate_left
    · intro w hSw; obtain ⟨z0, z1, z4, z5, z6, z7⟩ := hSw; rw [Nat.add_zero] at z0; go_simp; try with_reducible rfl
    simp only [Act.put, List.getElem_toArray, List.getElem_cons_zero, List.getElem_cons_succ, List.setIfInBounds_toArray, List.set_cons_zero, List.set_cons_succ]
    refine wpAnyT_load (i := 20) (v := ?_) rfl (by kernel_rfl) (by kernel_rfl) (by kernel_rfl) (by kernel_rfl) (by kernel_rfl) (fun _ _ _ h => h) HSS.out (by rfl) ?_ ?_
    rotate_left
    · intro w hSw; obtain ⟨z0, z1, z4, z5, z6, z7⟩ := hSw; rw [Nat.add_zero] at z0; go_simp; try with_reducible rfl
    simp only [Act.put, List.getElem_toArray, List.getElem_cons_zero, List.getElem_cons_succ, List.setIfInBounds_toArray, List.set_cons_zero, List.set_cons_succ]
    refine wpAnyT_load (i := 21) (v := ?_) rfl (by kernel_rfl) (by kernel_rfl) (by kernel_rfl) (by kernel_rfl) (by kernel_rfl) (fun _ _ _ h => h) HSS.out (by rfl) ?_ ?_
    rotate_left
    · intro w hSw; obtain ⟨z0, z1, z4, z5, z6, z7⟩ := hSw; rw [Nat.add_zero] at z0; go_simp; try with_reducible rfl
    simp only [Act.put, List.getElem_toArray, List.getElem_cons_zero, List.getElem_cons_succ, List.setIfInBounds_toArray, List.set_cons_zero, List.set_cons_succ]
    refine wpAnyT_load (i := 22) (v := ?_) rfl (by kernel_rfl) (by kernel_rfl) (by kernel_rfl) (by kernel_rfl) (by kernel_rfl) (fun _ _ _ h => h) HSS.out (by rfl) ?_ ?_
    rotate_left
    · intro w hSw; obtain ⟨z0, z1, z4, z5, z6, z7⟩ := hSw; rw [Nat.add_zero] at z0; go_simp; try with_reducible rfl
    simp only [Act.put, List.getElem_toArray, List.getElem_cons_zero, List.getElem_cons_succ, List.setIfInBounds_toArray, List.set_cons_zero, List.set_cons_succ]
    refine wpAnyT_load (i := 23) (v := ?_) rfl (by kernel_rfl) (by kernel_rfl) (by kernel_rfl) (by kernel_rfl) (by kernel_rfl) (fun _ _ _ h => h) HSS.out (by rfl) ?_ ?_
    rotate_left
    · intro w hSw; obtain ⟨z0, z1, z4, z5, z6, z7⟩ := hSw; rw [Nat.add_zero] at z0; go_simp; try with_reducible rfl
    simp only [Act.put, List.getElem_toArray, List.getElem_cons_zero, List.getElem_cons_succ, List.setIfInBounds_toArray, List.set_cons_zero, List.set_cons_succ]
    refine wpAnyT_load (i := 24) (v := ?_) rfl (by kernel_rfl) (by kernel_rfl) (by kernel_rfl) (by kernel_rfl) (by kernel_rfl) (fun _ _ _ h => h) HSS.out (by rfl) ?_ ?_
    rotate_left
    · intro w hSw; obtain ⟨z0, z1, z4, z5, z6, z7⟩ := hSw; rw [Nat.add_zero] at z0; go_simp; try with_reducible rfl
    simp only [Act.put, List.getElem_toArray, List.getElem_cons_zero, List.getElem_cons_succ, List.setIfInBounds_toArray, List.set_cons_zero, List.set_cons_succ]
    refine wpAnyT_load (i := 26) (v := ?_) rfl (by kernel_rfl) (by kernel_rfl) (by kernel_rfl) (by kernel_rfl) (by kernel_rfl) (fun _ _ _ h => h) HSS.out (by rfl) ?_ ?_
    rotate_left
    · intro w hSw; obtain ⟨z0, z1, z4, z5, z6, z7⟩ := hSw; rw [Nat.add_zero] at z0; go_simp; try with_reducible rfl
    simp only [Act.put, List.getElem_toArray, List.getElem_cons_zero, List.getElem_cons_succ, List.setIfInBounds_toArray, List.set_cons_zero, List.set_cons_succ]
    refine wpAnyT_load (i := 27) (v := ?_) rfl (by kernel_rfl) (by kernel_rfl) (by kernel_rfl) (by kernel_rfl) (by kernel_rfl) (fun _ _ _ h => h) HSS.out (by rfl) ?_ ?_
    rotate_left
    · intro w hSw; obtain ⟨z0, z1, z4, z5, z6, z7⟩ := hSw; rw [Nat.add_zero] at z0; go_simp; try with_reducible rfl
    simp only [Act.put, List.getElem_toArray, List.getElem_cons_zero, List.getElem_cons_succ, List.setIfInBounds_toArray, List.set_cons_zero, List.set_cons_succ]
    refine wpAnyT_two (i := 25) (j := 28) (by kernel_rfl) rfl rfl (fun K hK => ?_) (fun K hK => ?_)
    · rw [if_pos (by rfl)]
      go_simp
      obtain ⟨wb, eb, hF, hBb, hsb⟩ := one_new wd [.int .u8 ((d0.toNat : Int) % 64), .int .u8 (d1.toNat : Nat), .int .u8 (d4.toNat : Nat), .int .u8 (d5.toNat : Nat), .int .u8 (d6.toNat : Nat), .int .u8 (d7.toNat : Nat), .int .u8 ((n : Int) / 256), .int .u8 ((n : Int) % 256)].toArray 5
      have HBB : Hid (Bytes wb (.slice (some ⟨wd.heap.size, 0, none⟩) 8 8) (imp l).head) := Lib.hid (by unfold Bytes; rw [HIH.out]; exact box_sl (off := 0) (cap := 8) hBb _ (by intro i y hy; simpa using hy) (by simp) (by unfold maxLen; omega))
      have HBL : Hid (w.heap.size < wd.heap.size) := Lib.hid (by have := HR.out.lt; omega)
      have HSS := Lib.hid (by have h := HSS.out; exact ⟨hF.cellSome h.1 (by simp), hF.cellSome h.2.1 (by simp), hF.cellSome h.2.2.1 (by simp), hF.cellSome h.2.2.2.1 (by simp), hF.cellSome h.2.2.2.2.1 (by simp), hF.cellSome h.2.2.2.2.2 (by simp)⟩ : Hid (wb.cell? ⟨b, o + 0, none⟩ = some (.int .u8 (d0.toNat : Nat)) ∧ wb.cell? ⟨b, o + 1, none⟩ = some (.int .u8 (d1.toNat : Nat)) ∧ wb.cell? ⟨b, o + 4, none⟩ = some (.int .u8 (d4.toNat : Nat)) ∧ wb.cell? ⟨b, o + 5, none⟩ = some (.int .u8 (d5.toNat : Nat)) ∧ wb.cell? ⟨b, o + 6, none⟩ = some (.int .u8 (d6.toNat : Nat)) ∧ wb.cell? ⟨b, o + 7, none⟩ = some (.int .u8 (d7.toNat : Nat))))
      have HR := Lib.hid (HR.out.keep hF); have HF := Lib.hid (HF.out.trans hF); have HD := Lib.hid (HD.out.keep hF)
      clear hBb hsb hF
      try rw [eb]
      clear eb
      refine hK.out _ _ (fun _ => HSS.out) ?_
      clear hK K
      simp only [Act.put, List.getElem_toArray, List.getElem_cons_zero, List.getElem_cons_succ, List.setIfInBounds_toArray, List.set_cons_zero, List.set_cons_succ]
      refine wpAnyT_one (i := 28) (by kernel_rfl) rfl (fun K hK => ?_)
      rw [if_pos (by rfl)]
      go_simp
      refine (RCopy_any HD.out (by rw [HDL.out]; omega)).mono ?_
      rintro e wc ⟨vc, rfl, hO, hF⟩
      obtain ⟨ac, nc, cc, rfl⟩ := hO.isSlice
      have HCP := Lib.hid hO.bytes
      have HCL : Hid (∀ k, liveOf (.slice ac nc cc) = some k → w.heap.size < k) := Lib.hid (fun k hk => by have h1 := hO.block k (live_block hk); have := HR.out.lt; omega)
      have HSS := Lib.hid (by have h := HSS.out; exact ⟨hF.cellSome h.1 (by simp), hF.cellSome h.2.1 (by simp), hF.cellSome h.2.2.1 (by simp), hF.cellSome h.2.2.2.1 (by simp), hF.cellSome h.2.2.2.2.1 (by simp), hF.cellSome h.2.2.2.2.2 (by simp)⟩ : Hid (wc.cell? ⟨b, o + 0, none⟩ = some (.int .u8 (d0.toNat : Nat)) ∧ wc.cell? ⟨b, o + 1, none⟩ = some (.int .u8 (d1.toNat : Nat)) ∧ wc.cell? ⟨b, o + 4, none⟩ = some (.int .u8 (d4.toNat : Nat)) ∧ wc.cell? ⟨b, o + 5, none⟩ = some (.int .u8 (d5.toNat : Nat)) ∧ wc.cell? ⟨b, o + 6, none⟩ = some (.int .u8 (d6.toNat : Nat)) ∧ wc.cell? ⟨b, o + 7, none⟩ = some (.int .u8 (d7.toNat : Nat))))
      have HR := Lib.hid (HR.out.keep hF); have HF := Lib.hid (HF.out.trans hF); have HD := Lib.hid (HD.out.keep hF)
      have HBB := Lib.hid (HBB.out.keep hF)
      clear hO hF
      go_simp
      refine hK.out _ _ (fun _ => HSS.out) ?_
      clear hK K
      simp only [Act.put, List.getElem_toArray, List.getElem_cons_zero, List.getElem_cons_succ, List.setIfInBounds_toArray, List.set_cons_zero, List.set_cons_succ]
      refine wpAnyT_load (i := 29) (v := ?_) rfl (by kernel_rfl) (by kernel_rfl) (by kernel_rfl) (by kernel_rfl) (by kernel_rfl) (fun _ _ _ h => h) HSS.out (by rfl) ?_ ?_
      rotate_left
      · intro w hSw; obtain ⟨z0, z1, z4, z5, z6, z7⟩ := hSw; rw [Nat.add_zero] at z0; go_simp; try with_reducible rfl
      simp only [Act.put, List.getElem_toArray, List.getElem_cons_zero, List.getElem_cons_succ, List.setIfInBounds_toArray, List.set_cons_zero, List.set_cons_succ]
      refine wpAnyT_one (i := 30) (by kernel_rfl) rfl (fun K hK => ?_)
      refine wp_store_row rfl 37 (.tmp 2) (.tmp 49) rfl w.heap.size rfl _ _ rfl 37 HR.out (by kernel_rfl) rfl (by simp [Value.oneCell']) ?_
      intro ws hY hF
      have HSS := Lib.hid (by have h := HSS.out; exact ⟨hF.cellSome h.1 (by simp; omega), hF.cellSome h.2.1 (by simp; omega), hF.cellSome h.2.2.1 (by simp; omega), hF.cellSome h.2.2.2.1 (by simp; omega), hF.cellSome h.2.2.2.2.1 (by simp; omega), hF.cellSome h.2.2.2.2.2 (by simp; omega)⟩ : Hid (ws.cell? ⟨b, o + 0, none⟩ = some (.int .u8 (d0.toNat : Nat)) ∧ ws.cell? ⟨b, o + 1, none⟩ = some (.int .u8 (d1.toNat : Nat)) ∧ ws.cell? ⟨b, o + 4, none⟩ = some (.int .u8 (d4.toNat : Nat)) ∧ ws.cell? ⟨b, o + 5, none⟩ = some (.int .u8 (d5.toNat : Nat)) ∧ ws.cell? ⟨b, o + 6, none⟩ = some (.int .u8 (d6.toNat : Nat)) ∧ ws.cell? ⟨b, o + 7, none⟩ = some (.int .u8 (d7.toNat : Nat))))
      refine hK.out _ _ (fun _ => HSS.out) ?_
      clear hK K
      simp only [Act.put, List.getElem_toArray, List.getElem_cons_zero, List.getElem_cons_succ, List.setIfInBounds_toArray, List.set_cons_zero, List.set_cons_succ]
      refine wpAnyT_load (i := 31) (v := ?_) rfl (by kernel_rfl) (by kernel_rfl) (by kernel_rfl) (by kernel_rfl) (by kernel_rfl) (fun _ _ _ h => h) HSS.out (by rfl) ?_ ?_
      rotate_left
      · intro w hSw; obtain ⟨z0, z1, z4, z5, z6, z7⟩ := hSw; rw [Nat.add_zero] at z0; go_simp; try with_reducible rfl
      simp only [Act.put, List.getElem_toArray, List.getElem_cons_zero, List.getElem_cons_succ, List.setIfInBounds_toArray, List.set_cons_zero, List.set_cons_succ]
      refine wpAnyT_done (by kernel_rfl) ?_ _
      go_wp2_with fail
      refine bodyPost_ret (results_row_1 rfl _ _ w.heap.size 37 _ _ rfl hY Try.underlying37 rfl (by kernel_rfl)) rfl (.inl ⟨_, p, HP.out, rfl, ⟨_, _, rfl, ?_, ?_, fun k hk => by rcases hk with hk | hk; (· simp [liveOf] at hk; have := HBL.out; omega); exact HCL.out k hk⟩, HF.out.step hF (by simp)⟩)
      · exact Sl.frL HBB.out hF (fun k hk hm => by simp [liveOf] at hk; have := HBL.out; simp at hm; omega)
      · exact Sl.frL HCP.out hF (fun k hk hm => by have := HCL.out k hk; simp at hm; omega)
    · rw [if_pos (by rfl)]
      go_simp
      refine (RCopy_any HD.out (by rw [HDL.out]; omega)).mono ?_
      rintro e wc ⟨vc, rfl, hO, hF⟩
      obtain ⟨ac, nc, cc, rfl⟩ := hO.isSlice
      have HCP := Lib.hid hO.bytes
      have HCL : Hid (∀ k, liveOf (.slice ac nc cc) = some k → w.heap.size < k) := Lib.hid (fun k hk => by have h1 := hO.block k (live_block hk); have := HR.out.lt; omega)
      have HSS := Lib.hid (by have h := HSS.out; exact ⟨hF.cellSome h.1 (by simp), hF.cellSome h.2.1 (by simp), hF.cellSome h.2.2.1 (by simp), hF.cellSome h.2.2.2.1 (by simp), hF.cellSome h.2.2.2.2.1 (by simp), hF.cellSome h.2.2.2.2.2 (by simp)⟩ : Hid (wc.cell? ⟨b, o + 0, none⟩ = some (.int .u8 (d0.toNat : Nat)) ∧ wc.cell? ⟨b, o + 1, none⟩ = some (.int .u8 (d1.toNat : Nat)) ∧ wc.cell? ⟨b, o + 4, none⟩ = some (.int .u8 (d4.toNat : Nat)) ∧ wc.cell? ⟨b, o + 5, none⟩ = some (.int .u8 (d5.toNat : Nat)) ∧ wc.cell? ⟨b, o + 6, none⟩ = some (.int .u8 (d6.toNat : Nat)) ∧ wc.cell? ⟨b, o + 7, none⟩ = some (.int .u8 (d7.toNat : Nat))))
      have HR := Lib.hid (HR.out.keep hF); have HF := Lib.hid (HF.out.trans hF); have HD := Lib.hid (HD.out.keep hF)
      clear hO hF
      go_simp
      refine hK.out _ _ (fun _ => HSS.out) ?_
      clear hK K
      simp only [Act.put, List.getElem_toArray, List.getElem_cons_zero, List.getElem_cons_succ, List.setIfInBounds_toArray, List.set_cons_zero, List.set_cons_succ]
      refine wpAnyT_one (i := 25) (by kernel_rfl) rfl (fun K hK => ?_)
      rw [if_pos (by rfl)]
      go_simp
      obtain ⟨wb, eb, hF, hBb, hsb⟩ := one_new wc [.int .u8 ((d0.toNat : Int) % 64), .int .u8 (d1.toNat : Nat), .int .u8 (d4.toNat : Nat), .int .u8 (d5.toNat : Nat), .int .u8 (d6.toNat : Nat), .int .u8 (d7.toNat : Nat), .int .u8 ((n : Int) / 256), .int .u8 ((n : Int) % 256)].toArray 5
      have HBB : Hid (Bytes wb (.slice (some ⟨wc.heap.size, 0, none⟩) 8 8) (imp l).head) := Lib.hid (by unfold Bytes; rw [HIH.out]; exact box_sl (off := 0) (cap := 8) hBb _ (by intro i y hy; simpa using hy) (by simp) (by unfold maxLen; omega))
      have HBL : Hid (w.heap.size < wc.heap.size) := Lib.hid (by have := HR.out.lt; omega)
      have HSS := Lib.hid (by have h := HSS.out; exact ⟨hF.cellSome h.1 (by simp), hF.cellSome h.2.1 (by simp), hF.cellSome h.2.2.1 (by simp), hF.cellSome h.2.2.2.1 (by simp), hF.cellSome h.2.2.2.2.1 (by simp), hF.cellSome h.2.2.2.2.2 (by simp)⟩ : Hid (wb.cell? ⟨b, o + 0, none⟩ = some (.int .u8 (d0.toNat : Nat)) ∧ wb.cell? ⟨b, o + 1, none⟩ = some (.int .u8 (d1.toNat : Nat)) ∧ wb.cell? ⟨b, o + 4, none⟩ = some (.int .u8 (d4.toNat : Nat)) ∧ wb.cell? ⟨b, o + 5, none⟩ = some (.int .u8 (d5.toNat : Nat)) ∧ wb.cell? ⟨b, o + 6, none⟩ = some (.int .u8 (d6.toNat : Nat)) ∧ wb.cell? ⟨b, o + 7, none⟩ = some (.int .u8 (d7.toNat : Nat))))
      have HR := Lib.hid (HR.out.keep hF); have HF := Lib.hid (HF.out.trans hF); have HD := Lib.hid (HD.out.keep hF)
      have HCP := Lib.hid (HCP.out.keep hF)
      clear hBb hsb hF
      try rw [eb]
      clear eb
      refine hK.out _ _ (fun _ => HSS.out) ?_
      clear hK K
      simp only [Act.put, List.getElem_toArray, List.getElem_cons_zero, List.getElem_cons_succ, List.setIfInBounds_toArray, List.set_cons_zero, List.set_cons_succ]
      refine wpAnyT_load (i := 29) (v := ?_) rfl (by kernel_rfl) (by kernel_rfl) (by kernel_rfl) (by kernel_rfl) (by kernel_rfl) (fun _ _ _ h => h) HSS.out (by rfl) ?_ ?_
      rotate_left
      · intro w hSw; obtain ⟨z0, z1, z4, z5, z6, z7⟩ := hSw; rw [Nat.add_zero] at z0; go_simp; try with_reducible rfl
      simp only [Act.put, List.getElem_toArray, List.getElem_cons_zero, List.getElem_cons_succ, List.setIfInBounds_toArray, List.set_cons_zero, List.set_cons_succ]
      refine wpAnyT_one (i := 30) (by kernel_rfl) rfl (fun K hK => ?_)
      refine wp_store_row rfl 37 (.tmp 2) (.tmp 49) rfl w.heap.size rfl _ _ rfl 37 HR.out (by kernel_rfl) rfl (by simp [Value.oneCell']) ?_
      intro ws hY hF
      have HSS := Lib.hid (by have h := HSS.out; exact ⟨hF.cellSome h.1 (by simp; omega), hF.cellSome h.2.1 (by simp; omega), hF.cellSome h.2.2.1 (by simp; omega), hF.cellSome h.2.2.2.1 (by simp; omega), hF.cellSome h.2.2.2.2.1 (by simp; omega), hF.cellSome h.2.2.2.2.2 (by simp; omega)⟩ : Hid (ws.cell? ⟨b, o + 0, none⟩ = some (.int .u8 (d0.toNat : Nat)) ∧ ws.cell? ⟨b, o + 1, none⟩ = some (.int .u8 (d1.toNat : Nat)) ∧ ws.cell? ⟨b, o + 4, none⟩ = some (.int .u8 (d4.toNat : Nat)) ∧ ws.cell? ⟨b, o + 5, none⟩ = some (.int .u8 (d5.toNat : Nat)) ∧ ws.cell? ⟨b, o + 6, none⟩ = some (.int .u8 (d6.toNat : Nat)) ∧ ws.cell? ⟨b, o + 7, none⟩ = some (.int .u8 (d7.toNat : Nat))))
      refine hK.out _ _ (fun _ => HSS.out) ?_
      clear hK K
      simp only [Act.put, List.getElem_toArray, List.getElem_cons_zero, List.getElem_cons_succ, List.setIfInBounds_toArray, List.set_cons_zero, List.set_cons_succ]
      refine wpAnyT_load (i := 31) (v := ?_) rfl (by kernel_rfl) (by kernel_rfl) (by kernel_rfl) (by kernel_rfl) (by kernel_rfl) (fun _ _ _ h => h) HSS.out (by rfl) ?_ ?_
      rotate_left
      · intro w hSw; obtain ⟨z0, z1, z4, z5, z6, z7⟩ := hSw; rw [Nat.add_zero] at z0; go_simp; try with_reducible rfl
      simp only [Act.put, List.getElem_toArray, List.getElem_cons_zero, List.getElem_cons_succ, List.setIfInBounds_toArray, List.set_cons_zero, List.set_cons_succ]
      refine wpAnyT_done (by kernel_rfl) ?_ _
      go_wp2_with fail
      refine bodyPost_ret (results_row_1 rfl _ _ w.heap.size 37 _ _ rfl hY Try.underlying37 rfl (by kernel_rfl)) rfl (.inl ⟨_, p, HP.out, rfl, ⟨_, _, rfl, ?_, ?_, fun k hk => by rcases hk with hk | hk; (· simp [liveOf] at hk; have := HBL.out; omega); exact HCL.out k hk⟩, HF.out.step hF (by simp)⟩)
      · exact Sl.frL HBB.out hF (fun k hk hm => by simp [liveOf] at hk; have := HBL.out; simp at hm; omega)
      · exact Sl.frL HCP.out hF (fun k hk hm => by have := HCL.out k hk; simp at hm; omega)
theorem r12Of_any {w : World} {v : Value} {l : List UInt8} (hl : Bytes w v l) :
    Calls Try.prog 72 #[v] w fun e w' =>
      (∃ v' p, parseR l = .ok p ∧ e = .returned (.tuple #[v', .int .i64 0]) ∧ RBV w' v' (imp l).head (imp l).body ∧ Fr [] w w') ∨
      (∃ v' k, parseR l = .error k ∧ e = .returned (.tuple #[v', .int .i64 k]) ∧ RBV w' v' (List.replicate 8 0) [] ∧ Fr [] w w') := by
  refine (r12OfN_any hl).mono ?_
  rintro e w' (⟨v', p, h1, h2, h3, h4⟩ | h)
  · exact .inl ⟨v', p, h1, h2, h3.rbv, h4⟩
  · exact .inr h
end Go.Proofs.Ytchbgiindfoepaa
