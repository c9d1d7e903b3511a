/- The walks of imprint.Add and Of (printed by gen_imp3.py). -/
import Derived.Test.YtchbgiindfoepaaImp2
namespace Go.Proofs.Ytchbgiindfoepaa
open Go.RowKit

theorem bc_list (x : Bt) (v : Value) : bc x v = (x.head.map B8 ++ [v]).toArray := rfl
theorem head8 (x : Bt) {l : List UInt8} (h : l = x.head) (v : Value) (y : Bt) (b : List UInt8) (hb : b = y.body) : (splice ((Bt.zero).head.map B8 ++ [v]) 0 (l.map B8)).toArray = bc { x with body := b } v := by
  subst h
  simp [splice, bc, Bt.head, B8, Bt.zero]

set_option maxRecDepth 100000 in
set_option maxHeartbeats 4000000 in
theorem impAdd_any {w : World} {v1 v2 : Value} {x y : Bt} (h1 : BtV w v1 x) (h2 : BtV w v2 y) (hl1 : x.body.length ≤ 1099511627776) (hl2 : y.body.length ≤ 1099511627776) :
    Calls Try.prog 20 #[v1, v2] w fun e w' => ∃ v', e = .returned v' ∧ BtO w' w.heap.size v' (x.add y) ∧ Fr [] w w' := by
  obtain ⟨a, c, rfl, hb⟩ := h1.open_
  obtain ⟨a2, c2, rfl, hb2⟩ := h2.open_
  obtain ⟨w0, e0, hF0, hB1, hB2, hs0⟩ := two_new w (bc x (.slice a x.body.length c)) 28 (bc y (.slice a2 y.body.length c2)) 28
  obtain ⟨w1, e1, hF1, hB3, hs1⟩ := one_new w0 (bc Bt.zero (.slice none 0 0)) 28
  rw [hs0] at hB3
  have hF01 := hF0.trans hF1
  have HF := Lib.hid hF01; have HB1 := Lib.hid (hB1.keep hF1); have HB2 := Lib.hid (hB2.keep hF1); have HR := Lib.hid hB3
  have G1 := Lib.hid (Sl.keep hb hF01); have G2 := Lib.hid (Sl.keep hb2 hF01)
  have E0 := Lib.hid e0; have E1 := Lib.hid e1
  have hs1' : w1.heap.size = w.heap.size + 3 := by omega
  obtain ⟨x0, x1, x2, x3, x4, x5, x6, x7, x8⟩ := HB1.out.bcells
  obtain ⟨y0, y1, y2, y3, y4, y5, y6, y7, y8⟩ := HB2.out.bcells
  clear hb hb2 h1 h2 hF0 hB1 hB2 hs0 hF1 hB3 hs1 hF01 e0 e1
  go_enter Try.func20, Try.ntmps20
  go_upto_region 1 with (fail)
  simp only [bc, Bt.zero] at E1
  rw [E0.out]
  first | rw [E1.out] | (simp only [UInt8.toNat_zero, Int.natCast_zero] at E1; rw [E1.out]) | (have := E1.out; simp at this; rw [this])
  clear E0 E1
  go_wp2_with fail
  refine (Xor_any G1.out G2.out hl1 hl2).mono ?_
  rintro e w2 ⟨v3, rfl, hO, hF⟩
  obtain ⟨a3, n3, c3, rfl⟩ := hO.isSlice
  obtain rfl := hO.len
  have HB1 := Lib.hid (HB1.out.keep hF); have HB2 := Lib.hid (HB2.out.keep hF); have HR := Lib.hid (HR.out.keep hF); have HF := Lib.hid (HF.out.trans hF)
  have HV0 := Lib.hid hO; have hs2 := hF.size
  clear hO hF x0 x1 x2 x3 x4 x5 x6 x7 x8 y0 y1 y2 y3 y4 y5 y6 y7 y8 G1 G2
  obtain ⟨w3, e3, hF3, hB3, hs3⟩ := one_new w2 (bc Bt.zero (.slice a3 (xb x.body y.body).length c3)) 28
  have hF3d := hF3.drew
  have HSS := Lib.hid (And.intro (HB1.out.keep hF3d) (And.intro (HB2.out.keep hF3d) (hB3.keep (Fr.refl [] w3).drew))); have HR := Lib.hid (HR.out.keep hF3d); have HF := Lib.hid (HF.out.trans hF3d)
  have HVB : Hid (∀ b, blockOf (.slice a3 (xb x.body y.body).length c3) = some b → w.heap.size + 3 ≤ b ∧ b < w2.heap.size) := Lib.hid (fun b hb => by have := HV0.out.block b hb; omega)
  have HV := Lib.hid ((HV0.out.mono (Nat.le_trans (by omega : w.heap.size ≤ w1.heap.size) (Nat.le_refl _))).keep hF3d)
  have E3 := Lib.hid e3
  clear hF3 hB3 e3 hF3d
  go_upto_region 2 with (fail)
  first | rw [E3.out] | (have := E3.out; simp [bc, Bt.zero] at this; rw [this]; clear this)
  clear E3
  refine wp_region_T (fun w' => Box w' w.heap.size 28 (bc x (.slice a x.body.length c)) ∧ Box w' (w.heap.size + 1) 28 (bc y (.slice a2 y.body.length c2)) ∧ Box w' w2.heap.size 28 (bc Bt.zero (.slice a3 (xb x.body y.body).length c3))) [7] 8 #[false, false, false, false, false, false, false, false] (by kernel_rfl) rfl rfl ?_
  generalize w3.drew = wd at *
  refine wpAnyT_load (i := 0) (v := ?_) rfl (by kernel_rfl) (by kernel_rfl) (by kernel_rfl) (by kernel_rfl) (by kernel_rfl) (fun _ _ _ h => h) HSS.out (by rfl) ?_ ?_
  rotate_left
  · intro w hSw; obtain ⟨x0, x1, x2, x3, x4, x5, x6, x7, x8⟩ := hSw.1.bcells; obtain ⟨y0, y1, y2, y3, y4, y5, y6, y7, y8⟩ := hSw.2.1.bcells; go_simp; try with_reducible rfl
  simp only [Act.put, List.getElem_toArray, List.getElem_cons_zero, List.getElem_cons_succ, List.setIfInBounds_toArray, List.set_cons_zero, List.set_cons_succ]
  refine wpAnyT_load (i := 1) (v := ?_) rfl (by kernel_rfl) (by kernel_rfl) (by kernel_rfl) (by kernel_rfl) (by kernel_rfl) (fun _ _ _ h => h) HSS.out (by rfl) ?_ ?_
  rotate_left
  · intro w hSw; obtain ⟨x0, x1, x2, x3, x4, x5, x6, x7, x8⟩ := hSw.1.bcells; obtain ⟨y0, y1, y2, y3, y4, y5, y6, y7, y8⟩ := hSw.2.1.bcells; go_simp; try with_reducible rfl
  simp only [Act.put, List.getElem_toArray, List.getElem_cons_zero, List.getElem_cons_succ, List.setIfInBounds_toArray, List.set_cons_zero, List.set_cons_succ]
  refine wpAnyT_load (i := 2) (v := ?_) rfl (by kernel_rfl) (by kernel_rfl) (by kernel_rfl) (by kernel_rfl) (by kernel_rfl) (fun _ _ _ h => h) HSS.out (by rfl) ?_ ?_
  rotate_left
  · intro w hSw; obtain ⟨x0, x1, x2, x3, x4, x5, x6, x7, x8⟩ := hSw.1.bcells; obtain ⟨y0, y1, y2, y3, y4, y5, y6, y7, y8⟩ := hSw.2.1.bcells; go_simp; try with_reducible rfl
  simp only [Act.put, List.getElem_toArray, List.getElem_cons_zero, List.getElem_cons_succ, List.setIfInBounds_toArray, List.set_cons_zero, List.set_cons_succ]
  refine wpAnyT_load (i := 3) (v := ?_) rfl (by kernel_rfl) (by kernel_rfl) (by kernel_rfl) (by kernel_rfl) (by kernel_rfl) (fun _ _ _ h => h) HSS.out (by rfl) ?_ ?_
  rotate_left
  · intro w hSw; obtain ⟨x0, x1, x2, x3, x4, x5, x6, x7, x8⟩ := hSw.1.bcells; obtain ⟨y0, y1, y2, y3, y4, y5, y6, y7, y8⟩ := hSw.2.1.bcells; go_simp; try with_reducible rfl
  simp only [Act.put, List.getElem_toArray, List.getElem_cons_zero, List.getElem_cons_succ, List.setIfInBounds_toArray, List.set_cons_zero, List.set_cons_succ]
  refine wpAnyT_load (i := 4) (v := ?_) rfl (by kernel_rfl) (by kernel_rfl) (by kernel_rfl) (by kernel_rfl) (by kernel_rfl) (fun _ _ _ h => h) HSS.out (by rfl) ?_ ?_
  rotate_left
  · intro w hSw; obtain ⟨x0, x1, x2, x3, x4, x5, x6, x7, x8⟩ := hSw.1.bcells; obtain ⟨y0, y1, y2, y3, y4, y5, y6, y7, y8⟩ := hSw.2.1.bcells; go_simp; try with_reducible rfl
  simp only [Act.put, List.getElem_toArray, List.getElem_cons_zero, List.getElem_cons_succ, List.setIfInBounds_toArray, List.set_cons_zero, List.set_cons_succ]
  refine wpAnyT_load (i := 5) (v := ?_) rfl (by kernel_rfl) (by kernel_rfl) (by kernel_rfl) (by kernel_rfl) (by kernel_rfl) (fun _ _ _ h => h) HSS.out (by rfl) ?_ ?_
  rotate_left
  · intro w hSw; obtain ⟨x0, x1, x2, x3, x4, x5, x6, x7, x8⟩ := hSw.1.bcells; obtain ⟨y0, y1, y2, y3, y4, y5, y6, y7, y8⟩ := hSw.2.1.bcells; go_simp; try with_reducible rfl
  simp only [Act.put, List.getElem_toArray, List.getElem_cons_zero, List.getElem_cons_succ, List.setIfInBounds_toArray, List.set_cons_zero, List.set_cons_succ]
  refine wpAnyT_one (i := 6) (by kernel_rfl) rfl (fun K hK => ?_)
  rw [if_pos (by rfl)]
  go_simp
  refine (Xor_any HSS.out.1.headSl HSS.out.2.1.headSl (by rw [x.head_len]; omega) (by rw [y.head_len]; omega)).mono ?_
  rintro e w4 ⟨v4, rfl, hO, hF⟩
  have HX := Lib.hid hO.bytes
  have HSS := Lib.hid (And.intro (HSS.out.1.keep hF) (And.intro (HSS.out.2.1.keep hF) (HSS.out.2.2.keep hF))); have HV := Lib.hid (HV.out.keep hF); have HR := Lib.hid (HR.out.keep hF); have HF := Lib.hid (HF.out.trans hF)
  clear hO hF
  go_simp
  refine hK.out _ _ (fun _ => HSS.out) ?_
  clear hK K
  simp only [Act.put, List.getElem_toArray, List.getElem_cons_zero, List.getElem_cons_succ, List.setIfInBounds_toArray, List.set_cons_zero, List.set_cons_succ]
  refine wpAnyT_one (i := 7) (by kernel_rfl) rfl (fun K hK => ?_)
  rw [if_pos (by rfl)]
  refine wp_copy_fr (.tmp 13) (.tmp 18) 25 25 rfl 5 Try.underlying25 (by kernel_rfl) (some ⟨w2.heap.size, 0, none⟩) 8 8 rfl v4 ((xb x.head y.head).map B8) rfl HX.out w2.heap.size 0 ((Bt.zero).head.map B8 ++ [.slice a3 (xb x.body y.body).length c3]) 28 (by have := HSS.out.2.2; rwa [bc_list] at this) (fun _ => rfl) (by rw [List.length_map, xb_len]; rfl) (by rw [List.length_append, List.length_map]; simp [Bt.head_len]) (oneCell_B8 _) ?_
  intro w5 hY hG
  rw [head8 (x.add y) (x.head_add y).symm _ (x.add y) _ rfl] at hY
  have HV := Lib.hid (HV.out.fr hG (fun b hb hm => by have h1 := HVB.out b hb; simp at hm; omega))
  have HR := Lib.hid (HR.out.fr hG (by simp; omega))
  have HF := Lib.hid (HF.out.step hG (by simp; omega))
  have HY := Lib.hid hY
  clear hY hG
  refine hK.out _ _ (fun _ => by rename_i h; exact absurd (by simp) h) ?_
  clear hK K
  simp only [Act.put, List.getElem_toArray, List.getElem_cons_zero, List.getElem_cons_succ, List.setIfInBounds_toArray, List.set_cons_zero, List.set_cons_succ]
  refine wpAnyT_done (by kernel_rfl) ?_ _
  go_upto_region 3 with (fail)
  go_wp2_with (first | (refine wpList_load_row rfl 28 (.tmp 5) rfl w2.heap.size rfl 28 _ _ _ HY.out Try.underlying28 rfl (by kernel_rfl) ?_) | (refine wpList_store_row rfl 28 (.tmp 4) (.tmp 20) rfl (w.heap.size + 2) rfl _ _ rfl 28 (HR.out) (by kernel_rfl) rfl (by simp [bc, Value.oneCell']) ?_; intro w6 hY hG; skip))
  refine bodyPost_ret (results_cell_row rfl _ _ (w.heap.size + 2) 28 _ (0, 0) _ rfl hY Try.underlying28 rfl (by kernel_rfl)) rfl ⟨_, rfl, ⟨_, rfl, ?_⟩, HF.out.step hG (by simp)⟩
  exact (HV.out.fr hG (fun b hb hm => by have h1 := HVB.out b hb; simp at hm; omega))

theorem u8_and_nat (a b : Nat) (ha : a < 256) (hb : b < 256) : bits .and .u8 (a : Int) (b : Int) = ((a &&& b : Nat) : Int) := by
  have h : a &&& b ≤ a := Nat.and_le_left
  show IntKind.u8.wrap ((BitVec.ofInt 8 (a : Int) &&& BitVec.ofInt 8 (b : Int)).toNat : Int) = _
  rw [show BitVec.ofInt 8 (a : Int) = BitVec.ofNat 8 a by simp, show BitVec.ofInt 8 (b : Int) = BitVec.ofNat 8 b by simp, BitVec.toNat_and, BitVec.toNat_ofNat, BitVec.toNat_ofNat]
  rw [Nat.mod_eq_of_lt (by omega), Nat.mod_eq_of_lt (by omega), IntKind.wrap_u8]
  omega
theorem u8_and63 (a : UInt8) : bits .and .u8 (a.toNat : Int) 63 = ((a &&& 63).toNat : Int) := by
  have := u8_and_nat a.toNat 63 a.toNat_lt (by omega)
  rw [UInt8.toNat_and]
  exact this
theorem Bytes.cell {w : World} {b o n c : Nat} {l : List UInt8} (h : Bytes w (.slice (some ⟨b, o, none⟩) n c) l) (i : Nat) (hi : i < l.length) : w.cell? ⟨b, o + i, none⟩ = some (.int .u8 ((l.getD i 0).toNat : Nat)) := by
  have hlen : n = l.length := by have := Sl.len h; simpa using this.1
  obtain ⟨b', o', e, _, hc⟩ := Sl.at_ h (k := i) (by omega)
  cases e
  have := hc i (B8 l[i]) (by rw [List.getElem?_map, List.getElem?_eq_getElem hi]; rfl)
  rw [this, gD, List.getElem?_eq_getElem hi]
  rfl
theorem take4 {l : List UInt8} (h : 8 ≤ l.length) : (l.drop 4).take 4 = [l.getD 4 0, l.getD 5 0, l.getD 6 0, l.getD 7 0] := by
  refine ext_getD (by simp; omega) fun i => ?_
  rw [gD, List.getElem?_take]
  split
  · rename_i hi
    rw [List.getElem?_drop, ← gD]
    match i, hi with
    | 0, _ | 1, _ | 2, _ | 3, _ => rfl
  · rename_i hi
    rw [gD, List.getElem?_eq_none_iff.2 (by simp; omega)]
theorem parse_len {l : List UInt8} {p : Pkt} (h : parseR l = .ok p) : 12 ≤ l.length ∧ l.length ≤ 1500 := by
  obtain ⟨h1, h2⟩ := parse_back h
  have := tail_len h1
  rw [h2] at this
  omega
theorem imp_cells {l : List UInt8} {n : Nat} (hn : l.length = n + 12) (hs : n ≤ 1488) (v : Value) : bc (imp l) v = #[.int .u8 (((l.getD 0 0).toNat &&& 63 : Nat) : Int), .int .u8 ((l.getD 1 0).toNat : Nat), .int .u8 ((l.getD 4 0).toNat : Nat), .int .u8 ((l.getD 5 0).toNat : Nat), .int .u8 ((l.getD 6 0).toNat : Nat), .int .u8 ((l.getD 7 0).toNat : Nat), .int .u8 ((n : Int) / 256), .int .u8 ((n : Int) % 256), v] := by
  have h1 : (UInt8.ofNat (n / 256)).toNat = n / 256 := by rw [UInt8.toNat_ofNat']; omega
  have h2 : (UInt8.ofNat n).toNat = n % 256 := by rw [UInt8.toNat_ofNat']
  unfold bc imp
  simp only [hn, Nat.add_sub_cancel, h1, h2, UInt8.toNat_and]
  rfl
theorem bc_zero (v : Value) : bc Bt.zero v = #[.int .u8 0, .int .u8 0, .int .u8 0, .int .u8 0, .int .u8 0, .int .u8 0, .int .u8 0, .int .u8 0, v] := rfl
set_option maxRecDepth 100000 in
set_option maxHeartbeats 4000000 in
theorem impOf_any {w : World} {v : Value} {l : List UInt8} (hl : Bytes w v l) :
    Calls Try.prog 13 #[v] w fun e w' =>
      (∃ v' p, parseR l = .ok p ∧ e = .returned (.tuple #[v', .int .i64 0]) ∧ BtO w' w.heap.size v' (imp l) ∧ Fr [] w w') ∨
      (∃ k, parseR l = .error k ∧ e = .returned (.tuple #[.agg (bc Bt.zero (.slice none 0 0)), .int .i64 k]) ∧ Fr [] w w') := by
  obtain ⟨av, cv, rfl⟩ := hl.shape
  simp only [List.length_map] at hl ⊢
  have HL := Lib.hid hl
  obtain ⟨w1, e1, hF1, hB1, hs1⟩ := one_new w (bc Bt.zero (.slice none 0 0)) 28
  have HF := Lib.hid hF1; have HR := Lib.hid hB1
  have E1 := Lib.hid e1
  have hs1' := hs1
  clear hl hF1 hB1 e1 hs1
  go_enter Try.func13, Try.ntmps13
  go_upto_region 1 with (fail)
  first | rw [E1.out] | (have := E1.out; simp only [bc_zero] at this; rw [this]; clear this)
  clear E1
  go_wp2_with fail
  refine (Parse_any (HL.out.keep HF.out)).mono ?_
  rintro e w2 (⟨vp, p, hp, rfl, hVp, hF⟩ | ⟨k, hp, rfl, hF⟩)
  rotate_left
  · have HP := Lib.hid hp
    have hk : (k != 0) = true := by simpa using parseR_err hp
    have HR := Lib.hid (HR.out.keep hF); have HF := Lib.hid (HF.out.trans hF)
    have hs2 := hF.size
    clear hp hF
    unfold pz
    go_upto_region 3 with (refine wpList_store_row rfl 88 (.tmp 4) (.tmp 10) rfl w2.heap.size rfl _ _ rfl 88 (Box.new w2 88 #[.bool false, .int .i64 0, .int .u16 0, .int .u32 0, .int .u32 0, .slice none 0 0, .bool false, .int .u16 0, .slice none 0 0, .slice none 0 0, .slice none 0 0]) (by kernel_rfl) rfl (oneCell_pz) ?_; intro w3 hY hG; have hFn := ((Fr.refl [] w2).alloc _).step hG (by simp); have HFn := Lib.hid hFn; have HY := Lib.hid hY; clear hG hFn hY)
    have HR := Lib.hid (HR.out.keep HFn.out); have HF := Lib.hid (HF.out.trans HFn.out)
    clear HFn HY
    go_wp2_with (refine wpList_store_row rfl 28 (.tmp 2) (.tmp 14) rfl w.heap.size rfl _ (bc Bt.zero (.slice none 0 0)) rfl 28 HR.out (by kernel_rfl) rfl (by simp [bc, Value.oneCell']) ?_; intro w4 hY hG)
    refine bodyPost_ret (results_row_1 rfl _ _ w.heap.size 28 _ _ rfl hY Try.underlying28 rfl (by kernel_rfl)) rfl (.inr ⟨k, HP.out, rfl, HF.out.step hG (by simp)⟩)
  · have HP := Lib.hid hp
    obtain ⟨h12, h15⟩ := parse_len hp
    obtain ⟨b, o, ea, hbl, -⟩ := HL.out.at_ (k := 0) (by omega)
    subst ea
    obtain ⟨q1, k1, q2, k2, q3, k3, q4, k4, rfl, -, -, -, -⟩ := hVp.open_
    have HR := Lib.hid (HR.out.keep hF); have HF := Lib.hid (HF.out.trans hF)
    have hs2 := hF.size
    clear hp hF hVp
    go_upto_region 4 with (refine wpList_store_row rfl 88 (.tmp 4) (.tmp 10) rfl w2.heap.size rfl _ _ rfl 88 (Box.new w2 88 #[.bool false, .int .i64 0, .int .u16 0, .int .u32 0, .int .u32 0, .slice none 0 0, .bool false, .int .u16 0, .slice none 0 0, .slice none 0 0, .slice none 0 0]) (by kernel_rfl) rfl (oneCell_pc _ _ _ _ _ _ _ _ _ _ _ ⟨_, _, _, rfl⟩ ⟨_, _, _, rfl⟩ ⟨_, _, _, rfl⟩ ⟨_, _, _, rfl⟩) ?_; intro w3 hY hG; have hFn := ((Fr.refl [] w2).alloc _).step hG (by simp); have HFn := Lib.hid hFn; have HY := Lib.hid hY; clear hG hFn hY)
    have HR := Lib.hid (HR.out.keep HFn.out); have HF := Lib.hid (HF.out.trans HFn.out)
    have hs3 := HFn.out.size
    clear HFn HY
    obtain ⟨n, hn⟩ : ∃ n, l.length = n + 12 := ⟨l.length - 12, by omega⟩
    have HN := Lib.hid hn
    have HB := Lib.hid (HL.out.keep HF.out)
    obtain ⟨hcl, -⟩ : n + 12 ≤ cv ∧ True := by have := Sl.len HL.out; rw [hn] at this; exact ⟨this.2.1, trivial⟩
    rw [hn] at HL HB ⊢
    obtain ⟨qP, hqP⟩ : ∃ q, (if cv = 12 then some (⟨b, o, none⟩ : Addr) else some ⟨b, o + 12, none⟩) = q := ⟨_, rfl⟩
    have HD : Hid (Bytes w3 (.slice qP n (cv - 12)) (l.drop 12)) := Lib.hid (by
      have := Sl.sub HB.out 12 n (by omega)
      simp only [Option.map_some, addr_add] at this
      rw [hqP] at this
      unfold Bytes
      rwa [← List.map_drop, List.take_of_length_le (by simp; omega)] at this)
    have HDL : Hid ((l.drop 12).length = n) := Lib.hid (by simp; omega)
    have hcv : 12 ≤ cv := by omega
    have hn15 : n ≤ 1488 := by omega
    have hT4 := take4 (l := l) (by omega)
    obtain ⟨d0, hd0⟩ : ∃ d, l.getD 0 0 = d := ⟨_, rfl⟩
    obtain ⟨d1, hd1⟩ : ∃ d, l.getD 1 0 = d := ⟨_, rfl⟩
    obtain ⟨d4, hd4⟩ : ∃ d, l.getD 4 0 = d := ⟨_, rfl⟩
    obtain ⟨d5, hd5⟩ : ∃ d, l.getD 5 0 = d := ⟨_, rfl⟩
    obtain ⟨d6, hd6⟩ : ∃ d, l.getD 6 0 = d := ⟨_, rfl⟩
    obtain ⟨d7, hd7⟩ : ∃ d, l.getD 7 0 = d := ⟨_, rfl⟩
    rw [hd4, hd5, hd6, hd7] at hT4
    have HT4 := Lib.hid hT4; have HD0 := Lib.hid hd0; have HD1 := Lib.hid hd1; have HD4 := Lib.hid hd4; have HD5 := Lib.hid hd5; have HD6 := Lib.hid hd6; have HD7 := Lib.hid hd7
    clear hT4 hd0 hd1 hd4 hd5 hd6 hd7
    have HQ := Lib.hid hqP
    clear hn h12 h15
    go_wp2_with fail
    clear hqP
    have hfit := Fit_any HD.out (by rw [HDL.out]; omega)
    rw [HDL.out] at hfit
    refine hfit.mono ?_
    rintro e w4 ⟨v4, rfl, hO, hF⟩
    clear hfit
    have HR := Lib.hid (HR.out.keep hF); have HF := Lib.hid (HF.out.trans hF); have HB := Lib.hid (HB.out.keep hF)
    have hs4 := hF.size
    have HO4 := Lib.hid hO
    obtain ⟨a4, n4, c4, rfl⟩ := hO.isSlice
    obtain rfl : n4 = n := hO.len.trans HDL.out
    clear hO hF
    obtain ⟨w5, e5, hF5, hB5, hs5⟩ := one_new w4 (bc Bt.zero (.slice a4 n4 c4)) 28
    have hF5d := hF5.drew
    have HX := Lib.hid (hB5.keep (Fr.refl [] w5).drew); have HR := Lib.hid (HR.out.keep hF5d); have HF := Lib.hid (HF.out.trans hF5d); have HB : Hid (Bytes w5.drew _ l) := Lib.hid (HB.out.keep hF5d); have HVB : Hid (∀ b, blockOf (.slice a4 n4 c4) = some b → w3.heap.size ≤ b ∧ b < w4.heap.size) := Lib.hid (fun b hb => HO4.out.block b hb); have HO4 := Lib.hid (HO4.out.keep hF5d)
    have E5 := Lib.hid e5
    have HSS := Lib.hid (And.intro (HB.out.cell 0 (by have := HN.out; omega)) (HB.out.cell 1 (by have := HN.out; omega)))
    rw [HD0.out, HD1.out] at HSS
    have hand := u8_and63 d0
    have hi0 : (0 : Int) < (n4 : Int) + 12 := by omega
    have hi1 : (1 : Int) < (n4 : Int) + 12 := by omega
    clear hF5 hB5 e5 hF5d
    go_upto_region 5 with (fail)
    first | rw [E5.out] | (have := E5.out; simp only [bc_zero] at this; rw [this]; clear this)
    clear E5
    refine wp_region_T (fun w' => w'.cell? ⟨b, o + 0, none⟩ = some (.int .u8 (d0.toNat : Nat)) ∧ w'.cell? ⟨b, o + 1, none⟩ = some (.int .u8 (d1.toNat : Nat))) [] 13 #[false, false, false, false, false, false, false, false, false, false, false, false, false] (by kernel_rfl) rfl rfl ?_
    have hXW : w4.heap.size < w5.drew.heap.size := HX.out.lt
    have HBL : Hid (∀ k, liveOf (.slice (some ⟨b, o, none⟩) (n4 + 12) cv) = some k → k < w.heap.size) := Lib.hid (fun k hk => Sl.lt HL.out k hk)
    generalize w5.drew = wd at *
    refine wpAnyT_load (i := 0) (v := ?_) rfl (by kernel_rfl) (by kernel_rfl) (by kernel_rfl) (by kernel_rfl) (by kernel_rfl) (fun _ _ _ h => h) HSS.out (by rfl) ?_ ?_
    rotate_left
    · intro w hSw; obtain ⟨z0, z1⟩ := hSw; rw [Nat.add_zero] at z0; go_simp; try with_reducible rfl
    simp only [Act.put, List.getElem_toArray, List.getElem_cons_zero, List.getElem_cons_succ, List.setIfInBounds_toArray, List.set_cons_zero, List.set_cons_succ]
    refine wpAnyT_load (i := 1) (v := ?_) rfl (by kernel_rfl) (by kernel_rfl) (by kernel_rfl) (by kernel_rfl) (by kernel_rfl) (fun _ _ _ h => h) HSS.out (by rfl) ?_ ?_
    rotate_left
    · intro w hSw; obtain ⟨z0, z1⟩ := hSw; rw [Nat.add_zero] at z0; go_simp; try with_reducible rfl
    simp only [Act.put, List.getElem_toArray, List.getElem_cons_zero, List.getElem_cons_succ, List.setIfInBounds_toArray, List.set_cons_zero, List.set_cons_succ]
    refine wpAnyT_load (i := 2) (v := ?_) rfl (by kernel_rfl) (by kernel_rfl) (by kernel_rfl) (by kernel_rfl) (by kernel_rfl) (fun _ _ _ h => h) HSS.out (by rfl) ?_ ?_
    rotate_left
    · intro w hSw; obtain ⟨z0, z1⟩ := hSw; rw [Nat.add_zero] at z0; go_simp; try with_reducible rfl
    simp only [Act.put, List.getElem_toArray, List.getElem_cons_zero, List.getElem_cons_succ, List.setIfInBounds_toArray, List.set_cons_zero, List.set_cons_succ]
    refine wpAnyT_load (i := 3) (v := ?_) rfl (by kernel_rfl) (by kernel_rfl) (by kernel_rfl) (by kernel_rfl) (by kernel_rfl) (fun _ _ _ h => h) HSS.out (by rfl) ?_ ?_
    rotate_left
    · intro w hSw; obtain ⟨z0, z1⟩ := hSw; rw [Nat.add_zero] at z0; go_simp; try with_reducible rfl
    simp only [Act.put, List.getElem_toArray, List.getElem_cons_zero, List.getElem_cons_succ, List.setIfInBounds_toArray, List.set_cons_zero, List.set_cons_succ]
    refine wpAnyT_load (i := 4) (v := ?_) rfl (by kernel_rfl) (by kernel_rfl) (by kernel_rfl) (by kernel_rfl) (by kernel_rfl) (fun _ _ _ h => h) HSS.out (by rfl) ?_ ?_
    rotate_left
    · intro w hSw; obtain ⟨z0, z1⟩ := hSw; rw [Nat.add_zero] at z0; go_simp; try with_reducible rfl
    simp only [Act.put, List.getElem_toArray, List.getElem_cons_zero, List.getElem_cons_succ, List.setIfInBounds_toArray, List.set_cons_zero, List.set_cons_succ]
    refine wpAnyT_load (i := 5) (v := ?_) rfl (by kernel_rfl) (by kernel_rfl) (by kernel_rfl) (by kernel_rfl) (by kernel_rfl) (fun _ _ _ h => h) HSS.out (by rfl) ?_ ?_
    rotate_left
    · intro w hSw; obtain ⟨z0, z1⟩ := hSw; rw [Nat.add_zero] at z0; go_simp; try with_reducible rfl
    simp only [Act.put, List.getElem_toArray, List.getElem_cons_zero, List.getElem_cons_succ, List.setIfInBounds_toArray, List.set_cons_zero, List.set_cons_succ]
    refine wpAnyT_load (i := 6) (v := ?_) rfl (by kernel_rfl) (by kernel_rfl) (by kernel_rfl) (by kernel_rfl) (by kernel_rfl) (fun _ _ _ h => h) HSS.out (by rfl) ?_ ?_
    rotate_left
    · intro w hSw; obtain ⟨z0, z1⟩ := hSw; rw [Nat.add_zero] at z0; go_simp; try with_reducible rfl
    simp only [Act.put, List.getElem_toArray, List.getElem_cons_zero, List.getElem_cons_succ, List.setIfInBounds_toArray, List.set_cons_zero, List.set_cons_succ]
    refine wpAnyT_load (i := 7) (v := ?_) rfl (by kernel_rfl) (by kernel_rfl) (by kernel_rfl) (by kernel_rfl) (by kernel_rfl) (fun _ _ _ h => h) HSS.out (by rfl) ?_ ?_
    rotate_left
    · intro w hSw; obtain ⟨z0, z1⟩ := hSw; rw [Nat.add_zero] at z0; go_simp; try with_reducible rfl
    simp only [Act.put, List.getElem_toArray, List.getElem_cons_zero, List.getElem_cons_succ, List.setIfInBounds_toArray, List.set_cons_zero, List.set_cons_succ]
    refine wpAnyT_load (i := 8) (v := ?_) rfl (by kernel_rfl) (by kernel_rfl) (by kernel_rfl) (by kernel_rfl) (by kernel_rfl) (fun _ _ _ h => h) HSS.out (by rfl) ?_ ?_
    rotate_left
    · intro w hSw; obtain ⟨z0, z1⟩ := hSw; rw [Nat.add_zero] at z0; go_simp; try with_reducible rfl
    simp only [Act.put, List.getElem_toArray, List.getElem_cons_zero, List.getElem_cons_succ, List.setIfInBounds_toArray, List.set_cons_zero, List.set_cons_succ]
    refine wpAnyT_load (i := 10) (v := ?_) rfl (by kernel_rfl) (by kernel_rfl) (by kernel_rfl) (by kernel_rfl) (by kernel_rfl) (fun _ _ _ h => h) HSS.out (by rfl) ?_ ?_
    rotate_left
    · intro w hSw; obtain ⟨z0, z1⟩ := hSw; rw [Nat.add_zero] at z0; go_simp; try with_reducible rfl
    simp only [Act.put, List.getElem_toArray, List.getElem_cons_zero, List.getElem_cons_succ, List.setIfInBounds_toArray, List.set_cons_zero, List.set_cons_succ]
    refine wpAnyT_one (i := 9) (by kernel_rfl) rfl (fun K hK => ?_)
    rw [if_pos (by rfl)]
    have hFr := HX.out.free 0; have hCl := HX.out.cell 0
    simp only [bc, Bt.zero, List.getElem?_toArray, List.getElem?_cons_succ, List.getElem?_cons_zero, List.setIfInBounds_toArray, List.set_cons_zero, List.set_cons_succ] at hCl
    obtain ⟨wn, en, hF, hPn, -⟩ := set_new HX.out 0 (.int .u8 ((d0.toNat &&& 63 : Nat) : Int))
    simp only [bc, Bt.zero, List.setIfInBounds_toArray, List.set_cons_zero, List.set_cons_succ] at hPn
    have HQn := Lib.hid (And.intro (hF.cellSome HSS.out.1 (by simp; omega)) (hF.cellSome HSS.out.2 (by simp; omega)))
    go_simp
    try rw [en]
    refine hK.out _ _ (fun _ => HQn.out) ?_
    clear hK K
    simp only [Act.put, List.getElem_toArray, List.getElem_cons_zero, List.getElem_cons_succ, List.setIfInBounds_toArray, List.set_cons_zero, List.set_cons_succ]
    have HX := Lib.hid hPn; have HSS := HQn; have HR := Lib.hid (HR.out.fr hF (by simp; omega)); have HF := Lib.hid (HF.out.step hF (fun x hx => .inr (by simp at hx; subst hx; omega))); have HB : Hid (Bytes wn _ l) := Lib.hid (Sl.frL HB.out hF (fun k hk hm => by have := HBL.out k hk; simp at hm; omega)); have HO4 := Lib.hid (HO4.out.fr hF (fun k hk hm => by have := HVB.out k hk; simp at hm; omega))
    clear HQn hPn hF hFr hCl en
    generalize wn = wd at *
    refine wpAnyT_load (i := 11) (v := ?_) rfl (by kernel_rfl) (by kernel_rfl) (by kernel_rfl) (by kernel_rfl) (by kernel_rfl) (fun _ _ _ h => h) HSS.out (by rfl) ?_ ?_
    rotate_left
    · intro w hSw; obtain ⟨z0, z1⟩ := hSw; rw [Nat.add_zero] at z0; go_simp; try with_reducible rfl
    simp only [Act.put, List.getElem_toArray, List.getElem_cons_zero, List.getElem_cons_succ, List.setIfInBounds_toArray, List.set_cons_zero, List.set_cons_succ]
    refine wpAnyT_one (i := 12) (by kernel_rfl) rfl (fun K hK => ?_)
    rw [if_pos (by rfl)]
    have hFr := HX.out.free 1; have hCl := HX.out.cell 1
    simp only [bc, Bt.zero, List.getElem?_toArray, List.getElem?_cons_succ, List.getElem?_cons_zero, List.setIfInBounds_toArray, List.set_cons_zero, List.set_cons_succ] at hCl
    obtain ⟨wn, en, hF, hPn, -⟩ := set_new HX.out 1 (.int .u8 (d1.toNat : Nat))
    simp only [bc, Bt.zero, List.setIfInBounds_toArray, List.set_cons_zero, List.set_cons_succ] at hPn
    have HQn := Lib.hid (And.intro (hF.cellSome HSS.out.1 (by simp; omega)) (hF.cellSome HSS.out.2 (by simp; omega)))
    go_simp
    try rw [en]
    refine hK.out _ _ (fun _ => HQn.out) ?_
    clear hK K
    simp only [Act.put, List.getElem_toArray, List.getElem_cons_zero, List.getElem_cons_succ, List.setIfInBounds_toArray, List.set_cons_zero, List.set_cons_succ]
    have HX := Lib.hid hPn; have HSS := HQn; have HR := Lib.hid (HR.out.fr hF (by simp; omega)); have HF := Lib.hid (HF.out.step hF (fun x hx => .inr (by simp at hx; subst hx; omega))); have HB : Hid (Bytes wn _ l) := Lib.hid (Sl.frL HB.out hF (fun k hk hm => by have := HBL.out k hk; simp at hm; omega)); have HO4 := Lib.hid (HO4.out.fr hF (fun k hk hm => by have := HVB.out k hk; simp at hm; omega))
    clear HQn hPn hF hFr hCl en
    generalize wn = wd at *
    refine wpAnyT_done (by kernel_rfl) ?_ _
    go_upto_region 6 with (fail)
    have hn4 : ¬ cv = 4 := by omega
    have h4c : 4 ≤ cv := by omega
    have h8c : (8 : Int) ≤ (cv : Int) := by omega
    refine wp_region_T (fun w' => True) [] 5 #[false, false, false, false, false] (by kernel_rfl) rfl rfl ?_
    have hFd := (Fr.refl [] wd).drew
    have HX := Lib.hid (HX.out.keep hFd); have HR := Lib.hid (HR.out.keep hFd); have HF := Lib.hid (HF.out.trans hFd); have HB : Hid (Bytes wd.drew _ l) := Lib.hid (Sl.keep HB.out hFd); have HO4 := Lib.hid (HO4.out.keep hFd); have HSS : Hid True := Lib.hid trivial
    have HS4 : Hid (Sl wd.drew (.slice (some ⟨b, o + 4, none⟩) 4 (cv - 4)) ([d4, d5, d6, d7].map B8)) := Lib.hid (by
      have := Sl.sub HB.out 4 4 (by omega)
      rw [if_neg hn4] at this
      simp only [Option.map_some, addr_add] at this
      rwa [← List.map_drop, ← List.map_take, HT4.out] at this)
    clear hFd
    generalize wd.drew = wd6 at *
    refine wpAnyT_load (i := 0) (v := ?_) rfl (by kernel_rfl) (by kernel_rfl) (by kernel_rfl) (by kernel_rfl) (by kernel_rfl) (fun _ _ _ h => h) HSS.out (by rfl) ?_ ?_
    rotate_left
    · intro w hSw; skip; go_simp; try with_reducible rfl
    simp only [Act.put, List.getElem_toArray, List.getElem_cons_zero, List.getElem_cons_succ, List.setIfInBounds_toArray, List.set_cons_zero, List.set_cons_succ]
    refine wpAnyT_load (i := 1) (v := ?_) rfl (by kernel_rfl) (by kernel_rfl) (by kernel_rfl) (by kernel_rfl) (by kernel_rfl) (fun _ _ _ h => h) HSS.out (by rfl) ?_ ?_
    rotate_left
    · intro w hSw; skip; go_simp; try with_reducible rfl
    simp only [Act.put, List.getElem_toArray, List.getElem_cons_zero, List.getElem_cons_succ, List.setIfInBounds_toArray, List.set_cons_zero, List.set_cons_succ]
    refine wpAnyT_load (i := 2) (v := ?_) rfl (by kernel_rfl) (by kernel_rfl) (by kernel_rfl) (by kernel_rfl) (by kernel_rfl) (fun _ _ _ h => h) HSS.out (by rfl) ?_ ?_
    rotate_left
    · intro w hSw; skip; go_simp; try with_reducible rfl
    simp only [Act.put, List.getElem_toArray, List.getElem_cons_zero, List.getElem_cons_succ, List.setIfInBounds_toArray, List.set_cons_zero, List.set_cons_succ]
    refine wpAnyT_load (i := 3) (v := ?_) rfl (by kernel_rfl) (by kernel_rfl) (by kernel_rfl) (by kernel_rfl) (by kernel_rfl) (fun _ _ _ h => h) HSS.out (by rfl) ?_ ?_
    rotate_left
    · intro w hSw; skip; go_simp; try with_reducible rfl
    simp only [Act.put, List.getElem_toArray, List.getElem_cons_zero, List.getElem_cons_succ, List.setIfInBounds_toArray, List.set_cons_zero, List.set_cons_succ]
    refine wpAnyT_one (i := 4) (by kernel_rfl) rfl (fun K hK => ?_)
    rw [if_pos (by rfl)]
    refine wp_copy_fr (.tmp 35) (.tmp 37) 25 25 rfl 5 Try.underlying25 (by kernel_rfl) (some ⟨w4.heap.size, 2, none⟩) 4 6 rfl (.slice (some ⟨b, o + 4, none⟩) 4 (cv - 4)) ([d4, d5, d6, d7].map B8) rfl HS4.out w4.heap.size 2 [.int .u8 ((d0.toNat &&& 63 : Nat) : Int), .int .u8 (d1.toNat : Nat), .int .u8 0, .int .u8 0, .int .u8 0, .int .u8 0, .int .u8 0, .int .u8 0, .slice a4 n4 c4] 28 HX.out (fun _ => rfl) rfl (by simp) (oneCell_B8 _) ?_
    intro w8 hY hG
    have HR := Lib.hid (HR.out.fr hG (by simp; omega)); have HF := Lib.hid (HF.out.step hG (fun x hx => .inr (by simp at hx; subst hx; omega))); have HO4 := Lib.hid (HO4.out.fr hG (fun k hk hm => by have := HVB.out k hk; simp at hm; omega))
    simp [splice, B8] at hY
    have HX := Lib.hid hY
    clear hY hG
    refine hK.out _ _ (fun _ => trivial) ?_
    clear hK K
    simp only [Act.put, List.getElem_toArray, List.getElem_cons_zero, List.getElem_cons_succ, List.setIfInBounds_toArray, List.set_cons_zero, List.set_cons_succ]
    refine wpAnyT_done (by kernel_rfl) ?_ _
    go_upto_region 7 with (fail)
    have z8 := HX.out.cell 8; have g6 := HX.out.free 6; have g7 := HX.out.free 7; have z6 := HX.out.cell 6; have z7 := HX.out.cell 7
    simp only [List.getElem?_toArray, List.getElem?_cons_succ, List.getElem?_cons_zero] at z8 z6 z7
    go_upto_region 8 with (fail)
    obtain ⟨w9, e9, hF9, hB9, -⟩ := set_new HX.out 6 (.int .u8 ((n4 : Int) / 256))
    simp only [List.setIfInBounds_toArray, List.set_cons_zero, List.set_cons_succ] at hB9
    obtain ⟨w10, e10, hF10, hB10, -⟩ := set_new hB9 7 (.int .u8 ((n4 : Int) % 256))
    simp only [List.setIfInBounds_toArray, List.set_cons_zero, List.set_cons_succ] at hB10
    rw [e9, e10]
    have hic := imp_cells HN.out hn15 (.slice a4 n4 c4)
    rw [HD0.out, HD1.out, HD4.out, HD5.out, HD6.out, HD7.out] at hic
    rw [← hic] at hB10
    have hF := hF9.trans hF10
    have HR := Lib.hid (HR.out.fr hF (by simp; omega)); have HF := Lib.hid (HF.out.step hF (fun x hx => .inr (by simp at hx; subst hx; omega))); have HO4 := Lib.hid (HO4.out.fr hF (fun k hk hm => by have := HVB.out k hk; simp at hm; omega))
    have HY := Lib.hid hB10
    clear e9 e10 hF9 hF10 hB9 hB10 hic hF z8 g6 g7 z6 z7
    go_wp2_with (first | (refine wpList_load_row rfl 28 (.tmp 6) rfl w4.heap.size rfl 28 _ _ _ HY.out Try.underlying28 rfl (by kernel_rfl) ?_) | (refine wpList_store_row rfl 28 (.tmp 2) (.tmp 52) rfl w.heap.size rfl _ _ rfl 28 (HR.out) (by kernel_rfl) rfl (by simp [bc, Value.oneCell']) ?_; intro w11 hY hG; skip))
    refine bodyPost_ret (results_row_1 rfl _ _ _ 28 _ _ rfl hY Try.underlying28 rfl (by kernel_rfl)) rfl (.inl ⟨_, p, HP.out, rfl, ⟨_, rfl, ?_⟩, HF.out.step hG (by simp)⟩)
    exact (HO4.out.fr hG (fun k hk hm => by have := HVB.out k hk; simp at hm; omega)).mono (by omega)

end Go.Proofs.Ytchbgiindfoepaa
