import Derived.Test.YtchbgiindfoepaaGreatMz28
/- The walk of confluxref12.Of (printed by gen_imp4.py). -/
namespace Go.Proofs.YtchbgiindfoepaaGreat
open Go.RowKit

theorem and63_mod (a : UInt8) : (a &&& 63).toNat = a.toNat % 64 := by
  rw [UInt8.toNat_and]
  exact Nat.and_two_pow_sub_one_eq_mod a.toNat 6
theorem imp_head {l : List UInt8} {n : Nat} (hn : l.length = n + 12) (hs : n ≤ 1488) : (imp l).head.map B8 = [.int .u8 (((l.getD 0 0).toNat : Int) % 64), .int .u8 ((l.getD 1 0).toNat : Nat), .int .u8 ((l.getD 4 0).toNat : Nat), .int .u8 ((l.getD 5 0).toNat : Nat), .int .u8 ((l.getD 6 0).toNat : Nat), .int .u8 ((l.getD 7 0).toNat : Nat), .int .u8 ((n : Int) / 256), .int .u8 ((n : Int) % 256)] := by
  have h1 : (UInt8.ofNat (n / 256)).toNat = n / 256 := by rw [UInt8.toNat_ofNat']; omega
  have h2 : (UInt8.ofNat n).toNat = n % 256 := by rw [UInt8.toNat_ofNat']
  unfold imp Bt.head B8
  simp only [hn, Nat.add_sub_cancel, List.map_cons, List.map_nil, h1, h2, and63_mod]
  rfl
set_option maxRecDepth 100000 in
set_option maxHeartbeats 4000000 in
theorem r12Of_any {w : World} {v : Value} {l : List UInt8} (hl : Bytes w v l) :
    Calls Tryz.prog 24 #[v] w fun e w' =>
      (∃ v' p, parseR l = .ok p ∧ e = .returned (.tuple #[v', .int .i64 0]) ∧ RBV w' v' (imp l).head (imp l).body ∧ Fr [] w w') ∨
      (∃ v' k, parseR l = .error k ∧ e = .returned (.tuple #[v', .int .i64 k]) ∧ RBV w' v' (List.replicate 8 0) [] ∧ Fr [] w w') := by
  obtain ⟨av, cv, rfl⟩ := hl.shape
  simp only [List.length_map] at hl ⊢
  have HL := Lib.hid hl
  obtain ⟨iu8, hi1, hi2, hi3, hi4⟩ := info_parts info_u8
  have HI1 := Lib.hid hi1; have HI2 := Lib.hid hi2; have HI3 := Lib.hid hi3; have HI4 := Lib.hid hi4
  obtain ⟨w1, e1, hF1, hB1, hs1⟩ := one_new w #[.slice none 0 0, .slice none 0 0] 40
  have HF := Lib.hid hF1; have HR := Lib.hid hB1
  have E1 := Lib.hid e1
  have hs1' := hs1
  clear hl hF1 hB1 e1 hs1 hi1 hi2 hi3 hi4
  go_enter Tryz.func24, Tryz.ntmps24
  go_upto_region 1 with (fail)
  rw [E1.out]
  clear E1
  go_wp2_with fail
  refine (R5Parse_any (HL.out.keep HF.out)).mono ?_
  rintro e w2 (⟨vp, p, hp, rfl, hVp, hF⟩ | ⟨k, hp, rfl, hF⟩)
  rotate_left
  · have HP := Lib.hid hp
    have hk : (k != 0) = true := by simpa using parseR_err hp
    have HR := Lib.hid (HR.out.keep hF); have HF := Lib.hid (HF.out.trans hF)
    have hs2 := hF.size
    clear hp hF
    unfold pz
    go_upto_region 3 with (refine wpList_store_row rfl 66 (.tmp 4) (.tmp 10) rfl w2.heap.size rfl _ _ rfl 66 (Box.new w2 66 #[.bool false, .int .i64 0, .int .u16 0, .int .u32 0, .int .u32 0, .slice none 0 0, .bool false, .int .u16 0, .slice none 0 0, .slice none 0 0, .slice none 0 0]) (by kernel_rfl) rfl (oneCell_pz) ?_; intro w3 hY hG; have hFn := ((Fr.refl [] w2).alloc _).step hG (by simp); have HFn := Lib.hid hFn; have HY := Lib.hid hY; clear hG hFn hY)
    have HR := Lib.hid (HR.out.keep HFn.out); have HF := Lib.hid (HF.out.trans HFn.out)
    have hs3 := HFn.out.size
    clear HFn HY
    obtain ⟨w4, e4, hF4, hB4, hs4⟩ := one_new w3 (madeCells #[.int .u8 0] 8) 5
    rw [madeCells_one] at hB4
    have HB4 := Lib.hid hB4; have HR := Lib.hid (HR.out.keep hF4); have HF := Lib.hid (HF.out.trans hF4)
    have E4 := Lib.hid e4
    clear hF4 hB4 e4
    have hsw : w.heap.size < w3.heap.size := by omega
    go_wp2_with (first | (refine wpList_make_row _ rfl _ _ _ rfl 5 iu8 (.int .u8 0) Tryz.underlying25 HI1.out HI2.out HI3.out rfl .i64 .i64 8 rfl rfl (by rw [HI4.out]; omega) (by omega) ?_; rw [E4.out]; clear E4) | (refine wpList_store_row rfl 40 (.tmp 2) (.tmp 15) rfl w.heap.size rfl _ #[.slice (some ⟨w3.heap.size, 0, none⟩) 8 8, .slice none 0 0] rfl 40 HR.out (by kernel_rfl) rfl (by simp [Value.oneCell']) ?_; intro w5 hY hG))
    refine bodyPost_ret (results_row_1 rfl _ _ w.heap.size 40 _ _ rfl hY Tryz.underlying40 rfl (by kernel_rfl)) rfl (.inr ⟨_, k, HP.out, rfl, ⟨_, _, rfl, ?_, Sl.nil _⟩, HF.out.step hG (by simp)⟩)
    have hb : Box w5 w3.heap.size 5 (List.replicate 8 (.int .u8 0)).toArray := HB4.out.fr hG (by simp; omega)
    exact box_sl (off := 0) (cap := 8) hb ((List.replicate 8 (0 : UInt8)).map B8) (by intro i y hy; simpa [B8] using hy) (by simp) (by unfold maxLen; omega)
  · have HP := Lib.hid hp
    obtain ⟨h12, h15⟩ := parse_len hp
    obtain ⟨b, o, ea, hbl, -⟩ := HL.out.at_ (k := 0) (by omega)
    subst ea
    obtain ⟨q1, k1, q2, k2, q3, k3, q4, k4, rfl, -, -, -, -⟩ := hVp.open_
    have HR := Lib.hid (HR.out.keep hF); have HF := Lib.hid (HF.out.trans hF)
    have hs2 := hF.size
    clear hp hF hVp
    go_upto_region 4 with (refine wpList_store_row rfl 66 (.tmp 4) (.tmp 10) rfl w2.heap.size rfl _ _ rfl 66 (Box.new w2 66 #[.bool false, .int .i64 0, .int .u16 0, .int .u32 0, .int .u32 0, .slice none 0 0, .bool false, .int .u16 0, .slice none 0 0, .slice none 0 0, .slice none 0 0]) (by kernel_rfl) rfl (oneCell_pc _ _ _ _ _ _ _ _ _ _ _ ⟨_, _, _, rfl⟩ ⟨_, _, _, rfl⟩ ⟨_, _, _, rfl⟩ ⟨_, _, _, rfl⟩) ?_; intro w3 hY hG; have hFn := ((Fr.refl [] w2).alloc _).step hG (by simp); have HFn := Lib.hid hFn; have HY := Lib.hid hY; clear hG hFn hY)
    have HR := Lib.hid (HR.out.keep HFn.out); have HF := Lib.hid (HF.out.trans HFn.out)
    have hs3 := HFn.out.size
    clear HFn HY
    obtain ⟨n, hn⟩ : ∃ n, l.length = n + 12 := ⟨l.length - 12, by omega⟩
    have HN := Lib.hid hn
    have hn15 : n ≤ 1488 := by omega
    have hIH := imp_head hn hn15
    obtain ⟨d0, hd0⟩ : ∃ d, l.getD 0 0 = d := ⟨_, rfl⟩
    obtain ⟨d1, hd1⟩ : ∃ d, l.getD 1 0 = d := ⟨_, rfl⟩
    obtain ⟨d4, hd4⟩ : ∃ d, l.getD 4 0 = d := ⟨_, rfl⟩
    obtain ⟨d5, hd5⟩ : ∃ d, l.getD 5 0 = d := ⟨_, rfl⟩
    obtain ⟨d6, hd6⟩ : ∃ d, l.getD 6 0 = d := ⟨_, rfl⟩
    obtain ⟨d7, hd7⟩ : ∃ d, l.getD 7 0 = d := ⟨_, rfl⟩
    rw [hd0, hd1, hd4, hd5, hd6, hd7] at hIH
    have HIH := Lib.hid hIH
    have hF3d := (Fr.refl [] w3).drew
    have HB : Hid (Bytes w3.drew _ l) := Lib.hid ((HL.out.keep HF.out).keep hF3d); have HR := Lib.hid (HR.out.keep hF3d); have HF := Lib.hid (HF.out.trans hF3d)
    have hcl : n + 12 ≤ cv := by have := Sl.len HL.out; rw [hn] at this; exact this.2.1
    have c0 := HB.out.cell 0 (by omega)
    rw [hd0] at c0
    have c1 := HB.out.cell 1 (by omega)
    rw [hd1] at c1
    have c4 := HB.out.cell 4 (by omega)
    rw [hd4] at c4
    have c5 := HB.out.cell 5 (by omega)
    rw [hd5] at c5
    have c6 := HB.out.cell 6 (by omega)
    rw [hd6] at c6
    have c7 := HB.out.cell 7 (by omega)
    rw [hd7] at c7
    have HSS := Lib.hid (And.intro c0 (And.intro c1 (And.intro c4 (And.intro c5 (And.intro c6 c7)))))
    rw [hn] at HL HB ⊢
    obtain ⟨qP, hqP⟩ : ∃ q, (if cv = 12 then some (⟨b, o, none⟩ : Addr) else some ⟨b, o + 12, none⟩) = q := ⟨_, rfl⟩
    have HD : Hid (Bytes w3.drew (.slice qP n (cv - 12)) (l.drop 12)) := Lib.hid (by
      have := Sl.sub HB.out 12 n (by omega)
      simp only [Option.map_some, addr_add] at this
      rw [hqP] at this
      unfold Bytes
      rwa [← List.map_drop, List.take_of_length_le (by simp; omega)] at this)
    have HDL : Hid ((l.drop 12).length = n) := Lib.hid (by simp; omega)
    have hcv : 12 ≤ cv := by omega
    have hii : (12 : Int) ≤ (n : Int) + 12 := by omega
    have hi0 : (0 : Int) < (n : Int) + 12 := by omega
    have hi1 : (1 : Int) < (n : Int) + 12 := by omega
    have hi4 : (4 : Int) < (n : Int) + 12 := by omega
    have hi5 : (5 : Int) < (n : Int) + 12 := by omega
    have hi6 : (6 : Int) < (n : Int) + 12 := by omega
    have hi7 : (7 : Int) < (n : Int) + 12 := by omega
    clear hn h12 h15 c0 c1 c4 c5 c6 c7 hd0 hd1 hd4 hd5 hd6 hd7 hIH hF3d
    have hm0 : (d0.toNat : Int).tmod 64 = (d0.toNat : Int) % 64 := Int.tmod_eq_emod_of_nonneg (by omega)
    have hm1 : IntKind.i64.wrap ((n : Int) / 256) = (n : Int) / 256 := IntWalk.i64_in _ (by omega)
    have hm2 : IntKind.u8.wrap ((n : Int) / 256) = (n : Int) / 256 := by rw [IntKind.wrap_u8]; omega
    have hm3 : (n : Int).tmod 256 = (n : Int) % 256 := Int.tmod_eq_emod_of_nonneg (by omega)
    have hm4 : IntKind.u8.wrap ((n : Int) % 256) = (n : Int) % 256 := by rw [IntKind.wrap_u8]; omega
    go_upto_region 5 with (fail)
    refine wp_region_T (fun w' => w'.cell? ⟨b, o + 0, none⟩ = some (.int .u8 (d0.toNat : Nat)) ∧ w'.cell? ⟨b, o + 1, none⟩ = some (.int .u8 (d1.toNat : Nat)) ∧ w'.cell? ⟨b, o + 4, none⟩ = some (.int .u8 (d4.toNat : Nat)) ∧ w'.cell? ⟨b, o + 5, none⟩ = some (.int .u8 (d5.toNat : Nat)) ∧ w'.cell? ⟨b, o + 6, none⟩ = some (.int .u8 (d6.toNat : Nat)) ∧ w'.cell? ⟨b, o + 7, none⟩ = some (.int .u8 (d7.toNat : Nat))) [] 32 #[false, false, false, false, false, false, false, false, false, false, false, false, false, false, false, false, false, false, false, false, false, false, false, false, false, false, false, false, false, false, false, false] (by kernel_rfl) rfl rfl ?_
    generalize w3.drew = wd at *
    refine wpAnyT_load (i := 0) (v := ?_) rfl (by kernel_rfl) (by kernel_rfl) (by kernel_rfl) (by kernel_rfl) (by kernel_rfl) (fun _ _ _ h => h) HSS.out (by rfl) ?_ ?_
    rotate_left
    · intro w hSw; obtain ⟨z0, z1, z4, z5, z6, z7⟩ := hSw; rw [Nat.add_zero] at z0; go_simp; try with_reducible rfl
    simp only [Act.put, List.getElem_toArray, List.getElem_cons_zero, List.getElem_cons_succ, List.setIfInBounds_toArray, List.set_cons_zero, List.set_cons_succ]
    refine wpAnyT_load (i := 1) (v := ?_) rfl (by kernel_rfl) (by kernel_rfl) (by kernel_rfl) (by kernel_rfl) (by kernel_rfl) (fun _ _ _ h => h) HSS.out (by rfl) ?_ ?_
    rotate_left
    · intro w hSw; obtain ⟨z0, z1, z4, z5, z6, z7⟩ := hSw; rw [Nat.add_zero] at z0; go_simp; try with_reducible rfl
    simp only [Act.put, List.getElem_toArray, List.getElem_cons_zero, List.getElem_cons_succ, List.setIfInBounds_toArray, List.set_cons_zero, List.set_cons_succ]
    refine wpAnyT_load (i := 2) (v := ?_) rfl (by kernel_rfl) (by kernel_rfl) (by kernel_rfl) (by kernel_rfl) (by kernel_rfl) (fun _ _ _ h => h) HSS.out (by rfl) ?_ ?_
    rotate_left
    · intro w hSw; obtain ⟨z0, z1, z4, z5, z6, z7⟩ := hSw; rw [Nat.add_zero] at z0; go_simp; try with_reducible rfl
    simp only [Act.put, List.getElem_toArray, List.getElem_cons_zero, List.getElem_cons_succ, List.setIfInBounds_toArray, List.set_cons_zero, List.set_cons_succ]
    refine wpAnyT_load (i := 3) (v := ?_) rfl (by kernel_rfl) (by kernel_rfl) (by kernel_rfl) (by kernel_rfl) (by kernel_rfl) (fun _ _ _ h => h) HSS.out (by rfl) ?_ ?_
    rotate_left
    · intro w hSw; obtain ⟨z0, z1, z4, z5, z6, z7⟩ := hSw; rw [Nat.add_zero] at z0; go_simp; try with_reducible rfl
    simp only [Act.put, List.getElem_toArray, List.getElem_cons_zero, List.getElem_cons_succ, List.setIfInBounds_toArray, List.set_cons_zero, List.set_cons_succ]
    refine wpAnyT_load (i := 4) (v := ?_) rfl (by kernel_rfl) (by kernel_rfl) (by kernel_rfl) (by kernel_rfl) (by kernel_rfl) (fun _ _ _ h => h) HSS.out (by rfl) ?_ ?_
    rotate_left
    · intro w hSw; obtain ⟨z0, z1, z4, z5, z6, z7⟩ := hSw; rw [Nat.add_zero] at z0; go_simp; try with_reducible rfl
    simp only [Act.put, List.getElem_toArray, List.getElem_cons_zero, List.getElem_cons_succ, List.setIfInBounds_toArray, List.set_cons_zero, List.set_cons_succ]
    refine wpAnyT_load (i := 5) (v := ?_) rfl (by kernel_rfl) (by kernel_rfl) (by kernel_rfl) (by kernel_rfl) (by kernel_rfl) (fun _ _ _ h => h) HSS.out (by rfl) ?_ ?_
    rotate_left
    · intro w hSw; obtain ⟨z0, z1, z4, z5, z6, z7⟩ := hSw; rw [Nat.add_zero] at z0; go_simp; try with_reducible rfl
    simp only [Act.put, List.getElem_toArray, List.getElem_cons_zero, List.getElem_cons_succ, List.setIfInBounds_toArray, List.set_cons_zero, List.set_cons_succ]
    refine wpAnyT_load (i := 6) (v := ?_) rfl (by kernel_rfl) (by kernel_rfl) (by kernel_rfl) (by kernel_rfl) (by kernel_rfl) (fun _ _ _ h => h) HSS.out (by rfl) ?_ ?_
    rotate_left
    · intro w hSw; obtain ⟨z0, z1, z4, z5, z6, z7⟩ := hSw; rw [Nat.add_zero] at z0; go_simp; try with_reducible rfl
    simp only [Act.put, List.getElem_toArray, List.getElem_cons_zero, List.getElem_cons_succ, List.setIfInBounds_toArray, List.set_cons_zero, List.set_cons_succ]
    refine wpAnyT_load (i := 7) (v := ?_) rfl (by kernel_rfl) (by kernel_rfl) (by kernel_rfl) (by kernel_rfl) (by kernel_rfl) (fun _ _ _ h => h) HSS.out (by rfl) ?_ ?_
    rotate_left
    · intro w hSw; obtain ⟨z0, z1, z4, z5, z6, z7⟩ := hSw; rw [Nat.add_zero] at z0; go_simp; try with_reducible rfl
    simp only [Act.put, List.getElem_toArray, List.getElem_cons_zero, List.getElem_cons_succ, List.setIfInBounds_toArray, List.set_cons_zero, List.set_cons_succ]
    refine wpAnyT_load (i := 8) (v := ?_) rfl (by kernel_rfl) (by kernel_rfl) (by kernel_rfl) (by kernel_rfl) (by kernel_rfl) (fun _ _ _ h => h) HSS.out (by rfl) ?_ ?_
    rotate_left
    · intro w hSw; obtain ⟨z0, z1, z4, z5, z6, z7⟩ := hSw; rw [Nat.add_zero] at z0; go_simp; try with_reducible rfl
    simp only [Act.put, List.getElem_toArray, List.getElem_cons_zero, List.getElem_cons_succ, List.setIfInBounds_toArray, List.set_cons_zero, List.set_cons_succ]
    refine wpAnyT_load (i := 9) (v := ?_) rfl (by kernel_rfl) (by kernel_rfl) (by kernel_rfl) (by kernel_rfl) (by kernel_rfl) (fun _ _ _ h => h) HSS.out (by rfl) ?_ ?_
    rotate_left
    · intro w hSw; obtain ⟨z0, z1, z4, z5, z6, z7⟩ := hSw; rw [Nat.add_zero] at z0; go_simp; try with_reducible rfl
    simp only [Act.put, List.getElem_toArray, List.getElem_cons_zero, List.getElem_cons_succ, List.setIfInBounds_toArray, List.set_cons_zero, List.set_cons_succ]
    refine wpAnyT_load (i := 10) (v := ?_) rfl (by kernel_rfl) (by kernel_rfl) (by kernel_rfl) (by kernel_rfl) (by kernel_rfl) (fun _ _ _ h => h) HSS.out (by rfl) ?_ ?_
    rotate_left
    · intro w hSw; obtain ⟨z0, z1, z4, z5, z6, z7⟩ := hSw; rw [Nat.add_zero] at z0; go_simp; try with_reducible rfl
    simp only [Act.put, List.getElem_toArray, List.getElem_cons_zero, List.getElem_cons_succ, List.setIfInBounds_toArray, List.set_cons_zero, List.set_cons_succ]
    refine wpAnyT_load (i := 11) (v := ?_) rfl (by kernel_rfl) (by kernel_rfl) (by kernel_rfl) (by kernel_rfl) (by kernel_rfl) (fun _ _ _ h => h) HSS.out (by rfl) ?_ ?_
    rotate_left
    · intro w hSw; obtain ⟨z0, z1, z4, z5, z6, z7⟩ := hSw; rw [Nat.add_zero] at z0; go_simp; try with_reducible rfl
    simp only [Act.put, List.getElem_toArray, List.getElem_cons_zero, List.getElem_cons_succ, List.setIfInBounds_toArray, List.set_cons_zero, List.set_cons_succ]
    refine wpAnyT_load (i := 12) (v := ?_) rfl (by kernel_rfl) (by kernel_rfl) (by kernel_rfl) (by kernel_rfl) (by kernel_rfl) (fun _ _ _ h => h) HSS.out (by rfl) ?_ ?_
    rotate_left
    · intro w hSw; obtain ⟨z0, z1, z4, z5, z6, z7⟩ := hSw; rw [Nat.add_zero] at z0; go_simp; try with_reducible rfl
    simp only [Act.put, List.getElem_toArray, List.getElem_cons_zero, List.getElem_cons_succ, List.setIfInBounds_toArray, List.set_cons_zero, List.set_cons_succ]
    refine wpAnyT_load (i := 13) (v := ?_) rfl (by kernel_rfl) (by kernel_rfl) (by kernel_rfl) (by kernel_rfl) (by kernel_rfl) (fun _ _ _ h => h) HSS.out (by rfl) ?_ ?_
    rotate_left
    · intro w hSw; obtain ⟨z0, z1, z4, z5, z6, z7⟩ := hSw; rw [Nat.add_zero] at z0; go_simp; try with_reducible rfl
    simp only [Act.put, List.getElem_toArray, List.getElem_cons_zero, List.getElem_cons_succ, List.setIfInBounds_toArray, List.set_cons_zero, List.set_cons_succ]
    refine wpAnyT_load (i := 14) (v := ?_) rfl (by kernel_rfl) (by kernel_rfl) (by kernel_rfl) (by kernel_rfl) (by kernel_rfl) (fun _ _ _ h => h) HSS.out (by rfl) ?_ ?_
    rotate_left
    · intro w hSw; obtain ⟨z0, z1, z4, z5, z6, z7⟩ := hSw; rw [Nat.add_zero] at z0; go_simp; try with_reducible rfl
    simp only [Act.put, List.getElem_toArray, List.getElem_cons_zero, List.getElem_cons_succ, List.setIfInBounds_toArray, List.set_cons_zero, List.set_cons_succ]
    refine wpAnyT_load (i := 15) (v := ?_) rfl (by kernel_rfl) (by kernel_rfl) (by kernel_rfl) (by kernel_rfl) (by kernel_rfl) (fun _ _ _ h => h) HSS.out (by rfl) ?_ ?_
    rotate_left
    · intro w hSw; obtain ⟨z0, z1, z4, z5, z6, z7⟩ := hSw; rw [Nat.add_zero] at z0; go_simp; try with_reducible rfl
    simp only [Act.put, List.getElem_toArray, List.getElem_cons_zero, List.getElem_cons_succ, List.setIfInBounds_toArray, List.set_cons_zero, List.set_cons_succ]
    refine wpAnyT_load (i := 16) (v := ?_) rfl (by kernel_rfl) (by kernel_rfl) (by kernel_rfl) (by kernel_rfl) (by kernel_rfl) (fun _ _ _ h => h) HSS.out (by rfl) ?_ ?_
    rotate_left
    · intro w hSw; obtain ⟨z0, z1, z4, z5, z6, z7⟩ := hSw; rw [Nat.add_zero] at z0; go_simp; try with_reducible rfl
    simp only [Act.put, List.getElem_toArray, List.getElem_cons_zero, List.getElem_cons_succ, List.setIfInBounds_toArray, List.set_cons_zero, List.set_cons_succ]
    refine wpAnyT_load (i := 17) (v := ?_) rfl (by kernel_rfl) (by kernel_rfl) (by kernel_rfl) (by kernel_rfl) (by kernel_rfl) (fun _ _ _ h => h) HSS.out (by rfl) ?_ ?_
    rotate_left
    · intro w hSw; obtain ⟨z0, z1, z4, z5, z6, z7⟩ := hSw; rw [Nat.add_zero] at z0; go_simp; try with_reducible rfl
    simp only [Act.put, List.getElem_toArray, List.getElem_cons_zero, List.getElem_cons_succ, List.setIfInBounds_toArray, List.set_cons_zero, List.set_cons_succ]
    refine wpAnyT_load (i := 18) (v := ?_) rfl (by kernel_rfl) (by kernel_rfl) (by kernel_rfl) (by kernel_rfl) (by kernel_rfl) (fun _ _ _ h => h) HSS.out (by rfl) ?_ ?_
    rotate_left
    · intro w hSw; obtain ⟨z0, z1, z4, z5, z6, z7⟩ := hSw; rw [Nat.add_zero] at z0; go_simp; try with_reducible rfl
    simp only [Act.put, List.getElem_toArray, List.getElem_cons_zero, List.getElem_cons_succ, List.setIfInBounds_toArray, List.set_cons_zero, List.set_cons_succ]
    refine wpAnyT_load (i := 19) (v := ?_) rfl (by kernel_rfl) (by kernel_rfl) (by kernel_rfl) (by kernel_rfl) (by kernel_rfl) (fun _ _ _ h => h) HSS.out (by rfl) ?_ ?_
    rotate_left
    · intro w hSw; obtain ⟨z0, z1, z4, z5, z6, z7⟩ := hSw; rw [Nat.add_zero] at z0; go_simp; try with_reducible rfl
    simp only [Act.put, List.getElem_toArray, List.getElem_cons_zero, List.getElem_cons_succ, List.setIfInBounds_toArray, List.set_cons_zero, List.set_cons_succ]
    refine wpAnyT_load (i := 20) (v := ?_) rfl (by kernel_rfl) (by kernel_rfl) (by kernel_rfl) (by kernel_rfl) (by kernel_rfl) (fun _ _ _ h => h) HSS.out (by rfl) ?_ ?_
    rotate_left
    · intro w hSw; obtain ⟨z0, z1, z4, z5, z6, z7⟩ := hSw; rw [Nat.add_zero] at z0; go_simp; try with_reducible rfl
    simp only [Act.put, List.getElem_toArray, List.getElem_cons_zero, List.getElem_cons_succ, List.setIfInBounds_toArray, List.set_cons_zero, List.set_cons_succ]
    refine wpAnyT_load (i := 21) (v := ?_) rfl (by kernel_rfl) (by kernel_rfl) (by kernel_rfl) (by kernel_rfl) (by kernel_rfl) (fun _ _ _ h => h) HSS.out (by rfl) ?_ ?_
    rotate_left
    · intro w hSw; obtain ⟨z0, z1, z4, z5, z6, z7⟩ := hSw; rw [Nat.add_zero] at z0; go_simp; try with_reducible rfl
    simp only [Act.put, List.getElem_toArray, List.getElem_cons_zero, List.getElem_cons_succ, List.setIfInBounds_toArray, List.set_cons_zero, List.set_cons_succ]
    refine wpAnyT_load (i := 22) (v := ?_) rfl (by kernel_rfl) (by kernel_rfl) (by kernel_rfl) (by kernel_rfl) (by kernel_rfl) (fun _ _ _ h => h) HSS.out (by rfl) ?_ ?_
    rotate_left
    · intro w hSw; obtain ⟨z0, z1, z4, z5, z6, z7⟩ := hSw; rw [Nat.add_zero] at z0; go_simp; try with_reducible rfl
    simp only [Act.put, List.getElem_toArray, List.getElem_cons_zero, List.getElem_cons_succ, List.setIfInBounds_toArray, List.set_cons_zero, List.set_cons_succ]
    refine wpAnyT_load (i := 23) (v := ?_) rfl (by kernel_rfl) (by kernel_rfl) (by kernel_rfl) (by kernel_rfl) (by kernel_rfl) (fun _ _ _ h => h) HSS.out (by rfl) ?_ ?_
    rotate_left
    · intro w hSw; obtain ⟨z0, z1, z4, z5, z6, z7⟩ := hSw; rw [Nat.add_zero] at z0; go_simp; try with_reducible rfl
    simp only [Act.put, List.getElem_toArray, List.getElem_cons_zero, List.getElem_cons_succ, List.setIfInBounds_toArray, List.set_cons_zero, List.set_cons_succ]
    refine wpAnyT_load (i := 24) (v := ?_) rfl (by kernel_rfl) (by kernel_rfl) (by kernel_rfl) (by kernel_rfl) (by kernel_rfl) (fun _ _ _ h => h) HSS.out (by rfl) ?_ ?_
    rotate_left
    · intro w hSw; obtain ⟨z0, z1, z4, z5, z6, z7⟩ := hSw; rw [Nat.add_zero] at z0; go_simp; try with_reducible rfl
    simp only [Act.put, List.getElem_toArray, List.getElem_cons_zero, List.getElem_cons_succ, List.setIfInBounds_toArray, List.set_cons_zero, List.set_cons_succ]
    refine wpAnyT_load (i := 26) (v := ?_) rfl (by kernel_rfl) (by kernel_rfl) (by kernel_rfl) (by kernel_rfl) (by kernel_rfl) (fun _ _ _ h => h) HSS.out (by rfl) ?_ ?_
    rotate_left
    · intro w hSw; obtain ⟨z0, z1, z4, z5, z6, z7⟩ := hSw; rw [Nat.add_zero] at z0; go_simp; try with_reducible rfl
    simp only [Act.put, List.getElem_toArray, List.getElem_cons_zero, List.getElem_cons_succ, List.setIfInBounds_toArray, List.set_cons_zero, List.set_cons_succ]
    refine wpAnyT_load (i := 27) (v := ?_) rfl (by kernel_rfl) (by kernel_rfl) (by kernel_rfl) (by kernel_rfl) (by kernel_rfl) (fun _ _ _ h => h) HSS.out (by rfl) ?_ ?_
    rotate_left
    · intro w hSw; obtain ⟨z0, z1, z4, z5, z6, z7⟩ := hSw; rw [Nat.add_zero] at z0; go_simp; try with_reducible rfl
    simp only [Act.put, List.getElem_toArray, List.getElem_cons_zero, List.getElem_cons_succ, List.setIfInBounds_toArray, List.set_cons_zero, List.set_cons_succ]
    refine wpAnyT_two (i := 25) (j := 28) (by kernel_rfl) rfl rfl (fun K hK => ?_) (fun K hK => ?_)
    · rw [if_pos (by rfl)]
      go_simp
      obtain ⟨wb, eb, hF, hBb, hsb⟩ := one_new wd [.int .u8 ((d0.toNat : Int) % 64), .int .u8 (d1.toNat : Nat), .int .u8 (d4.toNat : Nat), .int .u8 (d5.toNat : Nat), .int .u8 (d6.toNat : Nat), .int .u8 (d7.toNat : Nat), .int .u8 ((n : Int) / 256), .int .u8 ((n : Int) % 256)].toArray 5
      have HBB : Hid (Bytes wb (.slice (some ⟨wd.heap.size, 0, none⟩) 8 8) (imp l).head) := Lib.hid (by unfold Bytes; rw [HIH.out]; exact box_sl (off := 0) (cap := 8) hBb _ (by intro i y hy; simpa using hy) (by simp) (by unfold maxLen; omega))
      have HBL : Hid (w.heap.size < wd.heap.size) := Lib.hid (by have := HR.out.lt; omega)
      have HSS := Lib.hid (by have h := HSS.out; exact ⟨hF.cellSome h.1 (by simp), hF.cellSome h.2.1 (by simp), hF.cellSome h.2.2.1 (by simp), hF.cellSome h.2.2.2.1 (by simp), hF.cellSome h.2.2.2.2.1 (by simp), hF.cellSome h.2.2.2.2.2 (by simp)⟩ : Hid (wb.cell? ⟨b, o + 0, none⟩ = some (.int .u8 (d0.toNat : Nat)) ∧ wb.cell? ⟨b, o + 1, none⟩ = some (.int .u8 (d1.toNat : Nat)) ∧ wb.cell? ⟨b, o + 4, none⟩ = some (.int .u8 (d4.toNat : Nat)) ∧ wb.cell? ⟨b, o + 5, none⟩ = some (.int .u8 (d5.toNat : Nat)) ∧ wb.cell? ⟨b, o + 6, none⟩ = some (.int .u8 (d6.toNat : Nat)) ∧ wb.cell? ⟨b, o + 7, none⟩ = some (.int .u8 (d7.toNat : Nat))))
      have HR := Lib.hid (HR.out.keep hF); have HF := Lib.hid (HF.out.trans hF); have HD := Lib.hid (HD.out.keep hF)
      clear hBb hsb hF
      try rw [eb]
      clear eb
      refine hK.out _ _ (fun _ => HSS.out) ?_
      clear hK K
      simp only [Act.put, List.getElem_toArray, List.getElem_cons_zero, List.getElem_cons_succ, List.setIfInBounds_toArray, List.set_cons_zero, List.set_cons_succ]
      refine wpAnyT_one (i := 28) (by kernel_rfl) rfl (fun K hK => ?_)
      rw [if_pos (by rfl)]
      go_simp
      refine (RCopy_any HD.out (by rw [HDL.out]; omega)).mono ?_
      rintro e wc ⟨vc, rfl, hO, hF⟩
      obtain ⟨ac, nc, cc, rfl⟩ := hO.isSlice
      have HCP := Lib.hid hO.bytes
      have HCL : Hid (∀ k, liveOf (.slice ac nc cc) = some k → w.heap.size < k) := Lib.hid (fun k hk => by have h1 := hO.block k (live_block hk); have := HR.out.lt; omega)
      have HSS := Lib.hid (by have h := HSS.out; exact ⟨hF.cellSome h.1 (by simp), hF.cellSome h.2.1 (by simp), hF.cellSome h.2.2.1 (by simp), hF.cellSome h.2.2.2.1 (by simp), hF.cellSome h.2.2.2.2.1 (by simp), hF.cellSome h.2.2.2.2.2 (by simp)⟩ : Hid (wc.cell? ⟨b, o + 0, none⟩ = some (.int .u8 (d0.toNat : Nat)) ∧ wc.cell? ⟨b, o + 1, none⟩ = some (.int .u8 (d1.toNat : Nat)) ∧ wc.cell? ⟨b, o + 4, none⟩ = some (.int .u8 (d4.toNat : Nat)) ∧ wc.cell? ⟨b, o + 5, none⟩ = some (.int .u8 (d5.toNat : Nat)) ∧ wc.cell? ⟨b, o + 6, none⟩ = some (.int .u8 (d6.toNat : Nat)) ∧ wc.cell? ⟨b, o + 7, none⟩ = some (.int .u8 (d7.toNat : Nat))))
      have HR := Lib.hid (HR.out.keep hF); have HF := Lib.hid (HF.out.trans hF); have HD := Lib.hid (HD.out.keep hF)
      have HBB := Lib.hid (HBB.out.keep hF)
      clear hO hF
      go_simp
      refine hK.out _ _ (fun _ => HSS.out) ?_
      clear hK K
      simp only [Act.put, List.getElem_toArray, List.getElem_cons_zero, List.getElem_cons_succ, List.setIfInBounds_toArray, List.set_cons_zero, List.set_cons_succ]
      refine wpAnyT_load (i := 29) (v := ?_) rfl (by kernel_rfl) (by kernel_rfl) (by kernel_rfl) (by kernel_rfl) (by kernel_rfl) (fun _ _ _ h => h) HSS.out (by rfl) ?_ ?_
      rotate_left
      · intro w hSw; obtain ⟨z0, z1, z4, z5, z6, z7⟩ := hSw; rw [Nat.add_zero] at z0; go_simp; try with_reducible rfl
      simp only [Act.put, List.getElem_toArray, List.getElem_cons_zero, List.getElem_cons_succ, List.setIfInBounds_toArray, List.set_cons_zero, List.set_cons_succ]
      refine wpAnyT_one (i := 30) (by kernel_rfl) rfl (fun K hK => ?_)
      refine wp_store_row rfl 40 (.tmp 2) (.tmp 49) rfl w.heap.size rfl _ _ rfl 40 HR.out (by kernel_rfl) rfl (by simp [Value.oneCell']) ?_
      intro ws hY hF
      have HSS := Lib.hid (by have h := HSS.out; exact ⟨hF.cellSome h.1 (by simp; omega), hF.cellSome h.2.1 (by simp; omega), hF.cellSome h.2.2.1 (by simp; omega), hF.cellSome h.2.2.2.1 (by simp; omega), hF.cellSome h.2.2.2.2.1 (by simp; omega), hF.cellSome h.2.2.2.2.2 (by simp; omega)⟩ : Hid (ws.cell? ⟨b, o + 0, none⟩ = some (.int .u8 (d0.toNat : Nat)) ∧ ws.cell? ⟨b, o + 1, none⟩ = some (.int .u8 (d1.toNat : Nat)) ∧ ws.cell? ⟨b, o + 4, none⟩ = some (.int .u8 (d4.toNat : Nat)) ∧ ws.cell? ⟨b, o + 5, none⟩ = some (.int .u8 (d5.toNat : Nat)) ∧ ws.cell? ⟨b, o + 6, none⟩ = some (.int .u8 (d6.toNat : Nat)) ∧ ws.cell? ⟨b, o + 7, none⟩ = some (.int .u8 (d7.toNat : Nat))))
      refine hK.out _ _ (fun _ => HSS.out) ?_
      clear hK K
      simp only [Act.put, List.getElem_toArray, List.getElem_cons_zero, List.getElem_cons_succ, List.setIfInBounds_toArray, List.set_cons_zero, List.set_cons_succ]
      refine wpAnyT_load (i := 31) (v := ?_) rfl (by kernel_rfl) (by kernel_rfl) (by kernel_rfl) (by kernel_rfl) (by kernel_rfl) (fun _ _ _ h => h) HSS.out (by rfl) ?_ ?_
      rotate_left
      · intro w hSw; obtain ⟨z0, z1, z4, z5, z6, z7⟩ := hSw; rw [Nat.add_zero] at z0; go_simp; try with_reducible rfl
      simp only [Act.put, List.getElem_toArray, List.getElem_cons_zero, List.getElem_cons_succ, List.setIfInBounds_toArray, List.set_cons_zero, List.set_cons_succ]
      refine wpAnyT_done (by kernel_rfl) ?_ _
      go_wp2_with fail
      refine bodyPost_ret (results_row_1 rfl _ _ w.heap.size 40 _ _ rfl hY Tryz.underlying40 rfl (by kernel_rfl)) rfl (.inl ⟨_, p, HP.out, rfl, ⟨_, _, rfl, ?_, ?_⟩, HF.out.step hF (by simp)⟩)
      · exact Sl.frL HBB.out hF (fun k hk hm => by simp [liveOf] at hk; have := HBL.out; simp at hm; omega)
      · exact Sl.frL HCP.out hF (fun k hk hm => by have := HCL.out k hk; simp at hm; omega)
    · rw [if_pos (by rfl)]
      go_simp
      refine (RCopy_any HD.out (by rw [HDL.out]; omega)).mono ?_
      rintro e wc ⟨vc, rfl, hO, hF⟩
      obtain ⟨ac, nc, cc, rfl⟩ := hO.isSlice
      have HCP := Lib.hid hO.bytes
      have HCL : Hid (∀ k, liveOf (.slice ac nc cc) = some k → w.heap.size < k) := Lib.hid (fun k hk => by have h1 := hO.block k (live_block hk); have := HR.out.lt; omega)
      have HSS := Lib.hid (by have h := HSS.out; exact ⟨hF.cellSome h.1 (by simp), hF.cellSome h.2.1 (by simp), hF.cellSome h.2.2.1 (by simp), hF.cellSome h.2.2.2.1 (by simp), hF.cellSome h.2.2.2.2.1 (by simp), hF.cellSome h.2.2.2.2.2 (by simp)⟩ : Hid (wc.cell? ⟨b, o + 0, none⟩ = some (.int .u8 (d0.toNat : Nat)) ∧ wc.cell? ⟨b, o + 1, none⟩ = some (.int .u8 (d1.toNat : Nat)) ∧ wc.cell? ⟨b, o + 4, none⟩ = some (.int .u8 (d4.toNat : Nat)) ∧ wc.cell? ⟨b, o + 5, none⟩ = some (.int .u8 (d5.toNat : Nat)) ∧ wc.cell? ⟨b, o + 6, none⟩ = some (.int .u8 (d6.toNat : Nat)) ∧ wc.cell? ⟨b, o + 7, none⟩ = some (.int .u8 (d7.toNat : Nat))))
      have HR := Lib.hid (HR.out.keep hF); have HF := Lib.hid (HF.out.trans hF); have HD := Lib.hid (HD.out.keep hF)
      clear hO hF
      go_simp
      refine hK.out _ _ (fun _ => HSS.out) ?_
      clear hK K
      simp only [Act.put, List.getElem_toArray, List.getElem_cons_zero, List.getElem_cons_succ, List.setIfInBounds_toArray, List.set_cons_zero, List.set_cons_succ]
      refine wpAnyT_one (i := 25) (by kernel_rfl) rfl (fun K hK => ?_)
      rw [if_pos (by rfl)]
      go_simp
      obtain ⟨wb, eb, hF, hBb, hsb⟩ := one_new wc [.int .u8 ((d0.toNat : Int) % 64), .int .u8 (d1.toNat : Nat), .int .u8 (d4.toNat : Nat), .int .u8 (d5.toNat : Nat), .int .u8 (d6.toNat : Nat), .int .u8 (d7.toNat : Nat), .int .u8 ((n : Int) / 256), .int .u8 ((n : Int) % 256)].toArray 5
      have HBB : Hid (Bytes wb (.slice (some ⟨wc.heap.size, 0, none⟩) 8 8) (imp l).head) := Lib.hid (by unfold Bytes; rw [HIH.out]; exact box_sl (off := 0) (cap := 8) hBb _ (by intro i y hy; simpa using hy) (by simp) (by unfold maxLen; omega))
      have HBL : Hid (w.heap.size < wc.heap.size) := Lib.hid (by have := HR.out.lt; omega)
      have HSS := Lib.hid (by have h := HSS.out; exact ⟨hF.cellSome h.1 (by simp), hF.cellSome h.2.1 (by simp), hF.cellSome h.2.2.1 (by simp), hF.cellSome h.2.2.2.1 (by simp), hF.cellSome h.2.2.2.2.1 (by simp), hF.cellSome h.2.2.2.2.2 (by simp)⟩ : Hid (wb.cell? ⟨b, o + 0, none⟩ = some (.int .u8 (d0.toNat : Nat)) ∧ wb.cell? ⟨b, o + 1, none⟩ = some (.int .u8 (d1.toNat : Nat)) ∧ wb.cell? ⟨b, o + 4, none⟩ = some (.int .u8 (d4.toNat : Nat)) ∧ wb.cell? ⟨b, o + 5, none⟩ = some (.int .u8 (d5.toNat : Nat)) ∧ wb.cell? ⟨b, o + 6, none⟩ = some (.int .u8 (d6.toNat : Nat)) ∧ wb.cell? ⟨b, o + 7, none⟩ = some (.int .u8 (d7.toNat : Nat))))
      have HR := Lib.hid (HR.out.keep hF); have HF := Lib.hid (HF.out.trans hF); have HD := Lib.hid (HD.out.keep hF)
      have HCP := Lib.hid (HCP.out.keep hF)
      clear hBb hsb hF
      try rw [eb]
      clear eb
      refine hK.out _ _ (fun _ => HSS.out) ?_
      clear hK K
      simp only [Act.put, List.getElem_toArray, List.getElem_cons_zero, List.getElem_cons_succ, List.setIfInBounds_toArray, List.set_cons_zero, List.set_cons_succ]
      refine wpAnyT_load (i := 29) (v := ?_) rfl (by kernel_rfl) (by kernel_rfl) (by kernel_rfl) (by kernel_rfl) (by kernel_rfl) (fun _ _ _ h => h) HSS.out (by rfl) ?_ ?_
      rotate_left
      · intro w hSw; obtain ⟨z0, z1, z4, z5, z6, z7⟩ := hSw; rw [Nat.add_zero] at z0; go_simp; try with_reducible rfl
      simp only [Act.put, List.getElem_toArray, List.getElem_cons_zero, List.getElem_cons_succ, List.setIfInBounds_toArray, List.set_cons_zero, List.set_cons_succ]
      refine wpAnyT_one (i := 30) (by kernel_rfl) rfl (fun K hK => ?_)
      refine wp_store_row rfl 40 (.tmp 2) (.tmp 49) rfl w.heap.size rfl _ _ rfl 40 HR.out (by kernel_rfl) rfl (by simp [Value.oneCell']) ?_
      intro ws hY hF
      have HSS := Lib.hid (by have h := HSS.out; exact ⟨hF.cellSome h.1 (by simp; omega), hF.cellSome h.2.1 (by simp; omega), hF.cellSome h.2.2.1 (by simp; omega), hF.cellSome h.2.2.2.1 (by simp; omega), hF.cellSome h.2.2.2.2.1 (by simp; omega), hF.cellSome h.2.2.2.2.2 (by simp; omega)⟩ : Hid (ws.cell? ⟨b, o + 0, none⟩ = some (.int .u8 (d0.toNat : Nat)) ∧ ws.cell? ⟨b, o + 1, none⟩ = some (.int .u8 (d1.toNat : Nat)) ∧ ws.cell? ⟨b, o + 4, none⟩ = some (.int .u8 (d4.toNat : Nat)) ∧ ws.cell? ⟨b, o + 5, none⟩ = some (.int .u8 (d5.toNat : Nat)) ∧ ws.cell? ⟨b, o + 6, none⟩ = some (.int .u8 (d6.toNat : Nat)) ∧ ws.cell? ⟨b, o + 7, none⟩ = some (.int .u8 (d7.toNat : Nat))))
      refine hK.out _ _ (fun _ => HSS.out) ?_
      clear hK K
      simp only [Act.put, List.getElem_toArray, List.getElem_cons_zero, List.getElem_cons_succ, List.setIfInBounds_toArray, List.set_cons_zero, List.set_cons_succ]
      refine wpAnyT_load (i := 31) (v := ?_) rfl (by kernel_rfl) (by kernel_rfl) (by kernel_rfl) (by kernel_rfl) (by kernel_rfl) (fun _ _ _ h => h) HSS.out (by rfl) ?_ ?_
      rotate_left
      · intro w hSw; obtain ⟨z0, z1, z4, z5, z6, z7⟩ := hSw; rw [Nat.add_zero] at z0; go_simp; try with_reducible rfl
      simp only [Act.put, List.getElem_toArray, List.getElem_cons_zero, List.getElem_cons_succ, List.setIfInBounds_toArray, List.set_cons_zero, List.set_cons_succ]
      refine wpAnyT_done (by kernel_rfl) ?_ _
      go_wp2_with fail
      refine bodyPost_ret (results_row_1 rfl _ _ w.heap.size 40 _ _ rfl hY Tryz.underlying40 rfl (by kernel_rfl)) rfl (.inl ⟨_, p, HP.out, rfl, ⟨_, _, rfl, ?_, ?_⟩, HF.out.step hF (by simp)⟩)
      · exact Sl.frL HBB.out hF (fun k hk hm => by simp [liveOf] at hk; have := HBL.out; simp at hm; omega)
      · exact Sl.frL HCP.out hF (fun k hk hm => by have := HCL.out k hk; simp at hm; omega)
end Go.Proofs.YtchbgiindfoepaaGreat

/- The walk of imprint.Packet (printed by gen_imp5.py). -/
namespace Go.Proofs.YtchbgiindfoepaaGreat
open Go.RowKit

theorem ib_first (a : UInt8) : ib ((128 ||| (a.toNat &&& 63) : Nat) : Int) = 128 ||| (a &&& 63) := by
  have h : 128 ||| (a.toNat &&& 63) < 256 := Nat.or_lt_two_pow (n := 8) (by omega) (Nat.lt_of_le_of_lt Nat.and_le_left a.toNat_lt)
  rw [← UInt8.toNat_inj, UInt8.toNat_or, UInt8.toNat_and]
  unfold ib
  rw [UInt8.toNat_ofNat']
  show _ = 128 ||| (a.toNat &&& 63)
  omega
theorem ib_byte (a : UInt8) : ib ((a.toNat : Nat) : Int) = a := by
  rw [← UInt8.toNat_inj]
  unfold ib
  rw [UInt8.toNat_ofNat']
  have := a.toNat_lt
  omega
theorem or128' (m : Nat) (hm : m < 256) : bits .or .i64 128 (m : Int) = ((128 ||| m : Nat) : Int) := i64_or_nat 128 m (by omega) (by omega)
set_option maxRecDepth 100000 in
set_option maxHeartbeats 4000000 in
theorem impPacket_any {w : World} {v : Value} {x : Bt} (h : BtV w v x) (hl : x.body.length ≤ 1099511627776) (s : UInt16) (t : UInt32) :
    Calls Tryz.prog 18 #[v, .int .u16 (s.toNat : Nat), .int .u32 (t.toNat : Nat)] w fun e w' =>
      (∃ l v', x.pack s t = .ok l ∧ e = .returned (.tuple #[v', .int .i64 0]) ∧ OwnB w' w.heap.size v' l ∧ Fr [] w w') ∨
      (x.pack s t = .error 42 ∧ e = .returned (.tuple #[.slice none 0 0, .int .i64 42]) ∧ Fr [] w w') := by
  obtain ⟨a, c, rfl, hb⟩ := h.open_
  have hcap := (Sl.len hb).2.1
  have HGL : Hid (∀ k, liveOf (.slice a x.body.length c) = some k → k < w.heap.size) := Lib.hid (fun k hk => Sl.lt hb k hk)
  obtain ⟨w1, e1, hF1, hB1, hs1⟩ := one_new w (bc x (.slice a x.body.length c)) 54
  have HF := Lib.hid hF1; have HB := Lib.hid hB1; have HV := Lib.hid (h.keep hF1); have G := Lib.hid (Sl.keep hb hF1)
  have E1 := Lib.hid e1
  have hs1' := hs1
  have hlen := x.len_lt
  have hsl := s.toNat_lt; have htl := t.toNat_lt
  clear h hb hF1 hB1 e1 hs1
  go_enter Tryz.func18, Tryz.ntmps18
  go_upto_region 1 with (fail)
  rw [E1.out]
  clear E1
  go_wp2_with (refine wpList_load_row rfl 54 (.tmp 3) rfl w.heap.size rfl 54 _ _ _ HB.out Tryz.underlying54 rfl (by kernel_rfl) ?_)
  refine (impLength_any HV.out).mono ?_
  rintro e w2 ⟨rfl, hF⟩
  have HB := Lib.hid (HB.out.keep hF); have HF := Lib.hid (HF.out.trans hF); have G := Lib.hid (Sl.keep G.out hF)
  have hs2 := hF.size
  clear hF HV
  obtain ⟨x0, x1, x2, x3, x4, x5, x6, x7, x8⟩ := HB.out.bcells
  by_cases c1 : x.body.length < x.len
  · go_wp2_with fail
    go_ret2
    exact .inr ⟨by unfold Bt.pack; rw [if_pos (by omega)], rfl, HF.out⟩
  by_cases c2 : 1488 < x.len
  · go_wp2_with fail
    go_ret2
    exact .inr ⟨by unfold Bt.pack; rw [if_pos (by omega)], rfl, HF.out⟩
  have c3 : ¬ (x.body.length < x.len ∨ 1488 < x.len) := by omega
  have hpk : x.pack s t = match parseR (x.out s t) with | .ok _ => .ok (x.out s t) | .error _ => .error 42 := by unfold Bt.pack; rw [if_neg c3]; rfl
  have HPK := Lib.hid hpk
  clear hpk c3
  obtain ⟨w3, e3, hF3, hB3, hs3⟩ := one_new w2 #[.slice none 0 0] 93
  have HW3 : Hid (Wr w3 w2.heap.size (.slice none 0 0) (w2.heap.size + 1) []) := Lib.hid ⟨hB3, World.ownsRow_nil _ _ _ _, by omega, by omega⟩
  have HB := Lib.hid (HB.out.keep hF3); have HF := Lib.hid (HF.out.trans hF3); have G := Lib.hid (Sl.keep G.out hF3)
  have E3 := Lib.hid e3
  have HWS := Lib.hid (WS.start HW3.out)
  have hWl : w.heap.size < w2.heap.size := by omega
  clear hF3 hB3 e3 hs3
  go_upto_region 5 with (fail)
  rw [E3.out]
  clear E3 x0 x1 x2 x3 x4 x5 x6 x7 x8
  have h063 : x.h0.toNat &&& 63 < 256 := Nat.lt_of_le_of_lt Nat.and_le_left x.h0.toNat_lt
  have hor := or128' (x.h0.toNat &&& 63) h063
  have hand := u8_and63 x.h0
  rw [UInt8.toNat_and] at hand
  have hif := ib_first x.h0; have hi1 := ib_byte x.h1
  have HIF := Lib.hid hif; have HI1 := Lib.hid hi1
  have hx1 := x.h1.toNat_lt
  clear hif hi1
  generalize hh0 : x.h0.toNat = b0 at *
  generalize hh1 : x.h1.toNat = b1 at *
  have HH0 := Lib.hid hh0; have HH1 := Lib.hid hh1
  clear hh0 hh1
  obtain ⟨x0, x1, x2, x3, x4, x5, x6, x7, x8⟩ := (HB.out.fr HWS.out.fr (by simp [blockOf]; omega)).bcells
  rw [HH0.out] at x0
  rw [HH1.out] at x1
  go_wp2_with fail
  clear x0 x1 x2 x3 x4 x5 x6 x7 x8
  clear hor hand
  refine (wbyte_any HWS.out.wr ((128 ||| (b0 &&& 63) : Nat) : Int) (by simp [beN_len, Bt.head]; try omega)).mono ?_
  rintro e w4 ⟨v4, rfl, h⟩
  have HN := Lib.hid (HWS.out.trans h)
  clear h HWS
  have HWS := HN
  clear HN
  obtain ⟨x0, x1, x2, x3, x4, x5, x6, x7, x8⟩ := (HB.out.fr HWS.out.fr (by simp [blockOf]; omega)).bcells
  rw [HH0.out] at x0
  rw [HH1.out] at x1
  go_wp2_with fail
  clear x0 x1 x2 x3 x4 x5 x6 x7 x8
  refine (wbyte_any HWS.out.wr ((b1 : Nat) : Int) (by simp [beN_len, Bt.head]; try omega)).mono ?_
  rintro e w5 ⟨v5, rfl, h⟩
  have HN := Lib.hid (HWS.out.trans h)
  clear h HWS
  have HWS := HN
  clear HN
  obtain ⟨x0, x1, x2, x3, x4, x5, x6, x7, x8⟩ := (HB.out.fr HWS.out.fr (by simp [blockOf]; omega)).bcells
  rw [HH0.out] at x0
  rw [HH1.out] at x1
  go_wp2_with fail
  clear x0 x1 x2 x3 x4 x5 x6 x7 x8
  refine (wword_any HWS.out.wr s.toNat hsl (by simp [beN_len, Bt.head]; try omega)).mono ?_
  rintro e w6 ⟨v6, rfl, h⟩
  have HN := Lib.hid (HWS.out.trans h)
  clear h HWS
  have HWS := HN
  clear HN
  have HH4 : Hid (Bytes w6 (.slice (some ⟨w.heap.size, 2, none⟩) 4 6) [x.h2, x.h3, x.h4, x.h5]) := Lib.hid (box_sl (off := 2) (cap := 6) (HB.out.fr HWS.out.fr (by simp [blockOf]; omega)) ([x.h2, x.h3, x.h4, x.h5].map B8) (by
    intro i y hy
    have hl : i < 4 := (List.getElem?_eq_some_iff.1 hy).1
    match i, hl with
    | 0, _ | 1, _ | 2, _ | 3, _ => exact hy) (by simp) (by unfold maxLen; omega))
  obtain ⟨x0, x1, x2, x3, x4, x5, x6, x7, x8⟩ := (HB.out.fr HWS.out.fr (by simp [blockOf]; omega)).bcells
  rw [HH0.out] at x0
  rw [HH1.out] at x1
  go_wp2_with fail
  clear x0 x1 x2 x3 x4 x5 x6 x7 x8
  refine (wput_any HWS.out.wr HH4.out (by simp) (by simp [beN_len, Bt.head]; try omega)).mono ?_
  rintro e w7 ⟨v7, rfl, h⟩
  have HN := Lib.hid (HWS.out.trans h)
  clear h HWS
  have HWS := HN
  clear HN
  obtain ⟨x0, x1, x2, x3, x4, x5, x6, x7, x8⟩ := (HB.out.fr HWS.out.fr (by simp [blockOf]; omega)).bcells
  rw [HH0.out] at x0
  rw [HH1.out] at x1
  go_wp2_with fail
  clear x0 x1 x2 x3 x4 x5 x6 x7 x8
  refine (wlong_any HWS.out.wr t.toNat htl (by simp [beN_len, Bt.head]; try omega)).mono ?_
  rintro e w8 ⟨v8, rfl, h⟩
  have HN := Lib.hid (HWS.out.trans h)
  clear h HWS
  have HWS := HN
  clear HN
  have hsl1 : x.len ≤ c := by omega
  have HBD : Hid (Bytes w8 (.slice a x.len c) (x.body.take x.len)) := Lib.hid (by
    have h1 := Sl.frL G.out HWS.out.fr (fun k hk hm => by have := HGL.out k hk; simp [blockOf] at hm; omega)
    have h2 := Sl.pre h1 x.len c (by omega) (by omega) (Nat.le_refl _)
    unfold Bytes
    rwa [List.map_take])
  have hc2i : ((x.len : Nat) : Int) ≤ (c : Nat) := by omega
  obtain ⟨x0, x1, x2, x3, x4, x5, x6, x7, x8⟩ := (HB.out.fr HWS.out.fr (by simp [blockOf]; omega)).bcells
  rw [HH0.out] at x0
  rw [HH1.out] at x1
  go_wp2_with fail
  clear x0 x1 x2 x3 x4 x5 x6 x7 x8
  refine (wput_any HWS.out.wr HBD.out (by rw [List.length_take]; omega) (by simp [beN_len, Bt.head]; try omega)).mono ?_
  rintro e w9 ⟨v9, rfl, h⟩
  have HN := Lib.hid (HWS.out.trans h)
  clear h HWS
  have HWS := HN
  clear HN
  have HOUT : Hid ([] ++ [ib ((128 ||| (b0 &&& 63) : Nat) : Int)] ++ [ib ((b1 : Nat) : Int)] ++ beN s.toNat 2 ++ [x.h2, x.h3, x.h4, x.h5] ++ beN t.toNat 4 ++ x.body.take x.len = x.out s t) := Lib.hid (by
    rw [HIF.out, HI1.out]; unfold Bt.out; simp)
  rw [HOUT.out] at HWS
  have HOL : Hid ((x.out s t).length ≤ 1500) := Lib.hid (by unfold Bt.out; simp [beN_len]; omega)
  go_wp2_with fail
  refine (wdone_any HWS.out.wr (by have := HOL.out; omega)).mono ?_
  rintro e wa ⟨va, rfl, hO, hF⟩
  have HWS := Lib.hid (HWS.out.quiet hF); have HOA := Lib.hid hO.bytes
  clear hO hF
  go_wp2_with fail
  refine (Parse_any HOA.out).mono ?_
  rintro e wb (⟨vp, p, hp, rfl, hVp, hF⟩ | ⟨k, hp, rfl, hF⟩)
  rotate_left
  · have HP := Lib.hid hp
    have hk : (k != 0) = true := by simpa using parseR_err hp
    have HWS := Lib.hid (HWS.out.quiet hF)
    clear hp hF
    unfold pz
    go_upto_region 13 with (refine wpList_store_row rfl 66 (.tmp 10) (.tmp 50) rfl wb.heap.size rfl _ _ rfl 66 (Box.new wb 66 #[.bool false, .int .i64 0, .int .u16 0, .int .u32 0, .int .u32 0, .slice none 0 0, .bool false, .int .u16 0, .slice none 0 0, .slice none 0 0, .slice none 0 0]) (by kernel_rfl) rfl (oneCell_pz) ?_; intro wc hY hG; have hFn := ((Fr.refl [] wb).alloc _).step hG (by simp); have HFn := Lib.hid hFn; have HY := Lib.hid hY; clear hG hFn hY)
    have HWS := Lib.hid (HWS.out.quiet HFn.out)
    clear HFn HY
    go_wp2_with fail
    go_ret2
    exact .inr ⟨by rw [HPK.out, HP.out], rfl, HWS.out.outer HW3.out HF.out (by omega)⟩
  · have HP := Lib.hid hp
    obtain ⟨q1, k1, q2, k2, q3, k3, q4, k4, rfl, -, -, -, -⟩ := hVp.open_
    have HWS := Lib.hid (HWS.out.quiet hF)
    clear hp hF hVp
    go_upto_region 14 with (refine wpList_store_row rfl 66 (.tmp 10) (.tmp 50) rfl wb.heap.size rfl _ _ rfl 66 (Box.new wb 66 #[.bool false, .int .i64 0, .int .u16 0, .int .u32 0, .int .u32 0, .slice none 0 0, .bool false, .int .u16 0, .slice none 0 0, .slice none 0 0, .slice none 0 0]) (by kernel_rfl) rfl (oneCell_pc _ _ _ _ _ _ _ _ _ _ _ ⟨_, _, _, rfl⟩ ⟨_, _, _, rfl⟩ ⟨_, _, _, rfl⟩ ⟨_, _, _, rfl⟩) ?_; intro wc hY hG; have hFn := ((Fr.refl [] wb).alloc _).step hG (by simp); have HFn := Lib.hid hFn; have HY := Lib.hid hY; clear hG hFn hY)
    have HWS := Lib.hid (HWS.out.quiet HFn.out)
    have hszc := (HWS.out.outer HW3.out HF.out (by omega)).size
    clear HFn HY
    go_wp2_with fail
    refine (wdone_any HWS.out.wr (by have := HOL.out; omega)).mono ?_
    rintro e wd ⟨vd, rfl, hO, hF⟩
    have HWS := Lib.hid (HWS.out.quiet hF); have HOD := Lib.hid (hO.mono hszc)
    clear hO hF
    go_wp2_with fail
    go_ret2
    exact .inl ⟨_, _, by rw [HPK.out, HP.out], rfl, HOD.out, HWS.out.outer HW3.out HF.out (by omega)⟩
end Go.Proofs.YtchbgiindfoepaaGreat
