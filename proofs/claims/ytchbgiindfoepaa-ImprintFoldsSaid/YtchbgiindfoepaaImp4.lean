/- The walk of confluxref12.Of (printed by gen_imp4.py). -/
import Derived.Test.YtchbgiindfoepaaImp3
namespace Go.Proofs.Ytchbgiindfoepaa
open Go.RowKit

theorem and63_mod (a : UInt8) : (a &&& 63).toNat = a.toNat % 64 := by
  rw [UInt8.toNat_and]
  exact Nat.and_two_pow_sub_one_eq_mod a.toNat 6
theorem imp_head {l : List UInt8} {n : Nat} (hn : l.length = n + 12) (hs : n ≤ 1488) : (imp l).head.map B8 = [.int .u8 (((l.getD 0 0).toNat : Int) % 64), .int .u8 ((l.getD 1 0).toNat : Nat), .int .u8 ((l.getD 4 0).toNat : Nat), .int .u8 ((l.getD 5 0).toNat : Nat), .int .u8 ((l.getD 6 0).toNat : Nat), .int .u8 ((l.getD 7 0).toNat : Nat), .int .u8 ((n : Int) / 256), .int .u8 ((n : Int) % 256)] := by
  have h1 : (UInt8.ofNat (n / 256)).toNat = n / 256 := by rw [UInt8.toNat_ofNat']; omega
  have h2 : (UInt8.ofNat n).toNat = n % 256 := by rw [UInt8.toNat_ofNat']
  unfold imp Bt.head B8
  simp only [hn, Nat.add_sub_cancel, List.map_cons, List.map_nil, h1, h2, and63_mod]
  rfl
set_option maxRecDepth 100000 in
set_option maxHeartbeats 4000000 in
theorem r12Of_any {w : World} {v : Value} {l : List UInt8} (hl : Bytes w v l) :
    Calls Try.prog 72 #[v] w fun e w' =>
      (∃ v' p, parseR l = .ok p ∧ e = .returned (.tuple #[v', .int .i64 0]) ∧ RBV w' v' (imp l).head (imp l).body ∧ Fr [] w w') ∨
      (∃ v' k, parseR l = .error k ∧ e = .returned (.tuple #[v', .int .i64 k]) ∧ RBV w' v' (List.replicate 8 0) [] ∧ Fr [] w w') := by
  obtain ⟨av, cv, rfl⟩ := hl.shape
  simp only [List.length_map] at hl ⊢
  have HL := Lib.hid hl
  obtain ⟨iu8, hi1, hi2, hi3, hi4⟩ := info_parts info_u8
  have HI1 := Lib.hid hi1; have HI2 := Lib.hid hi2; have HI3 := Lib.hid hi3; have HI4 := Lib.hid hi4
  obtain ⟨w1, e1, hF1, hB1, hs1⟩ := one_new w #[.slice none 0 0, .slice none 0 0] 37
  have HF := Lib.hid hF1; have HR := Lib.hid hB1
  have E1 := Lib.hid e1
  have hs1' := hs1
  clear hl hF1 hB1 e1 hs1 hi1 hi2 hi3 hi4
  go_enter Try.func72, Try.ntmps72
  go_upto_region 1 with (fail)
  rw [E1.out]
  clear E1
  go_wp2_with fail
  refine (R5Parse_any (HL.out.keep HF.out)).mono ?_
  rintro e w2 (⟨vp, p, hp, rfl, hVp, hF⟩ | ⟨k, hp, rfl, hF⟩)
  rotate_left
  · have HP := Lib.hid hp
    have hk : (k != 0) = true := by simpa using parseR_err hp
    have HR := Lib.hid (HR.out.keep hF); have HF := Lib.hid (HF.out.trans hF)
    have hs2 := hF.size
    clear hp hF
    unfold pz
    go_upto_region 3 with (refine wpList_store_row rfl 88 (.tmp 4) (.tmp 10) rfl w2.heap.size rfl _ _ rfl 88 (Box.new w2 88 #[.bool false, .int .i64 0, .int .u16 0, .int .u32 0, .int .u32 0, .slice none 0 0, .bool false, .int .u16 0, .slice none 0 0, .slice none 0 0, .slice none 0 0]) (by kernel_rfl) rfl (oneCell_pz) ?_; intro w3 hY hG; have hFn := ((Fr.refl [] w2).alloc _).step hG (by simp); have HFn := Lib.hid hFn; have HY := Lib.hid hY; clear hG hFn hY)
    have HR := Lib.hid (HR.out.keep HFn.out); have HF := Lib.hid (HF.out.trans HFn.out)
    have hs3 := HFn.out.size
    clear HFn HY
    obtain ⟨w4, e4, hF4, hB4, hs4⟩ := one_new w3 (madeCells #[.int .u8 0] 8) 5
    rw [madeCells_one] at hB4
    have HB4 := Lib.hid hB4; have HR := Lib.hid (HR.out.keep hF4); have HF := Lib.hid (HF.out.trans hF4)
    have E4 := Lib.hid e4
    clear hF4 hB4 e4
    have hsw : w.heap.size < w3.heap.size := by omega
    go_wp2_with (first | (refine wpList_make_row _ rfl _ _ _ rfl 5 iu8 (.int .u8 0) Try.underlying25 HI1.out HI2.out HI3.out rfl .i64 .i64 8 rfl rfl (by rw [HI4.out]; omega) (by omega) ?_; rw [E4.out]; clear E4) | (refine wpList_store_row rfl 37 (.tmp 2) (.tmp 15) rfl w.heap.size rfl _ #[.slice (some ⟨w3.heap.size, 0, none⟩) 8 8, .slice none 0 0] rfl 37 HR.out (by kernel_rfl) rfl (by simp [Value.oneCell']) ?_; intro w5 hY hG))
    refine bodyPost_ret (results_row_1 rfl _ _ w.heap.size 37 _ _ rfl hY Try.underlying37 rfl (by kernel_rfl)) rfl (.inr ⟨_, k, HP.out, rfl, ⟨_, _, rfl, ?_, Sl.nil _⟩, HF.out.step hG (by simp)⟩)
    have hb : Box w5 w3.heap.size 5 (List.replicate 8 (.int .u8 0)).toArray := HB4.out.fr hG (by simp; omega)
    exact box_sl (off := 0) (cap := 8) hb ((List.replicate 8 (0 : UInt8)).map B8) (by intro i y hy; simpa [B8] using hy) (by simp) (by unfold maxLen; omega)
  · have HP := Lib.hid hp
    obtain ⟨h12, h15⟩ := parse_len hp
    obtain ⟨b, o, ea, hbl, -⟩ := HL.out.at_ (k := 0) (by omega)
    subst ea
    obtain ⟨q1, k1, q2, k2, q3, k3, q4, k4, rfl, -, -, -, -⟩ := hVp.open_
    have HR := Lib.hid (HR.out.keep hF); have HF := Lib.hid (HF.out.trans hF)
    have hs2 := hF.size
    clear hp hF hVp
    go_upto_region 4 with (refine wpList_store_row rfl 88 (.tmp 4) (.tmp 10) rfl w2.heap.size rfl _ _ rfl 88 (Box.new w2 88 #[.bool false, .int .i64 0, .int .u16 0, .int .u32 0, .int .u32 0, .slice none 0 0, .bool false, .int .u16 0, .slice none 0 0, .slice none 0 0, .slice none 0 0]) (by kernel_rfl) rfl (oneCell_pc _ _ _ _ _ _ _ _ _ _ _ ⟨_, _, _, rfl⟩ ⟨_, _, _, rfl⟩ ⟨_, _, _, rfl⟩ ⟨_, _, _, rfl⟩) ?_; intro w3 hY hG; have hFn := ((Fr.refl [] w2).alloc _).step hG (by simp); have HFn := Lib.hid hFn; have HY := Lib.hid hY; clear hG hFn hY)
    have HR := Lib.hid (HR.out.keep HFn.out); have HF := Lib.hid (HF.out.trans HFn.out)
    have hs3 := HFn.out.size
    clear HFn HY
    obtain ⟨n, hn⟩ : ∃ n, l.length = n + 12 := ⟨l.length - 12, by omega⟩
    have HN := Lib.hid hn
    have hn15 : n ≤ 1488 := by omega
    have hIH := imp_head hn hn15
    obtain ⟨d0, hd0⟩ : ∃ d, l.getD 0 0 = d := ⟨_, rfl⟩
    obtain ⟨d1, hd1⟩ : ∃ d, l.getD 1 0 = d := ⟨_, rfl⟩
    obtain ⟨d4, hd4⟩ : ∃ d, l.getD 4 0 = d := ⟨_, rfl⟩
    obtain ⟨d5, hd5⟩ : ∃ d, l.getD 5 0 = d := ⟨_, rfl⟩
    obtain ⟨d6, hd6⟩ : ∃ d, l.getD 6 0 = d := ⟨_, rfl⟩
    obtain ⟨d7, hd7⟩ : ∃ d, l.getD 7 0 = d := ⟨_, rfl⟩
    rw [hd0, hd1, hd4, hd5, hd6, hd7] at hIH
    have HIH := Lib.hid hIH
    have hF3d := (Fr.refl [] w3).drew
    have HB : Hid (Bytes w3.drew _ l) := Lib.hid ((HL.out.keep HF.out).keep hF3d); have HR := Lib.hid (HR.out.keep hF3d); have HF := Lib.hid (HF.out.trans hF3d)
    have hcl : n + 12 ≤ cv := by have := Sl.len HL.out; rw [hn] at this; exact this.2.1
    have c0 := HB.out.cell 0 (by omega)
    rw [hd0] at c0
    have c1 := HB.out.cell 1 (by omega)
    rw [hd1] at c1
    have c4 := HB.out.cell 4 (by omega)
    rw [hd4] at c4
    have c5 := HB.out.cell 5 (by omega)
    rw [hd5] at c5
    have c6 := HB.out.cell 6 (by omega)
    rw [hd6] at c6
    have c7 := HB.out.cell 7 (by omega)
    rw [hd7] at c7
    have HSS := Lib.hid (And.intro c0 (And.intro c1 (And.intro c4 (And.intro c5 (And.intro c6 c7)))))
    rw [hn] at HL HB ⊢
    obtain ⟨qP, hqP⟩ : ∃ q, (if cv = 12 then some (⟨b, o, none⟩ : Addr) else some ⟨b, o + 12, none⟩) = q := ⟨_, rfl⟩
    have HD : Hid (Bytes w3.drew (.slice qP n (cv - 12)) (l.drop 12)) := Lib.hid (by
      have := Sl.sub HB.out 12 n (by omega)
      simp only [Option.map_some, addr_add] at this
      rw [hqP] at this
      unfold Bytes
      rwa [← List.map_drop, List.take_of_length_le (by simp; omega)] at this)
    have HDL : Hid ((l.drop 12).length = n) := Lib.hid (by simp; omega)
    have hcv : 12 ≤ cv := by omega
    have hii : (12 : Int) ≤ (n : Int) + 12 := by omega
    have hi0 : (0 : Int) < (n : Int) + 12 := by omega
    have hi1 : (1 : Int) < (n : Int) + 12 := by omega
    have hi4 : (4 : Int) < (n : Int) + 12 := by omega
    have hi5 : (5 : Int) < (n : Int) + 12 := by omega
    have hi6 : (6 : Int) < (n : Int) + 12 := by omega
    have hi7 : (7 : Int) < (n : Int) + 12 := by omega
    clear hn h12 h15 c0 c1 c4 c5 c6 c7 hd0 hd1 hd4 hd5 hd6 hd7 hIH hF3d
    have hm0 : (d0.toNat : Int).tmod 64 = (d0.toNat : Int) % 64 := Int.tmod_eq_emod_of_nonneg (by omega)
    have hm1 : IntKind.i64.wrap ((n : Int) / 256) = (n : Int) / 256 := IntWalk.i64_in _ (by omega)
    have hm2 : IntKind.u8.wrap ((n : Int) / 256) = (n : Int) / 256 := by rw [IntKind.wrap_u8]; omega
    have hm3 : (n : Int).tmod 256 = (n : Int) % 256 := Int.tmod_eq_emod_of_nonneg (by omega)
    have hm4 : IntKind.u8.wrap ((n : Int) % 256) = (n : Int) % 256 := by rw [IntKind.wrap_u8]; omega
    go_upto_region 5 with (fail)
    refine wp_region_T (fun w' => w'.cell? ⟨b, o + 0, none⟩ = some (.int .u8 (d0.toNat : Nat)) ∧ w'.cell? ⟨b, o + 1, none⟩ = some (.int .u8 (d1.toNat : Nat)) ∧ w'.cell? ⟨b, o + 4, none⟩ = some (.int .u8 (d4.toNat : Nat)) ∧ w'.cell? ⟨b, o + 5, none⟩ = some (.int .u8 (d5.toNat : Nat)) ∧ w'.cell? ⟨b, o + 6, none⟩ = some (.int .u8 (d6.toNat : Nat)) ∧ w'.cell? ⟨b, o + 7, none⟩ = some (.int .u8 (d7.toNat : Nat))) [] 32 #[false, false, false, false, false, false, false, false, false, false, false, false, false, false, false, false, false, false, false, false, false, false, false, false, false, false, false, false, false, false, false, false] (by kernel_rfl) rfl rfl ?_
    generalize w3.drew = wd at *
    refine wpAnyT_load (i := 0) (v := ?_) rfl (by kernel_rfl) (by kernel_rfl) (by kernel_rfl) (by kernel_rfl) (by kernel_rfl) (fun _ _ _ h => h) HSS.out (by rfl) ?_ ?_
    rotate_left
    · intro w hSw; obtain ⟨z0, z1, z4, z5, z6, z7⟩ := hSw; rw [Nat.add_zero] at z0; go_simp; try with_reducible rfl
    simp only [Act.put, List.getElem_toArray, List.getElem_cons_zero, List.getElem_cons_succ, List.setIfInBounds_toArray, List.set_cons_zero, List.set_cons_succ]
    refine wpAnyT_load (i := 1) (v := ?_) rfl (by kernel_rfl) (by kernel_rfl) (by kernel_rfl) (by kernel_rfl) (by kernel_rfl) (fun _ _ _ h => h) HSS.out (by rfl) ?_ ?_
    rotate_left
    · intro w hSw; obtain ⟨z0, z1, z4, z5, z6, z7⟩ := hSw; rw [Nat.add_zero] at z0; go_simp; try with_reducible rfl
    simp only [Act.put, List.getElem_toArray, List.getElem_cons_zero, List.getElem_cons_succ, List.setIfInBounds_toArray, List.set_cons_zero, List.set_cons_succ]
    refine wpAnyT_load (i := 2) (v := ?_) rfl (by kernel_rfl) (by kernel_rfl) (by kernel_rfl) (by kernel_rfl) (by kernel_rfl) (fun _ _ _ h => h) HSS.out (by rfl) ?_ ?_
    rotate_left
    · intro w hSw; obtain ⟨z0, z1, z4, z5, z6, z7⟩ := hSw; rw [Nat.add_zero] at z0; go_simp; try with_reducible rfl
    simp only [Act.put, List.getElem_toArray, List.getElem_cons_zero, List.getElem_cons_succ, List.setIfInBounds_toArray, List.set_cons_zero, List.set_cons_succ]
    refine wpAnyT_load (i := 3) (v := ?_) rfl (by kernel_rfl) (by kernel_rfl) (by kernel_rfl) (by kernel_rfl) (by kernel_rfl) (fun _ _ _ h => h) HSS.out (by rfl) ?_ ?_
    rotate_left
    · intro w hSw; obtain ⟨z0, z1, z4, z5, z6, z7⟩ := hSw; rw [Nat.add_zero] at z0; go_simp; try with_reducible rfl
    simp only [Act.put, List.getElem_toArray, List.getElem_cons_zero, List.getElem_cons_succ, List.setIfInBounds_toArray, List.set_cons_zero, List.set_cons_succ]
    refine wpAnyT_load (i := 4) (v := ?_) rfl (by kernel_rfl) (by kernel_rfl) (by kernel_rfl) (by kernel_rfl) (by kernel_rfl) (fun _ _ _ h => h) HSS.out (by rfl) ?_ ?_
    rotate_left
    · intro w hSw; obtain ⟨z0, z1, z4, z5, z6, z7⟩ := hSw; rw [Nat.add_zero] at z0; go_simp; try with_reducible rfl
    simp only [Act.put, List.getElem_toArray, List.getElem_cons_zero, List.getElem_cons_succ, List.setIfInBounds_toArray, List.set_cons_zero, List.set_cons_succ]
    refine wpAnyT_load (i := 5) (v := ?_) rfl (by kernel_rfl) (by kernel_rfl) (by kernel_rfl) (by kernel_rfl) (by kernel_rfl) (fun _ _ _ h => h) HSS.out (by rfl) ?_ ?_
    rotate_left
    · intro w hSw; obtain ⟨z0, z1, z4, z5, z6, z7⟩ := hSw; rw [Nat.add_zero] at z0; go_simp; try with_reducible rfl
    simp only [Act.put, List.getElem_toArray, List.getElem_cons_zero, List.getElem_cons_succ, List.setIfInBounds_toArray, List.set_cons_zero, List.set_cons_succ]
    refine wpAnyT_load (i := 6) (v := ?_) rfl (by kernel_rfl) (by kernel_rfl) (by kernel_rfl) (by kernel_rfl) (by kernel_rfl) (fun _ _ _ h => h) HSS.out (by rfl) ?_ ?_
    rotate_left
    · intro w hSw; obtain ⟨z0, z1, z4, z5, z6, z7⟩ := hSw; rw [Nat.add_zero] at z0; go_simp; try with_reducible rfl
    simp only [Act.put, List.getElem_toArray, List.getElem_cons_zero, List.getElem_cons_succ, List.setIfInBounds_toArray, List.set_cons_zero, List.set_cons_succ]
    refine wpAnyT_load (i := 7) (v := ?_) rfl (by kernel_rfl) (by kernel_rfl) (by kernel_rfl) (by kernel_rfl) (by kernel_rfl) (fun _ _ _ h => h) HSS.out (by rfl) ?_ ?_
    rotate_left
    · intro w hSw; obtain ⟨z0, z1, z4, z5, z6, z7⟩ := hSw; rw [Nat.add_zero] at z0; go_simp; try with_reducible rfl
    simp only [Act.put, List.getElem_toArray, List.getElem_cons_zero, List.getElem_cons_succ, List.setIfInBounds_toArray, List.set_cons_zero, List.set_cons_succ]
    refine wpAnyT_load (i := 8) (v := ?_) rfl (by kernel_rfl) (by kernel_rfl) (by kernel_rfl) (by kernel_rfl) (by kernel_rfl) (fun _ _ _ h => h) HSS.out (by rfl) ?_ ?_
    rotate_left
    · intro w hSw; obtain ⟨z0, z1, z4, z5, z6, z7⟩ := hSw; rw [Nat.add_zero] at z0; go_simp; try with_reducible rfl
    simp only [Act.put, List.getElem_toArray, List.getElem_cons_zero, List.getElem_cons_succ, List.setIfInBounds_toArray, List.set_cons_zero, List.set_cons_succ]
    refine wpAnyT_load (i := 9) (v := ?_) rfl (by kernel_rfl) (by kernel_rfl) (by kernel_rfl) (by kernel_rfl) (by kernel_rfl) (fun _ _ _ h => h) HSS.out (by rfl) ?_ ?_
    rotate_left
    · intro w hSw; obtain ⟨z0, z1, z4, z5, z6, z7⟩ := hSw; rw [Nat.add_zero] at z0; go_simp; try with_reducible rfl
    simp only [Act.put, List.getElem_toArray, List.getElem_cons_zero, List.getElem_cons_succ, List.setIfInBounds_toArray, List.set_cons_zero, List.set_cons_succ]
    refine wpAnyT_load (i := 10) (v := ?_) rfl (by kernel_rfl) (by kernel_rfl) (by kernel_rfl) (by kernel_rfl) (by kernel_rfl) (fun _ _ _ h => h) HSS.out (by rfl) ?_ ?_
    rotate_left
    · intro w hSw; obtain ⟨z0, z1, z4, z5, z6, z7⟩ := hSw; rw [Nat.add_zero] at z0; go_simp; try with_reducible rfl
    simp only [Act.put, List.getElem_toArray, List.getElem_cons_zero, List.getElem_cons_succ, List.setIfInBounds_toArray, List.set_cons_zero, List.set_cons_succ]
    refine wpAnyT_load (i := 11) (v := ?_) rfl (by kernel_rfl) (by kernel_rfl) (by kernel_rfl) (by kernel_rfl) (by kernel_rfl) (fun _ _ _ h => h) HSS.out (by rfl) ?_ ?_
    rotate_left
    · intro w hSw; obtain ⟨z0, z1, z4, z5, z6, z7⟩ := hSw; rw [Nat.add_zero] at z0; go_simp; try with_reducible rfl
    simp only [Act.put, List.getElem_toArray, List.getElem_cons_zero, List.getElem_cons_succ, List.setIfInBounds_toArray, List.set_cons_zero, List.set_cons_succ]
    refine wpAnyT_load (i := 12) (v := ?_) rfl (by kernel_rfl) (by kernel_rfl) (by kernel_rfl) (by kernel_rfl) (by kernel_rfl) (fun _ _ _ h => h) HSS.out (by rfl) ?_ ?_
    rotate_left
    · intro w hSw; obtain ⟨z0, z1, z4, z5, z6, z7⟩ := hSw; rw [Nat.add_zero] at z0; go_simp; try with_reducible rfl
    simp only [Act.put, List.getElem_toArray, List.getElem_cons_zero, List.getElem_cons_succ, List.setIfInBounds_toArray, List.set_cons_zero, List.set_cons_succ]
    refine wpAnyT_load (i := 13) (v := ?_) rfl (by kernel_rfl) (by kernel_rfl) (by kernel_rfl) (by kernel_rfl) (by kernel_rfl) (fun _ _ _ h => h) HSS.out (by rfl) ?_ ?_
    rotate_left
    · intro w hSw; obtain ⟨z0, z1, z4, z5, z6, z7⟩ := hSw; rw [Nat.add_zero] at z0; go_simp; try with_reducible rfl
    simp only [Act.put, List.getElem_toArray, List.getElem_cons_zero, List.getElem_cons_succ, List.setIfInBounds_toArray, List.set_cons_zero, List.set_cons_succ]
    refine wpAnyT_load (i := 14) (v := ?_) rfl (by kernel_rfl) (by kernel_rfl) (by kernel_rfl) (by kernel_rfl) (by kernel_rfl) (fun _ _ _ h => h) HSS.out (by rfl) ?_ ?_
    rotate_left
    · intro w hSw; obtain ⟨z0, z1, z4, z5, z6, z7⟩ := hSw; rw [Nat.add_zero] at z0; go_simp; try with_reducible rfl
    simp only [Act.put, List.getElem_toArray, List.getElem_cons_zero, List.getElem_cons_succ, List.setIfInBounds_toArray, List.set_cons_zero, List.set_cons_succ]
    refine wpAnyT_load (i := 15) (v := ?_) rfl (by kernel_rfl) (by kernel_rfl) (by kernel_rfl) (by kernel_rfl) (by kernel_rfl) (fun _ _ _ h => h) HSS.out (by rfl) ?_ ?_
    rotate_left
    · intro w hSw; obtain ⟨z0, z1, z4, z5, z6, z7⟩ := hSw; rw [Nat.add_zero] at z0; go_simp; try with_reducible rfl
    simp only [Act.put, List.getElem_toArray, List.getElem_cons_zero, List.getElem_cons_succ, List.setIfInBounds_toArray, List.set_cons_zero, List.set_cons_succ]
    refine wpAnyT_load (i := 16) (v := ?_) rfl (by kernel_rfl) (by kernel_rfl) (by kernel_rfl) (by kernel_rfl) (by kernel_rfl) (fun _ _ _ h => h) HSS.out (by rfl) ?_ ?_
    rotate_left
    · intro w hSw; obtain ⟨z0, z1, z4, z5, z6, z7⟩ := hSw; rw [Nat.add_zero] at z0; go_simp; try with_reducible rfl
    simp only [Act.put, List.getElem_toArray, List.getElem_cons_zero, List.getElem_cons_succ, List.setIfInBounds_toArray, List.set_cons_zero, List.set_cons_succ]
    refine wpAnyT_load (i := 17) (v := ?_) rfl (by kernel_rfl) (by kernel_rfl) (by kernel_rfl) (by kernel_rfl) (by kernel_rfl) (fun _ _ _ h => h) HSS.out (by rfl) ?_ ?_
    rotate_left
    · intro w hSw; obtain ⟨z0, z1, z4, z5, z6, z7⟩ := hSw; rw [Nat.add_zero] at z0; go_simp; try with_reducible rfl
    simp only [Act.put, List.getElem_toArray, List.getElem_cons_zero, List.getElem_cons_succ, List.setIfInBounds_toArray, List.set_cons_zero, List.set_cons_succ]
    refine wpAnyT_load (i := 18) (v := ?_) rfl (by kernel_rfl) (by kernel_rfl) (by kernel_rfl) (by kernel_rfl) (by kernel_rfl) (fun _ _ _ h => h) HSS.out (by rfl) ?_ ?_
    rotate_left
    · intro w hSw; obtain ⟨z0, z1, z4, z5, z6, z7⟩ := hSw; rw [Nat.add_zero] at z0; go_simp; try with_reducible rfl
    simp only [Act.put, List.getElem_toArray, List.getElem_cons_zero, List.getElem_cons_succ, List.setIfInBounds_toArray, List.set_cons_zero, List.set_cons_succ]
    refine wpAnyT_load (i := 19) (v := ?_) rfl (by kernel_rfl) (by kernel_rfl) (by kernel_rfl) (by kernel_rfl) (by kernel_rfl) (fun _ _ _ h => h) HSS.out (by rfl) ?_ ?_
    rotate_left
    · intro w hSw; obtain ⟨z0, z1, z4, z5, z6, z7⟩ := hSw; rw [Nat.add_zero] at z0; go_simp; try with_reducible rfl
    simp only [Act.put, List.getElem_toArray, List.getElem_cons_zero, List.getElem_cons_succ, List.setIfInBounds_toArray, List.set_cons_zero, List.set_cons_succ]
    refine wpAnyT_load (i := 20) (v := ?_) rfl (by kernel_rfl) (by kernel_rfl) (by kernel_rfl) (by kernel_rfl) (by kernel_rfl) (fun _ _ _ h => h) HSS.out (by rfl) ?_ ?_
    rotate_left
    · intro w hSw; obtain ⟨z0, z1, z4, z5, z6, z7⟩ := hSw; rw [Nat.add_zero] at z0; go_simp; try with_reducible rfl
    simp only [Act.put, List.getElem_toArray, List.getElem_cons_zero, List.getElem_cons_succ, List.setIfInBounds_toArray, List.set_cons_zero, List.set_cons_succ]
    refine wpAnyT_load (i := 21) (v := ?_) rfl (by kernel_rfl) (by kernel_rfl) (by kernel_rfl) (by kernel_rfl) (by kernel_rfl) (fun _ _ _ h => h) HSS.out (by rfl) ?_ ?_
    rotate_left
    · intro w hSw; obtain ⟨z0, z1, z4, z5, z6, z7⟩ := hSw; rw [Nat.add_zero] at z0; go_simp; try with_reducible rfl
    simp only [Act.put, List.getElem_toArray, List.getElem_cons_zero, List.getElem_cons_succ, List.setIfInBounds_toArray, List.set_cons_zero, List.set_cons_succ]
    refine wpAnyT_load (i := 22) (v := ?_) rfl (by kernel_rfl) (by kernel_rfl) (by kernel_rfl) (by kernel_rfl) (by kernel_rfl) (fun _ _ _ h => h) HSS.out (by rfl) ?_ ?_
    rotate_left
    · intro w hSw; obtain ⟨z0, z1, z4, z5, z6, z7⟩ := hSw; rw [Nat.add_zero] at z0; go_simp; try with_reducible rfl
    simp only [Act.put, List.getElem_toArray, List.getElem_cons_zero, List.getElem_cons_succ, List.setIfInBounds_toArray, List.set_cons_zero, List.set_cons_succ]
    refine wpAnyT_load (i := 23) (v := ?_) rfl (by kernel_rfl) (by kernel_rfl) (by kernel_rfl) (by kernel_rfl) (by kernel_rfl) (fun _ _ _ h => h) HSS.out (by rfl) ?_ ?_
    rotate_left
    · intro w hSw; obtain ⟨z0, z1, z4, z5, z6, z7⟩ := hSw; rw [Nat.add_zero] at z0; go_simp; try with_reducible rfl
    simp only [Act.put, List.getElem_toArray, List.getElem_cons_zero, List.getElem_cons_succ, List.setIfInBounds_toArray, List.set_cons_zero, List.set_cons_succ]
    refine wpAnyT_load (i := 24) (v := ?_) rfl (by kernel_rfl) (by kernel_rfl) (by kernel_rfl) (by kernel_rfl) (by kernel_rfl) (fun _ _ _ h => h) HSS.out (by rfl) ?_ ?_
    rotate_left
    · intro w hSw; obtain ⟨z0, z1, z4, z5, z6, z7⟩ := hSw; rw [Nat.add_zero] at z0; go_simp; try with_reducible rfl
    simp only [Act.put, List.getElem_toArray, List.getElem_cons_zero, List.getElem_cons_succ, List.setIfInBounds_toArray, List.set_cons_zero, List.set_cons_succ]
    refine wpAnyT_load (i := 26) (v := ?_) rfl (by kernel_rfl) (by kernel_rfl) (by kernel_rfl) (by kernel_rfl) (by kernel_rfl) (fun _ _ _ h => h) HSS.out (by rfl) ?_ ?_
    rotate_left
    · intro w hSw; obtain ⟨z0, z1, z4, z5, z6, z7⟩ := hSw; rw [Nat.add_zero] at z0; go_simp; try with_reducible rfl
    simp only [Act.put, List.getElem_toArray, List.getElem_cons_zero, List.getElem_cons_succ, List.setIfInBounds_toArray, List.set_cons_zero, List.set_cons_succ]
    refine wpAnyT_load (i := 27) (v := ?_) rfl (by kernel_rfl) (by kernel_rfl) (by kernel_rfl) (by kernel_rfl) (by kernel_rfl) (fun _ _ _ h => h) HSS.out (by rfl) ?_ ?_
    rotate_left
    · intro w hSw; obtain ⟨z0, z1, z4, z5, z6, z7⟩ := hSw; rw [Nat.add_zero] at z0; go_simp; try with_reducible rfl
    simp only [Act.put, List.getElem_toArray, List.getElem_cons_zero, List.getElem_cons_succ, List.setIfInBounds_toArray, List.set_cons_zero, List.set_cons_succ]
    refine wpAnyT_two (i := 25) (j := 28) (by kernel_rfl) rfl rfl (fun K hK => ?_) (fun K hK => ?_)
    · rw [if_pos (by rfl)]
      go_simp
      obtain ⟨wb, eb, hF, hBb, hsb⟩ := one_new wd [.int .u8 ((d0.toNat : Int) % 64), .int .u8 (d1.toNat : Nat), .int .u8 (d4.toNat : Nat), .int .u8 (d5.toNat : Nat), .int .u8 (d6.toNat : Nat), .int .u8 (d7.toNat : Nat), .int .u8 ((n : Int) / 256), .int .u8 ((n : Int) % 256)].toArray 5
      have HBB : Hid (Bytes wb (.slice (some ⟨wd.heap.size, 0, none⟩) 8 8) (imp l).head) := Lib.hid (by unfold Bytes; rw [HIH.out]; exact box_sl (off := 0) (cap := 8) hBb _ (by intro i y hy; simpa using hy) (by simp) (by unfold maxLen; omega))
      have HBL : Hid (w.heap.size < wd.heap.size) := Lib.hid (by have := HR.out.lt; omega)
      have HSS := Lib.hid (by have h := HSS.out; exact ⟨hF.cellSome h.1 (by simp), hF.cellSome h.2.1 (by simp), hF.cellSome h.2.2.1 (by simp), hF.cellSome h.2.2.2.1 (by simp), hF.cellSome h.2.2.2.2.1 (by simp), hF.cellSome h.2.2.2.2.2 (by simp)⟩ : Hid (wb.cell? ⟨b, o + 0, none⟩ = some (.int .u8 (d0.toNat : Nat)) ∧ wb.cell? ⟨b, o + 1, none⟩ = some (.int .u8 (d1.toNat : Nat)) ∧ wb.cell? ⟨b, o + 4, none⟩ = some (.int .u8 (d4.toNat : Nat)) ∧ wb.cell? ⟨b, o + 5, none⟩ = some (.int .u8 (d5.toNat : Nat)) ∧ wb.cell? ⟨b, o + 6, none⟩ = some (.int .u8 (d6.toNat : Nat)) ∧ wb.cell? ⟨b, o + 7, none⟩ = some (.int .u8 (d7.toNat : Nat))))
      have HR := Lib.hid (HR.out.keep hF); have HF := Lib.hid (HF.out.trans hF); have HD := Lib.hid (HD.out.keep hF)
      clear hBb hsb hF
      try rw [eb]
      clear eb
      refine hK.out _ _ (fun _ => HSS.out) ?_
      clear hK K
      simp only [Act.put, List.getElem_toArray, List.getElem_cons_zero, List.getElem_cons_succ, List.setIfInBounds_toArray, List.set_cons_zero, List.set_cons_succ]
      refine wpAnyT_one (i := 28) (by kernel_rfl) rfl (fun K hK => ?_)
      rw [if_pos (by rfl)]
      go_simp
      refine (RCopy_any HD.out (by rw [HDL.out]; omega)).mono ?_
      rintro e wc ⟨vc, rfl, hO, hF⟩
      obtain ⟨ac, nc, cc, rfl⟩ := hO.isSlice
      have HCP := Lib.hid hO.bytes
      have HCL : Hid (∀ k, liveOf (.slice ac nc cc) = some k → w.heap.size < k) := Lib.hid (fun k hk => by have h1 := hO.block k (live_block hk); have := HR.out.lt; omega)
      have HSS := Lib.hid (by have h := HSS.out; exact ⟨hF.cellSome h.1 (by simp), hF.cellSome h.2.1 (by simp), hF.cellSome h.2.2.1 (by simp), hF.cellSome h.2.2.2.1 (by simp), hF.cellSome h.2.2.2.2.1 (by simp), hF.cellSome h.2.2.2.2.2 (by simp)⟩ : Hid (wc.cell? ⟨b, o + 0, none⟩ = some (.int .u8 (d0.toNat : Nat)) ∧ wc.cell? ⟨b, o + 1, none⟩ = some (.int .u8 (d1.toNat : Nat)) ∧ wc.cell? ⟨b, o + 4, none⟩ = some (.int .u8 (d4.toNat : Nat)) ∧ wc.cell? ⟨b, o + 5, none⟩ = some (.int .u8 (d5.toNat : Nat)) ∧ wc.cell? ⟨b, o + 6, none⟩ = some (.int .u8 (d6.toNat : Nat)) ∧ wc.cell? ⟨b, o + 7, none⟩ = some (.int .u8 (d7.toNat : Nat))))
      have HR := Lib.hid (HR.out.keep hF); have HF := Lib.hid (HF.out.trans hF); have HD := Lib.hid (HD.out.keep hF)
      have HBB := Lib.hid (HBB.out.keep hF)
      clear hO hF
      go_simp
      refine hK.out _ _ (fun _ => HSS.out) ?_
      clear hK K
      simp only [Act.put, List.getElem_toArray, List.getElem_cons_zero, List.getElem_cons_succ, List.setIfInBounds_toArray, List.set_cons_zero, List.set_cons_succ]
      refine wpAnyT_load (i := 29) (v := ?_) rfl (by kernel_rfl) (by kernel_rfl) (by kernel_rfl) (by kernel_rfl) (by kernel_rfl) (fun _ _ _ h => h) HSS.out (by rfl) ?_ ?_
      rotate_left
      · intro w hSw; obtain ⟨z0, z1, z4, z5, z6, z7⟩ := hSw; rw [Nat.add_zero] at z0; go_simp; try with_reducible rfl
      simp only [Act.put, List.getElem_toArray, List.getElem_cons_zero, List.getElem_cons_succ, List.setIfInBounds_toArray, List.set_cons_zero, List.set_cons_succ]
      refine wpAnyT_one (i := 30) (by kernel_rfl) rfl (fun K hK => ?_)
      refine wp_store_row rfl 37 (.tmp 2) (.tmp 49) rfl w.heap.size rfl _ _ rfl 37 HR.out (by kernel_rfl) rfl (by simp [Value.oneCell']) ?_
      intro ws hY hF
      have HSS := Lib.hid (by have h := HSS.out; exact ⟨hF.cellSome h.1 (by simp; omega), hF.cellSome h.2.1 (by simp; omega), hF.cellSome h.2.2.1 (by simp; omega), hF.cellSome h.2.2.2.1 (by simp; omega), hF.cellSome h.2.2.2.2.1 (by simp; omega), hF.cellSome h.2.2.2.2.2 (by simp; omega)⟩ : Hid (ws.cell? ⟨b, o + 0, none⟩ = some (.int .u8 (d0.toNat : Nat)) ∧ ws.cell? ⟨b, o + 1, none⟩ = some (.int .u8 (d1.toNat : Nat)) ∧ ws.cell? ⟨b, o + 4, none⟩ = some (.int .u8 (d4.toNat : Nat)) ∧ ws.cell? ⟨b, o + 5, none⟩ = some (.int .u8 (d5.toNat : Nat)) ∧ ws.cell? ⟨b, o + 6, none⟩ = some (.int .u8 (d6.toNat : Nat)) ∧ ws.cell? ⟨b, o + 7, none⟩ = some (.int .u8 (d7.toNat : Nat))))
      refine hK.out _ _ (fun _ => HSS.out) ?_
      clear hK K
      simp only [Act.put, List.getElem_toArray, List.getElem_cons_zero, List.getElem_cons_succ, List.setIfInBounds_toArray, List.set_cons_zero, List.set_cons_succ]
      refine wpAnyT_load (i := 31) (v := ?_) rfl (by kernel_rfl) (by kernel_rfl) (by kernel_rfl) (by kernel_rfl) (by kernel_rfl) (fun _ _ _ h => h) HSS.out (by rfl) ?_ ?_
      rotate_left
      · intro w hSw; obtain ⟨z0, z1, z4, z5, z6, z7⟩ := hSw; rw [Nat.add_zero] at z0; go_simp; try with_reducible rfl
      simp only [Act.put, List.getElem_toArray, List.getElem_cons_zero, List.getElem_cons_succ, List.setIfInBounds_toArray, List.set_cons_zero, List.set_cons_succ]
      refine wpAnyT_done (by kernel_rfl) ?_ _
      go_wp2_with fail
      refine bodyPost_ret (results_row_1 rfl _ _ w.heap.size 37 _ _ rfl hY Try.underlying37 rfl (by kernel_rfl)) rfl (.inl ⟨_, p, HP.out, rfl, ⟨_, _, rfl, ?_, ?_⟩, HF.out.step hF (by simp)⟩)
      · exact Sl.frL HBB.out hF (fun k hk hm => by simp [liveOf] at hk; have := HBL.out; simp at hm; omega)
      · exact Sl.frL HCP.out hF (fun k hk hm => by have := HCL.out k hk; simp at hm; omega)
    · rw [if_pos (by rfl)]
      go_simp
      refine (RCopy_any HD.out (by rw [HDL.out]; omega)).mono ?_
      rintro e wc ⟨vc, rfl, hO, hF⟩
      obtain ⟨ac, nc, cc, rfl⟩ := hO.isSlice
      have HCP := Lib.hid hO.bytes
      have HCL : Hid (∀ k, liveOf (.slice ac nc cc) = some k → w.heap.size < k) := Lib.hid (fun k hk => by have h1 := hO.block k (live_block hk); have := HR.out.lt; omega)
      have HSS := Lib.hid (by have h := HSS.out; exact ⟨hF.cellSome h.1 (by simp), hF.cellSome h.2.1 (by simp), hF.cellSome h.2.2.1 (by simp), hF.cellSome h.2.2.2.1 (by simp), hF.cellSome h.2.2.2.2.1 (by simp), hF.cellSome h.2.2.2.2.2 (by simp)⟩ : Hid (wc.cell? ⟨b, o + 0, none⟩ = some (.int .u8 (d0.toNat : Nat)) ∧ wc.cell? ⟨b, o + 1, none⟩ = some (.int .u8 (d1.toNat : Nat)) ∧ wc.cell? ⟨b, o + 4, none⟩ = some (.int .u8 (d4.toNat : Nat)) ∧ wc.cell? ⟨b, o + 5, none⟩ = some (.int .u8 (d5.toNat : Nat)) ∧ wc.cell? ⟨b, o + 6, none⟩ = some (.int .u8 (d6.toNat : Nat)) ∧ wc.cell? ⟨b, o + 7, none⟩ = some (.int .u8 (d7.toNat : Nat))))
      have HR := Lib.hid (HR.out.keep hF); have HF := Lib.hid (HF.out.trans hF); have HD := Lib.hid (HD.out.keep hF)
      clear hO hF
      go_simp
      refine hK.out _ _ (fun _ => HSS.out) ?_
      clear hK K
      simp only [Act.put, List.getElem_toArray, List.getElem_cons_zero, List.getElem_cons_succ, List.setIfInBounds_toArray, List.set_cons_zero, List.set_cons_succ]
      refine wpAnyT_one (i := 25) (by kernel_rfl) rfl (fun K hK => ?_)
      rw [if_pos (by rfl)]
      go_simp
      obtain ⟨wb, eb, hF, hBb, hsb⟩ := one_new wc [.int .u8 ((d0.toNat : Int) % 64), .int .u8 (d1.toNat : Nat), .int .u8 (d4.toNat : Nat), .int .u8 (d5.toNat : Nat), .int .u8 (d6.toNat : Nat), .int .u8 (d7.toNat : Nat), .int .u8 ((n : Int) / 256), .int .u8 ((n : Int) % 256)].toArray 5
      have HBB : Hid (Bytes wb (.slice (some ⟨wc.heap.size, 0, none⟩) 8 8) (imp l).head) := Lib.hid (by unfold Bytes; rw [HIH.out]; exact box_sl (off := 0) (cap := 8) hBb _ (by intro i y hy; simpa using hy) (by simp) (by unfold maxLen; omega))
      have HBL : Hid (w.heap.size < wc.heap.size) := Lib.hid (by have := HR.out.lt; omega)
      have HSS := Lib.hid (by have h := HSS.out; exact ⟨hF.cellSome h.1 (by simp), hF.cellSome h.2.1 (by simp), hF.cellSome h.2.2.1 (by simp), hF.cellSome h.2.2.2.1 (by simp), hF.cellSome h.2.2.2.2.1 (by simp), hF.cellSome h.2.2.2.2.2 (by simp)⟩ : Hid (wb.cell? ⟨b, o + 0, none⟩ = some (.int .u8 (d0.toNat : Nat)) ∧ wb.cell? ⟨b, o + 1, none⟩ = some (.int .u8 (d1.toNat : Nat)) ∧ wb.cell? ⟨b, o + 4, none⟩ = some (.int .u8 (d4.toNat : Nat)) ∧ wb.cell? ⟨b, o + 5, none⟩ = some (.int .u8 (d5.toNat : Nat)) ∧ wb.cell? ⟨b, o + 6, none⟩ = some (.int .u8 (d6.toNat : Nat)) ∧ wb.cell? ⟨b, o + 7, none⟩ = some (.int .u8 (d7.toNat : Nat))))
      have HR := Lib.hid (HR.out.keep hF); have HF := Lib.hid (HF.out.trans hF); have HD := Lib.hid (HD.out.keep hF)
      have HCP := Lib.hid (HCP.out.keep hF)
      clear hBb hsb hF
      try rw [eb]
      clear eb
      refine hK.out _ _ (fun _ => HSS.out) ?_
      clear hK K
      simp only [Act.put, List.getElem_toArray, List.getElem_cons_zero, List.getElem_cons_succ, List.setIfInBounds_toArray, List.set_cons_zero, List.set_cons_succ]
      refine wpAnyT_load (i := 29) (v := ?_) rfl (by kernel_rfl) (by kernel_rfl) (by kernel_rfl) (by kernel_rfl) (by kernel_rfl) (fun _ _ _ h => h) HSS.out (by rfl) ?_ ?_
      rotate_left
      · intro w hSw; obtain ⟨z0, z1, z4, z5, z6, z7⟩ := hSw; rw [Nat.add_zero] at z0; go_simp; try with_reducible rfl
      simp only [Act.put, List.getElem_toArray, List.getElem_cons_zero, List.getElem_cons_succ, List.setIfInBounds_toArray, List.set_cons_zero, List.set_cons_succ]
      refine wpAnyT_one (i := 30) (by kernel_rfl) rfl (fun K hK => ?_)
      refine wp_store_row rfl 37 (.tmp 2) (.tmp 49) rfl w.heap.size rfl _ _ rfl 37 HR.out (by kernel_rfl) rfl (by simp [Value.oneCell']) ?_
      intro ws hY hF
      have HSS := Lib.hid (by have h := HSS.out; exact ⟨hF.cellSome h.1 (by simp; omega), hF.cellSome h.2.1 (by simp; omega), hF.cellSome h.2.2.1 (by simp; omega), hF.cellSome h.2.2.2.1 (by simp; omega), hF.cellSome h.2.2.2.2.1 (by simp; omega), hF.cellSome h.2.2.2.2.2 (by simp; omega)⟩ : Hid (ws.cell? ⟨b, o + 0, none⟩ = some (.int .u8 (d0.toNat : Nat)) ∧ ws.cell? ⟨b, o + 1, none⟩ = some (.int .u8 (d1.toNat : Nat)) ∧ ws.cell? ⟨b, o + 4, none⟩ = some (.int .u8 (d4.toNat : Nat)) ∧ ws.cell? ⟨b, o + 5, none⟩ = some (.int .u8 (d5.toNat : Nat)) ∧ ws.cell? ⟨b, o + 6, none⟩ = some (.int .u8 (d6.toNat : Nat)) ∧ ws.cell? ⟨b, o + 7, none⟩ = some (.int .u8 (d7.toNat : Nat))))
      refine hK.out _ _ (fun _ => HSS.out) ?_
      clear hK K
      simp only [Act.put, List.getElem_toArray, List.getElem_cons_zero, List.getElem_cons_succ, List.setIfInBounds_toArray, List.set_cons_zero, List.set_cons_succ]
      refine wpAnyT_load (i := 31) (v := ?_) rfl (by kernel_rfl) (by kernel_rfl) (by kernel_rfl) (by kernel_rfl) (by kernel_rfl) (fun _ _ _ h => h) HSS.out (by rfl) ?_ ?_
      rotate_left
      · intro w hSw; obtain ⟨z0, z1, z4, z5, z6, z7⟩ := hSw; rw [Nat.add_zero] at z0; go_simp; try with_reducible rfl
      simp only [Act.put, List.getElem_toArray, List.getElem_cons_zero, List.getElem_cons_succ, List.setIfInBounds_toArray, List.set_cons_zero, List.set_cons_succ]
      refine wpAnyT_done (by kernel_rfl) ?_ _
      go_wp2_with fail
      refine bodyPost_ret (results_row_1 rfl _ _ w.heap.size 37 _ _ rfl hY Try.underlying37 rfl (by kernel_rfl)) rfl (.inl ⟨_, p, HP.out, rfl, ⟨_, _, rfl, ?_, ?_⟩, HF.out.step hF (by simp)⟩)
      · exact Sl.frL HBB.out hF (fun k hk hm => by simp [liveOf] at hk; have := HBL.out; simp at hm; omega)
      · exact Sl.frL HCP.out hF (fun k hk hm => by have := HCL.out k hk; simp at hm; omega)
end Go.Proofs.Ytchbgiindfoepaa
