import Derived.Test.YtchbgiindfoepaaMs28
import Derived.Test.YtchbgiindfoepaaMs27
import Derived.Test.YtchbgiindfoepaaMs15
import Derived.Test.YtchbgiindfoepaaMs22
import Derived.Test.YtchbgiindfoepaaMs17
/- The walk of confluxlaw12.alive. -/
namespace Go.Proofs.Ytchbgiindfoepaa
open Go.RowKit Go.Shelf

def lit12 : List UInt8 := [128, 96, 0, 1, 0, 0, 0, 2, 0, 0, 0, 3, 65]
def pkt12 : Pkt := { marker := false, pt := 96, seq := 1, ts := 2, ssrc := 3, csrc := [], hasExt := false, profile := 0, ext := [], payload := [65], pad := [] }
def bt12 : Bt := ⟨0, 96, 0, 0, 0, 2, 0, 1, [65]⟩
def bt12x : Bt := ⟨0, 96, 0, 0, 0, 2, 0, 9, [65]⟩
theorem pkt12_ok : pkt12.wrong = 0 := by decide +kernel
theorem pkt12_bytes : pkt12.bytes = lit12 := by decide +kernel
theorem parse12 : parseR lit12 = .ok pkt12 := by rw [← pkt12_bytes]; exact parse_bytes pkt12_ok
theorem imp12 : imp lit12 = bt12 := rfl
theorem pack12 : bt12.pack 1 3 = .ok lit12 := by
  have := pack_bytes0 pkt12_ok 1 3
  rw [pkt12_bytes, imp12] at this
  rw [this]
  congr 1
theorem pack12x : bt12x.pack 1 3 = .error 42 := by unfold Bt.pack; rw [if_pos (by decide +kernel)]
theorem same12 : bt12.same Bt.zero = false := by decide +kernel
theorem same12x : bt12.same bt12x = false := by decide +kernel
theorem fold12 : (Bt.all [bt12, bt12x, bt12]).same bt12x = true := by decide +kernel

set_option maxRecDepth 100000 in
set_option maxHeartbeats 4000000 in
theorem l12alive_any {w : World} : Calls Try.prog 12 #[] w fun e w' => e = .returned (.bool true) ∧ Fr [] w w' := by
  have kc := Lib.run_convert_bytes_const (P := Try.prog) w 25 5 bC 13 13 Try.underlying25 Try.underlying5
  obtain ⟨w1, e1, hF1, hB1⟩ := const_block w bC 5 (bC.size, bC.size + 1) 13 rfl (by unfold maxLen; omega)
  have HF := Lib.hid hF1
  have HB : Hid (Bytes w1 (.slice (some ⟨w.heap.size, 0, none⟩) 13 13) lit12) := Lib.hid hB1
  rw [e1] at kc
  clear e1 hF1 hB1
  unfold bC at kc
  go_enter Try.func12, Try.ntmps12
  go_wp2_with fail
  clear kc
  have HBL : Hid (∀ k, liveOf (.slice (some ⟨w.heap.size, 0, none⟩) 13 13) = some k → k < w1.heap.size) := Lib.hid (fun k hk => Sl.lt HB.out k hk)
  have hsw1 := HF.out.size
  generalize hG0 : w.heap.size = g0 at *
  have HG0 := Lib.hid hG0
  clear hG0
  refine (impOf_any HB.out).mono ?_
  rintro e w2 (⟨v2, p, hp, rfl, ⟨vb, rfl, hO⟩, hF⟩ | ⟨k, hp, rfl, hF⟩)
  rotate_left
  · rw [parse12] at hp; cases hp
  clear hp
  rw [imp12] at hO ⊢
  obtain ⟨a2, n2, c2, rfl⟩ := hO.isSlice
  obtain rfl := hO.len
  have HX := Lib.hid hO; have HF := Lib.hid (HF.out.trans hF); have HB := Lib.hid (Sl.keep HB.out hF)
  have HXL : Hid (∀ b, blockOf (.slice a2 bt12.body.length c2) = some b → b < w2.heap.size) := Lib.hid (fun b hb => (hO.block b hb).2)
  have hsw2 := hF.size
  clear hO hF
  go_upto_region 3 with (refine wpList_store_row rfl 28 (.tmp 2) (.tmp 18) rfl w2.heap.size rfl _ _ rfl 28 (Box.new w2 28 (bc Bt.zero (.slice none 0 0))) (by kernel_rfl) rfl (by simp [bc, Value.oneCell']) ?_; intro w3 hY hG; have hFn := ((Fr.refl [] w2).alloc _).step hG (by simp); have HFn := Lib.hid hFn; have HY := Lib.hid hY; clear hG hFn hY)
  have hF := HFn.out
  have hsX := HY.out.lt
  have HF := Lib.hid (HF.out.trans hF)
  have HB := Lib.hid (Sl.keep HB.out hF)
  have HX := Lib.hid (HX.out.keep hF)
  have HX2 := HY
  have HSX : Hid (w2.heap.size + 1 ≤ w3.heap.size) := Lib.hid hsX
  clear hF HFn HY
  generalize hgx : w2.heap.size = gx at *
  clear hgx
  go_wp2_with (refine wpList_load_row_w rfl 28 (.tmp 2) rfl gx rfl 28 _ _ HX2.out Try.underlying28 rfl (by kernel_rfl) ?_)
  refine (impPacket_any (x := bt12) ⟨_, rfl, HX.out.bytes⟩ (by decide) 1 3).mono ?_
  rintro e w4 (⟨l, v4, hp, rfl, hO, hF⟩ | ⟨hp, -, -⟩)
  rotate_left
  · rw [pack12] at hp; cases hp
  rw [pack12] at hp
  cases hp
  have HF := Lib.hid (HF.out.trans hF)
  have HB := Lib.hid (Sl.keep HB.out hF)
  have HX := Lib.hid (HX.out.keep hF)
  have HX2 := Lib.hid (HX2.out.keep hF)
  have HSXq := Lib.hid (Nat.le_trans HSX.out hF.size)
  clear HSX
  have HSX := HSXq
  clear HSXq
  have HC := Lib.hid hO.bytes
  obtain ⟨a4, n4, c4, rfl⟩ := hO.isSlice
  have HCL := Lib.hid (Sl.lt hO.bytes)
  have HS4 : Hid (w4.heap.size ≤ w4.heap.size) := Lib.hid (Nat.le_refl _)
  clear hF hO
  go_wp2_with fail
  refine (impOf_any (l := []) (Sl.nil _)).mono ?_
  rintro e w5 (⟨v5, p, hp, -, -, -⟩ | ⟨k, hp, rfl, hF⟩)
  · rw [parse_nil] at hp; cases hp
  rw [parse_nil] at hp
  cases hp
  have HF := Lib.hid (HF.out.trans hF)
  have HB := Lib.hid (Sl.keep HB.out hF)
  have HX := Lib.hid (HX.out.keep hF)
  have HX2 := Lib.hid (HX2.out.keep hF)
  have HSXq := Lib.hid (Nat.le_trans HSX.out hF.size)
  clear HSX
  have HSX := HSXq
  clear HSXq
  have HC := Lib.hid (Sl.keep HC.out hF)
  have HS4q := Lib.hid (Nat.le_trans HS4.out hF.size)
  clear HS4
  have HS4 := HS4q
  clear HS4q
  clear hF
  go_upto_region 5 with (refine wpList_store_row rfl 28 (.tmp 6) (.tmp 27) rfl w5.heap.size rfl _ _ rfl 28 (Box.new w5 28 (bc Bt.zero (.slice none 0 0))) (by kernel_rfl) rfl (by simp [bc, Value.oneCell']) ?_; intro w6 hY hG; have hFn := ((Fr.refl [] w5).alloc _).step hG (by simp); have HFn := Lib.hid hFn; have HY := Lib.hid hY; clear hG hFn hY)
  have hF := HFn.out
  have HF := Lib.hid (HF.out.trans hF)
  have HB := Lib.hid (Sl.keep HB.out hF)
  have HX := Lib.hid (HX.out.keep hF)
  have HX2 := Lib.hid (HX2.out.keep hF)
  have HSXq := Lib.hid (Nat.le_trans HSX.out hF.size)
  clear HSX
  have HSX := HSXq
  clear HSXq
  have HC := Lib.hid (Sl.keep HC.out hF)
  have HS4q := Lib.hid (Nat.le_trans HS4.out hF.size)
  clear HS4
  have HS4 := HS4q
  clear HS4q
  clear hF HFn HY
  go_upto_region 6 with (first | (refine wpList_load_row_w rfl 28 (.tmp 2) rfl gx rfl 28 _ _ HX2.out Try.underlying28 rfl (by kernel_rfl) ?_) | (refine wpList_store_row rfl 28 (.tmp 8) (.tmp 29) rfl w6.heap.size rfl _ _ rfl 28 (Box.new w6 28 (bc Bt.zero (.slice none 0 0))) (by kernel_rfl) rfl (by simp [bc, Value.oneCell']) ?_; intro w7 hY hG; have hFn := ((Fr.refl [] w6).alloc _).step hG (by simp); have HFn := Lib.hid hFn; have HY := Lib.hid hY; clear hG hFn hY))
  have hF := HFn.out
  have HSX6 := HSX; have HS46 := HS4
  have HF := Lib.hid (HF.out.trans hF)
  have HB := Lib.hid (Sl.keep HB.out hF)
  have HX := Lib.hid (HX.out.keep hF)
  have HX2 := Lib.hid (HX2.out.keep hF)
  have HSXq := Lib.hid (Nat.le_trans HSX.out hF.size)
  clear HSX
  have HSX := HSXq
  clear HSXq
  have HC := Lib.hid (Sl.keep HC.out hF)
  have HS4q := Lib.hid (Nat.le_trans HS4.out hF.size)
  clear HS4
  have HS4 := HS4q
  clear HS4q
  have HZ0 := HY
  have HGZ := Lib.hid HSX6.out; have HG4 := Lib.hid HS46.out
  clear hF HFn HY HSX6 HS46
  generalize hgz : w6.heap.size = gz at *
  clear hgz
  have hfr := HZ0.out.free 7; have hcl := HZ0.out.cell 7
  simp only [bc, List.getElem?_toArray, List.getElem?_cons_succ, List.getElem?_cons_zero] at hcl
  obtain ⟨w8, e8, hF, hB8, -⟩ := set_new HZ0.out 7 (.int .u8 9)
  simp only [bc, List.setIfInBounds_toArray, List.set_cons_zero, List.set_cons_succ] at hB8
  have HZ : Hid (Box w8 gz 28 (bc bt12x (.slice a2 bt12.body.length c2))) := Lib.hid hB8
  go_upto_region 7 with (fail)
  try rw [e8]
  have HGW : Hid (w.heap.size ≤ gx) := Lib.hid (by have := HG0.out; omega)
  have HCL : Hid (∀ k, liveOf (.slice a4 n4 c4) = some k → k < gz) := Lib.hid (fun k hk => by have := HCL.out k hk; have := HG4.out; omega)
  have HXB : Hid (∀ b, blockOf (.slice a2 bt12.body.length c2) = some b → b ≠ gz) := Lib.hid (fun b hb => by have := HXL.out b hb; have := HGZ.out; omega)
  have HX := Lib.hid (HX.out.fr hF (fun b hb hm => HXB.out b hb (by simpa using hm))); have HX2 := Lib.hid (HX2.out.fr hF (by have := HGZ.out; simp; omega)); have HB := Lib.hid (Sl.frL HB.out hF (fun k hk hm => by have := HBL.out k hk; have := HGZ.out; simp at hm; omega)); have HC := Lib.hid (Sl.frL HC.out hF (fun k hk hm => by have := HCL.out k hk; simp at hm; omega)); have HF := Lib.hid (HF.out.step hF (fun y hy => .inr (by simp at hy; subst hy; have := HGW.out; have := HGZ.out; omega)))
  clear hF hB8 hfr hcl e8 HZ0
  have HSZ : Hid (gz + 1 ≤ w8.heap.size) := Lib.hid HZ.out.lt
  go_wp2_with (refine wpList_load_row_w rfl 28 (.tmp 8) rfl gz rfl 28 _ _ HZ.out Try.underlying28 rfl (by kernel_rfl) ?_)
  refine (impPacket_any (x := bt12x) ⟨_, rfl, HX.out.bytes⟩ (by decide) 1 3).mono ?_
  rintro e w9 (⟨l, v9, hp, -, -, -⟩ | ⟨-, rfl, hF⟩)
  · rw [pack12x] at hp; cases hp
  have HF := Lib.hid (HF.out.trans hF)
  have HB := Lib.hid (Sl.keep HB.out hF)
  have HX := Lib.hid (HX.out.keep hF)
  have HX2 := Lib.hid (HX2.out.keep hF)
  have HC := Lib.hid (Sl.keep HC.out hF)
  have HZ := Lib.hid (HZ.out.keep hF)
  have HSZq := Lib.hid (Nat.le_trans HSZ.out hF.size)
  clear HSZ
  have HSZ := HSZq
  clear HSZq
  clear hF
  go_wp2_with (refine wpList_load_row_w rfl 28 (.tmp 2) rfl gx rfl 28 _ _ HX2.out Try.underlying28 rfl (by kernel_rfl) ?_)
  refine (impAdd_any (x := bt12) (y := bt12) ⟨_, rfl, HX.out.bytes⟩ ⟨_, rfl, HX.out.bytes⟩ (by decide) (by decide)).mono ?_
  rintro e w10 ⟨v10, rfl, ⟨vb, rfl, hO⟩, hF⟩
  obtain ⟨a5, n5, c5, rfl⟩ := hO.isSlice
  have HA := Lib.hid hO.bytes
  clear hO
  have HF := Lib.hid (HF.out.trans hF)
  have HB := Lib.hid (Sl.keep HB.out hF)
  have HX := Lib.hid (HX.out.keep hF)
  have HX2 := Lib.hid (HX2.out.keep hF)
  have HC := Lib.hid (Sl.keep HC.out hF)
  have HZ := Lib.hid (HZ.out.keep hF)
  have HSZq := Lib.hid (Nat.le_trans HSZ.out hF.size)
  clear HSZ
  have HSZ := HSZq
  clear HSZq
  clear hF
  go_upto_region 9 with (refine wpList_store_row rfl 28 (.tmp 11) (.tmp 39) rfl w10.heap.size rfl _ _ rfl 28 (Box.new w10 28 (bc Bt.zero (.slice none 0 0))) (by kernel_rfl) rfl (by simp [bc, Value.oneCell']) ?_; intro w11 hY hG; have hFn := ((Fr.refl [] w10).alloc _).step hG (by simp); have HFn := Lib.hid hFn; have HY := Lib.hid hY; clear hG hFn hY)
  have hF := HFn.out
  have HF := Lib.hid (HF.out.trans hF)
  have HB := Lib.hid (Sl.keep HB.out hF)
  have HX := Lib.hid (HX.out.keep hF)
  have HX2 := Lib.hid (HX2.out.keep hF)
  have HC := Lib.hid (Sl.keep HC.out hF)
  have HZ := Lib.hid (HZ.out.keep hF)
  have HSZq := Lib.hid (Nat.le_trans HSZ.out hF.size)
  clear HSZ
  have HSZ := HSZq
  clear HSZq
  have HA := Lib.hid (Sl.keep HA.out hF)
  have HAX := HY
  clear hF HFn HY
  generalize hga : w10.heap.size = ga at *
  clear hga
  have HX_ := HX; have hXl := HX2.out.lt; have hZl := HZ.out.lt
  obtain ⟨y1, hy1⟩ : ∃ y : BtAt w11, y = ⟨(.agg (bc bt12 (.slice a2 bt12.body.length c2)), bt12), ⟨_, rfl, HX_.out.bytes⟩, show bt12.body.length ≤ _ from by decide⟩ := ⟨_, rfl⟩
  obtain ⟨y2, hy2⟩ : ∃ y : BtAt w11, y = ⟨(.agg (bc bt12x (.slice a2 bt12.body.length c2)), bt12x), ⟨_, rfl, HX_.out.bytes⟩, show bt12x.body.length ≤ _ from by decide⟩ := ⟨_, rfl⟩
  have HSEQ := Lib.hid (impFold_any (w := w11) (gf := 53) (lb := #[.pointer (some ⟨gx, 0, none⟩), .pointer (some ⟨gz, 0, none⟩)]) [y1, y2, y1] (Sp := fun pre => pre <+: [y1, y2, y1]) (N := 3)
    (fun w0 hw0 => l12alive1_stops 5 (by omega) gx gz w11.heap.size w0 _ _ (HX2.out.belowN hw0 hXl) (HZ.out.belowN hw0 hZl) hXl hZl rfl rfl hw0.size y1 y2 (by rw [hy1]) (by rw [hy2])) (enters_of Try.func53 (by kernel_rfl) rfl))
  have HYS : Hid (List.map (fun x : BtAt w11 => x.1.2) [y1, y2, y1] = [bt12, bt12x, bt12]) := Lib.hid (by rw [hy1, hy2]; rfl)
  clear hy1 hy2 hXl hZl
  rw [HYS.out] at HSEQ
  clear HYS HX_
  go_wp2_with fail
  refine HSEQ.out.mono ?_
  rintro e w12 ⟨v12, rfl, ⟨vb, rfl, hO⟩, hF⟩
  clear HSEQ y1 y2
  obtain ⟨a6, n6, c6, rfl⟩ := hO.isSlice
  have HG := Lib.hid hO.bytes
  clear hO
  have HF := Lib.hid (HF.out.trans hF)
  have HB := Lib.hid (Sl.keep HB.out hF)
  have HX := Lib.hid (HX.out.keep hF)
  have HX2 := Lib.hid (HX2.out.keep hF)
  have HC := Lib.hid (Sl.keep HC.out hF)
  have HZ := Lib.hid (HZ.out.keep hF)
  have HSZq := Lib.hid (Nat.le_trans HSZ.out hF.size)
  clear HSZ
  have HSZ := HSZq
  clear HSZq
  have HA := Lib.hid (Sl.keep HA.out hF)
  have HAX := Lib.hid (HAX.out.keep hF)
  clear hF
  go_upto_region 10 with (refine wpList_store_row rfl 28 (.tmp 12) (.tmp 41) rfl w12.heap.size rfl _ _ rfl 28 (Box.new w12 28 (bc Bt.zero (.slice none 0 0))) (by kernel_rfl) rfl (by simp [bc, Value.oneCell']) ?_; intro w13 hY hG; have hFn := ((Fr.refl [] w12).alloc _).step hG (by simp); have HFn := Lib.hid hFn; have HY := Lib.hid hY; clear hG hFn hY)
  have hF := HFn.out
  have HF := Lib.hid (HF.out.trans hF)
  have HB := Lib.hid (Sl.keep HB.out hF)
  have HX := Lib.hid (HX.out.keep hF)
  have HX2 := Lib.hid (HX2.out.keep hF)
  have HC := Lib.hid (Sl.keep HC.out hF)
  have HZ := Lib.hid (HZ.out.keep hF)
  have HSZq := Lib.hid (Nat.le_trans HSZ.out hF.size)
  clear HSZ
  have HSZ := HSZq
  clear HSZq
  have HA := Lib.hid (Sl.keep HA.out hF)
  have HAX := Lib.hid (HAX.out.keep hF)
  have HG := Lib.hid (Sl.keep HG.out hF)
  have HGX := HY
  clear hF HFn HY
  generalize hgg : w12.heap.size = gg at *
  clear hgg
  have heq : ∀ w : World, (Op.equalIn 10000 26 (.agg #[.int .u8 0, .int .u8 96, .int .u8 0, .int .u8 0, .int .u8 0, .int .u8 2, .int .u8 0, .int .u8 1]) (.agg #[.int .u8 0, .int .u8 96, .int .u8 0, .int .u8 0, .int .u8 0, .int .u8 2, .int .u8 0, .int .u8 1])).run Try.prog w = .ok true w := fun w => by
    have := eq_arr8 0 96 0 0 0 2 0 1 0 96 0 0 0 2 0 1 w
    simpa using this
  have x0 : w13.cell? ⟨gx, 0, none⟩ = some (.int .u8 0) := HX2.out.cell 0
  have x1 : w13.cell? ⟨gx, 1, none⟩ = some (.int .u8 96) := HX2.out.cell 1
  have x2 : w13.cell? ⟨gx, 2, none⟩ = some (.int .u8 0) := HX2.out.cell 2
  have x3 : w13.cell? ⟨gx, 3, none⟩ = some (.int .u8 0) := HX2.out.cell 3
  have x4 : w13.cell? ⟨gx, 4, none⟩ = some (.int .u8 0) := HX2.out.cell 4
  have x5 : w13.cell? ⟨gx, 5, none⟩ = some (.int .u8 2) := HX2.out.cell 5
  have x6 : w13.cell? ⟨gx, 6, none⟩ = some (.int .u8 0) := HX2.out.cell 6
  have x7 : w13.cell? ⟨gx, 7, none⟩ = some (.int .u8 1) := HX2.out.cell 7
  have x8 : w13.cell? ⟨gx, 8, none⟩ = some (.slice a2 1 c2) := HX2.out.cell 8
  go_wp2_with fail
  refine (RSame_any HC.out HB.out (by decide) (by decide)).mono ?_
  rintro e w14 ⟨rfl, hF⟩
  rw [show (lit12 == lit12) = true from by decide]
  clear heq x0 x1 x2 x3 x4 x5 x6 x7 x8
  have HF := Lib.hid (HF.out.trans hF)
  have HB := Lib.hid (Sl.keep HB.out hF)
  have HX := Lib.hid (HX.out.keep hF)
  have HX2 := Lib.hid (HX2.out.keep hF)
  have HC := Lib.hid (Sl.keep HC.out hF)
  have HZ := Lib.hid (HZ.out.keep hF)
  have HSZq := Lib.hid (Nat.le_trans HSZ.out hF.size)
  clear HSZ
  have HSZ := HSZq
  clear HSZq
  have HA := Lib.hid (Sl.keep HA.out hF)
  have HAX := Lib.hid (HAX.out.keep hF)
  have HG := Lib.hid (Sl.keep HG.out hF)
  have HGX := Lib.hid (HGX.out.keep hF)
  clear hF
  go_wp2_with (first | (refine wpList_load_row_w rfl 28 (.tmp 11) rfl ga rfl 28 _ _ HAX.out Try.underlying28 rfl (by kernel_rfl) ?_))
  refine (impEmpty_any (x := bt12.add bt12) ⟨_, rfl, HA.out⟩ (by decide)).mono ?_
  rintro e w15 ⟨rfl, hF⟩
  rw [Bt.add_self]
  have HF := Lib.hid (HF.out.trans hF)
  have HB := Lib.hid (Sl.keep HB.out hF)
  have HX := Lib.hid (HX.out.keep hF)
  have HX2 := Lib.hid (HX2.out.keep hF)
  have HC := Lib.hid (Sl.keep HC.out hF)
  have HZ := Lib.hid (HZ.out.keep hF)
  have HSZq := Lib.hid (Nat.le_trans HSZ.out hF.size)
  clear HSZ
  have HSZ := HSZq
  clear HSZq
  have HA := Lib.hid (Sl.keep HA.out hF)
  have HAX := Lib.hid (HAX.out.keep hF)
  have HG := Lib.hid (Sl.keep HG.out hF)
  have HGX := Lib.hid (HGX.out.keep hF)
  clear hF
  go_wp2_with (first | (refine wpList_load_row_w rfl 28 (.tmp 2) rfl gx rfl 28 _ _ HX2.out Try.underlying28 rfl (by kernel_rfl) ?_))
  refine (impEmpty_any (x := bt12) ⟨_, rfl, HX.out.bytes⟩ (by decide)).mono ?_
  rintro e w16 ⟨rfl, hF⟩
  rw [same12]
  have HF := Lib.hid (HF.out.trans hF)
  have HB := Lib.hid (Sl.keep HB.out hF)
  have HX := Lib.hid (HX.out.keep hF)
  have HX2 := Lib.hid (HX2.out.keep hF)
  have HC := Lib.hid (Sl.keep HC.out hF)
  have HZ := Lib.hid (HZ.out.keep hF)
  have HSZq := Lib.hid (Nat.le_trans HSZ.out hF.size)
  clear HSZ
  have HSZ := HSZq
  clear HSZq
  have HA := Lib.hid (Sl.keep HA.out hF)
  have HAX := Lib.hid (HAX.out.keep hF)
  have HG := Lib.hid (Sl.keep HG.out hF)
  have HGX := Lib.hid (HGX.out.keep hF)
  clear hF
  go_wp2_with (first | (refine wpList_load_row_w rfl 28 (.tmp 8) rfl gz rfl 28 _ _ HZ.out Try.underlying28 rfl (by kernel_rfl) ?_))
  refine (impLength_any (x := bt12x) ⟨_, rfl, HX.out.bytes⟩).mono ?_
  rintro e w17 ⟨rfl, hF⟩
  rw [show bt12x.len = 9 from rfl]
  have HF := Lib.hid (HF.out.trans hF)
  have HB := Lib.hid (Sl.keep HB.out hF)
  have HX := Lib.hid (HX.out.keep hF)
  have HX2 := Lib.hid (HX2.out.keep hF)
  have HC := Lib.hid (Sl.keep HC.out hF)
  have HZ := Lib.hid (HZ.out.keep hF)
  have HSZq := Lib.hid (Nat.le_trans HSZ.out hF.size)
  clear HSZ
  have HSZ := HSZq
  clear HSZq
  have HA := Lib.hid (Sl.keep HA.out hF)
  have HAX := Lib.hid (HAX.out.keep hF)
  have HG := Lib.hid (Sl.keep HG.out hF)
  have HGX := Lib.hid (HGX.out.keep hF)
  clear hF
  go_wp2_with (first | (refine wpList_load_row_w rfl 28 (.tmp 12) rfl gg rfl 28 _ _ HGX.out Try.underlying28 rfl (by kernel_rfl) ?_) | (refine wpList_load_row_w rfl 28 (.tmp 8) rfl gz rfl 28 _ _ HZ.out Try.underlying28 rfl (by kernel_rfl) ?_))
  refine (impSame_any (x := Bt.all [bt12, bt12x, bt12]) (y := bt12x) ⟨_, rfl, HG.out⟩ ⟨_, rfl, HX.out.bytes⟩ (by decide +kernel) (by decide)).mono ?_
  rintro e w18 ⟨rfl, hF⟩
  rw [fold12]
  have HF := Lib.hid (HF.out.trans hF)
  have HB := Lib.hid (Sl.keep HB.out hF)
  have HX := Lib.hid (HX.out.keep hF)
  have HX2 := Lib.hid (HX2.out.keep hF)
  have HC := Lib.hid (Sl.keep HC.out hF)
  have HZ := Lib.hid (HZ.out.keep hF)
  have HSZq := Lib.hid (Nat.le_trans HSZ.out hF.size)
  clear HSZ
  have HSZ := HSZq
  clear HSZq
  have HA := Lib.hid (Sl.keep HA.out hF)
  have HAX := Lib.hid (HAX.out.keep hF)
  have HG := Lib.hid (Sl.keep HG.out hF)
  have HGX := Lib.hid (HGX.out.keep hF)
  clear hF
  go_wp2_with (first | (refine wpList_load_row_w rfl 28 (.tmp 2) rfl gx rfl 28 _ _ HX2.out Try.underlying28 rfl (by kernel_rfl) ?_) | (refine wpList_load_row_w rfl 28 (.tmp 8) rfl gz rfl 28 _ _ HZ.out Try.underlying28 rfl (by kernel_rfl) ?_))
  refine (impSame_any (x := bt12) (y := bt12x) ⟨_, rfl, HX.out.bytes⟩ ⟨_, rfl, HX.out.bytes⟩ (by decide) (by decide)).mono ?_
  rintro e w19 ⟨rfl, hF⟩
  rw [same12x]
  have HF := Lib.hid (HF.out.trans hF)
  have HB := Lib.hid (Sl.keep HB.out hF)
  have HX := Lib.hid (HX.out.keep hF)
  have HX2 := Lib.hid (HX2.out.keep hF)
  have HC := Lib.hid (Sl.keep HC.out hF)
  have HZ := Lib.hid (HZ.out.keep hF)
  have HSZq := Lib.hid (Nat.le_trans HSZ.out hF.size)
  clear HSZ
  have HSZ := HSZq
  clear HSZq
  have HA := Lib.hid (Sl.keep HA.out hF)
  have HAX := Lib.hid (HAX.out.keep hF)
  have HG := Lib.hid (Sl.keep HG.out hF)
  have HGX := Lib.hid (HGX.out.keep hF)
  clear hF
  go_wp2_with fail
  go_ret
  first | exact ⟨rfl, HF.out⟩ | exact ⟨ret_bool (by simp), HF.out⟩
end Go.Proofs.Ytchbgiindfoepaa

/- The walk of confluxlaw12.ImprintBack (printed by gen_imp11.py). -/
namespace Go.Proofs.Ytchbgiindfoepaa
open Go.RowKit

theorem seq_bytes {l : List UInt8} {p : Pkt} (h : parseR l = .ok p) : nb l 2 2 = p.seq.toNat := by
  obtain ⟨h1, h2⟩ := parse_back h
  rw [← h2, nb2]
theorem ssrc_bytes {l : List UInt8} {p : Pkt} (h : parseR l = .ok p) : nb l 8 4 = p.ssrc.toNat := by
  obtain ⟨h1, h2⟩ := parse_back h
  rw [← h2, nb8]
theorem back_pack {l : List UInt8} {p : Pkt} (h : parseR l = .ok p) (more : List UInt8) : ({ imp l with body := (imp l).body ++ more } : Bt).pack p.seq p.ssrc = .ok l := by
  obtain ⟨h1, h2⟩ := parse_back h
  rw [← h2, pack_bytes h1, p.put_same]
end Go.Proofs.Ytchbgiindfoepaa
