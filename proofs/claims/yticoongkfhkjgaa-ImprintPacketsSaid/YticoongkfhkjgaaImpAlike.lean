/- The walk of confluxlaw12.ImprintAlike (printed by gen_imp12.py). -/
import Derived.Test.YticoongkfhkjgaaImpBack
import Derived.Test.YticoongkfhkjgaaCuts
namespace Go.Proofs.Yticoongkfhkjgaa
open Go.RowKit

theorem u8_xor1 (a : UInt8) : bits .xor .u8 (a.toNat : Int) 1 = ((a ^^^ 1).toNat : Int) := by
  have h : ∀ n < 256, bits .xor .u8 ((n : Nat) : Int) 1 = ((n ^^^ 1 : Nat) : Int) := by decide +kernel
  rw [h a.toNat a.toNat_lt, UInt8.toNat_xor]
  rfl
set_option maxRecDepth 100000 in
set_option maxHeartbeats 8000000 in
theorem ImprintAlike_any {w : World} {v : Value} {l : List UInt8} (hl : Bytes w v l) (s : UInt16) (t : UInt32) (c : Int) :
    Calls Try.prog 7 #[v, .int .u16 (s.toNat : Nat), .int .u32 (t.toNat : Nat), .int .i64 c] w fun e w' => e = .returned (.bool true) ∧ Fr [] w w' := by
  obtain ⟨av, cv, rfl⟩ := hl.shape
  obtain ⟨cn, hcn, hcl⟩ := and4095 c
  simp only [List.length_map] at hl ⊢
  have hlen := (Sl.len hl).2
  unfold maxLen at hlen
  have HCN := Lib.hid hcn
  clear hcn
  have HB := Lib.hid hl; have HF : Hid (Fr [] w w) := Lib.hid (Fr.refl _ _)
  clear hl
  go_enter Try.func7, Try.ntmps7
  go_wp2_with fail
  refine l12alive_any.mono ?_
  rintro e w1 ⟨rfl, hF⟩
  have HF := Lib.hid (HF.out.trans hF)
  have HB := Lib.hid (Sl.keep HB.out hF)
  clear hF
  by_cases hbig : 2000 < l.length
  · go_wp2_with fail
    go_ret
    first | exact ⟨rfl, HF.out⟩ | exact ⟨ret_bool (by simp), HF.out⟩
  have hsm : l.length ≤ 2000 := by omega
  go_wp2_with fail
  refine (impOf_any HB.out).mono ?_
  rintro e w2 (⟨v3, p, hp, rfl, ⟨vb, rfl, hO⟩, hF⟩ | ⟨k, hp, rfl, hF⟩)
  rotate_left
  · have hk : (k != 0) = true := by simpa using parseR_err hp
    have HF := Lib.hid (HF.out.trans hF)
    clear hp hF
    go_upto_region 6 with (refine wpList_store_row rfl 27 (.tmp 9) (.tmp 30) rfl w2.heap.size rfl _ _ rfl 27 (Box.new w2 27 (bc Bt.zero (.slice none 0 0))) (by kernel_rfl) rfl (by simp [bc, Value.oneCell']) ?_; intro w3 hY hG; have hFn := ((Fr.refl [] w2).alloc _).step hG (by simp); have HFn := Lib.hid hFn; have HY := Lib.hid hY; clear hG hFn hY)
    have HF := Lib.hid (HF.out.trans HFn.out); have HXB := HY
    clear HFn HY
    generalize hgx : w2.heap.size = gx at *
    clear hgx
    go_wp2_with (refine wpList_load_row_w rfl 27 (.tmp 9) rfl gx rfl 27 _ _ HXB.out Try.underlying27 rfl (by kernel_rfl) ?_)
    refine (impEmpty_any (x := Bt.zero) ⟨_, rfl, Sl.nil _⟩ (by simp [Bt.zero])).mono ?_
    rintro e wz ⟨rfl, hF⟩
    rw [show Bt.zero.same Bt.zero = true from rfl]
    have HF := Lib.hid (HF.out.trans hF)
    clear hF
    go_wp2_with fail
    go_ret
    first | exact ⟨rfl, HF.out⟩ | exact ⟨ret_bool (by simp), HF.out⟩
  have HP := Lib.hid hp
  obtain ⟨a3, n3, c3, rfl⟩ := hO.isSlice
  have HXO := Lib.hid hO
  obtain rfl := hO.len
  have HXLN : Hid ((imp l).body.length ≤ l.length) := Lib.hid (by simp [imp])
  clear hp hO
  have HF := Lib.hid (HF.out.trans hF)
  have HB := Lib.hid (Sl.keep HB.out hF)
  clear hF
  go_upto_region 6 with (refine wpList_store_row rfl 27 (.tmp 9) (.tmp 30) rfl w2.heap.size rfl _ _ rfl 27 (Box.new w2 27 (bc Bt.zero (.slice none 0 0))) (by kernel_rfl) rfl (by simp [bc, Value.oneCell']) ?_; intro w3 hY hG; have hFn := ((Fr.refl [] w2).alloc _).step hG (by simp); have HFn := Lib.hid hFn; have HY := Lib.hid hY; clear hG hFn hY)
  have hF := HFn.out
  have HF := Lib.hid (HF.out.trans hF)
  have HB := Lib.hid (Sl.keep HB.out hF)
  have HXO := Lib.hid (HXO.out.keep hF)
  have HXB := HY
  clear hF HFn HY
  have HSX : Hid (w2.heap.size + 1 ≤ w3.heap.size) := Lib.hid HXB.out.lt
  generalize hgx : w2.heap.size = gx at *
  clear hgx
  obtain ⟨hwr, hbt⟩ := parse_back HP.out
  have HPK : Hid ((imp l).pack s t = .ok (p.put s t).bytes) := Lib.hid (by rw [← hbt]; exact pack_bytes0 hwr s t)
  have HPP : Hid (parseR (p.put s t).bytes = .ok (p.put s t)) := Lib.hid (parse_bytes ((p.put_wrong s t).trans hwr))
  have HIM : Hid (imp (p.put s t).bytes = imp l) := Lib.hid (by rw [imp_put, hbt])
  have HLN : Hid ((imp l).len = l.length - 12) := Lib.hid (by rw [← hbt, imp_len hwr]; have := (tail_len hwr).2; omega)
  have HL12 : Hid (12 ≤ l.length) := Lib.hid (parse_len HP.out).1
  have HPL : Hid ((p.put s t).bytes.length ≤ 1500) := Lib.hid (parse_len HPP.out).2
  clear hwr hbt
  go_wp2_with (refine wpList_load_row_w rfl 27 (.tmp 9) rfl gx rfl 27 _ _ HXB.out Try.underlying27 rfl (by kernel_rfl) ?_)
  refine (impPacket_any (x := imp l) ⟨_, rfl, HXO.out.bytes⟩ (by have := HXLN.out; omega) s t).mono ?_
  rintro e w4 (⟨l2, v8, hp, rfl, hO, hF⟩ | ⟨hp, -, -⟩)
  rotate_left
  · rw [HPK.out] at hp; cases hp
  rw [HPK.out] at hp
  cases hp
  generalize hq : (p.put s t).bytes = q at *
  have HQ := Lib.hid hq
  clear hq
  obtain ⟨a8, n8, c8, rfl⟩ := hO.isSlice
  have HC := Lib.hid hO.bytes
  clear hO
  have HF := Lib.hid (HF.out.trans hF)
  have HB := Lib.hid (Sl.keep HB.out hF)
  have HXO := Lib.hid (HXO.out.keep hF)
  have HXB := Lib.hid (HXB.out.keep hF)
  have HSXq := Lib.hid (Nat.le_trans HSX.out hF.size)
  clear HSX
  have HSX := HSXq
  clear HSXq
  clear hF
  go_wp2_with fail
  refine (impOf_any HC.out).mono ?_
  rintro e w5 (⟨v3, p2, hp, rfl, ⟨vb, rfl, hO⟩, hF⟩ | ⟨k, hp, -, -⟩)
  rotate_left
  · rw [HPP.out] at hp; cases hp
  clear hp
  rw [HIM.out] at hO ⊢
  obtain ⟨a9, n9, c9, rfl⟩ := hO.isSlice
  have HYO := Lib.hid hO
  obtain rfl := hO.len
  clear hO
  have HF := Lib.hid (HF.out.trans hF)
  have HB := Lib.hid (Sl.keep HB.out hF)
  have HXO := Lib.hid (HXO.out.keep hF)
  have HXB := Lib.hid (HXB.out.keep hF)
  have HSXq := Lib.hid (Nat.le_trans HSX.out hF.size)
  clear HSX
  have HSX := HSXq
  clear HSXq
  have HC := Lib.hid (Sl.keep HC.out hF)
  clear hF
  go_upto_region 10 with (refine wpList_store_row rfl 27 (.tmp 13) (.tmp 46) rfl w5.heap.size rfl _ _ rfl 27 (Box.new w5 27 (bc Bt.zero (.slice none 0 0))) (by kernel_rfl) rfl (by simp [bc, Value.oneCell']) ?_; intro w6 hY hG; have hFn := ((Fr.refl [] w5).alloc _).step hG (by simp); have HFn := Lib.hid hFn; have HY := Lib.hid hY; clear hG hFn hY)
  have hF := HFn.out
  have HF := Lib.hid (HF.out.trans hF)
  have HB := Lib.hid (Sl.keep HB.out hF)
  have HXO := Lib.hid (HXO.out.keep hF)
  have HXB := Lib.hid (HXB.out.keep hF)
  have HSXq := Lib.hid (Nat.le_trans HSX.out hF.size)
  clear HSX
  have HSX := HSXq
  clear HSXq
  have HC := Lib.hid (Sl.keep HC.out hF)
  have HYO := Lib.hid (HYO.out.keep hF)
  have HYB := HY
  clear hF HFn HY
  have HSY : Hid (w5.heap.size + 1 ≤ w6.heap.size) := Lib.hid HYB.out.lt
  generalize hgy : w5.heap.size = gy at *
  clear hgy
  go_wp2_with (first | (refine wpList_load_row_w rfl 27 (.tmp 9) rfl gx rfl 27 _ _ HXB.out Try.underlying27 rfl (by kernel_rfl) ?_) | (refine wpList_load_row_w rfl 27 (.tmp 13) rfl gy rfl 27 _ _ HYB.out Try.underlying27 rfl (by kernel_rfl) ?_))
  refine (impSame_any (x := imp l) (y := imp l) ⟨_, rfl, HXO.out.bytes⟩ ⟨_, rfl, HYO.out.bytes⟩ (by have := HXLN.out; omega) (by have := HXLN.out; omega)).mono ?_
  rintro e w7 ⟨rfl, hF⟩
  rw [Bt.same_refl]
  have HF := Lib.hid (HF.out.trans hF)
  have HB := Lib.hid (Sl.keep HB.out hF)
  have HXO := Lib.hid (HXO.out.keep hF)
  have HXB := Lib.hid (HXB.out.keep hF)
  have HSXq := Lib.hid (Nat.le_trans HSX.out hF.size)
  clear HSX
  have HSX := HSXq
  clear HSXq
  have HC := Lib.hid (Sl.keep HC.out hF)
  have HYO := Lib.hid (HYO.out.keep hF)
  have HYB := Lib.hid (HYB.out.keep hF)
  have HSYq := Lib.hid (Nat.le_trans HSY.out hF.size)
  clear HSY
  have HSY := HSYq
  clear HSYq
  clear hF
  go_wp2_with (first | (refine wpList_load_row_w rfl 27 (.tmp 9) rfl gx rfl 27 _ _ HXB.out Try.underlying27 rfl (by kernel_rfl) ?_) | (refine wpList_load_row_w rfl 27 (.tmp 13) rfl gy rfl 27 _ _ HYB.out Try.underlying27 rfl (by kernel_rfl) ?_))
  refine (impAdd_any (x := imp l) (y := imp l) ⟨_, rfl, HXO.out.bytes⟩ ⟨_, rfl, HYO.out.bytes⟩ (by have := HXLN.out; omega) (by have := HXLN.out; omega)).mono ?_
  rintro e w8 ⟨v9, rfl, hO, hF⟩
  have HZ := Lib.hid hO.v
  clear hO
  have HF := Lib.hid (HF.out.trans hF)
  have HB := Lib.hid (Sl.keep HB.out hF)
  have HXO := Lib.hid (HXO.out.keep hF)
  have HXB := Lib.hid (HXB.out.keep hF)
  have HSXq := Lib.hid (Nat.le_trans HSX.out hF.size)
  clear HSX
  have HSX := HSXq
  clear HSXq
  have HC := Lib.hid (Sl.keep HC.out hF)
  have HYO := Lib.hid (HYO.out.keep hF)
  have HYB := Lib.hid (HYB.out.keep hF)
  have HSYq := Lib.hid (Nat.le_trans HSY.out hF.size)
  clear HSY
  have HSY := HSYq
  clear HSYq
  clear hF
  go_wp2_with fail
  refine (impEmpty_any HZ.out (by rw [Bt.add_body_len]; have := HXLN.out; omega)).mono ?_
  rintro e w9 ⟨rfl, hF⟩
  rw [Bt.add_self]
  clear HZ
  have HF := Lib.hid (HF.out.trans hF)
  have HB := Lib.hid (Sl.keep HB.out hF)
  have HXO := Lib.hid (HXO.out.keep hF)
  have HXB := Lib.hid (HXB.out.keep hF)
  have HSXq := Lib.hid (Nat.le_trans HSX.out hF.size)
  clear HSX
  have HSX := HSXq
  clear HSXq
  have HC := Lib.hid (Sl.keep HC.out hF)
  have HYO := Lib.hid (HYO.out.keep hF)
  have HYB := Lib.hid (HYB.out.keep hF)
  have HSYq := Lib.hid (Nat.le_trans HSY.out hF.size)
  clear HSY
  have HSY := HSYq
  clear HSYq
  clear hF
  go_wp2_with fail
  refine (Seq_any HC.out).mono ?_
  rintro e w10 (⟨p2, hp, rfl, hF⟩ | ⟨k, hp, -, -⟩)
  rotate_left
  · rw [HPP.out] at hp; cases hp
  rw [HPP.out] at hp
  cases hp
  rw [show (p.put s t).seq = s from rfl]
  have HF := Lib.hid (HF.out.trans hF)
  have HB := Lib.hid (Sl.keep HB.out hF)
  have HXO := Lib.hid (HXO.out.keep hF)
  have HXB := Lib.hid (HXB.out.keep hF)
  have HSXq := Lib.hid (Nat.le_trans HSX.out hF.size)
  clear HSX
  have HSX := HSXq
  clear HSXq
  have HC := Lib.hid (Sl.keep HC.out hF)
  have HYO := Lib.hid (HYO.out.keep hF)
  have HYB := Lib.hid (HYB.out.keep hF)
  have HSYq := Lib.hid (Nat.le_trans HSY.out hF.size)
  clear HSY
  have HSY := HSYq
  clear HSYq
  clear hF
  go_wp2_with fail
  refine (SSRC_any HC.out).mono ?_
  rintro e w11 (⟨p2, hp, rfl, hF⟩ | ⟨k, hp, -, -⟩)
  rotate_left
  · rw [HPP.out] at hp; cases hp
  rw [HPP.out] at hp
  cases hp
  rw [show (p.put s t).ssrc = t from rfl]
  have HF := Lib.hid (HF.out.trans hF)
  have HB := Lib.hid (Sl.keep HB.out hF)
  have HXO := Lib.hid (HXO.out.keep hF)
  have HXB := Lib.hid (HXB.out.keep hF)
  have HSXq := Lib.hid (Nat.le_trans HSX.out hF.size)
  clear HSX
  have HSX := HSXq
  clear HSXq
  have HC := Lib.hid (Sl.keep HC.out hF)
  have HYO := Lib.hid (HYO.out.keep hF)
  have HYB := Lib.hid (HYB.out.keep hF)
  have HSYq := Lib.hid (Nat.le_trans HSY.out hF.size)
  clear HSY
  have HSY := HSYq
  clear HSYq
  clear hF
  go_wp2_with fail
  have HSX11 : Hid (gx + 1 ≤ w11.heap.size) := HSX
  have HXL11 : Hid (∀ b, blockOf (.slice a3 (imp l).body.length c3) = some b → b < w11.heap.size) := Lib.hid (fun b hb => (HXO.out.block b hb).2)
  have HW11 : Hid (w.heap.size ≤ w11.heap.size) := Lib.hid HF.out.size
  refine (RCopy_any HB.out (by omega)).mono ?_
  rintro e w12 ⟨vo, rfl, hO, hF⟩
  obtain ⟨ao, no, co, rfl⟩ := hO.isSlice
  obtain rfl := hO.len
  have HOO := Lib.hid hO
  clear hO
  have HF := Lib.hid (HF.out.trans hF)
  have HB := Lib.hid (Sl.keep HB.out hF)
  have HXO := Lib.hid (HXO.out.keep hF)
  have HXB := Lib.hid (HXB.out.keep hF)
  have HSXq := Lib.hid (Nat.le_trans HSX.out hF.size)
  clear HSX
  have HSX := HSXq
  clear HSXq
  have HC := Lib.hid (Sl.keep HC.out hF)
  have HYO := Lib.hid (HYO.out.keep hF)
  have HYB := Lib.hid (HYB.out.keep hF)
  have HSYq := Lib.hid (Nat.le_trans HSY.out hF.size)
  clear HSY
  have HSY := HSYq
  clear HSYq
  clear hF
  have hL12 := HL12.out
  have HKD : Hid (bits .and .i64 c 4095 = (cn : Int)) := HCN
  obtain ⟨kk, hkk⟩ : ∃ kk, kk = cn % l.length := ⟨_, rfl⟩
  have hkl : kk < l.length := by rw [hkk]; exact Nat.mod_lt _ (by omega)
  have HKK : Hid (((cn : Int) % (l.length : Int)) = (kk : Int)) := Lib.hid (by rw [hkk]; omega)
  clear hkk
  obtain ⟨go, cap, ev, hbg, hgl, hlc, hcell, hfree, hset⟩ := HOO.out.live (by omega)
  simp only [Value.slice.injEq, true_and] at ev
  obtain ⟨rfl, rfl⟩ := ev
  have HD1 := Lib.hid (hcell kk hkl)
  have HD2 := Lib.hid (hfree kk)
  have HST := Lib.hid (hset kk (l[kk] ^^^ 1) hkl)
  have HGO : Hid (w11.heap.size ≤ go) := Lib.hid hbg
  clear hcell hfree hset hbg hgl
  have hKD := HKD.out
  have hKK := HKK.out
  have hD1 : w12.cell? ⟨go, kk, none⟩ = some (.int .u8 ((l[kk]).toNat : Nat)) := HD1.out
  have hXR := u8_xor1 l[kk]
  have hD2 := HD2.out
  go_upto_region 17 with (fail)
  obtain ⟨w13, e13, hO13, hG13⟩ : ∃ w13, w12.setCell ⟨go, kk, none⟩ (.int .u8 ((l[kk].toNat ^^^ 1 : Nat) : Int)) = w13 ∧ OwnB w13 w11.heap.size (.slice (some ⟨go, 0, none⟩) l.length co) (l.set kk (l[kk] ^^^ 1)) ∧ Fr [go] w12 w13 := by
    refine ⟨_, rfl, ?_⟩
    have hx : (.int .u8 ((l[kk].toNat ^^^ 1 : Nat) : Int)) = B8 (l[kk] ^^^ 1) := by unfold B8; rw [UInt8.toNat_xor]; rfl
    rw [hx]
    exact HST.out
  rw [e13, HKK.out]
  have HF := Lib.hid (HF.out.step hG13 (fun x hx => .inr (by simp at hx; subst hx; have := HGO.out; have := HW11.out; omega)))
  have HXO := Lib.hid (HXO.out.fr hG13 (fun b hb hm => by have := HXL11.out b hb; have := HGO.out; simp at hm; omega))
  have HXB := Lib.hid (HXB.out.fr hG13 (fun hm => by have := HSX11.out; have := HGO.out; simp at hm; omega))
  have HD := Lib.hid hO13.bytes
  have HTN : Hid (kk < 2 ∨ 4 ≤ kk ∧ kk < 8 ∨ 12 ≤ kk → (imp l).same (imp (l.set kk (l[kk] ^^^ 1))) = false) := Lib.hid (fun hc => by
    have := imp_turn hkl hc
    rwa [List.getD_eq_getElem?_getD, List.getElem?_eq_getElem hkl] at this)
  generalize hod : l.set kk (l[kk] ^^^ 1) = od at *
  have HOL : Hid (od.length = l.length) := Lib.hid (by rw [← hod]; simp)
  clear hod hKD hKK hD1 hXR hD2 HD1 HD2 HST hG13 hO13 e13 HOO HC HYO HYB HB
  go_wp2_with fail
  refine (impOf_any HD.out).mono ?_
  rintro e w14 (⟨v3, p3, hp, rfl, ⟨vb, rfl, hO⟩, hF⟩ | ⟨k, hp, rfl, hF⟩)
  rotate_left
  · have hk : (k == 0) = false := by simpa using parseR_err hp
    have HF := Lib.hid (HF.out.trans hF)
    have HXO := Lib.hid (HXO.out.keep hF)
    have HXB := Lib.hid (HXB.out.keep hF)
    clear hp hF
    go_upto_region 18 with (refine wpList_store_row rfl 27 (.tmp 20) (.tmp 93) rfl w14.heap.size rfl _ _ rfl 27 (Box.new w14 27 (bc Bt.zero (.slice none 0 0))) (by kernel_rfl) rfl (by simp [bc, Value.oneCell']) ?_; intro w15 hY hG; have hFn := ((Fr.refl [] w14).alloc _).step hG (by simp); have HFn := Lib.hid hFn; have HY := Lib.hid hY; clear hG hFn hY)
    have hF := HFn.out
    have HF := Lib.hid (HF.out.trans hF)
    have HXO := Lib.hid (HXO.out.keep hF)
    have HXB := Lib.hid (HXB.out.keep hF)
    clear hF HFn HY
    go_wp2_with (refine wpList_load_row_w rfl 27 (.tmp 9) rfl gx rfl 27 _ _ HXB.out Try.underlying27 rfl (by kernel_rfl) ?_)
    refine (impLength_any (x := imp l) ⟨_, rfl, HXO.out.bytes⟩).mono ?_
    rintro e wy ⟨rfl, hF⟩
    rw [HLN.out]
    have hL12 := HL12.out
    have hcmp : (((l.length - 12 : Nat) : Int) == (l.length : Int) - 12) = true := by rw [beq_iff_eq]; omega
    have HF := Lib.hid (HF.out.trans hF)
    clear hF
    go_wp2_with fail
    go_ret
    first | exact ⟨rfl, HF.out⟩ | exact ⟨ret_bool (by simp), HF.out⟩
  obtain ⟨a7, n7, c7, rfl⟩ := hO.isSlice
  have HZO := Lib.hid hO
  obtain rfl := hO.len
  have HZL : Hid ((imp od).body.length ≤ 2000) := Lib.hid (by simp [imp]; have := HOL.out; omega)
  clear hp hO
  have HF := Lib.hid (HF.out.trans hF)
  have HXO := Lib.hid (HXO.out.keep hF)
  have HXB := Lib.hid (HXB.out.keep hF)
  clear hF
  go_upto_region 18 with (refine wpList_store_row rfl 27 (.tmp 20) (.tmp 93) rfl w14.heap.size rfl _ _ rfl 27 (Box.new w14 27 (bc Bt.zero (.slice none 0 0))) (by kernel_rfl) rfl (by simp [bc, Value.oneCell']) ?_; intro w15 hY hG; have hFn := ((Fr.refl [] w14).alloc _).step hG (by simp); have HFn := Lib.hid hFn; have HY := Lib.hid hY; clear hG hFn hY)
  have hF := HFn.out
  have HF := Lib.hid (HF.out.trans hF)
  have HXO := Lib.hid (HXO.out.keep hF)
  have HXB := Lib.hid (HXB.out.keep hF)
  have HZO := Lib.hid (HZO.out.keep hF)
  have HZB := HY
  clear hF HFn HY
  generalize hgz : w14.heap.size = gz at *
  clear hgz
  by_cases hc1 : kk < 2
  · have HS := Lib.hid (HTN.out (.inl hc1))
    go_wp2_with (first | (refine wpList_load_row_w rfl 27 (.tmp 9) rfl gx rfl 27 _ _ HXB.out Try.underlying27 rfl (by kernel_rfl) ?_) | (refine wpList_load_row_w rfl 27 (.tmp 20) rfl gz rfl 27 _ _ HZB.out Try.underlying27 rfl (by kernel_rfl) ?_))
    refine (impSame_any (x := imp l) (y := imp od) ⟨_, rfl, HXO.out.bytes⟩ ⟨_, rfl, HZO.out.bytes⟩ (by have := HXLN.out; omega) (by have := HZL.out; omega)).mono ?_
    rintro e w16 ⟨rfl, hF⟩
    rw [HS.out]
    have HF := Lib.hid (HF.out.trans hF)
    have HXO := Lib.hid (HXO.out.keep hF)
    have HXB := Lib.hid (HXB.out.keep hF)
    have HZO := Lib.hid (HZO.out.keep hF)
    have HZB := Lib.hid (HZB.out.keep hF)
    clear hF
    go_wp2_with (refine wpList_load_row_w rfl 27 (.tmp 9) rfl gx rfl 27 _ _ HXB.out Try.underlying27 rfl (by kernel_rfl) ?_)
    refine (impLength_any (x := imp l) ⟨_, rfl, HXO.out.bytes⟩).mono ?_
    rintro e wy ⟨rfl, hF⟩
    rw [HLN.out]
    have hL12 := HL12.out
    have hcmp : (((l.length - 12 : Nat) : Int) == (l.length : Int) - 12) = true := by rw [beq_iff_eq]; omega
    have HF := Lib.hid (HF.out.trans hF)
    clear hF
    go_wp2_with fail
    go_ret
    first | exact ⟨rfl, HF.out⟩ | exact ⟨ret_bool (by simp), HF.out⟩
  by_cases hc2 : kk < 4
  · go_wp2_with (refine wpList_load_row_w rfl 27 (.tmp 9) rfl gx rfl 27 _ _ HXB.out Try.underlying27 rfl (by kernel_rfl) ?_)
    refine (impLength_any (x := imp l) ⟨_, rfl, HXO.out.bytes⟩).mono ?_
    rintro e wy ⟨rfl, hF⟩
    rw [HLN.out]
    have hL12 := HL12.out
    have hcmp : (((l.length - 12 : Nat) : Int) == (l.length : Int) - 12) = true := by rw [beq_iff_eq]; omega
    have HF := Lib.hid (HF.out.trans hF)
    clear hF
    go_wp2_with fail
    go_ret
    first | exact ⟨rfl, HF.out⟩ | exact ⟨ret_bool (by simp), HF.out⟩
  by_cases hc3 : kk < 8
  · have HS := Lib.hid (HTN.out (.inr (.inl ⟨by omega, hc3⟩)))
    go_wp2_with (first | (refine wpList_load_row_w rfl 27 (.tmp 9) rfl gx rfl 27 _ _ HXB.out Try.underlying27 rfl (by kernel_rfl) ?_) | (refine wpList_load_row_w rfl 27 (.tmp 20) rfl gz rfl 27 _ _ HZB.out Try.underlying27 rfl (by kernel_rfl) ?_))
    refine (impSame_any (x := imp l) (y := imp od) ⟨_, rfl, HXO.out.bytes⟩ ⟨_, rfl, HZO.out.bytes⟩ (by have := HXLN.out; omega) (by have := HZL.out; omega)).mono ?_
    rintro e w16 ⟨rfl, hF⟩
    rw [HS.out]
    have HF := Lib.hid (HF.out.trans hF)
    have HXO := Lib.hid (HXO.out.keep hF)
    have HXB := Lib.hid (HXB.out.keep hF)
    have HZO := Lib.hid (HZO.out.keep hF)
    have HZB := Lib.hid (HZB.out.keep hF)
    clear hF
    go_wp2_with (refine wpList_load_row_w rfl 27 (.tmp 9) rfl gx rfl 27 _ _ HXB.out Try.underlying27 rfl (by kernel_rfl) ?_)
    refine (impLength_any (x := imp l) ⟨_, rfl, HXO.out.bytes⟩).mono ?_
    rintro e wy ⟨rfl, hF⟩
    rw [HLN.out]
    have hL12 := HL12.out
    have hcmp : (((l.length - 12 : Nat) : Int) == (l.length : Int) - 12) = true := by rw [beq_iff_eq]; omega
    have HF := Lib.hid (HF.out.trans hF)
    clear hF
    go_wp2_with fail
    go_ret
    first | exact ⟨rfl, HF.out⟩ | exact ⟨ret_bool (by simp), HF.out⟩
  by_cases hc4 : kk < 12
  · go_wp2_with (refine wpList_load_row_w rfl 27 (.tmp 9) rfl gx rfl 27 _ _ HXB.out Try.underlying27 rfl (by kernel_rfl) ?_)
    refine (impLength_any (x := imp l) ⟨_, rfl, HXO.out.bytes⟩).mono ?_
    rintro e wy ⟨rfl, hF⟩
    rw [HLN.out]
    have hL12 := HL12.out
    have hcmp : (((l.length - 12 : Nat) : Int) == (l.length : Int) - 12) = true := by rw [beq_iff_eq]; omega
    have HF := Lib.hid (HF.out.trans hF)
    clear hF
    go_wp2_with fail
    go_ret
    first | exact ⟨rfl, HF.out⟩ | exact ⟨ret_bool (by simp), HF.out⟩
  have HS := Lib.hid (HTN.out (.inr (.inr (by omega))))
  have hc7 : 12 ≤ kk := by omega
  clear hc1 hc2 hc3 hc4
  have d1 : decide ((kk : Int) < 2) = false := by simp; omega
  have d2 : decide (4 ≤ (kk : Int)) = true := by simp; omega
  have d3 : decide ((kk : Int) < 8) = false := by simp; omega
  have d4 : decide (12 ≤ (kk : Int)) = true := by simp; omega
  go_wp2_with (first | (refine wpList_load_row_w rfl 27 (.tmp 9) rfl gx rfl 27 _ _ HXB.out Try.underlying27 rfl (by kernel_rfl) ?_) | (refine wpList_load_row_w rfl 27 (.tmp 20) rfl gz rfl 27 _ _ HZB.out Try.underlying27 rfl (by kernel_rfl) ?_))
  refine (impSame_any (x := imp l) (y := imp od) ⟨_, rfl, HXO.out.bytes⟩ ⟨_, rfl, HZO.out.bytes⟩ (by have := HXLN.out; omega) (by have := HZL.out; omega)).mono ?_
  rintro e w16 ⟨rfl, hF⟩
  rw [HS.out]
  have HF := Lib.hid (HF.out.trans hF)
  have HXO := Lib.hid (HXO.out.keep hF)
  have HXB := Lib.hid (HXB.out.keep hF)
  have HZO := Lib.hid (HZO.out.keep hF)
  have HZB := Lib.hid (HZB.out.keep hF)
  clear hF
  go_wp2_with (refine wpList_load_row_w rfl 27 (.tmp 9) rfl gx rfl 27 _ _ HXB.out Try.underlying27 rfl (by kernel_rfl) ?_)
  refine (impLength_any (x := imp l) ⟨_, rfl, HXO.out.bytes⟩).mono ?_
  rintro e wy ⟨rfl, hF⟩
  rw [HLN.out]
  have hL12 := HL12.out
  have hcmp : (((l.length - 12 : Nat) : Int) == (l.length : Int) - 12) = true := by rw [beq_iff_eq]; omega
  have HF := Lib.hid (HF.out.trans hF)
  clear hF
  go_wp2_with fail
  go_ret
  first | exact ⟨rfl, HF.out⟩ | exact ⟨ret_bool (by simp), HF.out⟩
end Go.Proofs.Yticoongkfhkjgaa
