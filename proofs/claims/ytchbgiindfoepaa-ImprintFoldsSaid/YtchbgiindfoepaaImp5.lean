/- The walk of imprint.Packet (printed by gen_imp5.py). -/
import Derived.Test.YtchbgiindfoepaaImp3
namespace Go.Proofs.Ytchbgiindfoepaa
open Go.RowKit

theorem ib_first (a : UInt8) : ib ((128 ||| (a.toNat &&& 63) : Nat) : Int) = 128 ||| (a &&& 63) := by
  have h : 128 ||| (a.toNat &&& 63) < 256 := Nat.or_lt_two_pow (n := 8) (by omega) (Nat.lt_of_le_of_lt Nat.and_le_left a.toNat_lt)
  rw [← UInt8.toNat_inj, UInt8.toNat_or, UInt8.toNat_and]
  unfold ib
  rw [UInt8.toNat_ofNat']
  show _ = 128 ||| (a.toNat &&& 63)
  omega
theorem ib_byte (a : UInt8) : ib ((a.toNat : Nat) : Int) = a := by
  rw [← UInt8.toNat_inj]
  unfold ib
  rw [UInt8.toNat_ofNat']
  have := a.toNat_lt
  omega
theorem or128' (m : Nat) (hm : m < 256) : bits .or .i64 128 (m : Int) = ((128 ||| m : Nat) : Int) := i64_or_nat 128 m (by omega) (by omega)
set_option maxRecDepth 100000 in
set_option maxHeartbeats 4000000 in
theorem impPacket_any {w : World} {v : Value} {x : Bt} (h : BtV w v x) (hl : x.body.length ≤ 1099511627776) (s : UInt16) (t : UInt32) :
    Calls Try.prog 23 #[v, .int .u16 (s.toNat : Nat), .int .u32 (t.toNat : Nat)] w fun e w' =>
      (∃ l v', x.pack s t = .ok l ∧ e = .returned (.tuple #[v', .int .i64 0]) ∧ OwnB w' w.heap.size v' l ∧ Fr [] w w') ∨
      (x.pack s t = .error 42 ∧ e = .returned (.tuple #[.slice none 0 0, .int .i64 42]) ∧ Fr [] w w') := by
  obtain ⟨a, c, rfl, hb⟩ := h.open_
  have hcap := (Sl.len hb).2.1
  have HGL : Hid (∀ k, liveOf (.slice a x.body.length c) = some k → k < w.heap.size) := Lib.hid (fun k hk => Sl.lt hb k hk)
  obtain ⟨w1, e1, hF1, hB1, hs1⟩ := one_new w (bc x (.slice a x.body.length c)) 28
  have HF := Lib.hid hF1; have HB := Lib.hid hB1; have HV := Lib.hid (h.keep hF1); have G := Lib.hid (Sl.keep hb hF1)
  have E1 := Lib.hid e1
  have hs1' := hs1
  have hlen := x.len_lt
  have hsl := s.toNat_lt; have htl := t.toNat_lt
  clear h hb hF1 hB1 e1 hs1
  go_enter Try.func23, Try.ntmps23
  go_upto_region 1 with (fail)
  rw [E1.out]
  clear E1
  go_wp2_with (refine wpList_load_row rfl 28 (.tmp 3) rfl w.heap.size rfl 28 _ _ _ HB.out Try.underlying28 rfl (by kernel_rfl) ?_)
  refine (impLength_any HV.out).mono ?_
  rintro e w2 ⟨rfl, hF⟩
  have HB := Lib.hid (HB.out.keep hF); have HF := Lib.hid (HF.out.trans hF); have G := Lib.hid (Sl.keep G.out hF)
  have hs2 := hF.size
  clear hF HV
  obtain ⟨x0, x1, x2, x3, x4, x5, x6, x7, x8⟩ := HB.out.bcells
  by_cases c1 : x.body.length < x.len
  · go_wp2_with fail
    go_ret2
    exact .inr ⟨by unfold Bt.pack; rw [if_pos (by omega)], rfl, HF.out⟩
  by_cases c2 : 1488 < x.len
  · go_wp2_with fail
    go_ret2
    exact .inr ⟨by unfold Bt.pack; rw [if_pos (by omega)], rfl, HF.out⟩
  have c3 : ¬ (x.body.length < x.len ∨ 1488 < x.len) := by omega
  have hpk : x.pack s t = match parseR (x.out s t) with | .ok _ => .ok (x.out s t) | .error _ => .error 42 := by unfold Bt.pack; rw [if_neg c3]; rfl
  have HPK := Lib.hid hpk
  clear hpk c3
  obtain ⟨w3, e3, hF3, hB3, hs3⟩ := one_new w2 #[.slice none 0 0] 115
  have HW3 : Hid (Wr w3 w2.heap.size (.slice none 0 0) (w2.heap.size + 1) []) := Lib.hid ⟨hB3, World.ownsRow_nil _ _ _ _, by omega, by omega⟩
  have HB := Lib.hid (HB.out.keep hF3); have HF := Lib.hid (HF.out.trans hF3); have G := Lib.hid (Sl.keep G.out hF3)
  have E3 := Lib.hid e3
  have HWS := Lib.hid (WS.start HW3.out)
  have hWl : w.heap.size < w2.heap.size := by omega
  clear hF3 hB3 e3 hs3
  go_upto_region 5 with (fail)
  rw [E3.out]
  clear E3 x0 x1 x2 x3 x4 x5 x6 x7 x8
  have h063 : x.h0.toNat &&& 63 < 256 := Nat.lt_of_le_of_lt Nat.and_le_left x.h0.toNat_lt
  have hor := or128' (x.h0.toNat &&& 63) h063
  have hand := u8_and63 x.h0
  rw [UInt8.toNat_and] at hand
  have hif := ib_first x.h0; have hi1 := ib_byte x.h1
  have HIF := Lib.hid hif; have HI1 := Lib.hid hi1
  have hx1 := x.h1.toNat_lt
  clear hif hi1
  generalize hh0 : x.h0.toNat = b0 at *
  generalize hh1 : x.h1.toNat = b1 at *
  have HH0 := Lib.hid hh0; have HH1 := Lib.hid hh1
  clear hh0 hh1
  obtain ⟨x0, x1, x2, x3, x4, x5, x6, x7, x8⟩ := (HB.out.fr HWS.out.fr (by simp [blockOf]; omega)).bcells
  rw [HH0.out] at x0
  rw [HH1.out] at x1
  go_wp2_with fail
  clear x0 x1 x2 x3 x4 x5 x6 x7 x8
  clear hor hand
  refine (wbyte_any HWS.out.wr ((128 ||| (b0 &&& 63) : Nat) : Int) (by simp [beN_len, Bt.head]; try omega)).mono ?_
  rintro e w4 ⟨v4, rfl, h⟩
  have HN := Lib.hid (HWS.out.trans h)
  clear h HWS
  have HWS := HN
  clear HN
  obtain ⟨x0, x1, x2, x3, x4, x5, x6, x7, x8⟩ := (HB.out.fr HWS.out.fr (by simp [blockOf]; omega)).bcells
  rw [HH0.out] at x0
  rw [HH1.out] at x1
  go_wp2_with fail
  clear x0 x1 x2 x3 x4 x5 x6 x7 x8
  refine (wbyte_any HWS.out.wr ((b1 : Nat) : Int) (by simp [beN_len, Bt.head]; try omega)).mono ?_
  rintro e w5 ⟨v5, rfl, h⟩
  have HN := Lib.hid (HWS.out.trans h)
  clear h HWS
  have HWS := HN
  clear HN
  obtain ⟨x0, x1, x2, x3, x4, x5, x6, x7, x8⟩ := (HB.out.fr HWS.out.fr (by simp [blockOf]; omega)).bcells
  rw [HH0.out] at x0
  rw [HH1.out] at x1
  go_wp2_with fail
  clear x0 x1 x2 x3 x4 x5 x6 x7 x8
  refine (wword_any HWS.out.wr s.toNat hsl (by simp [beN_len, Bt.head]; try omega)).mono ?_
  rintro e w6 ⟨v6, rfl, h⟩
  have HN := Lib.hid (HWS.out.trans h)
  clear h HWS
  have HWS := HN
  clear HN
  have HH4 : Hid (Bytes w6 (.slice (some ⟨w.heap.size, 2, none⟩) 4 6) [x.h2, x.h3, x.h4, x.h5]) := Lib.hid (box_sl (off := 2) (cap := 6) (HB.out.fr HWS.out.fr (by simp [blockOf]; omega)) ([x.h2, x.h3, x.h4, x.h5].map B8) (by
    intro i y hy
    have hl : i < 4 := (List.getElem?_eq_some_iff.1 hy).1
    match i, hl with
    | 0, _ | 1, _ | 2, _ | 3, _ => exact hy) (by simp) (by unfold maxLen; omega))
  obtain ⟨x0, x1, x2, x3, x4, x5, x6, x7, x8⟩ := (HB.out.fr HWS.out.fr (by simp [blockOf]; omega)).bcells
  rw [HH0.out] at x0
  rw [HH1.out] at x1
  go_wp2_with fail
  clear x0 x1 x2 x3 x4 x5 x6 x7 x8
  refine (wput_any HWS.out.wr HH4.out (by simp) (by simp [beN_len, Bt.head]; try omega)).mono ?_
  rintro e w7 ⟨v7, rfl, h⟩
  have HN := Lib.hid (HWS.out.trans h)
  clear h HWS
  have HWS := HN
  clear HN
  obtain ⟨x0, x1, x2, x3, x4, x5, x6, x7, x8⟩ := (HB.out.fr HWS.out.fr (by simp [blockOf]; omega)).bcells
  rw [HH0.out] at x0
  rw [HH1.out] at x1
  go_wp2_with fail
  clear x0 x1 x2 x3 x4 x5 x6 x7 x8
  refine (wlong_any HWS.out.wr t.toNat htl (by simp [beN_len, Bt.head]; try omega)).mono ?_
  rintro e w8 ⟨v8, rfl, h⟩
  have HN := Lib.hid (HWS.out.trans h)
  clear h HWS
  have HWS := HN
  clear HN
  have hsl1 : x.len ≤ c := by omega
  have HBD : Hid (Bytes w8 (.slice a x.len c) (x.body.take x.len)) := Lib.hid (by
    have h1 := Sl.frL G.out HWS.out.fr (fun k hk hm => by have := HGL.out k hk; simp [blockOf] at hm; omega)
    have h2 := Sl.pre h1 x.len c (by omega) (by omega) (Nat.le_refl _)
    unfold Bytes
    rwa [List.map_take])
  have hc2i : ((x.len : Nat) : Int) ≤ (c : Nat) := by omega
  obtain ⟨x0, x1, x2, x3, x4, x5, x6, x7, x8⟩ := (HB.out.fr HWS.out.fr (by simp [blockOf]; omega)).bcells
  rw [HH0.out] at x0
  rw [HH1.out] at x1
  go_wp2_with fail
  clear x0 x1 x2 x3 x4 x5 x6 x7 x8
  refine (wput_any HWS.out.wr HBD.out (by rw [List.length_take]; omega) (by simp [beN_len, Bt.head]; try omega)).mono ?_
  rintro e w9 ⟨v9, rfl, h⟩
  have HN := Lib.hid (HWS.out.trans h)
  clear h HWS
  have HWS := HN
  clear HN
  have HOUT : Hid ([] ++ [ib ((128 ||| (b0 &&& 63) : Nat) : Int)] ++ [ib ((b1 : Nat) : Int)] ++ beN s.toNat 2 ++ [x.h2, x.h3, x.h4, x.h5] ++ beN t.toNat 4 ++ x.body.take x.len = x.out s t) := Lib.hid (by
    rw [HIF.out, HI1.out]; unfold Bt.out; simp)
  rw [HOUT.out] at HWS
  have HOL : Hid ((x.out s t).length ≤ 1500) := Lib.hid (by unfold Bt.out; simp [beN_len]; omega)
  go_wp2_with fail
  refine (wdone_any HWS.out.wr (by have := HOL.out; omega)).mono ?_
  rintro e wa ⟨va, rfl, hO, hF⟩
  have HWS := Lib.hid (HWS.out.quiet hF); have HOA := Lib.hid hO.bytes
  clear hO hF
  go_wp2_with fail
  refine (Parse_any HOA.out).mono ?_
  rintro e wb (⟨vp, p, hp, rfl, hVp, hF⟩ | ⟨k, hp, rfl, hF⟩)
  rotate_left
  · have HP := Lib.hid hp
    have hk : (k != 0) = true := by simpa using parseR_err hp
    have HWS := Lib.hid (HWS.out.quiet hF)
    clear hp hF
    unfold pz
    go_upto_region 13 with (refine wpList_store_row rfl 88 (.tmp 10) (.tmp 50) rfl wb.heap.size rfl _ _ rfl 88 (Box.new wb 88 #[.bool false, .int .i64 0, .int .u16 0, .int .u32 0, .int .u32 0, .slice none 0 0, .bool false, .int .u16 0, .slice none 0 0, .slice none 0 0, .slice none 0 0]) (by kernel_rfl) rfl (oneCell_pz) ?_; intro wc hY hG; have hFn := ((Fr.refl [] wb).alloc _).step hG (by simp); have HFn := Lib.hid hFn; have HY := Lib.hid hY; clear hG hFn hY)
    have HWS := Lib.hid (HWS.out.quiet HFn.out)
    clear HFn HY
    go_wp2_with fail
    go_ret2
    exact .inr ⟨by rw [HPK.out, HP.out], rfl, HWS.out.outer HW3.out HF.out (by omega)⟩
  · have HP := Lib.hid hp
    obtain ⟨q1, k1, q2, k2, q3, k3, q4, k4, rfl, -, -, -, -⟩ := hVp.open_
    have HWS := Lib.hid (HWS.out.quiet hF)
    clear hp hF hVp
    go_upto_region 14 with (refine wpList_store_row rfl 88 (.tmp 10) (.tmp 50) rfl wb.heap.size rfl _ _ rfl 88 (Box.new wb 88 #[.bool false, .int .i64 0, .int .u16 0, .int .u32 0, .int .u32 0, .slice none 0 0, .bool false, .int .u16 0, .slice none 0 0, .slice none 0 0, .slice none 0 0]) (by kernel_rfl) rfl (oneCell_pc _ _ _ _ _ _ _ _ _ _ _ ⟨_, _, _, rfl⟩ ⟨_, _, _, rfl⟩ ⟨_, _, _, rfl⟩ ⟨_, _, _, rfl⟩) ?_; intro wc hY hG; have hFn := ((Fr.refl [] wb).alloc _).step hG (by simp); have HFn := Lib.hid hFn; have HY := Lib.hid hY; clear hG hFn hY)
    have HWS := Lib.hid (HWS.out.quiet HFn.out)
    have hszc := (HWS.out.outer HW3.out HF.out (by omega)).size
    clear HFn HY
    go_wp2_with fail
    refine (wdone_any HWS.out.wr (by have := HOL.out; omega)).mono ?_
    rintro e wd ⟨vd, rfl, hO, hF⟩
    have HWS := Lib.hid (HWS.out.quiet hF); have HOD := Lib.hid (hO.mono hszc)
    clear hO hF
    go_wp2_with fail
    go_ret2
    exact .inl ⟨_, _, by rw [HPK.out, HP.out], rfl, HOD.out, HWS.out.outer HW3.out HF.out (by omega)⟩
end Go.Proofs.Ytchbgiindfoepaa
