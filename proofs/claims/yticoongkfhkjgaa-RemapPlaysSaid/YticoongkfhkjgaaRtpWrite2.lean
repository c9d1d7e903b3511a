/- The walk of rtp.Write. -/
import Derived.Test.YticoongkfhkjgaaRtpWrite
namespace Go.Proofs.Yticoongkfhkjgaa
open Go.RowKit

def Pkt.second (p : Pkt) : Int := p.pt + if p.marker then 128 else 0
def Pkt.head (p : Pkt) : List UInt8 := [ib p.first] ++ [ib p.second] ++ beN p.seq.toNat 2 ++ beN p.ts.toNat 4 ++ beN p.ssrc.toNat 4
def words4 (l : List UInt32) : List UInt8 := l.flatMap fun n => beN n.toNat 4
def Pkt.extBytes (p : Pkt) : List UInt8 := if p.hasExt then beN p.profile.toNat 2 ++ beN (p.ext.length / 4 % 65536) 2 ++ p.ext else []
/-- A packet as bytes. -/
def Pkt.bytes (p : Pkt) : List UInt8 := p.head ++ words4 p.csrc ++ p.extBytes ++ p.payload ++ p.pad

theorem words4_len (l : List UInt32) : (words4 l).length = 4 * l.length := by
  induction l with
  | nil => rfl
  | cons a l ih => simp only [words4, List.flatMap_cons, List.length_append, beN_len, List.length_cons] at *; omega
theorem pt_or (n : Int) (h0 : 0 ≤ n) (h1 : n < 128) : bits .or .i64 n 128 = n + 128 := by
  obtain ⟨m, rfl⟩ : ∃ m : Nat, n = m := ⟨n.toNat, by omega⟩
  rw [show (128 : Int) = ((128 : Nat) : Int) from rfl, i64_or_nat _ _ (by omega) (by omega), Nat.or_comm]
  have := Nat.two_pow_add_eq_or_of_lt (i := 7) (b := m) (by omega) 1
  rw [show (128 : Nat) = 2 ^ 7 * 1 from rfl, ← this]
  omega

set_option maxRecDepth 100000 in
set_option maxHeartbeats 2000000 in
theorem Write_ok {w : World} {base : Nat} {v : Value} {p : Pkt} (hV : PktV w base v p) (hS : p.Small) (hwr : p.wrong = 0) :
    Calls Try.prog 38 #[v] w fun e w' => ∃ v', e = .returned (.tuple #[v', .int .i64 0]) ∧ OwnB w' w.heap.size v' p.bytes ∧ Fr [] w w' := by
  have HV := Lib.hid hV; have HS0 := Lib.hid hS
  obtain ⟨a1, c1, a2, c2, a3, c3, a4, c4, rfl, hcs, hex, hpl, hpd⟩ := hV.open_
  have HCS := Lib.hid hcs; have HEX := Lib.hid hex; have HPL := Lib.hid hpl; have HPD := Lib.hid hpd
  have hfit : (0 ≤ p.pt ∧ p.pt < 128) ∧ p.csrc.length ≤ 15 ∧ p.size ≤ 1500 := by
    unfold Pkt.wrong at hwr
    split at hwr
    · simp at hwr
    rename_i h
    split at hwr
    · simp at hwr
    split at hwr
    · simp at hwr
    refine ⟨⟨?_, ?_⟩, by omega, by omega⟩
    · exact Int.not_lt.1 fun h' => h (.inl h')
    · exact Int.not_le.1 fun h' => h (.inr (.inl h'))
  obtain ⟨⟨hpt0, hpt1⟩, hc15, hsz⟩ := hfit
  have hl2 : p.ext.length ≤ 1099511627776 := hS.2.1
  have hl3 : p.payload.length ≤ 1500 := by unfold Pkt.size at hsz; omega
  have hl4 : p.pad.length ≤ 1500 := by unfold Pkt.size at hsz; omega
  have HSZ := Lib.hid hsz
  obtain ⟨w2, e2, hF2, hB2, hs2⟩ := one_new w (pc p.marker p.pt p.seq.toNat p.ts.toNat p.ssrc.toNat (.slice a1 p.csrc.length c1) p.hasExt p.profile.toNat (.slice a2 p.ext.length c2) (.slice a3 p.payload.length c3) (.slice a4 p.pad.length c4)) 67
  have HF2 := Lib.hid hF2; have HB2 := Lib.hid hB2; have E2 := Lib.hid e2
  have HWR := Lib.hid hwr
  clear hV hcs hex hpl hpd hS hsz hF2 hB2 e2 hs2 hwr
  go_enter Try.func38, Try.ntmps38
  go_upto_region 1 with (fail)
  rw [E2.out]
  obtain ⟨x0, x1, x2, x3, x4, x5, x6, x7, x8, x9, x10⟩ := HB2.out.pcells
  go_wp2_with fail
  refine (wrong_any (HV.out.keep HF2.out) HS0.out).mono ?_
  rintro e w3 ⟨rfl, hF3⟩
  rw [HWR.out]
  have HB3 := Lib.hid (HB2.out.keep hF3); have HF3 := Lib.hid (HF2.out.trans hF3)
  clear hF3 x0 x1 x2 x3 x4 x5 x6 x7 x8 x9 x10 HB2 HF2 E2 HWR
  have hb3 := HB3.out.lt
  obtain ⟨w4, e4, hF4, hB4, hs4⟩ := one_new w3 #[.slice none 0 0] 112
  have HW4 : Hid (Wr w4 w3.heap.size (.slice none 0 0) (w3.heap.size + 1) []) := Lib.hid ⟨hB4, World.ownsRow_nil _ _ _ _, by omega, by omega⟩
  have HB4 := Lib.hid (HB3.out.keep hF4); have HF4 := Lib.hid (HF3.out.trans hF4); have E4 := Lib.hid e4
  have hWlt : w.heap.size < w3.heap.size := hb3
  generalize hWW : w3.heap.size = W at HW4 hWlt E4 ⊢
  clear hF4 hB4 hs4 e4 HB3 HF3 hb3
  go_upto_region 5 with (fail)
  rw [E4.out]
  clear E4 hWW
  have HF := Lib.hid (show ∀ (u : World) (vv : Value) (l : List UInt8), WS w4 u W (.slice none 0 0) vv (W + 1) l → Fr [W] w4 u from fun u vv l h => by simpa [blockOf] using h.fr)
  have HBB := Lib.hid (show ∀ (vv : Value), (∀ b, liveOf vv = some b → b < w.heap.size) → ∀ b, liveOf vv = some b → b ∉ [W] from fun vv h b hb hm => by have := h b hb; simp at hm; omega)
  obtain ⟨x0, x1, x2, x3, x4, x5, x6, x7, x8, x9, x10⟩ := HB4.out.pcells
  go_wp2_with fail
  refine (first_any (HV.out.keep HF4.out) (by omega) (by omega)).mono ?_
  rintro e w5 ⟨rfl, hF5⟩
  have HB5 := Lib.hid (HB4.out.keep hF5)
  have HWS := Lib.hid ((WS.start HW4.out).quiet hF5)
  clear hF5 HB5 x0 x1 x2 x3 x4 x5 x6 x7 x8 x9 x10
  go_wp2_with fail
  refine (wbyte_any HWS.out.wr p.first (by simp [beN_len, words4_len]; try omega)).mono ?_
  rintro e w6 ⟨v6, rfl, h⟩
  have HN := Lib.hid (HWS.out.trans h)
  clear h HWS
  have HWS := HN
  clear HN
  obtain ⟨x0, x1, x2, x3, x4, x5, x6, x7, x8, x9, x10⟩ := (HB4.out.fr (HF.out _ _ _ HWS.out) (by simp; omega)).pcells
  have hor := pt_or p.pt hpt0 hpt1
  cases hm : p.marker
  all_goals
    have hsec : p.second = p.pt + if p.marker then 128 else 0 := rfl
    rw [hm] at hsec x0
    simp only [Bool.false_eq_true, if_false, if_true, Int.add_zero] at hsec
    have HSEC := Lib.hid hsec; have HM := Lib.hid hm
    clear hsec hm
    go_wp2_with fail
    rw [← HSEC.out]
    clear x0 x1 x2 x3 x4 x5 x6 x7 x8 x9 x10 hor
    refine (wbyte_any HWS.out.wr p.second (by simp [beN_len, words4_len]; try omega)).mono ?_
    rintro e w7 ⟨v7, rfl, h⟩
    have HN := Lib.hid (HWS.out.trans h)
    clear h HWS
    have HWS := HN
    clear HN
    obtain ⟨x0, x1, x2, x3, x4, x5, x6, x7, x8, x9, x10⟩ := (HB4.out.fr (HF.out _ _ _ HWS.out) (by simp; omega)).pcells
    go_wp2_with fail
    clear x0 x1 x2 x3 x4 x5 x6 x7 x8 x9 x10
    refine (wword_any HWS.out.wr p.seq.toNat p.seq.toNat_lt (by simp [beN_len, words4_len]; try omega)).mono ?_
    rintro e w8 ⟨v8, rfl, h⟩
    have HN := Lib.hid (HWS.out.trans h)
    clear h HWS
    have HWS := HN
    clear HN
    obtain ⟨x0, x1, x2, x3, x4, x5, x6, x7, x8, x9, x10⟩ := (HB4.out.fr (HF.out _ _ _ HWS.out) (by simp; omega)).pcells
    go_wp2_with fail
    clear x0 x1 x2 x3 x4 x5 x6 x7 x8 x9 x10
    refine (wlong_any HWS.out.wr p.ts.toNat p.ts.toNat_lt (by simp [beN_len, words4_len]; try omega)).mono ?_
    rintro e w9 ⟨v9, rfl, h⟩
    have HN := Lib.hid (HWS.out.trans h)
    clear h HWS
    have HWS := HN
    clear HN
    obtain ⟨x0, x1, x2, x3, x4, x5, x6, x7, x8, x9, x10⟩ := (HB4.out.fr (HF.out _ _ _ HWS.out) (by simp; omega)).pcells
    go_wp2_with fail
    clear x0 x1 x2 x3 x4 x5 x6 x7 x8 x9 x10
    refine (wlong_any HWS.out.wr p.ssrc.toNat p.ssrc.toNat_lt (by simp [beN_len, words4_len]; try omega)).mono ?_
    rintro e w10 ⟨v10, rfl, h⟩
    have HN := Lib.hid (HWS.out.trans h)
    clear h HWS
    have HWS := HN
    clear HN
    rw [show [] ++ [ib (p.first : Int)] ++ [ib p.second] ++ beN p.seq.toNat 2 ++ beN p.ts.toNat 4 ++ beN p.ssrc.toNat 4 = p.head from rfl] at HWS
    obtain ⟨x0, x1, x2, x3, x4, x5, x6, x7, x8, x9, x10⟩ := (HB4.out.fr (HF.out _ _ _ HWS.out) (by simp; omega)).pcells
    go_wp2_with fail
    clear x0 x1 x2 x3 x4 x5 x6 x7 x8 x9 x10
    go_loopw [37] (fun i wr => ∃ (j : Nat) (vr : Value), j ≤ p.csrc.length ∧ i = .int .i64 j ∧ WS w4 wr W (.slice none 0 0) vr (W + 1) (p.head ++ words4 (p.csrc.take j))) (fun i _ => p.csrc.length - (intOf i).toNat)
    case atStart => exact ⟨0, _, Nat.zero_le _, rfl, by simpa [words4] using HWS.out⟩
    case round =>
      obtain ⟨j, vr, hj, rfl, hws⟩ := hrel
      have HWR := Lib.hid hws
      clear hws HWS
      by_cases hlt : j < p.csrc.length
      · obtain ⟨b, o, ea, hb, hcell⟩ := HCS.out.at_ hlt
        subst ea
        have hcj := hcell j (W32 (p.csrc[j])) (by rw [List.getElem?_map, List.getElem?_eq_getElem hlt]; rfl)
        have hcw := (HF.out _ _ _ HWR.out).cellSome (HF4.out.cellSome hcj (by simp)) (HBB.out _ HCS.out.lt b (by have := HCS.out.len; simp [liveOf]; omega))
        have HTK := Lib.hid (show words4 (p.csrc.take (j + 1)) = words4 (p.csrc.take j) ++ beN (p.csrc[j]).toNat 4 by unfold words4; rw [List.take_succ_eq_append_getElem hlt, List.flatMap_append]; simp)
        have HLT := Lib.hid (p.csrc[j]).toNat_lt
        unfold W32 at hcw
        generalize (p.csrc[j]).toNat = q at hcw HTK HLT
        clear hcell hcj hb
        go_wp2_with fail
        refine (wlong_any HWR.out.wr q HLT.out (by simp [beN_len, words4_len, Pkt.head]; omega)).mono ?_
        rintro e w20 ⟨v20, rfl, h⟩
        have HN := Lib.hid (HWR.out.trans h)
        clear h HWR hcw
        go_wp2_with fail
        go_roundw
        case rel => exact ⟨j + 1, _, by omega, by go_num, by rw [HTK.out, ← List.append_assoc]; exact HN.out⟩
        case measure => simp [intOf]; omega
      · have hje : p.csrc.take j = p.csrc := List.take_of_length_le (by omega)
        rw [hje] at HWR
        clear hje
        have HWS := HWR
        clear HWR
        obtain ⟨x0, x1, x2, x3, x4, x5, x6, x7, x8, x9, x10⟩ := (HB4.out.fr (HF.out _ _ _ HWS.out) (by simp; omega)).pcells
        have hlh : p.head.length = 12 := by simp [Pkt.head, beN_len]
        cases hx : p.hasExt
        all_goals
          have hext : p.extBytes = if p.hasExt then beN p.profile.toNat 2 ++ beN (p.ext.length / 4 % 65536) 2 ++ p.ext else [] := rfl
          rw [hx] at hext x6
          simp only [Bool.false_eq_true, if_false, if_true] at hext
          have hsx : p.hasExt = true → p.ext.length ≤ 1500 := fun h => by have := HSZ.out; unfold Pkt.size at this; rw [h] at this; simp at this; omega
          have HXB := Lib.hid hext; have HX := Lib.hid hx; have HSX := Lib.hid hsx
          clear hext hx hsx
          have HLH := Lib.hid hlh
          clear hlh
        · go_wp2_with fail
          clear x0 x1 x2 x3 x4 x5 x6 x7 x8 x9 x10
          have HWS2 := Lib.hid (show WS w4 _ W (.slice none 0 0) _ (W + 1) (p.head ++ words4 p.csrc ++ p.extBytes) by rw [HXB.out, List.append_nil]; exact HWS.out)
          clear HWS
          have HWS := HWS2
          clear HWS2
          have hlx : p.extBytes.length ≤ 1600 := by rw [HXB.out]; simp
          refine (wput_any HWS.out.wr (Sl.frL (HPL.out.keep HF4.out) (HF.out _ _ _ HWS.out) (HBB.out _ HPL.out.lt)) (by omega) (by rw [List.length_append, List.length_append, words4_len, HLH.out]; omega)).mono ?_
          rintro e w11 ⟨v11, rfl, h⟩
          have HN := Lib.hid (HWS.out.trans h)
          clear h HWS
          have HWS := HN
          clear HN
          obtain ⟨x0, x1, x2, x3, x4, x5, x6, x7, x8, x9, x10⟩ := (HB4.out.fr (HF.out _ _ _ HWS.out) (by simp; omega)).pcells
          go_wp2_with fail
          clear x0 x1 x2 x3 x4 x5 x6 x7 x8 x9 x10
          refine (wput_any HWS.out.wr (Sl.frL (HPD.out.keep HF4.out) (HF.out _ _ _ HWS.out) (HBB.out _ HPD.out.lt)) (by omega) (by rw [List.length_append, List.length_append, List.length_append, words4_len, HLH.out]; omega)).mono ?_
          rintro e w12 ⟨v12, rfl, h⟩
          have HN := Lib.hid (HWS.out.trans h)
          clear h HWS
          have HWS := HN
          clear HN
          go_wp2_with fail
          refine (wdone_any HWS.out.wr (by rw [List.length_append, List.length_append, List.length_append, List.length_append, words4_len, HLH.out]; omega)).mono ?_
          rintro e w30 ⟨v30, rfl, hO, hFF⟩
          have HO := Lib.hid hO; have HFF := Lib.hid ((WS.outer HWS.out HW4.out HF4.out (by omega)).trans hFF)
          have hbase : w.heap.size ≤ w12.heap.size := (WS.outer HWS.out HW4.out HF4.out (by omega)).size
          clear hO hFF
          go_wp2_with fail
          go_ret2
          exact ⟨_, rfl, HO.out.mono hbase, HFF.out⟩
        · have hle := HSX.out HX.out
          have hq : IntKind.u16.wrap (((p.ext.length : Nat) : Int) / 4) = ((p.ext.length / 4 % 65536 : Nat) : Int) := by rw [IntKind.wrap_u16]; omega
          go_wp2_with fail
          clear x0 x1 x2 x3 x4 x5 x6 x7 x8 x9 x10
          refine (wword_any HWS.out.wr p.profile.toNat p.profile.toNat_lt (by rw [List.length_append, words4_len, HLH.out]; omega)).mono ?_
          rintro e w11 ⟨v11, rfl, h⟩
          have HN := Lib.hid (HWS.out.trans h)
          clear h HWS
          have HWS := HN
          clear HN
          obtain ⟨x0, x1, x2, x3, x4, x5, x6, x7, x8, x9, x10⟩ := (HB4.out.fr (HF.out _ _ _ HWS.out) (by simp; omega)).pcells
          go_wp2_with fail
          clear x0 x1 x2 x3 x4 x5 x6 x7 x8 x9 x10
          rw [show ((p.ext.length : Nat) : Int) / 4 % 65536 = ((p.ext.length / 4 % 65536 : Nat) : Int) from by omega]
          refine (wword_any HWS.out.wr (p.ext.length / 4 % 65536) (by omega) (by rw [List.length_append, List.length_append, words4_len, HLH.out, beN_len]; omega)).mono ?_
          rintro e w12 ⟨v12, rfl, h⟩
          have HN := Lib.hid (HWS.out.trans h)
          clear h HWS
          have HWS := HN
          clear HN
          obtain ⟨x0, x1, x2, x3, x4, x5, x6, x7, x8, x9, x10⟩ := (HB4.out.fr (HF.out _ _ _ HWS.out) (by simp; omega)).pcells
          go_wp2_with fail
          clear x0 x1 x2 x3 x4 x5 x6 x7 x8 x9 x10
          refine (wput_any HWS.out.wr (Sl.frL (HEX.out.keep HF4.out) (HF.out _ _ _ HWS.out) (HBB.out _ HEX.out.lt)) (by omega) (by rw [List.length_append, List.length_append, List.length_append, words4_len, HLH.out, beN_len, beN_len]; omega)).mono ?_
          rintro e w13 ⟨v13, rfl, h⟩
          have HN := Lib.hid (HWS.out.trans h)
          clear h HWS
          have HWS := HN
          clear HN
          have HWS2 := Lib.hid (show WS w4 _ W (.slice none 0 0) _ (W + 1) (p.head ++ words4 p.csrc ++ p.extBytes) by rw [HXB.out, List.append_assoc, List.append_assoc]; simpa only [List.append_assoc] using HWS.out)
          clear HWS
          have HWS := HWS2
          clear HWS2
          have hlx : p.extBytes.length ≤ 1600 := by rw [HXB.out]; simp [beN_len]; omega
          obtain ⟨x0, x1, x2, x3, x4, x5, x6, x7, x8, x9, x10⟩ := (HB4.out.fr (HF.out _ _ _ HWS.out) (by simp; omega)).pcells
          go_wp2_with fail
          clear x0 x1 x2 x3 x4 x5 x6 x7 x8 x9 x10
          refine (wput_any HWS.out.wr (Sl.frL (HPL.out.keep HF4.out) (HF.out _ _ _ HWS.out) (HBB.out _ HPL.out.lt)) (by omega) (by rw [List.length_append, List.length_append, words4_len, HLH.out]; omega)).mono ?_
          rintro e w14 ⟨v14, rfl, h⟩
          have HN := Lib.hid (HWS.out.trans h)
          clear h HWS
          have HWS := HN
          clear HN
          obtain ⟨x0, x1, x2, x3, x4, x5, x6, x7, x8, x9, x10⟩ := (HB4.out.fr (HF.out _ _ _ HWS.out) (by simp; omega)).pcells
          go_wp2_with fail
          clear x0 x1 x2 x3 x4 x5 x6 x7 x8 x9 x10
          refine (wput_any HWS.out.wr (Sl.frL (HPD.out.keep HF4.out) (HF.out _ _ _ HWS.out) (HBB.out _ HPD.out.lt)) (by omega) (by rw [List.length_append, List.length_append, List.length_append, words4_len, HLH.out]; omega)).mono ?_
          rintro e w15 ⟨v15, rfl, h⟩
          have HN := Lib.hid (HWS.out.trans h)
          clear h HWS
          have HWS := HN
          clear HN
          go_wp2_with fail
          refine (wdone_any HWS.out.wr (by rw [List.length_append, List.length_append, List.length_append, List.length_append, words4_len, HLH.out]; omega)).mono ?_
          rintro e w30 ⟨v30, rfl, hO, hFF⟩
          have HO := Lib.hid hO; have HFF := Lib.hid ((WS.outer HWS.out HW4.out HF4.out (by omega)).trans hFF)
          have hbase : w.heap.size ≤ w15.heap.size := (WS.outer HWS.out HW4.out HF4.out (by omega)).size
          clear hO hFF
          go_wp2_with fail
          go_ret2
          exact ⟨_, rfl, HO.out.mono hbase, HFF.out⟩
end Go.Proofs.Yticoongkfhkjgaa
