/- The walks of confluxref04.one, at, Xor, Gap. -/
import Derived.Test.YtchbgiindfoepaaImpPlain
import Derived.Test.YtchbgiindfoepaaRef2
import Derived.Test.YtchbgiindfoepaaBase3
namespace Go.Proofs.Ytchbgiindfoepaa
open Go.RowKit

/-! ### the exclusive or, bit by bit -/
def oneN (a b : Nat) : Nat → Nat
  | 0 => 0
  | k + 1 => if a / (128 / 2 ^ k) % 2 = b / (128 / 2 ^ k) % 2 then oneN a b k else (oneN a b k + 128 / 2 ^ k) % 256
theorem oneN_lt (a b k : Nat) : oneN a b k < 256 := by
  induction k with
  | zero => unfold oneN; omega
  | succ k ih => unfold oneN; split <;> omega
def dbit (a b p : Nat) : Nat := if a / p % 2 = b / p % 2 then 0 else 1
theorem oneN_step (a b k : Nat) : oneN a b (k + 1) = (oneN a b k + dbit a b (128 / 2 ^ k) * (128 / 2 ^ k)) % 256 := by
  have h := oneN_lt a b k
  show (if _ then _ else _) = _
  unfold dbit
  split
  · omega
  · simp
theorem xor_step (a b : Nat) : a ^^^ b = 2 * (a / 2 ^^^ b / 2) + dbit a b 1 := by
  have h1 := Nat.div_add_mod (a ^^^ b) 2
  have h2 : (a ^^^ b) % 2 = 1 ↔ ¬ (a % 2 = 1 ↔ b % 2 = 1) := by simp
  rw [Nat.xor_div_two] at h1
  unfold dbit
  rw [Nat.div_one, Nat.div_one]
  split <;> omega
theorem dbit_div (a b p q : Nat) : dbit (a / p) (b / p) q = dbit a b (p * q) := by
  unfold dbit
  rw [Nat.div_div_eq_div_mul, Nat.div_div_eq_div_mul]
theorem dbit_le (a b p : Nat) : dbit a b p ≤ 1 := by unfold dbit; split <;> omega
theorem oneN_xor (a : Nat) (ha : a < 256) (b : Nat) (hb : b < 256) : oneN a b 8 = a ^^^ b := by
  rw [oneN_step, oneN_step, oneN_step, oneN_step, oneN_step, oneN_step, oneN_step, oneN_step]
  rw [xor_step a b, xor_step (a / 2), xor_step (a / 2 / 2), xor_step (a / 2 / 2 / 2), xor_step (a / 2 / 2 / 2 / 2), xor_step (a / 2 / 2 / 2 / 2 / 2), xor_step (a / 2 / 2 / 2 / 2 / 2 / 2), xor_step (a / 2 / 2 / 2 / 2 / 2 / 2 / 2)]
  simp only [dbit_div, Nat.div_div_eq_div_mul, Nat.reduceMul, Nat.reducePow, Nat.reduceDiv]
  rw [show a / 256 = 0 by omega, show b / 256 = 0 by omega, Nat.xor_self]
  have h1 := dbit_le a b 1; have h2 := dbit_le a b 2; have h3 := dbit_le a b 4; have h4 := dbit_le a b 8; have h5 := dbit_le a b 16; have h6 := dbit_le a b 32; have h7 := dbit_le a b 64; have h8 := dbit_le a b 128
  generalize dbit a b 1 = d1 at *; generalize dbit a b 2 = d2 at *; generalize dbit a b 4 = d4 at *; generalize dbit a b 8 = d8 at *; generalize dbit a b 16 = d16 at *; generalize dbit a b 32 = d32 at *; generalize dbit a b 64 = d64 at *; generalize dbit a b 128 = d128 at *
  unfold oneN
  omega
theorem u8_xor_nat (a b : Nat) (ha : a < 256) (hb : b < 256) : bits .xor .u8 (a : Int) (b : Int) = ((a ^^^ b : Nat) : Int) := by
  have h : a ^^^ b < 256 := Nat.xor_lt_two_pow (n := 8) ha hb
  show IntKind.u8.wrap ((BitVec.ofInt 8 (a : Int) ^^^ BitVec.ofInt 8 (b : Int)).toNat : Int) = _
  rw [show BitVec.ofInt 8 (a : Int) = BitVec.ofNat 8 a by simp, show BitVec.ofInt 8 (b : Int) = BitVec.ofNat 8 b by simp, BitVec.toNat_xor, BitVec.toNat_ofNat, BitVec.toNat_ofNat]
  rw [Nat.mod_eq_of_lt (by omega), Nat.mod_eq_of_lt (by omega), IntKind.wrap_u8]
  omega

set_option maxRecDepth 100000 in
set_option maxHeartbeats 2000000 in
theorem r04one_any {w : World} (a b : Nat) (ha : a < 256) (hb : b < 256) :
    Calls Try.prog 108 #[.int .u8 a, .int .u8 b] w fun e w' => e = .returned (.int .u8 ((a ^^^ b : Nat) : Int)) ∧ Fr [] w w' := by
  go_enter Try.func108, Try.ntmps108
  go_upto_region 3 with (fail)
  go_loopw [5, 6] (fun ov pv wr => ∃ k : Nat, k ≤ 8 ∧ ov = .int .u8 (oneN a b k : Nat) ∧ pv = .int .i64 ((128 / 2 ^ k : Nat) : Int) ∧ Fr [] w wr) (fun _ pv _ => (intOf pv).toNat)
  case atStart => exact ⟨0, by omega, rfl, rfl, Fr.refl _ _⟩
  case round =>
    obtain ⟨k, hk, rfl, rfl, hF⟩ := hrel
    have HF := Lib.hid hF
    clear hF
    by_cases hlt : k < 8
    · obtain ⟨p, hp, hp0, hp1⟩ : ∃ p : Nat, 128 / 2 ^ k = p ∧ 0 < p ∧ p ≤ 128 := ⟨_, rfl, by
        rcases (by omega : k = 0 ∨ k = 1 ∨ k = 2 ∨ k = 3 ∨ k = 4 ∨ k = 5 ∨ k = 6 ∨ k = 7) with rfl | rfl | rfl | rfl | rfl | rfl | rfl | rfl <;> decide, Nat.div_le_self _ _⟩
      have hnx : 128 / 2 ^ (k + 1) = p / 2 := by rw [← hp, Nat.pow_succ, Nat.div_div_eq_div_mul]
      have h1 : oneN a b (k + 1) = if a / p % 2 = b / p % 2 then oneN a b k else (oneN a b k + p) % 256 := by rw [← hp]; rfl
      have hS := Lib.hid h1; have HX := Lib.hid hnx
      have hol := oneN_lt a b k
      rw [hp]
      clear h1 hnx hp
      generalize oneN a b k = x at *
      have wp : IntKind.u8.wrap (p : Int) = p := by rw [IntKind.wrap_u8]; omega
      have hda : a / p < 256 := Nat.lt_of_le_of_lt (Nat.div_le_self _ _) ha
      have hdb : b / p < 256 := Nat.lt_of_le_of_lt (Nat.div_le_self _ _) hb
      have hpi : ((p : Nat) : Int) ≠ 0 := by omega
      go_upto_region 6 with (fail)
      go_quiet (fail)
      go_wp2_with fail
      all_goals (go_roundw; case measure => simp [intOf]; omega)
      all_goals refine ⟨k + 1, by omega, ?_, by rw [HX.out]; go_num, HF.out.drewN _⟩
      all_goals rename_i hq; rw [← Int.natCast_ediv, ← Int.natCast_ediv] at hq; generalize a / p = q1 at *; generalize b / p = q2 at *
      · rw [hS.out, if_neg (by simp at hq; omega)]; go_num
      · rw [hS.out, if_pos (by simp at hq; omega)]
    · obtain rfl : k = 8 := by omega
      have hx := oneN_xor a ha b hb
      rw [hx]
      have z : ((128 / 2 ^ 8 : Nat) : Int) = 0 := rfl
      rw [z]
      go_wp2_with fail
      go_ret
      exact ⟨rfl, HF.out⟩

theorem getD_lt (l : List UInt8) (i : Nat) : (l.getD i 0).toNat < 256 := (l.getD i 0).toNat_lt
set_option maxHeartbeats 1000000 in
theorem r04at_any {w : World} {v : Value} {l : List UInt8} (h : Bytes w v l) (i : Nat) (hi : i ≤ 1099511627776) :
    Calls Try.prog 83 #[v, .int .i64 i] w fun e w' => e = .returned (.int .u8 ((l.getD i 0).toNat : Nat)) ∧ w' = w := by
  obtain ⟨av, cv, rfl⟩ := h.shape
  simp only [List.length_map] at h ⊢
  have H := Lib.hid h
  clear h
  by_cases hlt : i < l.length
  · obtain ⟨b, o, ea, hb, hc⟩ := H.out.at_ hlt
    subst ea
    have e2 := hc i (B8 l[i]) (by rw [List.getElem?_map, List.getElem?_eq_getElem hlt]; rfl)
    have hg : l.getD i 0 = l[i] := by rw [List.getD_eq_getElem?_getD, List.getElem?_eq_getElem hlt]; rfl
    rw [hg]
    unfold B8 at e2
    generalize l[i].toNat = c at *
    clear hc hb hg
    go_enter Try.func83, Try.ntmps83
    go_wp2_with fail
    go_ret
    exact ⟨rfl, rfl⟩
  · have hg : l.getD i 0 = 0 := by rw [List.getD_eq_getElem?_getD, List.getElem?_eq_none_iff.2 (by omega)]; rfl
    rw [hg]
    go_enter Try.func83, Try.ntmps83
    go_wp2_with fail
    go_ret
    exact ⟨rfl, rfl⟩

theorem xb_succ {a b : List UInt8} {j : Nat} (h : j < max a.length b.length) : (xb a b).take (j + 1) = (xb a b).take j ++ [a.getD j 0 ^^^ b.getD j 0] := by
  rw [List.take_succ_eq_append_getElem (by rw [xb_len]; exact h)]
  congr 2
  have := xb_get a b j
  rwa [List.getD_eq_getElem?_getD, List.getElem?_eq_getElem (by rw [xb_len]; exact h), Option.getD_some] at this
set_option maxHeartbeats 2000000 in
theorem r04Xor_any {w : World} {va vb : Value} {a b : List UInt8} (h1 : Bytes w va a) (h2 : Bytes w vb b) (hl1 : a.length ≤ 1099511627776) (hl2 : b.length ≤ 1099511627776) :
    Calls Try.prog 84 #[va, vb] w fun e w' => ∃ v', e = .returned v' ∧ OwnB w' w.heap.size v' (xb a b) ∧ Fr [] w w' := by
  obtain ⟨ax, cx, rfl⟩ := h1.shape
  obtain ⟨ay, cy, rfl⟩ := h2.shape
  simp only [List.length_map] at h1 h2 ⊢
  have HA := Lib.hid h1; have HB := Lib.hid h2
  obtain ⟨w1, e1, hF1, hB1, hs1⟩ := one_new w #[] 5
  have H1 : Hid (OwnB w1 w.heap.size (.slice (some ⟨w.heap.size, 0, none⟩) 0 0) []) := Lib.hid (by subst e1; exact World.ownsRow_made w #[] 0 (Nat.le_refl _) (by unfold maxLen; omega) (by simp))
  have E1 := Lib.hid e1; have HF1 := Lib.hid hF1
  clear e1 hF1 hB1 hs1 h1 h2
  go_enter Try.func84, Try.ntmps84
  go_upto_region 3 with (fail)
  try rw [E1.out]
  clear E1
  go_loopw [5, 6] (fun out jv wr => ∃ j : Nat, j ≤ max a.length b.length ∧ jv = .int .i64 j ∧ OwnB wr w.heap.size out ((xb a b).take j) ∧ Fr [] w wr) (fun _ jv _ => max a.length b.length - (intOf jv).toNat)
  case atStart => exact ⟨0, Nat.zero_le _, rfl, H1.out, HF1.out⟩
  case round =>
    obtain ⟨j, hj, rfl, hO2, hF2⟩ := hrel
    obtain ⟨ao, no, co, rfl⟩ := hO2.isSlice
    have HO2 := Lib.hid hO2; have HF2 := Lib.hid hF2
    clear hO2 hF2
    by_cases hjl : j < max a.length b.length
    · have HC := Lib.hid (xb_succ hjl)
      have hlo : ((xb a b).take j).length ≤ 1099511627776 := by rw [List.length_take, xb_len]; omega
      have HLO := Lib.hid hlo
      have hor : (j : Int) < (a.length : Nat) ∨ (¬ (j : Int) < (a.length : Nat) ∧ (j : Int) < (b.length : Nat)) := by omega
      have hj40 : j ≤ 1099511627776 := by omega
      have HJL : Hid (j < max a.length b.length) := Lib.hid hjl
      have hxor := Lib.hid (UInt8.toNat_xor (a.getD j 0) (b.getD j 0))
      have hca := getD_lt a j; have hcb := getD_lt b j
      clear hlo hjl hj
      rcases hor with hor | ⟨hor, hor2⟩
      all_goals
        go_wp2_with fail
        refine (r04at_any (HA.out.keep HF2.out) j hj40).mono ?_
        rintro e w3 ⟨rfl, rfl⟩
        go_wp2_with fail
        refine (r04at_any (HB.out.keep HF2.out) j hj40).mono ?_
        rintro e w3 ⟨rfl, rfl⟩
        go_wp2_with fail
        refine (r04one_any _ _ hca hcb).mono ?_
        rintro e wq ⟨rfl, hFq⟩
        rw [← hxor.out]
        have HO3 := Lib.hid (HO2.out.keep hFq); have HF3 := Lib.hid (HF2.out.trans hFq)
        clear hFq
        have HBJ : Hid (B8 (a.getD j 0 ^^^ b.getD j 0) = .int .u8 (((a.getD j 0 ^^^ b.getD j 0).toNat : Nat) : Int)) := Lib.hid rfl
        have hc : (a.getD j 0 ^^^ b.getD j 0).toNat < 256 := (a.getD j 0 ^^^ b.getD j 0).toNat_lt
        generalize (a.getD j 0 ^^^ b.getD j 0).toNat = c at *
        have A0 : Hid ((wq.alloc (.cells #[.int .u8 (c : Int)] 5)).ownsRow w.heap.size 5 1 (.slice ao no co) ((xb a b).take j).length (((xb a b).take j).map B8)) := Lib.hid (Own.keep HO3.out ((Fr.refl [] wq).alloc _))
        have A1 : Hid (((xb a b).take j).length + [Value.int .u8 (c : Int)].length ≤ maxLen) := Lib.hid (by have := HLO.out; unfold maxLen; simp only [List.length_singleton]; omega)
        have A2 : Hid ((((xb a b).take j).length + [Value.int .u8 (c : Int)].length) * 1 ≤ 140737488355328) := Lib.hid (by have := HLO.out; simp only [List.length_singleton]; omega)
        have A3 : Hid (Sl (wq.alloc (.cells #[.int .u8 (c : Int)] 5)) (.slice (some ⟨wq.heap.size, 0, none⟩) 1 1) [.int .u8 (c : Int)]) := Lib.hid (Sl.one wq _ _)
        have A4 : Hid (w.heap.size ≤ (wq.alloc (.cells #[.int .u8 (c : Int)] 5)).heap.size) := Lib.hid (by have := HF3.out.size; simp; omega)
        go_wp2_with (at_builtin; refine wpList_append_slf rfl (.tmp 20) (.tmp 28) 25 rfl w.heap.size 5 (.int .u8 0) 1 Try.underlying25 info_u8 rfl (.slice ao no co) ((xb a b).take j).length (((xb a b).take j).map B8) rfl A0.out (.slice (some ⟨wq.heap.size, 0, none⟩) 1 1) [.int .u8 (c : Int)] rfl A3.out (oneCell_int .u8 (c : Int)) A1.out A2.out A4.out ?_; intro v' w4 ho hg hfr; have HO4 := Lib.hid ho; have HG := Lib.hid hg; clear ho hg hfr)
        have hN : OwnB w4 w.heap.size v' ((xb a b).take (j + 1)) := by
          have := HO4.out
          unfold OwnB
          rw [HC.out, List.map_append, List.length_append, List.map_cons, List.map_nil, HBJ.out]
          exact this
        have hF3 : Fr [] w w4 := (HF3.out.alloc _).step HG.out (fun x hx => .inr (HO3.out.block x (by simpa using hx)).1)
        have HN := Lib.hid hN; have HF3 := Lib.hid hF3
        clear hN hF3
        go_roundw
        case rel => exact ⟨j + 1, HJL.out, by go_num, HN.out, HF3.out⟩
        case measure => have := HJL.out; simp [intOf]; omega
    · obtain rfl : j = max a.length b.length := by omega
      have n1 : ¬ ((max a.length b.length : Nat) : Int) < (a.length : Nat) := by omega
      have n2 : ¬ ((max a.length b.length : Nat) : Int) < (b.length : Nat) := by omega
      generalize hm : max a.length b.length = m at *
      have HM := Lib.hid hm
      clear hm hj hjl
      go_wp2_with fail
      go_ret
      refine ⟨_, rfl, ?_, HF2.out⟩
      have := HO2.out
      rwa [List.take_of_length_le (by rw [xb_len, HM.out]; exact Nat.le_refl _)] at this

set_option maxHeartbeats 2000000 in
theorem r04Gap_any {w : World} {va vb : Value} {a b : List UInt8} (h1 : Bytes w va a) (h2 : Bytes w vb b) (hl1 : a.length ≤ 1099511627776) (hl2 : b.length ≤ 1099511627776) :
    Calls Try.prog 56 #[va, vb] w fun e w' => ∃ n : Int, e = .returned (.int .i64 n) ∧ decide (n < 0) = gap0 a b ∧ Fr [] w w' := by
  obtain ⟨ax, cx, rfl⟩ := h1.shape
  obtain ⟨ay, cy, rfl⟩ := h2.shape
  simp only [List.length_map] at h1 h2 ⊢
  have HA := Lib.hid h1; have HB := Lib.hid h2
  clear h1 h2
  go_enter Try.func56, Try.ntmps56
  go_upto_region 2 with (fail)
  go_loopw [5] (fun jv wr => ∃ j : Nat, j ≤ max a.length b.length ∧ jv = .int .i64 j ∧ (∀ i < j, a.getD i 0 = b.getD i 0) ∧ Fr [] w wr) (fun jv _ => max a.length b.length - (intOf jv).toNat)
  case atStart => exact ⟨0, Nat.zero_le _, rfl, fun i hi => by omega, Fr.refl _ _⟩
  case round =>
    obtain ⟨j, hj, rfl, heq, hF2⟩ := hrel
    have HF2 := Lib.hid hF2; have HEQ := Lib.hid heq
    clear hF2 heq
    by_cases hjl : j < max a.length b.length
    · have hor : (j : Int) < (a.length : Nat) ∨ (¬ (j : Int) < (a.length : Nat) ∧ (j : Int) < (b.length : Nat)) := by omega
      have hj40 : j ≤ 1099511627776 := by omega
      have HJL : Hid (j < max a.length b.length) := Lib.hid hjl
      have hca := getD_lt a j; have hcb := getD_lt b j
      have HI : Hid ((a.getD j 0).toNat = (b.getD j 0).toNat ↔ a.getD j 0 = b.getD j 0) := Lib.hid UInt8.toNat_inj
      have hne : Hid (gap0 a b = true → a.getD j 0 = b.getD j 0) := Lib.hid fun h => (gap0_iff a b).1 h j
      have KA := r04at_any (HA.out.keep HF2.out) j hj40
      have KB := r04at_any (HB.out.keep HF2.out) j hj40
      generalize (a.getD j 0).toNat = ca at *
      generalize (b.getD j 0).toNat = cb at *
      have HKA := Lib.hid KA; have HKB := Lib.hid KB
      clear hjl hj KA KB
      rcases hor with hor | ⟨hor, hor2⟩
      all_goals
        go_wp2_with fail
        refine HKA.out.mono ?_
        rintro e w3 ⟨rfl, rfl⟩
        go_wp2_with fail
        refine HKB.out.mono ?_
        rintro e w3 ⟨rfl, rfl⟩
        by_cases hd : ca = cb
        · have he := HI.out.1 hd
          have HE := Lib.hid he
          subst hd
          clear he
          go_wp2_with fail
          go_roundw
          case rel => exact ⟨j + 1, HJL.out, by go_num, fun i hi => (by rcases Nat.lt_succ_iff_lt_or_eq.1 hi with h | rfl; exact HEQ.out i h; exact HE.out), HF2.out⟩
          case measure => have := HJL.out; simp [intOf]; omega
        · have HD : Hid (a.getD j 0 ≠ b.getD j 0) := Lib.hid fun h => hd (HI.out.2 h)
          have hb : (((ca : Nat) : Int) != ((cb : Nat) : Int)) = true := by simp; omega
          go_wp2_with fail
          go_ret
          refine ⟨j, rfl, ?_, HF2.out⟩
          have : ¬ ((j : Int) < 0) := by omega
          cases hg : gap0 a b with
          | true => exact absurd (hne.out hg) HD.out
          | false => simp
    · obtain rfl : j = max a.length b.length := by omega
      have n1 : ¬ ((max a.length b.length : Nat) : Int) < (a.length : Nat) := by omega
      have n2 : ¬ ((max a.length b.length : Nat) : Int) < (b.length : Nat) := by omega
      have hg : gap0 a b = true := (gap0_iff a b).2 fun i => by
        by_cases h : i < max a.length b.length
        · exact HEQ.out i h
        · rw [List.getD_eq_getElem?_getD, List.getD_eq_getElem?_getD, List.getElem?_eq_none_iff.2 (by omega), List.getElem?_eq_none_iff.2 (by omega)]
      have HG := Lib.hid hg
      clear hg
      generalize hm : max a.length b.length = m at *
      clear hm hj hjl
      go_wp2_with fail
      go_ret
      exact ⟨-1, rfl, by rw [HG.out]; rfl, HF2.out⟩
end Go.Proofs.Ytchbgiindfoepaa
