/- The walk of confluxlaw18.ShapeCovers (printed by gen_sh24.py). -/
import Derived.Test.YtngfenjekgdfbaaMu21
namespace Go.Proofs.Ytngfenjekgdfbaa
open Go.RowKit

theorem and_mask (c : Int) (m : Nat) (hm : m < 1000) : ∃ n : Nat, bits .and .i64 c (m : Int) = (n : Int) ∧ n ≤ m := by
  have h0 : (BitVec.ofInt 64 (m : Int)).toNat = m := by
    rw [BitVec.toNat_ofInt]
    omega
  have h : (BitVec.ofInt 64 c &&& BitVec.ofInt 64 (m : Int)).toNat ≤ m := by
    rw [BitVec.toNat_and, h0]
    exact Nat.and_le_right
  refine ⟨_, ?_, h⟩
  show IntKind.i64.wrap ((BitVec.ofInt 64 c &&& BitVec.ofInt 64 (m : Int)).toNat : Int) = _
  exact IntWalk.i64_in _ (by omega)
/-- A kind as the law takes it. -/
def kindS (kind : Int) : Int := if kind < 0 then 0 else if 2 < kind then 2 else kind
theorem kindS_is (kind : Int) : kindS kind = 0 ∨ kindS kind = 1 ∨ kindS kind = 2 := by unfold kindS; split <;> (try split) <;> omega
theorem full_of {kind : Int} (hk : kind = 0 ∨ kind = 1 ∨ kind = 2) (s : UInt64) {K N : Nat} {n : Int} (hK1 : 1 ≤ K) (hK2 : K ≤ 48) (hn : min n (K : Int) = (N : Int)) (hn1 : 1 ≤ n) : FullS K N (ofS kind s (K : Int) n) ∧ (kind = 1 → ofS kind s (K : Int) n = spreadS K N) := by
  have hN1 : 1 ≤ N := by omega
  have hN2 : N ≤ K := by omega
  rw [ofS_yes rfl hn hK1 hK2 hn1]
  rcases hk with rfl | rfl | rfl
  · exact ⟨run_full hN1 hN2, fun h => by omega⟩
  · exact ⟨spread_full hN1 hN2, fun _ => rfl⟩
  · exact ⟨random_full s hK1 hN1, fun h => by omega⟩
theorem full_covers {s : List (List Int)} {K N : Nat} (h : FullS K N s) : coversS s (K : Int) = true := by
  unfold coversS
  rw [List.all_eq_true]
  intro p hp
  have := List.mem_range.1 hp
  obtain ⟨e, he, hm⟩ := h.has p (by omega)
  exact hasS_mem he (List.contains_iff_mem.2 hm)
theorem sumLen_le {m : Nat} : ∀ {s : List (List Int)}, (∀ r ∈ s, r.length ≤ m) → sumLen s ≤ s.length * m
  | [], _ => by simp [sumLen]
  | r :: s, h => by
    have h1 := sumLen_le (s := s) (fun q hq => h q (by simp [hq]))
    have h2 := h r (by simp)
    have e : sumLen (r :: s) = r.length + sumLen s := by simp [sumLen]
    rw [e, List.length_cons, Nat.succ_mul]
    omega
theorem full_burst {s : List (List Int)} {K N : Nat} (h : FullS K N s) (hK : 1 ≤ K) : 1 ≤ burstS s K ∧ burstS s K ≤ N :=
  ⟨burst_one hK h.has (fun e he y hy => (h.good.rows e he).bnd y hy), by have := burst_few (s := s) (k := K); rwa [h.good.len] at this⟩
theorem held18_any {w : World} (n : Int) : Calls Try.prog 21 #[.int .i64 n, .int .i64 0, .int .i64 2] w fun e w' => e = .returned (.int .i64 (kindS n)) ∧ Fr [] w w' := by
  by_cases h1 : n < 0
  · have HE : Hid (kindS n = 0) := Lib.hid (by unfold kindS; rw [if_pos h1])
    go_enter Try.func21, Try.ntmps21
    go_wp2_with fail
    go_ret
    exact ⟨by rw [HE.out]; rfl, Fr.refl _ _⟩
  · by_cases h2 : 2 < n
    · have HE : Hid (kindS n = 2) := Lib.hid (by unfold kindS; rw [if_neg h1, if_pos h2])
      go_enter Try.func21, Try.ntmps21
      go_wp2_with fail
      go_ret
      exact ⟨by rw [HE.out]; rfl, Fr.refl _ _⟩
    · have HE : Hid (kindS n = n) := Lib.hid (by unfold kindS; rw [if_neg h1, if_neg h2])
      go_enter Try.func21, Try.ntmps21
      go_wp2_with fail
      go_ret
      exact ⟨by rw [HE.out]; rfl, Fr.refl _ _⟩
set_option maxRecDepth 100000 in
set_option maxHeartbeats 8000000 in
theorem ShapeCovers_any {w : World} (kind : Int) (s : UInt64) (k n : Int) :
    Calls Try.prog 5 #[.int .i64 kind, .int .u64 (s.toNat : Nat), .int .i64 k, .int .i64 n] w fun e w' => e = .returned (.bool true) ∧ Fr [] w w' := by
  obtain ⟨ck, hck0, hkl⟩ := and_mask k 31 (by omega)
  obtain ⟨cn, hcn0, hnl⟩ := and_mask n 31 (by omega)
  have hck : bits .and .i64 k 31 = (ck : Int) := hck0
  have hcn : bits .and .i64 n 31 = (cn : Int) := hcn0
  clear hck0 hcn0
  obtain ⟨K, hK⟩ : ∃ K, K = 1 + ck % 24 := ⟨_, rfl⟩
  have hKK : (1 : Int) + (ck : Int) % 24 = (K : Int) := by omega
  have hK1 : 1 ≤ K := by omega
  have hK2 : K ≤ 24 := by omega
  obtain ⟨M, hM⟩ : ∃ M, M = 1 + cn := ⟨_, rfl⟩
  have hMM : (1 : Int) + (cn : Int) = (M : Int) := by omega
  have hM1 : 1 ≤ M := by omega
  obtain ⟨N, hN⟩ : ∃ N, N = min M K := ⟨_, rfl⟩
  have hNN : min (M : Int) (K : Int) = (N : Int) := by omega
  have hN1 : 1 ≤ N := by omega
  have hN2 : N ≤ K := by omega
  clear hK hM hN
  go_enter Try.func5, Try.ntmps5
  go_wp2_with fail
  refine (l18alive_any (w := w)).mono ?_
  rintro e w1 ⟨rfl, hF⟩
  have HF := Lib.hid hF
  clear hF
  go_wp2_with fail
  refine (held18_any (w := w1) kind).mono ?_
  rintro e w2 ⟨rfl, hF⟩
  have HF := Lib.hid (HF.out.trans hF)
  have HKI := Lib.hid (kindS_is kind)
  generalize kindS kind = kd at *
  clear hF hck hcn
  go_wp2_with fail
  refine (shOf_any (w := w2) kd s (K : Int) (M : Int)).mono ?_
  rintro e w3 ⟨v3, rfl, hR, hF⟩
  have HFULL := Lib.hid (full_of HKI.out s (K := K) (N := N) (n := (M : Int)) hK1 (by omega) hNN (by omega))
  obtain ⟨sh, hsh⟩ : ∃ sh, ofS kd s (K : Int) (M : Int) = sh := ⟨_, rfl⟩
  rw [hsh] at hR HFULL
  obtain ⟨a3, c3, rfl⟩ := hR.shape
  have HLN : Hid (sh.length = N) := Lib.hid HFULL.out.1.good.len
  have HIR0 := hR.irows
  rw [HLN.out] at HIR0 ⊢
  have HIR := Lib.hid HIR0
  have HF := Lib.hid (HF.out.trans hF)
  have HIN : Hid (∀ r ∈ sh, ∀ x ∈ r, In64 x) := Lib.hid (fun r hr x hx => by have := (HFULL.out.1.good.rows r hr).bnd x hx; exact ⟨by omega, by omega⟩)
  have HRL : Hid (∀ r ∈ sh, r.length ≤ K) := Lib.hid (fun r hr => (HFULL.out.1.good.rows r hr).len)
  have HSZ : Hid (SzS [] sh) := Lib.hid ⟨by simp, by rw [HLN.out]; omega, fun r hr => by have := HRL.out r hr; omega⟩
  have HSL : Hid (sumLen sh ≤ 1073741824) := Lib.hid (by
    have h1 := sumLen_le (m := 24) (fun r hr => by have := HRL.out r hr; omega : ∀ r ∈ sh, r.length ≤ 24)
    rw [HLN.out] at h1
    omega)
  have HCV := Lib.hid (full_covers HFULL.out.1)
  have HBU := Lib.hid (full_burst HFULL.out.1 hK1)
  have HBS : Hid (kd = 1 → burstS sh K = N) := Lib.hid (fun h => by rw [HFULL.out.2 h]; exact spread_burst hN1 hN2)
  clear hR hF HIR0 hsh
  go_wp2_with fail
  refine (shCovers_any HIR.out (K : Int) HSL.out).mono ?_
  rintro e w4 ⟨rfl, hF⟩
  rw [HCV.out]
  have HF := Lib.hid (HF.out.trans hF); have HIR := Lib.hid (HIR.out.keep hF)
  clear hF
  go_upto_region 10 with fail
  go_loopw [47] (fun iv wr => ∃ i : Nat, i ≤ N ∧ iv = .int .i64 i ∧ IRows wr (.slice a3 N c3) sh ∧ Fr [] w wr) (fun iv _ => N - (intOf iv).toNat)
  case atStart => exact ⟨0, Nat.zero_le _, rfl, HIR.out, HF.out⟩
  case round =>
    clear HIR HF
    obtain ⟨i, hi, rfl, hI, hF⟩ := hrel
    have HIR := Lib.hid hI; have HF := Lib.hid hF
    clear hI hF
    by_cases hlt : i < N
    · have k1 : i < sh.length := by rw [HLN.out]; exact hlt
      obtain ⟨b, o, al, cl, ea, hb, hcell, hR⟩ := IRows.at_ HIR.out i k1
      subst ea
      have d := hcell
      have HRI := Lib.hid hR
      have HG := Lib.hid (HFULL.out.1.good.rows _ (List.getElem_mem k1))
      have HNE := Lib.hid (HFULL.out.1.some _ (List.getElem_mem k1))
      clear hcell hR
      generalize sh[i] = r at *
      have hrl : r.length ≤ 24 := by have := HG.out.len; omega
      have HRP : Hid (0 < r.length) := Lib.hid (List.length_pos_iff.2 HNE.out)
      obtain ⟨m, hm⟩ : ∃ m, r.length = m := ⟨_, rfl⟩
      have HRM := Lib.hid hm
      rw [hm] at hrl d HRI HRP
      clear hm
      go_upto_region 14 with fail
      generalize wr = wo at *
      go_loopw [12, 53] (fun lv jv wr => ∃ (j : Nat) (l : Int), j ≤ m ∧ jv = .int .i64 j ∧ lv = .int .i64 l ∧ ((j = 0 ∧ l = -1) ∨ (0 < j ∧ r[j - 1]? = some l)) ∧ wo = wr) (fun _ jv _ => m - (intOf jv).toNat)
      case atStart => exact ⟨0, -1, Nat.zero_le _, rfl, rfl, .inl ⟨rfl, rfl⟩, rfl⟩
      case round =>
        obtain ⟨j, l, hj, rfl, rfl, hl, rfl⟩ := hrel
        have HL := Lib.hid hl
        clear hl
        by_cases hjm : j < m
        · have k2 : j < r.length := by rw [HRM.out]; exact hjm
          obtain ⟨b2, o2, ea, hb2, -⟩ := Sl.at_ HRI.out (k := j) hjm
          subst ea
          have d2 := Ints.at_ HRI.out j k2
          have HB := Lib.hid (HG.out.bnd _ (List.getElem_mem k2))
          have HP : Hid (l < r[j]) := Lib.hid (by
            rcases HL.out with ⟨-, rfl⟩ | ⟨h0, h1⟩
            · have := HB.out.1; omega
            · obtain ⟨k3, rfl⟩ := List.getElem?_eq_some_iff.1 h1
              exact (List.pairwise_iff_getElem.1 HG.out.rise) (j - 1) j k3 k2 (by omega))
          have HJ : Hid (r[j + 1 - 1]? = some r[j]) := Lib.hid (List.getElem?_eq_getElem k2)
          generalize r[j] = p at *
          have hp1 : ¬ p ≤ l := by have := HP.out; omega
          have hp2 : ¬ (K : Int) ≤ p := by have := HB.out.2; omega
          go_wp2_with fail
          exact ⟨⟨j + 1, p, by omega, by go_num, rfl, .inr ⟨by omega, HJ.out⟩, trivial⟩, by simp [intOf]; omega⟩
        · obtain rfl : j = m := by omega
          have HL0 : Hid (0 ≤ l) := Lib.hid (by
            rcases HL.out with ⟨h0, -⟩ | ⟨h0, h1⟩
            · have := HRP.out; omega
            · exact (HG.out.bnd l (List.mem_of_getElem? h1)).1)
          have hl0 : ¬ l < 0 := by have := HL0.out; omega
          go_wp2_with fail
          exact ⟨⟨i + 1, by omega, by go_num, HIR.out, HF.out⟩, by simp [intOf]; omega⟩
    · obtain rfl : i = N := by omega
      have HBE : Hid (burstI sh (K : Int) = burstS sh K) := Lib.hid (by unfold burstI; rw [if_neg (by omega)]; rfl)
      go_wp2_with fail
      refine (shBurst_any HIR.out HIN.out HSZ.out (K : Int)).mono ?_
      rintro e w5 ⟨rfl, hF⟩
      have HF := Lib.hid (HF.out.trans hF)
      rw [HBE.out]
      generalize burstS sh K = bt at *
      clear hF
      have hb1 : (1 : Int) ≤ (bt : Int) := by have := HBU.out.1; omega
      have hb2 : (bt : Int) ≤ (i : Int) := by have := HBU.out.2; omega
      by_cases h1 : kd = 1
      · have hbn : bt = i := HBS.out h1
        clear HBS HBU
        subst h1 hbn
        go_wp2_with fail
        go_ret
        exact ⟨rfl, HF.out⟩
      · have h1b : (kd == 1) = false := beq_eq_false_iff_ne.2 h1
        go_wp2_with fail
        go_ret
        exact ⟨rfl, HF.out⟩
end Go.Proofs.Ytngfenjekgdfbaa
