/- The walks of confluxref01.Same, confluxref05.Few, rtp.IsRTCP and rtp.Write's error. -/
import Derived.Test.YtchbgiindfoepaaRtpSame
namespace Go.Proofs.Ytchbgiindfoepaa
open Go.RowKit

set_option maxHeartbeats 400000 in
theorem RSame_any {w : World} {v1 v2 : Value} {l1 l2 : List UInt8} (h1 : Bytes w v1 l1) (h2 : Bytes w v2 l2) (hl1 : l1.length ≤ 1099511627776) (hl2 : l2.length ≤ 1099511627776) :
    Calls Try.prog 25 #[v1, v2] w fun e w' => e = .returned (.bool (l1 == l2)) ∧ Fr [] w w' := by
  obtain ⟨a1, c1, rfl⟩ := h1.shape
  obtain ⟨a2, c2, rfl⟩ := h2.shape
  simp only [List.length_map] at h1 h2 ⊢
  have H1 := Lib.hid h1; have H2 := Lib.hid h2
  clear h1 h2
  by_cases hn : l1.length = l2.length
  · have HN := Lib.hid hn
    have t0 : (((l1.length : Nat) : Int) != ((l2.length : Nat) : Int)) = false := by rw [hn]; simp
    clear hn
    go_enter Try.func25, Try.ntmps25
    go_wp2_with fail
    clear t0
    go_loopw [5] (fun i wr => ∃ j : Nat, j ≤ l1.length ∧ i = .int .i64 j ∧ l1.take j = l2.take j ∧ Fr [] w wr) (fun i _ => l1.length - (intOf i).toNat)
    case atStart => exact ⟨0, Nat.zero_le _, rfl, rfl, Fr.refl _ _⟩
    case round =>
      obtain ⟨j, hj, rfl, htk, hF⟩ := hrel
      have HT := Lib.hid htk; have HF := Lib.hid hF
      clear htk hF
      by_cases hlt : j < l1.length
      · have hlt2 : j < l2.length := by have := HN.out; omega
        obtain ⟨b1, o1, ea, hb1, hc1⟩ := H1.out.at_ hlt
        obtain ⟨b2, o2, eb, hb2, hc2⟩ := H2.out.at_ hlt2
        subst ea eb
        have d1 := HF.out.cellSome (hc1 j (B8 l1[j]) (by rw [List.getElem?_map, List.getElem?_eq_getElem hlt]; rfl)) (by simp)
        have d2 := HF.out.cellSome (hc2 j (B8 l2[j]) (by rw [List.getElem?_map, List.getElem?_eq_getElem hlt2]; rfl)) (by simp)
        unfold B8 at d1 d2
        clear hc1 hc2 hb1 hb2
        by_cases he : l1[j] = l2[j]
        · have t1 : (((l1[j].toNat : Nat) : Int) != ((l2[j].toNat : Nat) : Int)) = false := by rw [he]; simp
          have HE := Lib.hid he
          clear he
          generalize hq1 : l1[j].toNat = q1 at *
          generalize hq2 : l2[j].toNat = q2 at *
          clear hq1 hq2
          go_wp2_with fail
          go_quiet (fail)
          go_wp2_with fail
          go_roundw
          case rel => exact ⟨j + 1, by omega, by go_num, by rw [List.take_succ_eq_append_getElem hlt, List.take_succ_eq_append_getElem hlt2, HT.out, HE.out], HF.out.drewN _⟩
          case measure => simp [intOf]; omega
        · have t1 : (((l1[j].toNat : Nat) : Int) != ((l2[j].toNat : Nat) : Int)) = true := by
            simp only [bne_iff_ne, ne_eq, Int.natCast_inj]
            exact fun h => he (UInt8.toNat_inj.1 h)
          have HE := Lib.hid he
          clear he
          generalize hq1 : l1[j].toNat = q1 at *
          generalize hq2 : l2[j].toNat = q2 at *
          clear hq1 hq2
          go_wp2_with fail
          go_quiet (fail)
          go_wp2_with fail
          go_ret
          refine ⟨ret_bool ?_, HF.out.drewN _⟩
          symm
          simp only [beq_eq_false_iff_ne, ne_eq]
          intro h
          subst h
          exact HE.out rfl
      · go_wp2_with fail
        go_ret
        refine ⟨ret_bool ?_, HF.out⟩
        symm
        have := HT.out
        rw [List.take_of_length_le (by omega), List.take_of_length_le (by have := HN.out; omega)] at this
        rw [this]
        simp
  · have t0 : (((l1.length : Nat) : Int) != ((l2.length : Nat) : Int)) = true := by simp; omega
    have HN := Lib.hid hn
    clear hn
    go_enter Try.func25, Try.ntmps25
    go_wp2_with fail
    go_ret
    refine ⟨ret_bool ?_, Fr.refl _ _⟩
    symm
    simp only [beq_eq_false_iff_ne, ne_eq]
    intro h
    subst h
    exact HN.out rfl

def few4 (a b c d : Nat) : Bool := decide (a ≤ 30) && decide (b ≤ 2000) && decide (c ≤ 2000) && decide (d ≤ 400)
theorem few4_true {a b c d : Nat} (h : a ≤ 30 ∧ b ≤ 2000 ∧ c ≤ 2000 ∧ d ≤ 400) : few4 a b c d = true := by
  obtain ⟨h1, h2, h3, h4⟩ := h; unfold few4; rw [decide_eq_true h1, decide_eq_true h2, decide_eq_true h3, decide_eq_true h4]; rfl
theorem few4_false {a b c d : Nat} (h : ¬ (a ≤ 30 ∧ b ≤ 2000 ∧ c ≤ 2000 ∧ d ≤ 400)) : few4 a b c d = false := by
  cases hc : few4 a b c d with
  | false => rfl
  | true => unfold few4 at hc; simp only [Bool.and_eq_true, decide_eq_true_eq] at hc; exact absurd ⟨hc.1.1.1, hc.1.1.2, hc.1.2, hc.2⟩ h
def Pkt.few (p : Pkt) : Bool := few4 p.csrc.length p.ext.length p.payload.length p.pad.length
theorem Pkt.few_lens {p : Pkt} (h : p.few = true) : p.csrc.length ≤ 30 ∧ p.ext.length ≤ 2000 ∧ p.payload.length ≤ 2000 ∧ p.pad.length ≤ 400 := by
  unfold Pkt.few few4 at h; simp at h; omega
theorem Pkt.few_small {p : Pkt} (h : p.few = true) : p.Small := by have := Pkt.few_lens h; unfold Pkt.Small; omega

theorem cell_of {w : World} {b o cap : Nat} {l : List UInt8} (hs : Bytes w (.slice (some ⟨b, o, none⟩) l.length cap) l) (j : Nat) (hj : j < l.length) : w.cell? ⟨b, o + j, none⟩ = some (.int .u8 (l[j].toNat : Nat)) := by
  obtain ⟨b1, o1, ea, hb1, hc1⟩ := hs.at_ hj
  simp only [Option.some.injEq, Addr.mk.injEq] at ea
  obtain ⟨rfl, rfl, -⟩ := ea
  exact hc1 j (B8 l[j]) (by rw [List.getElem?_map, List.getElem?_eq_getElem hj]; rfl)

def rtcpN (a b : Nat) : Bool := a / 64 == 2 && decide (192 ≤ b) && decide (b ≤ 223)
def rtcpB (l : List UInt8) : Bool := match l with | a :: b :: _ => rtcpN a.toNat b.toNat | _ => false
theorem shr6 (n : Nat) : (n : Int) / 2 ^ (6 : Int).toNat = ((n / 64 : Nat) : Int) := by
  rw [show (6 : Int).toNat = 6 from rfl]; norm_cast

end Go.Proofs.Ytchbgiindfoepaa
