/- The walks of rtp.Same, Clone, Seq, SSRC, PT, IsRTCP and the library's functions beneath. -/
import Derived.Test.YticoongkfhkjgaaRtpWrite2
namespace Go.Proofs.Yticoongkfhkjgaa
open Go.RowKit

theorem conv_bytes {w : World} {v : Value} {l : List UInt8} (h : Bytes w v l) : (convert 22 9 v).run Try.prog w = .ok (.string ⟨l.toArray⟩) w := by
  obtain ⟨a, cap, rfl⟩ := h.shape
  simp only [List.length_map] at h ⊢
  cases a with
  | none =>
    obtain ⟨_, h2, _, h4⟩ := h.len
    have := h4 rfl
    have hl : l = [] := List.eq_nil_of_length_eq_zero (by omega)
    subst hl
    exact run_convert_bytes_nil w 22 5 Try.underlying22 Try.underlying5 _ _ 9 Try.underlying9
  | some p =>
    refine run_convert_bytes_back w 22 9 5 p cap l Try.underlying22 Try.underlying5 Try.underlying9 (fun j hj => ?_)
    obtain ⟨b, o, e, hb, hc⟩ := h.at_ hj
    simp only [Option.some.injEq] at e
    subst e
    have := hc j (B8 l[j]) (by rw [List.getElem?_map, List.getElem?_eq_getElem hj]; rfl)
    have hadd : (⟨b, o, none⟩ : Addr).add j = ⟨b, o + j, none⟩ := by unfold Addr.add; split <;> simp_all
    rw [hadd]
    exact this

set_option maxHeartbeats 400000 in
theorem bytesEqual_any {w : World} {v1 v2 : Value} {l1 l2 : List UInt8} (h1 : Bytes w v1 l1) (h2 : Bytes w v2 l2) :
    Calls Try.prog 84 #[v1, v2] w fun e w' => e = .returned (.bool (l1 == l2)) ∧ w = w' := by
  have e1 := conv_bytes h1
  have e2 := conv_bytes h2
  clear h1 h2
  go_enter Try.func84, Try.ntmps84
  go_wp2
  go_ret
  exact ⟨ret_bool (by simp [ByteArray.toList_mk]), rfl⟩
set_option maxHeartbeats 400000 in
theorem cloneW_any {w : World} {v : Value} {l : List UInt32} (h : Words w v l) (hl : l.length ≤ 1099511627776) :
    Calls Try.prog 85 #[v] w fun e w' => ∃ v', e = .returned v' ∧ OwnW w' w.heap.size v' l ∧ Fr [] w w' := by
  obtain ⟨a, cap, rfl⟩ := h.shape
  simp only [List.length_map] at h ⊢
  have hcap : a = none → l = [] := by
    intro ha
    obtain ⟨_, h2, _, h4⟩ := h.len
    have := h4 ha
    exact List.eq_nil_of_length_eq_zero (by omega)
  have HC := Lib.hid hcap
  have H := Lib.hid h
  clear h hcap
  have hn := fun (w : World) => Lib.run_eql_slice_nil (P := Try.prog) w 65 40 a l.length cap 0 0 Try.underlying65
  cases a with
  | none =>
    obtain rfl := HC.out rfl
    clear hl
    clear HC H
    simp only [Option.isNone_none, List.length_nil] at hn ⊢
    go_enter Try.func85, Try.ntmps85
    go_wp2_with fail
    go_ret
    exact ⟨_, rfl, World.ownsRow_nil _ _ _ _, Fr.refl _ _⟩
  | some p =>
    simp only [Option.isNone_some] at hn
    clear HC
    go_enter Try.func85, Try.ntmps85
    go_wp2_with (at_builtin; refine wpList_append_sl rfl _ _ _ rfl w.heap.size 40 _ _ Try.underlying65 info_u32 rfl _ 0 [] rfl (World.ownsRow_made w #[] 0 (Nat.le_refl _) (by unfold maxLen; omega) (by simp)) (.slice (some p) l.length cap) (l.map W32) rfl (Sl.keep H.out ((Fr.refl _ _).alloc _)) (oneCell_W32 l) (by unfold maxLen; simp; omega) (by simp; omega) (by simp) ?_)
    intro v' w' ho hg _
    have HO := Lib.hid ho
    have HG := Lib.hid hg
    clear ho hg
    go_wp2_with fail
    go_ret
    refine ⟨v', rfl, ?_, (((Fr.refl [] w).alloc _).grown HG.out (fun k hk => .inr (by simp [blockOf] at hk; omega)))⟩
    have := HO.out
    simpa [OwnW] using this

set_option maxHeartbeats 400000 in
theorem equalW_any {w : World} {v1 v2 : Value} {l1 l2 : List UInt32} (h1 : Words w v1 l1) (h2 : Words w v2 l2) (hl1 : l1.length ≤ 1099511627776) (hl2 : l2.length ≤ 1099511627776) :
    Calls Try.prog 83 #[v1, v2] w fun e w' => e = .returned (.bool (l1 == l2)) ∧ Fr [] w w' := by
  obtain ⟨a1, c1, rfl⟩ := h1.shape
  obtain ⟨a2, c2, rfl⟩ := h2.shape
  simp only [List.length_map] at h1 h2 ⊢
  have H1 := Lib.hid h1; have H2 := Lib.hid h2
  clear h1 h2
  by_cases hn : l1.length = l2.length
  · have HN := Lib.hid hn
    have t0 : (((l1.length : Nat) : Int) != ((l2.length : Nat) : Int)) = false := by rw [hn]; simp
    clear hn
    go_enter Try.func83, Try.ntmps83
    go_wp2_with fail
    clear t0
    go_loopw [13] (fun i wr => ∃ j : Nat, j ≤ l1.length ∧ i = .int .i64 j ∧ l1.take j = l2.take j ∧ Fr [] w wr) (fun i _ => l1.length - (intOf i).toNat)
    case atStart => exact ⟨0, Nat.zero_le _, rfl, rfl, Fr.refl _ _⟩
    case round =>
      obtain ⟨j, hj, rfl, htk, hF⟩ := hrel
      have HT := Lib.hid htk; have HF := Lib.hid hF
      clear htk hF
      by_cases hlt : j < l1.length
      · have hlt2 : j < l2.length := by have := HN.out; omega
        obtain ⟨b1, o1, ea, hb1, hc1⟩ := H1.out.at_ hlt
        obtain ⟨b2, o2, eb, hb2, hc2⟩ := H2.out.at_ hlt2
        subst ea eb
        have d1 := HF.out.cellSome (hc1 j (W32 l1[j]) (by rw [List.getElem?_map, List.getElem?_eq_getElem hlt]; rfl)) (by simp)
        have d2 := HF.out.cellSome (hc2 j (W32 l2[j]) (by rw [List.getElem?_map, List.getElem?_eq_getElem hlt2]; rfl)) (by simp)
        unfold W32 at d1 d2
        clear hc1 hc2 hb1 hb2
        by_cases he : l1[j] = l2[j]
        · have t1 : (((l1[j].toNat : Nat) : Int) != ((l2[j].toNat : Nat) : Int)) = false := by rw [he]; simp
          have HE := Lib.hid he
          clear he
          generalize hq1 : l1[j].toNat = q1 at *
          generalize hq2 : l2[j].toNat = q2 at *
          clear hq1 hq2
          go_wp2_with fail
          go_quiet (fail)
          go_wp2_with fail
          go_roundw
          case rel => exact ⟨j + 1, by omega, by go_num, by rw [List.take_succ_eq_append_getElem hlt, List.take_succ_eq_append_getElem hlt2, HT.out, HE.out], HF.out.drewN _⟩
          case measure => simp [intOf]; omega
        · have t1 : (((l1[j].toNat : Nat) : Int) != ((l2[j].toNat : Nat) : Int)) = true := by
            simp only [bne_iff_ne, ne_eq, Int.natCast_inj]
            exact fun h => he (UInt32.toNat_inj.1 h)
          have HE := Lib.hid he
          clear he
          generalize hq1 : l1[j].toNat = q1 at *
          generalize hq2 : l2[j].toNat = q2 at *
          clear hq1 hq2
          go_wp2_with fail
          go_quiet (fail)
          go_wp2_with fail
          go_ret
          refine ⟨ret_bool ?_, HF.out.drewN _⟩
          symm
          simp only [beq_eq_false_iff_ne, ne_eq]
          intro h
          subst h
          exact HE.out rfl
      · go_wp2_with fail
        go_ret
        refine ⟨ret_bool ?_, HF.out⟩
        symm
        have := HT.out
        rw [List.take_of_length_le (by omega), List.take_of_length_le (by have := HN.out; omega)] at this
        rw [this]
        simp
  · have t0 : (((l1.length : Nat) : Int) != ((l2.length : Nat) : Int)) = true := by simp; omega
    have HN := Lib.hid hn
    clear hn
    go_enter Try.func83, Try.ntmps83
    go_wp2_with fail
    go_ret
    refine ⟨ret_bool ?_, Fr.refl _ _⟩
    symm
    simp only [beq_eq_false_iff_ne, ne_eq]
    intro h
    subst h
    exact HN.out rfl
end Go.Proofs.Yticoongkfhkjgaa
