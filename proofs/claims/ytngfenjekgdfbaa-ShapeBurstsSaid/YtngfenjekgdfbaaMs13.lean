import Derived.Test.YtngfenjekgdfbaaMs12
import Derived.Test.YtngfenjekgdfbaaMs1
/- The walk of confluxref18.Burst (printed by gen_sh5.py). -/
namespace Go.Proofs.Ytngfenjekgdfbaa
open Go.RowKit

set_option maxRecDepth 100000 in
set_option maxHeartbeats 4000000 in
theorem r18Burst_any {w : World} {v : Value} {s : List (List Int)} (h : IRows w v s) (k : Int) (hz : SzS [] s) :
    Calls Try.prog 20 #[v, .int .i64 k] w fun e w' => e = .returned (.int .i64 (burstI s k : Nat)) ∧ Fr [] w w' := by
  obtain ⟨a0, c0, rfl⟩ := SlOf.shape h
  have HS := Lib.hid h; have HZ := Lib.hid hz
  clear h hz
  by_cases h1 : k < 1
  · have HE : Hid (burstI s k = 0) := Lib.hid (by unfold burstI; rw [if_pos (.inl h1)])
    go_enter Try.func20, Try.ntmps20
    go_wp2_with fail
    go_ret
    exact ⟨by rw [HE.out]; rfl, Fr.refl _ _⟩
  by_cases h2 : 48 < k
  · have HE : Hid (burstI s k = 0) := Lib.hid (by unfold burstI; rw [if_pos (.inr h2)])
    go_enter Try.func20, Try.ntmps20
    go_wp2_with fail
    go_ret
    exact ⟨by rw [HE.out]; rfl, Fr.refl _ _⟩
  obtain ⟨K, rfl⟩ := Int.eq_ofNat_of_zero_le (by omega : 0 ≤ k)
  have HE : Hid (burstI s (K : Int) = burstS s K) := Lib.hid (by unfold burstI; rw [if_neg (by omega)]; rfl)
  have hK1 : 1 ≤ K := by omega
  have hK2 : K ≤ 48 := by omega
  go_enter Try.func20, Try.ntmps20
  go_wp2_with fail
  go_loopw [5, 6, 7, 8, 9] (fun rv av kv lv pv wr => ∃ r : Nat, 1 ≤ r ∧ r ≤ K + 1 ∧ rv = .int .i64 r ∧ (∀ q, 1 ≤ q → q < r → survivesS s K q = true) ∧ Fr [] w wr) (fun rv _ _ _ _ _ => K + 1 - (intOf rv).toNat)
  case atStart => exact ⟨1, by omega, by omega, rfl, fun q h1 h2 => by omega, Fr.refl _ _⟩
  case round =>
    obtain ⟨r, hr1, hr2, rfl, hS, hF⟩ := hrel
    have HSV := Lib.hid hS; have HF := Lib.hid hF
    clear hS hF
    by_cases hrk : r ≤ K
    · go_upto_region 7 with fail
      go_loopw [6, 7, 8, 9] (fun av kv lv pv wr => ∃ a : Nat, a ≤ K + 1 - r ∧ av = .int .i64 a ∧ (∀ b, b < a → peelableI (winI b r) (uptoI K) s = true) ∧ Fr [] w wr) (fun av _ _ _ _ => K + 1 - (intOf av).toNat)
      case atStart => exact ⟨0, by omega, rfl, fun b h1 => by omega, HF.out⟩
      case round =>
        clear HF
        obtain ⟨a, ha, rfl, hA, hF⟩ := hrel
        have HA := Lib.hid hA; have HF := Lib.hid hF
        clear hA hF
        by_cases hak : a + r ≤ K
        · have hai : (a : Int) + (r : Int) ≤ (K : Int) := by omega
          obtain ⟨w1, e1, hF1, hB1, hs1⟩ := one_new wr #[] 3
          have HK1 : Hid (OwnV w1 w.heap.size 3 (Value.int .i64) (.slice (some ⟨wr.heap.size, 0, none⟩) 0 0) []) := Lib.hid (by subst e1; exact OwnV.made wr w.heap.size _ _ HF.out.size)
          obtain ⟨w2, e2, hF2, hB2, hs2⟩ := one_new w1 #[] 3
          have HLS : Hid (OwnV w2 w.heap.size 3 (Value.int .i64) (.slice (some ⟨w1.heap.size, 0, none⟩) 0 0) []) := Lib.hid (by subst e2; exact OwnV.made w1 w.heap.size _ _ (by have := HF.out.size; omega))
          have HKS := Lib.hid (HK1.out.keep hF2)
          have HF2 := Lib.hid (HF.out.trans (hF1.trans hF2))
          have HD : Hid (∀ b, blockOf (.slice (some ⟨wr.heap.size, 0, none⟩) 0 0) = some b → blockOf (.slice (some ⟨w1.heap.size, 0, none⟩) 0 0) ≠ some b) := Lib.hid (fun b hb h => by simp [blockOf] at hb h; omega)
          rw [hs1] at HLS HD
          have E1 := Lib.hid e1; have E2 := Lib.hid e2
          clear hF1 hB1 hs1 hF2 hB2 hs2 e1 e2 HK1
          go_upto_region 10 with fail
          rw [E1.out]
          try rw [E2.out]
          clear E1 E2
          go_upto_region 11 with fail
          go_loopw [7, 8, 9] (fun kv lv pv wr => ∃ (p : Nat) (ks ls : List Int), p ≤ K ∧ pv = .int .i64 p ∧ ks = knownU a r p ∧ ls = lostU a r p ∧ OwnV wr w.heap.size 3 (Value.int .i64) kv ks ∧ OwnV wr w.heap.size 3 (Value.int .i64) lv ls ∧ (∀ b, blockOf kv = some b → blockOf lv ≠ some b) ∧ Fr [] w wr) (fun _ _ pv _ => K - (intOf pv).toNat)
          case atStart => exact ⟨0, [], [], by omega, rfl, rfl, rfl, HKS.out, HLS.out, HD.out, HF2.out⟩
          case round =>
            clear HKS HLS HD HF2 HF
            obtain ⟨p, ks, ls, hp, rfl, hks, hls, hKS, hLS, hD, hF⟩ := hrel
            obtain ⟨ak, ck, rfl⟩ := hKS.shape
            obtain ⟨al, cl, rfl⟩ := hLS.shape
            have HZL : Hid (ks.length ≤ 48 ∧ ls.length ≤ 48) := Lib.hid (by have h1 := knownU_len a r p; have h2 := lostU_len a r p; rw [← hks] at h1; rw [← hls] at h2; omega)
            have HKE := Lib.hid hks; have HLE := Lib.hid hls; have HKS := Lib.hid hKS; have HLS := Lib.hid hLS; have HD := Lib.hid hD; have HFQ := Lib.hid hF
            clear hks hls hKS hLS hD hF
            by_cases hpk : p < K
            · by_cases hi1 : a ≤ p
              · by_cases hi2 : p < a + r
                · have HIN : Hid (inWin a r (p : Int) = true) := Lib.hid (by unfold inWin; simp; omega)
                  have i1 : (a : Int) ≤ (p : Int) := by omega
                  have i2 : (p : Int) < (a : Int) + (r : Int) := by omega
                  go_upto_region 14 with fail
                  have HLO : Hid ((ls).length ≤ 1099511627776) := Lib.hid (by have := HZL.out; omega)
                  have A0 : Hid ((wr.alloc (.cells #[Value.int .i64 (p : Int)] 3)).ownsRow w.heap.size 3 1 (.slice al (ls).length cl) (ls).length ((ls).map (Value.int .i64))) := Lib.hid (Own.keep HLS.out ((Fr.refl [] wr).alloc _))
                  have A1 : Hid ((ls).length + [Value.int .i64 (p : Int)].length ≤ maxLen) := Lib.hid (by have := HLO.out; unfold maxLen; simp only [List.length_singleton]; omega)
                  have A2 : Hid (((ls).length + [Value.int .i64 (p : Int)].length) * 8 ≤ 140737488355328) := Lib.hid (by have := HLO.out; simp only [List.length_singleton]; omega)
                  have A3 : Hid (Sl (wr.alloc (.cells #[Value.int .i64 (p : Int)] 3)) (.slice (some ⟨wr.heap.size, 0, none⟩) 1 1) [Value.int .i64 (p : Int)]) := Lib.hid (Sl.one wr _ _)
                  have A4 : Hid (w.heap.size ≤ (wr.alloc (.cells #[Value.int .i64 (p : Int)] 3)).heap.size) := Lib.hid (by have := HFQ.out.size; simp; omega)
                  go_wp2_with (at_builtin; refine wpList_append_slf rfl (.tmp 45) (.tmp 47) 33 rfl w.heap.size 3 (.int .i64 0) 8 Try.underlying33 info_int rfl (.slice al (ls).length cl) (ls).length ((ls).map (Value.int .i64)) rfl A0.out (.slice (some ⟨wr.heap.size, 0, none⟩) 1 1) [Value.int .i64 (p : Int)] rfl A3.out (by simp [Value.oneCell']) A1.out A2.out A4.out ?_; intro v3 w3 ho hg hfr; have HO3 := Lib.hid ho; have HG := Lib.hid hg; have HBL := Lib.hid hfr; clear ho hg hfr)
                  have HN : Hid (OwnV w3 w.heap.size 3 (Value.int .i64) v3 (ls ++ [(p : Int)])) := Lib.hid (by
                    have := HO3.out
                    unfold OwnV
                    rw [List.map_append, List.length_append]
                    exact this)
                  have HF3 : Hid (Fr [] w w3) := Lib.hid ((HFQ.out.alloc _).step HG.out (fun x hx => .inr (HLS.out.block x (by simpa using hx)).1))
                  have HX3 : Hid (OwnV w3 w.heap.size 3 (Value.int .i64) (.slice ak ks.length ck) ks) := Lib.hid (Own.fr (Own.keep HKS.out ((Fr.refl [] wr).alloc _)) HG.out (fun b hb hm => HD.out b hb (mem_toList.1 hm)))
                  have HD3 : Hid (∀ b, blockOf v3 = some b → blockOf (.slice ak ks.length ck) ≠ some b) := Lib.hid (fun b hb h6 => by
                    rcases HBL.out b hb with h | h
                    · exact HD.out b h6 h
                    · have h1 := (HKS.out.block b h6).2
                      simp at h
                      omega)
                  go_wp2_with fail
                  exact ⟨⟨p + 1, ks, ls ++ [(p : Int)], by omega, by go_num, by rw [HKE.out, knownU_succ, if_pos HIN.out, List.append_nil], by rw [HLE.out, lostU_succ, if_pos HIN.out], HX3.out, HN.out, fun b hb h => HD3.out b h hb, HF3.out⟩, by simp [intOf]; omega⟩
                · have HIN : Hid (¬ inWin a r (p : Int) = true) := Lib.hid (by unfold inWin; simp; omega)
                  have i1 : (a : Int) ≤ (p : Int) := by omega
                  have i2 : ¬ (p : Int) < (a : Int) + (r : Int) := by omega
                  go_upto_region 15 with fail
                  have HLO : Hid ((ks).length ≤ 1099511627776) := Lib.hid (by have := HZL.out; omega)
                  have A0 : Hid ((wr.alloc (.cells #[Value.int .i64 (p : Int)] 3)).ownsRow w.heap.size 3 1 (.slice ak (ks).length ck) (ks).length ((ks).map (Value.int .i64))) := Lib.hid (Own.keep HKS.out ((Fr.refl [] wr).alloc _))
                  have A1 : Hid ((ks).length + [Value.int .i64 (p : Int)].length ≤ maxLen) := Lib.hid (by have := HLO.out; unfold maxLen; simp only [List.length_singleton]; omega)
                  have A2 : Hid (((ks).length + [Value.int .i64 (p : Int)].length) * 8 ≤ 140737488355328) := Lib.hid (by have := HLO.out; simp only [List.length_singleton]; omega)
                  have A3 : Hid (Sl (wr.alloc (.cells #[Value.int .i64 (p : Int)] 3)) (.slice (some ⟨wr.heap.size, 0, none⟩) 1 1) [Value.int .i64 (p : Int)]) := Lib.hid (Sl.one wr _ _)
                  have A4 : Hid (w.heap.size ≤ (wr.alloc (.cells #[Value.int .i64 (p : Int)] 3)).heap.size) := Lib.hid (by have := HFQ.out.size; simp; omega)
                  go_wp2_with (at_builtin; refine wpList_append_slf rfl (.tmp 49) (.tmp 51) 33 rfl w.heap.size 3 (.int .i64 0) 8 Try.underlying33 info_int rfl (.slice ak (ks).length ck) (ks).length ((ks).map (Value.int .i64)) rfl A0.out (.slice (some ⟨wr.heap.size, 0, none⟩) 1 1) [Value.int .i64 (p : Int)] rfl A3.out (by simp [Value.oneCell']) A1.out A2.out A4.out ?_; intro v3 w3 ho hg hfr; have HO3 := Lib.hid ho; have HG := Lib.hid hg; have HBL := Lib.hid hfr; clear ho hg hfr)
                  have HN : Hid (OwnV w3 w.heap.size 3 (Value.int .i64) v3 (ks ++ [(p : Int)])) := Lib.hid (by
                    have := HO3.out
                    unfold OwnV
                    rw [List.map_append, List.length_append]
                    exact this)
                  have HF3 : Hid (Fr [] w w3) := Lib.hid ((HFQ.out.alloc _).step HG.out (fun x hx => .inr (HKS.out.block x (by simpa using hx)).1))
                  have HX3 : Hid (OwnV w3 w.heap.size 3 (Value.int .i64) (.slice al ls.length cl) ls) := Lib.hid (Own.fr (Own.keep HLS.out ((Fr.refl [] wr).alloc _)) HG.out (fun b hb hm => HD.out b (mem_toList.1 hm) hb))
                  have HD3 : Hid (∀ b, blockOf v3 = some b → blockOf (.slice al ls.length cl) ≠ some b) := Lib.hid (fun b hb h6 => by
                    rcases HBL.out b hb with h | h
                    · exact HD.out b h h6
                    · have h1 := (HLS.out.block b h6).2
                      simp at h
                      omega)
                  go_wp2_with fail
                  exact ⟨⟨p + 1, ks ++ [(p : Int)], ls, by omega, by go_num, by rw [HKE.out, knownU_succ, if_neg HIN.out], by rw [HLE.out, lostU_succ, if_neg HIN.out, List.append_nil], HN.out, HX3.out, HD3.out, HF3.out⟩, by simp [intOf]; omega⟩
              · have HIN : Hid (¬ inWin a r (p : Int) = true) := Lib.hid (by unfold inWin; simp; omega)
                have i1 : ¬ (a : Int) ≤ (p : Int) := by omega
                go_upto_region 15 with fail
                have HLO : Hid ((ks).length ≤ 1099511627776) := Lib.hid (by have := HZL.out; omega)
                have A0 : Hid ((wr.alloc (.cells #[Value.int .i64 (p : Int)] 3)).ownsRow w.heap.size 3 1 (.slice ak (ks).length ck) (ks).length ((ks).map (Value.int .i64))) := Lib.hid (Own.keep HKS.out ((Fr.refl [] wr).alloc _))
                have A1 : Hid ((ks).length + [Value.int .i64 (p : Int)].length ≤ maxLen) := Lib.hid (by have := HLO.out; unfold maxLen; simp only [List.length_singleton]; omega)
                have A2 : Hid (((ks).length + [Value.int .i64 (p : Int)].length) * 8 ≤ 140737488355328) := Lib.hid (by have := HLO.out; simp only [List.length_singleton]; omega)
                have A3 : Hid (Sl (wr.alloc (.cells #[Value.int .i64 (p : Int)] 3)) (.slice (some ⟨wr.heap.size, 0, none⟩) 1 1) [Value.int .i64 (p : Int)]) := Lib.hid (Sl.one wr _ _)
                have A4 : Hid (w.heap.size ≤ (wr.alloc (.cells #[Value.int .i64 (p : Int)] 3)).heap.size) := Lib.hid (by have := HFQ.out.size; simp; omega)
                go_wp2_with (at_builtin; refine wpList_append_slf rfl (.tmp 49) (.tmp 51) 33 rfl w.heap.size 3 (.int .i64 0) 8 Try.underlying33 info_int rfl (.slice ak (ks).length ck) (ks).length ((ks).map (Value.int .i64)) rfl A0.out (.slice (some ⟨wr.heap.size, 0, none⟩) 1 1) [Value.int .i64 (p : Int)] rfl A3.out (by simp [Value.oneCell']) A1.out A2.out A4.out ?_; intro v3 w3 ho hg hfr; have HO3 := Lib.hid ho; have HG := Lib.hid hg; have HBL := Lib.hid hfr; clear ho hg hfr)
                have HN : Hid (OwnV w3 w.heap.size 3 (Value.int .i64) v3 (ks ++ [(p : Int)])) := Lib.hid (by
                  have := HO3.out
                  unfold OwnV
                  rw [List.map_append, List.length_append]
                  exact this)
                have HF3 : Hid (Fr [] w w3) := Lib.hid ((HFQ.out.alloc _).step HG.out (fun x hx => .inr (HKS.out.block x (by simpa using hx)).1))
                have HX3 : Hid (OwnV w3 w.heap.size 3 (Value.int .i64) (.slice al ls.length cl) ls) := Lib.hid (Own.fr (Own.keep HLS.out ((Fr.refl [] wr).alloc _)) HG.out (fun b hb hm => HD.out b (mem_toList.1 hm) hb))
                have HD3 : Hid (∀ b, blockOf v3 = some b → blockOf (.slice al ls.length cl) ≠ some b) := Lib.hid (fun b hb h6 => by
                  rcases HBL.out b hb with h | h
                  · exact HD.out b h h6
                  · have h1 := (HLS.out.block b h6).2
                    simp at h
                    omega)
                go_wp2_with fail
                exact ⟨⟨p + 1, ks ++ [(p : Int)], ls, by omega, by go_num, by rw [HKE.out, knownU_succ, if_neg HIN.out], by rw [HLE.out, lostU_succ, if_neg HIN.out, List.append_nil], HN.out, HX3.out, HD3.out, HF3.out⟩, by simp [intOf]; omega⟩
            · obtain rfl : p = K := by omega
              have HPE : Hid (peelableI ls ks s = peelableI (winI a r) (uptoI p) s) := Lib.hid (by rw [HKE.out, HLE.out]; exact win_peel hak s)
              have HZ2 : Hid (SzS ks s) := Lib.hid ⟨by have := HZL.out; omega, HZ.out.ls, HZ.out.lr⟩
              have HK3 : Hid (Ints wr _ ks) := Lib.hid HKS.out.sl
              have HL3 : Hid (Ints wr _ ls) := Lib.hid HLS.out.sl
              go_wp2_with fail
              refine (ePeelable_any HL3.out HK3.out (HS.out.keep HFQ.out) HZ2.out).mono ?_
              rintro e w3 ⟨rfl, hF3⟩
              rw [HPE.out]
              have HFQ := Lib.hid (HFQ.out.trans hF3)
              clear hF3
              cases hc : peelableI (winI a r) (uptoI p) s with
              | true =>
                have HC := Lib.hid hc
                clear hc
                go_wp2_with fail
                exact ⟨⟨a + 1, by omega, by go_num, fun b hb => by
                  by_cases e : b = a
                  · rw [e]; exact HC.out
                  · exact HA.out b (by omega), HFQ.out⟩, by simp [intOf]; omega⟩
              | false =>
                have HB : Hid (burstS s p = r - 1) := Lib.hid (burst_first hr1 hrk HSV.out (survives_no hak hc))
                clear hc
                go_wp2_with fail
                go_ret
                exact ⟨by rw [HE.out, HB.out]; go_num, HFQ.out⟩
        · have HV : Hid (survivesS s K r = true) := Lib.hid (survives_yes (a := a) (by omega) (fun b hb _ => HA.out b hb))
          have hi : ¬ (a : Int) + (r : Int) ≤ (K : Int) := by omega
          go_wp2_with fail
          exact ⟨⟨r + 1, by omega, by omega, by go_num, fun q h1 h2 => by
            by_cases e : q = r
            · rw [e]; exact HV.out
            · exact HSV.out q h1 (by omega), HF.out⟩, by simp [intOf]; omega⟩
    · have HB : Hid (burstS s K = K) := Lib.hid (burst_all (fun q h1 h2 => HSV.out q h1 (by omega)))
      go_wp2_with fail
      go_ret
      exact ⟨by rw [HE.out, HB.out]; rfl, HF.out⟩
end Go.Proofs.Ytngfenjekgdfbaa
