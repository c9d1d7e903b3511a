/- The walk of confluxlaw21.WindowRows (printed by gen_winrows.py). -/
import Derived.Test.YtbmpiemhfndnbaaMw31
import Derived.Test.YtbmpiemhfndnbaaMw19
namespace Go.Proofs.Ytbmpiemhfndnbaa
open Go.RowKit Go.Maps Go.Shelf

theorem and_le (c : Int) (m : Nat) (hm : m < 9223372036854775808) : ∃ n : Nat, bits .and .i64 c (m : Int) = (n : Int) ∧ n ≤ m := by
  have e : (BitVec.ofInt 64 (m : Int)).toNat = m := by rw [BitVec.toNat_ofInt]; omega
  have h : (BitVec.ofInt 64 c &&& BitVec.ofInt 64 (m : Int)).toNat ≤ m := by
    rw [BitVec.toNat_and, e]
    exact Nat.and_le_right
  refine ⟨_, ?_, h⟩
  show IntKind.i64.wrap ((BitVec.ofInt 64 c &&& BitVec.ofInt 64 (m : Int)).toNat : Int) = _
  exact IntWalk.i64_in _ (by omega)
theorem u16_sum (q : UInt16) (k : Nat) : IntKind.u16.wrap ((q.toNat : Int) + (k : Int)) = ((add16 q (k : Int)).toNat : Nat) := by
  have := add16_nat q (k : Int)
  rw [IntKind.wrap_u16]
  omega
theorem add16_mod (q : UInt16) (k : Nat) : ((4294967296 + (q.toNat : Int) + (k : Int)) % 65536 : Int) = (add16 q (k : Int)).toNat := by
  have := add16_nat q (k : Int)
  omega
theorem low16_add (q : UInt16) (k : Nat) : low16 (4294967296 + (q.toNat : Int) + (k : Int)) = add16 q (k : Int) := by
  apply UInt16.toNat_inj.1
  have h1 := low16_nat (4294967296 + (q.toNat : Int) + (k : Int))
  have h2 := add16_mod q k
  omega
/-- The window of WindowRows, what is known of it. -/
structure RowSt (w W0 : World) (g mb c : Nat) (s : Win) : Prop where
  v : WinV W0 g mb s
  i : WInv c s
  f : Fr [] w W0
theorem RowSt.step {w W0 W1 : World} {g mb c c' : Nat} {s s' : Win} (h : RowSt w W0 g mb c s) (hv : WinV W1 g mb s') (hi : WInv c' s') (hf : Fr [g, mb] W0 W1) (hg : w.heap.size ≤ g ∧ w.heap.size ≤ mb) : RowSt w W1 g mb c' s' :=
  ⟨hv, hi, h.f.step hf (fun b hb => .inr (by simp at hb; omega))⟩
set_option maxRecDepth 100000 in
set_option maxHeartbeats 16000000 in
theorem WindowRows_any {w : World} (q0 : UInt16) (cn cg cw : Int) (comes : Bool) :
    Calls Try.prog 5 #[.int .u16 (q0.toNat : Nat), .int .i64 cn, .int .i64 cg, .int .i64 cw, .bool comes] w fun e w' => e = .returned (.bool true) ∧ Fr [] w w' := by
  obtain ⟨n1, hn1, hn2⟩ := and_le cn 31 (by omega)
  obtain ⟨m1, hm1, hm2⟩ := and_le cw 63 (by omega)
  obtain ⟨g1, hg1, hg2⟩ := and_le cg 63 (by omega)
  have hn3 : bits .and .i64 cn 31 = (n1 : Int) := hn1
  have hm3 : bits .and .i64 cw 63 = (m1 : Int) := hm1
  have hg3 : bits .and .i64 cg 63 = (g1 : Int) := hg1
  clear hn1 hm1 hg1
  have HF : Hid (Fr [] w w) := Lib.hid (Fr.refl _ _)
  go_enter Try.func5, Try.ntmps5
  go_wp2_with fail
  refine l21alive_any.mono ?_
  rintro e w1 ⟨rfl, hF⟩
  have HF := Lib.hid (HF.out.trans hF)
  clear hF
  obtain ⟨N, hN⟩ : ∃ N, N = 3 + n1 := ⟨_, rfl⟩
  obtain ⟨Wn, hWn⟩ : ∃ Wn, Wn = 1 + m1 % 50 := ⟨_, rfl⟩
  obtain ⟨G, hG⟩ : ∃ G, G = 1 + g1 % (N - 2) := ⟨_, rfl⟩
  have hGN : G + 2 ≤ N ∧ 1 ≤ G := by
    have := Nat.mod_lt g1 (show 0 < N - 2 by omega)
    omega
  have hWW : 1 ≤ Wn ∧ Wn ≤ 50 := by omega
  have hNN : N ≤ 34 := by omega
  have hN' : (3 : Int) + (n1 : Int) = (N : Int) := by omega
  have hW1 : (1 : Int) + (m1 : Int) % 50 = (Wn : Int) := by omega
  have hN2 : (N : Int) - 2 = ((N - 2 : Nat) : Int) := by omega
  have hG1 : (1 : Int) + (g1 : Int) % ((N - 2 : Nat) : Int) = (G : Int) := by rw [hG]; omega
  have hz : ¬ ((N - 2 : Nat) : Int) = 0 := by omega
  have hz2 : (((N - 2 : Nat) : Int) == 0) = false := beq_eq_false_iff_ne.2 hz
  clear hN hWn hG
  go_upto_region 5 with fail
  clear hW1 hG1 hN2 hz hz2 hN' hn3 hm3 hg3
  obtain ⟨F, hF⟩ : ∃ F, F = 4294967296 + (q0.toNat : Int) := ⟨_, rfl⟩
  have HFF := Lib.hid hF
  clear hF
  go_wp2_with fail
  refine (wNew_any 64 (Wn : Int)).mono ?_
  rintro e w2 ⟨g, mb, rfl, hV, hF, hg, hmb⟩
  rw [stR_zero F (Wn : Int) G (by omega) hGN.2] at hV
  have HG : Hid (w.heap.size ≤ g ∧ w.heap.size ≤ mb) := Lib.hid (by have := HF.out.size; omega)
  have HR : Hid (RowSt w w2 g mb 0 (stR F Wn G 0)) := Lib.hid ⟨hV, by rw [← stR_zero F (Wn : Int) G (by omega) hGN.2]; exact WInv.new _ _, HF.out.trans hF⟩
  clear hV hF hg hmb HF
  go_upto_region 7 with fail
  go_loopw [41] (fun iv wr => ∃ k : Nat, k ≤ N ∧ iv = .int .i64 k ∧ RowSt w wr g mb k (stR F Wn G k)) (fun iv _ => N - (Lib.intOf iv).toNat)
  case atStart => exact ⟨0, Nat.zero_le _, rfl, HR.out⟩
  case round =>
    clear HR
    obtain ⟨k, hk, rfl, hR⟩ := hrel
    have HR := Lib.hid hR
    clear hR
    by_cases hlt : k < N
    · have hkN : (k : Int) < (N : Int) := by omega
      by_cases hkG : k = G
      · subst hkG
        go_wp2_with fail
        go_roundw
        case rel => exact ⟨k + 1, by omega, by go_num, by rw [stR_skip F Wn k hGN.2]; exact ⟨HR.out.v, HR.out.i.mono (by omega), HR.out.f⟩⟩
        case measure => simp [Lib.intOf]; omega
      have hkg : ((k : Int) == (G : Int)) = false := beq_eq_false_iff_ne.2 (by omega)
      have hus := u16_sum q0 k
      have hmod := add16_mod q0 k
      generalize add16 q0 (k : Int) = q at *
      rw [← HFF.out] at hmod
      have HSTEP : Hid (∃ s' out, (stR F Wn G k).put q k 0 = (s', [], 0) ∧ s'.release 0 = (stR F Wn G (k + 1), out) ∧ out = if k < G then [⟨F + k, k, 0⟩] else []) := Lib.hid (by
        by_cases h : k < G
        · obtain ⟨s', h1, h2⟩ := row_ahead (W := Wn) HFF.out (by omega) hmod h (by omega)
          exact ⟨s', _, h1, h2, by rw [if_pos h]⟩
        · obtain ⟨s', h1, h2⟩ := row_behind (W := Wn) HFF.out (by omega) hmod hGN.2 (by omega : G < k) (by omega)
          exact ⟨s', _, h1, h2, by rw [if_neg h]⟩)
      obtain ⟨s', out, hp1, hp2, hout⟩ := HSTEP.out
      have HP1 := Lib.hid hp1; have HP2 := Lib.hid hp2; have HOUT := Lib.hid hout
      clear hp1 hp2 hout hmod HSTEP
      generalize stR F Wn G k = sk at *
      generalize hsn : stR F Wn G (k + 1) = sn at *
      have HSN := Lib.hid hsn
      clear hsn
      go_wp2_with fail
      refine (wPut_any HR.out.v HR.out.i (by omega) q k 0).mono ?_
      rw [HP1.out]
      rintro e w4 ⟨v4, rfl, hE, hV, hF⟩
      obtain ⟨a4, c4, rfl⟩ := hE.shape
      have hI := HR.out.i.put q k 0
      rw [HP1.out] at hI
      have HR := Lib.hid (HR.out.step hV hI hF HG.out)
      clear hE hV hI hF
      go_wp2_with fail
      refine (wRelease_any HR.out.v HR.out.i (by omega) 0).mono ?_
      rw [HP2.out]
      rintro e w5 ⟨v5, rfl, hE, hV, hF⟩
      have hI := HR.out.i.release 0
      rw [HP2.out] at hI
      have HR := Lib.hid (HR.out.step hV hI hF HG.out)
      have HE := Lib.hid hE
      clear hE hV hI hF hus
      by_cases hkl : k < G
      · have ho := HOUT.out
        rw [if_pos hkl] at ho
        subst ho
        obtain ⟨b5, c5, rfl, -, y0, y1⟩ := one_out HE.out
        have hl1 : decide ((k : Int) < (G : Int)) = true := decide_eq_true (by omega)
        have hl2 : decide ((k : Int) > (G : Int)) = false := decide_eq_false (by omega)
        go_wp2_with fail
        go_roundw
        case rel => exact ⟨k + 1, by omega, by go_num, by rw [HSN.out]; exact HR.out⟩
        case measure => simp [Lib.intOf]; omega
      · have ho := HOUT.out
        rw [if_neg hkl] at ho
        subst ho
        obtain ⟨a5, c5, rfl⟩ := HE.out.shape
        have hl1 : decide ((k : Int) < (G : Int)) = false := decide_eq_false (by omega)
        have hl2 : decide ((k : Int) > (G : Int)) = true := decide_eq_true (by omega)
        go_wp2_with fail
        go_roundw
        case rel => exact ⟨k + 1, by omega, by go_num, by rw [HSN.out]; exact HR.out⟩
        case measure => simp [Lib.intOf]; omega
    · obtain rfl : k = N := by omega
      have hlenN : (stR F Wn G k).all.length = k - 1 - G := by
        show (if k ≤ G then [] else rowL F (G + 1) (k - 1 - G)).length = _
        rw [if_neg (by omega)]
        exact rowL_len _ _ _
      have hlc : ((k : Int) - 1 - (G : Int)) = ((k - 1 - G : Nat) : Int) := by omega
      obtain ⟨qG, hqG⟩ : ∃ qG, add16 q0 (G : Int) = qG := ⟨_, rfl⟩
      have HQG := Lib.hid hqG
      have HMG : Hid (((F + G) % 65536 : Int) = qG.toNat) := Lib.hid (by rw [HFF.out, ← hqG]; exact add16_mod q0 G)
      have HLN := Lib.hid hlenN
      clear hqG hlenN
      go_wp2_with fail
      refine (wLen_any HR.out.v).mono ?_
      rw [HLN.out]
      rintro e w7 ⟨rfl, rfl⟩
      obtain ⟨w8, e8, hF8, hB8, hs8⟩ := one_new wr #[] 54
      have HR := Lib.hid (⟨HR.out.v.keep hF8, HR.out.i, HR.out.f.trans hF8⟩ : RowSt w w8 g mb k (stR F Wn G k))
      have E8 := Lib.hid e8
      clear e8 hF8 hB8 hs8
      go_upto_region 20 with fail
      rw [E8.out]
      clear E8
      obtain ⟨G1, hG1⟩ : ∃ G1, G1 = G + 1 := ⟨_, rfl⟩
      have HG1 := Lib.hid hG1
      have hgc : (G : Int) + 1 = (G1 : Int) := by omega
      clear hG1
      cases comes with
      | true =>
        obtain ⟨s1, o1, hc1, hc2, hon, hox⟩ := row_comes (W := Wn) (N := k) HFF.out (by omega) HMG.out hGN.2 hGN.1 (by omega)
        have HC1 := Lib.hid hc1; have HC2 := Lib.hid hc2; have HON := Lib.hid hon; have HOX := Lib.hid hox
        have hus := u16_sum q0 G
        rw [HQG.out] at hus
        clear hc1 hc2 hon hox
        generalize stR F Wn G k = sk at *
        go_wp2_with fail
        refine (wPut_any HR.out.v HR.out.i (by omega) qG (G : Int) ((Wn : Int) - 1)).mono ?_
        rw [HC1.out]
        rintro e w9 ⟨v9, rfl, hE, hV, hF⟩
        obtain ⟨a9, c9, rfl⟩ := hE.shape
        have hI := HR.out.i.put qG (G : Int) ((Wn : Int) - 1)
        rw [HC1.out] at hI
        have HR := Lib.hid (HR.out.step hV hI hF HG.out)
        clear hE hV hI hF hus
        go_wp2_with fail
        refine (wRelease_any HR.out.v HR.out.i (by omega) ((Wn : Int) - 1)).mono ?_
        rw [HC2.out]
        rintro e w10 ⟨v10, rfl, hE, hV, hF⟩
        obtain ⟨a10, c10, rfl⟩ := hE.shape
        have hI := HR.out.i.release ((Wn : Int) - 1)
        rw [HC2.out] at hI
        have HR := Lib.hid (HR.out.step hV hI hF HG.out)
        have hll : (o1 :: rowL F (G + 1) (k - 1 - G)).length = k - G := by rw [List.length_cons, rowL_len]; omega
        have HEL0 := Lib.hid hE.sl
        have HLL := Lib.hid hll
        clear hE hV hI hF hll
        have hsub : (k : Int) - (G : Int) = ((k - G : Nat) : Int) := by omega
        obtain ⟨L, hL⟩ : ∃ L, o1 :: rowL F (G + 1) (k - 1 - G) = L := ⟨_, rfl⟩
        have HLE := Lib.hid hL
        have HLA : Hid (∀ (i : Nat) (y : Held_), L[i]? = some y → y.n = F + ((G + i : Nat) : Int) ∧ y.x = ((G + i : Nat) : Int)) := Lib.hid (by
          intro i y hi
          rw [← HLE.out] at hi
          cases i with
          | zero => simp at hi; subst hi; exact ⟨HON.out, HOX.out⟩
          | succ j =>
            simp only [List.getElem?_cons_succ] at hi
            obtain ⟨hj, rfl⟩ := List.getElem?_eq_some_iff.1 hi
            rw [rowL_at, show G + 1 + j = G + (j + 1) by omega]
            exact ⟨rfl, rfl⟩)
        simp only at HEL0
        rw [hL] at HEL0 HLL ⊢
        have HEL := HEL0
        rw [HLL.out] at HEL ⊢
        clear hL HEL0
        go_upto_region 31 with fail
        go_loopw [131] (fun iv wz => ∃ i : Nat, i ≤ (k - G) ∧ iv = .int .i64 i ∧ Fr [] w10 wz) (fun iv _ => (k - G) - (Lib.intOf iv).toNat)
        case atStart => exact ⟨0, Nat.zero_le _, rfl, Fr.refl _ _⟩
        case round =>
          obtain ⟨i, hi, rfl, hF⟩ := hrel
          have HFK := Lib.hid hF
          clear hF
          by_cases hlt : i < (k - G)
          · obtain ⟨b, o, cc, y, B1, ea, -, hy, ⟨rfl, -⟩, -, hrg⟩ := (HEL.out.keep Rep.out HFK.out).at_ Rep.out (i := i) hlt
            subst ea
            obtain ⟨hyn, hyx⟩ := HLA.out i y hy
            have HRG := Lib.hid hrg
            obtain ⟨fi, hfi⟩ : ∃ fi, fi = G + i := ⟨_, rfl⟩
            rw [← hfi] at hyn hyx
            have hsum := u16_sum q0 fi
            have hlow : low16 y.n = add16 q0 (fi : Int) := by rw [hyn, HFF.out]; exact low16_add q0 fi
            have HLOW := Lib.hid hlow; have HYX := Lib.hid hyx
            have hcast : ((G : Nat) : Int) + (i : Int) = (fi : Int) := by omega
            have HFI := Lib.hid hfi
            clear hrg hy hyn hyx hlow hfi
            have hkM : (i : Int) < (((k - G) : Nat) : Int) := by omega
            generalize hyq : low16 y.n = yq at *
            generalize hyz : y.x = yx at *
            replace HRG : Hid (wr.rangeAt b (o + i * 2) [.int .u16 (yq.toNat : Nat), .int .i64 yx]) := by rw [← hyq, ← hyz]; exact HRG
            clear hyq hyz
            go_upto_region 33 with (first | (refine wpList_load_midA rfl 54 (.tmp 134) rfl b (o + i * 2) rfl #[.int .u16 (yq.toNat : Nat), .int .i64 yx] _ HRG.out Try.underlying54 rfl (by kernel_rfl) ?_) | (refine wpList_store_row rfl 54 (.tmp 20) (.tmp 135) rfl wr.heap.size rfl _ _ rfl 54 (Box.new wr 54 #[.int .u16 0, .int .i64 0]) (by kernel_rfl) rfl (by simp [Value.oneCell']) ?_; intro w19 hY hG; have hFn := ((Fr.refl [] wr).alloc _).step hG (by simp); have HFn := Lib.hid hFn; have HY := Lib.hid hY; clear hG hFn hY))
            have x0 := HY.out.cell 0; have x1 := HY.out.cell 1
            simp only [List.getElem?_toArray, List.getElem?_cons_zero, List.getElem?_cons_succ] at x0 x1
            rw [HYX.out] at x1
            rw [HLOW.out] at x0
            go_wp2_with fail
            exact ⟨⟨i + 1, by omega, by go_num, HFK.out.trans HFn.out⟩, by simp [Lib.intOf]; omega⟩
          · obtain rfl : i = (k - G) := by omega
            have HR := Lib.hid (⟨HR.out.v.keep HFK.out, HR.out.i, HR.out.f.trans HFK.out⟩ : RowSt w wr g mb (k + 1) ⟨64, Wn, some (F + k - 1), F + k, ((Wn : Int) - 1), []⟩)
            obtain ⟨s9, ho1, ho2⟩ := row_old (W := Wn) (N := k) (t := ((Wn : Int) - 1)) HFF.out HMG.out hGN.1 (by omega) ⟨by omega, by omega⟩ (by omega)
            have HO1 := Lib.hid ho1; have HO2 := Lib.hid ho2
            clear ho1 ho2
            have hus := u16_sum q0 G
            rw [HQG.out] at hus
            go_wp2_with fail
            refine (wPut_any HR.out.v HR.out.i (by omega) qG 0 (Wn : Int)).mono ?_
            rw [HO1.out]
            rintro e w20 ⟨v20, rfl, hE, hV, hF⟩
            obtain ⟨a20, c20, rfl⟩ := hE.shape
            have hF2 := HR.out.f.step hF (fun b hb => .inr (by have := HG.out; simp at hb; omega))
            have HV := Lib.hid hV; have HF := Lib.hid hF2
            clear hE hV hF hF2 hus
            go_wp2_with fail
            refine (wLen_any HV.out).mono ?_
            rw [HO2.out]
            rintro e w21 ⟨rfl, rfl⟩
            go_wp2_with fail
            go_ret
            first | exact ⟨rfl, HF.out⟩ | exact ⟨ret_bool (by simp), HF.out⟩
      | false =>
        have hc1 := row_early (F := F) (W := Wn) (G := G) (N := k) (by omega) hGN.1
        have hc2 := row_late (F := F) (W := Wn) (G := G) (N := k) (by omega) hGN.1
        have HC1 := Lib.hid hc1; have HC2 := Lib.hid hc2
        clear hc1 hc2
        generalize ({ stR F Wn G k with now := (Wn : Int) - 1 } : Win) = s1 at *
        generalize stR F Wn G k = sk at *
        go_wp2_with fail
        refine (wRelease_any HR.out.v HR.out.i (by omega) ((Wn : Int) - 1)).mono ?_
        rw [HC1.out]
        rintro e w9 ⟨v9, rfl, hE, hV, hF⟩
        obtain ⟨a9, c9, rfl⟩ := hE.shape
        have hI := HR.out.i.release ((Wn : Int) - 1)
        rw [HC1.out] at hI
        have HR := Lib.hid (HR.out.step hV hI hF HG.out)
        clear hE hV hI hF
        go_wp2_with fail
        refine (wRelease_any HR.out.v HR.out.i (by omega) (Wn : Int)).mono ?_
        rw [HC2.out]
        rintro e w10 ⟨v10, rfl, hE, hV, hF⟩
        obtain ⟨a10, c10, rfl⟩ := hE.shape
        have hI := HR.out.i.release (Wn : Int)
        rw [HC2.out] at hI
        have HR := Lib.hid (HR.out.step hV hI hF HG.out)
        have HEL0 := Lib.hid hE.sl
        have HLL : Hid ((rowL F (G + 1) (k - 1 - G)).length = k - 1 - G) := Lib.hid (rowL_len _ _ _)
        clear hE hV hI hF
        have hsub : (k : Int) - (G1 : Int) = ((k - 1 - G : Nat) : Int) := by have := HG1.out; omega
        obtain ⟨L, hL⟩ : ∃ L, rowL F (G + 1) (k - 1 - G) = L := ⟨_, rfl⟩
        have HLE := Lib.hid hL
        have HLA : Hid (∀ (i : Nat) (y : Held_), L[i]? = some y → y.n = F + ((G1 + i : Nat) : Int) ∧ y.x = ((G1 + i : Nat) : Int)) := Lib.hid (by
          intro i y hi
          rw [← HLE.out] at hi
          rw [HG1.out]
          obtain ⟨hj, rfl⟩ := List.getElem?_eq_some_iff.1 hi
          rw [rowL_at]
          exact ⟨rfl, rfl⟩)
        simp only at HEL0
        rw [hL] at HEL0 HLL ⊢
        have HEL := HEL0
        rw [HLL.out] at HEL ⊢
        clear hL HEL0
        go_upto_region 31 with fail
        go_loopw [131] (fun iv wz => ∃ i : Nat, i ≤ (k - 1 - G) ∧ iv = .int .i64 i ∧ Fr [] w10 wz) (fun iv _ => (k - 1 - G) - (Lib.intOf iv).toNat)
        case atStart => exact ⟨0, Nat.zero_le _, rfl, Fr.refl _ _⟩
        case round =>
          obtain ⟨i, hi, rfl, hF⟩ := hrel
          have HFK := Lib.hid hF
          clear hF
          by_cases hlt : i < (k - 1 - G)
          · obtain ⟨b, o, cc, y, B1, ea, -, hy, ⟨rfl, -⟩, -, hrg⟩ := (HEL.out.keep Rep.out HFK.out).at_ Rep.out (i := i) hlt
            subst ea
            obtain ⟨hyn, hyx⟩ := HLA.out i y hy
            have HRG := Lib.hid hrg
            obtain ⟨fi, hfi⟩ : ∃ fi, fi = G1 + i := ⟨_, rfl⟩
            rw [← hfi] at hyn hyx
            have hsum := u16_sum q0 fi
            have hlow : low16 y.n = add16 q0 (fi : Int) := by rw [hyn, HFF.out]; exact low16_add q0 fi
            have HLOW := Lib.hid hlow; have HYX := Lib.hid hyx
            have hcast : ((G1 : Nat) : Int) + (i : Int) = (fi : Int) := by omega
            have HFI := Lib.hid hfi
            clear hrg hy hyn hyx hlow hfi
            have hkM : (i : Int) < (((k - 1 - G) : Nat) : Int) := by omega
            generalize hyq : low16 y.n = yq at *
            generalize hyz : y.x = yx at *
            replace HRG : Hid (wr.rangeAt b (o + i * 2) [.int .u16 (yq.toNat : Nat), .int .i64 yx]) := by rw [← hyq, ← hyz]; exact HRG
            clear hyq hyz
            go_upto_region 33 with (first | (refine wpList_load_midA rfl 54 (.tmp 134) rfl b (o + i * 2) rfl #[.int .u16 (yq.toNat : Nat), .int .i64 yx] _ HRG.out Try.underlying54 rfl (by kernel_rfl) ?_) | (refine wpList_store_row rfl 54 (.tmp 20) (.tmp 135) rfl wr.heap.size rfl _ _ rfl 54 (Box.new wr 54 #[.int .u16 0, .int .i64 0]) (by kernel_rfl) rfl (by simp [Value.oneCell']) ?_; intro w19 hY hG; have hFn := ((Fr.refl [] wr).alloc _).step hG (by simp); have HFn := Lib.hid hFn; have HY := Lib.hid hY; clear hG hFn hY))
            have x0 := HY.out.cell 0; have x1 := HY.out.cell 1
            simp only [List.getElem?_toArray, List.getElem?_cons_zero, List.getElem?_cons_succ] at x0 x1
            rw [HYX.out] at x1
            rw [HLOW.out] at x0
            go_wp2_with fail
            exact ⟨⟨i + 1, by omega, by go_num, HFK.out.trans HFn.out⟩, by simp [Lib.intOf]; omega⟩
          · obtain rfl : i = (k - 1 - G) := by omega
            have HR := Lib.hid (⟨HR.out.v.keep HFK.out, HR.out.i, HR.out.f.trans HFK.out⟩ : RowSt w wr g mb k ⟨64, Wn, some (F + k - 1), F + k, (Wn : Int), []⟩)
            obtain ⟨s9, ho1, ho2⟩ := row_old (W := Wn) (N := k) (t := (Wn : Int)) HFF.out HMG.out hGN.1 (by omega) ⟨by omega, by omega⟩ (by omega)
            have HO1 := Lib.hid ho1; have HO2 := Lib.hid ho2
            clear ho1 ho2
            have hus := u16_sum q0 G
            rw [HQG.out] at hus
            go_wp2_with fail
            refine (wPut_any HR.out.v HR.out.i (by omega) qG 0 (Wn : Int)).mono ?_
            rw [HO1.out]
            rintro e w20 ⟨v20, rfl, hE, hV, hF⟩
            obtain ⟨a20, c20, rfl⟩ := hE.shape
            have hF2 := HR.out.f.step hF (fun b hb => .inr (by have := HG.out; simp at hb; omega))
            have HV := Lib.hid hV; have HF := Lib.hid hF2
            clear hE hV hF hF2 hus
            go_wp2_with fail
            refine (wLen_any HV.out).mono ?_
            rw [HO2.out]
            rintro e w21 ⟨rfl, rfl⟩
            go_wp2_with fail
            go_ret
            first | exact ⟨rfl, HF.out⟩ | exact ⟨ret_bool (by simp), HF.out⟩
end Go.Proofs.Ytbmpiemhfndnbaa
