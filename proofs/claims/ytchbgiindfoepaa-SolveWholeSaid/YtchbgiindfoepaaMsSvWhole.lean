/- The walk of confluxlaw14.SolveWhole (printed by gen_svwhole.py). -/
import Derived.Test.YtchbgiindfoepaaMs38
import Derived.Test.YtchbgiindfoepaaMs37
import Derived.Test.YtchbgiindfoepaaMs23
import Derived.Test.YtchbgiindfoepaaMs29
import Derived.Test.YtchbgiindfoepaaMsR5Size
import Derived.Test.YtchbgiindfoepaaMsHeld3
import Derived.Test.YtchbgiindfoepaaMsSvOne3
namespace Go.Proofs.Ytchbgiindfoepaa
open Go.RowKit

theorem pack_ok {x : Bt} {n : UInt16} {ss : UInt32} {b : List UInt8} (h : x.pack n ss = .ok b) : ∃ p, parseR b = .ok p ∧ p.seq = n ∧ p.ssrc = ss := by
  unfold Bt.pack at h
  split at h
  · cases h
  split at h
  · rename_i p hp
    cases h
    refine ⟨p, hp, ?_, ?_⟩
    · have h1 := seq_bytes hp
      have h2 : nb (x.out n ss) 2 2 = n.toNat := by
        unfold Bt.out
        rw [List.append_assoc, List.append_assoc, List.append_assoc, nb_at (k := 2) rfl]
        exact Nat.mod_eq_of_lt n.toNat_lt
      exact UInt16.toNat_inj.1 (by rw [← h1, h2])
    · have h1 := ssrc_bytes hp
      have h2 : nb (x.out n ss) 8 4 = ss.toNat := by
        unfold Bt.out
        rw [List.append_assoc (([128 ||| (x.h0 &&& 63), x.h1] ++ beN n.toNat 2) ++ [x.h2, x.h3, x.h4, x.h5]), nb_at (k := 8) (by simp [beN_len])]
        exact Nat.mod_eq_of_lt ss.toNat_lt
      exact UInt32.toNat_inj.1 (by rw [← h1, h2])
  · cases h
theorem oneL_cases (K : UInt16 → Option (List UInt8)) (ss : UInt32) (r : Rep_) : (∃ k, k ≠ 0 ∧ oneL K ss r = (0, [], k)) ∨ ∃ n b, oneL K ss r = (n, b, 0) ∧ (restL K ss r).2 = [n] ∧ (restL K ss r).1.pack n ss = .ok b ∧ ¬(r.m.hi = 0 ∧ r.m.lo = 0) := by
  by_cases hz : r.m.hi = 0 ∧ r.m.lo = 0
  · exact .inl ⟨30, by decide, by unfold oneL; rw [if_pos hz]⟩
  rw [oneL_ne' hz]
  cases hm : (restL K ss r).2 with
  | nil => exact .inl ⟨40, by decide, rfl⟩
  | cons n rest =>
    cases rest with
    | cons m rest => exact .inl ⟨41, by decide, rfl⟩
    | nil =>
      cases hp : (restL K ss r).1.pack n ss with
      | error k => exact .inl ⟨42, by decide, oneF_err hp⟩
      | ok b => exact .inr ⟨n, b, oneF_ok hp, rfl, hp, hz⟩
/-- With the packet that was told all are known. -/
theorem with_told {K : UInt16 → Option (List UInt8)} {ss : UInt32} {r : Rep_} {n : UInt16} {b : List UInt8} {p : Pkt} (hm : (restL K ss r).2 = [n]) (hp : parseR b = .ok p) (hs : p.seq = n) (ht : p.ssrc = ss) (hz : ¬(r.m.hi = 0 ∧ r.m.lo = 0)) :
    oneL (fun m => if m = n then some b else K m) ss r = (0, [], 40) ∧ (restL (fun m => if m = n then some b else K m) ss r).2.length = 0 := by
  have h2 : (restL (fun m => if m = n then some b else K m) ss r).2 = [] := by
    rw [restL_eq] at hm ⊢
    replace hm : (seqsOf r.base r.m).filter (fun n => (lookB K ss n).isNone) = [n] := hm
    rw [List.filter_eq_nil_iff]
    intro m hmm
    by_cases e : m = n
    · have k1 : (fun m => if m = n then some b else K m) m = some b := if_pos e
      have k2 : lookB (fun m => if m = n then some b else K m) ss m = some (imp b) := by
        unfold lookB
        rw [k1]
        simp only [hp]
        rw [if_pos ⟨by rw [hs, e], ht⟩]
      rw [k2]
      simp
    · have h1 : m ∉ (seqsOf r.base r.m).filter fun n => (lookB K ss n).isNone := by rw [hm]; simpa using e
      rw [List.mem_filter] at h1
      have h3 : lookB (fun m => if m = n then some b else K m) ss m = lookB K ss m := by
        have k1 : (fun m => if m = n then some b else K m) m = K m := if_neg e
        unfold lookB
        rw [k1]
      rw [h3]
      exact fun h => h1 ⟨hmm, h⟩
  refine ⟨?_, by rw [h2]; rfl⟩
  rw [oneL_ne' hz, h2]
  rfl
theorem size_bytes {b : List UInt8} {p : Pkt} (hp : parseR b = .ok p) : p.size = b.length ∧ p.Small := by
  obtain ⟨h1, h2⟩ := parse_back hp
  have hl := parse_len hp
  have hs : p.size = p.bytes.length := (bytes_len p).symm
  refine ⟨by rw [hs, h2], ?_⟩
  have h := Pkt.fit h1
  have hz := h.size
  have hx := h.ext
  unfold Pkt.Small Pkt.size at *
  unfold Pkt.extOk at hx
  cases he : p.hasExt <;> simp [he] at hz hx
  · simp [hx]
    omega
  · omega
/-- What region 5 leaves. -/
def W5 (w : World) (o : UInt16 × List UInt8 × Int) (s7 s8 s9 : Value) (wx : World) : Prop := ∃ g7 g8 a c, s7 = .pointer (some ⟨g7, 0, none⟩) ∧ s8 = .pointer (some ⟨g8, 0, none⟩) ∧ s9 = .int .i64 o.2.2 ∧ Box wx g7 42 #[.int .u16 (o.1.toNat : Nat)] ∧ Box wx g8 25 #[.slice a o.2.1.length c] ∧ Bytes wx (.slice a o.2.1.length c) o.2.1 ∧ Fr [] w wx
set_option maxRecDepth 100000 in
theorem l14w1_any {w : World} {g7 g8 g5 : Nat} {v vb : Value} {ls : List (List UInt8)} {s : UInt16} {b : List UInt8} (h7 : Box w g7 42 #[.int .u16 (s.toNat : Nat)]) (h8 : Box w g8 25 #[vb]) (hb : Bytes w vb b) (h5 : Box w g5 22 #[v]) (hl : BRows w v ls) (n : UInt16) :
    Calls Try.prog 46 #[.int .u16 (n.toNat : Nat), .pointer (some ⟨g7, 0, none⟩), .pointer (some ⟨g8, 0, none⟩), .pointer (some ⟨g5, 0, none⟩)] w fun e w' => ∃ v', e = .returned (.tuple #[v', .bool (if n = s then some b else findL ls n).isSome]) ∧ Bytes w' v' ((if n = s then some b else findL ls n).getD []) ∧ Fr [] w w' := by
  obtain ⟨ab, nb_, cb, rfl⟩ := Sl.isSlice hb
  obtain ⟨av, cv, rfl⟩ := hl.shape
  have HL := Lib.hid hl; have HB := Lib.hid hb
  have x7 := h7.cell 0; have x8 := h8.cell 0; have x5 := h5.cell 0
  simp only [List.getElem?_toArray, List.getElem?_cons_zero] at x7 x8 x5
  clear hl hb h7 h8 h5
  go_enter Try.func46, Try.ntmps46
  by_cases h : n = s
  · have t1 : (((n.toNat : Nat) : Int) == ((s.toNat : Nat) : Int)) = true := by rw [u16_beq, h]; simp
    rw [if_pos h]
    have HF : Hid (Fr [] w w.drew) := Lib.hid (Fr.refl [] w).drew
    go_wp2_with fail
    go_ret2
    first | exact ⟨_, rfl, HB.out, Fr.refl _ _⟩ | exact ⟨_, rfl, Sl.keep HB.out HF.out, HF.out⟩
  · have t1 : (((n.toNat : Nat) : Int) == ((s.toNat : Nat) : Int)) = false := by rw [u16_beq]; simpa using h
    rw [if_neg h]
    clear h
    go_wp2_with fail
    refine (r14Find_any HL.out n).mono ?_
    rintro e w2 ⟨v', rfl, hb, hF⟩
    obtain ⟨a2, n2, c2, rfl⟩ := Sl.isSlice hb
    have HB := Lib.hid hb; have HF := Lib.hid hF
    clear hb hF
    go_wp2_with fail
    go_ret2
    exact ⟨_, rfl, HB.out, HF.out⟩
set_option maxRecDepth 100000 in
set_option maxHeartbeats 16000000 in
theorem SolveWhole_any {w : World} {vr v : Value} {r : Rep_} {ls : List (List UInt8)} (hr : RpV w vr r) (ss : UInt32) (hl : BRows w v ls) :
    Calls Try.prog 8 #[vr, .int .u32 (ss.toNat : Nat), v] w fun e w' => e = .returned (.bool true) ∧ Fr [] w w' := by
  obtain ⟨vb, rfl, hbd⟩ := hr
  obtain ⟨ab, cb, rfl⟩ := Sl.shape hbd
  rw [List.length_map] at hbd ⊢
  obtain ⟨av, cv, rfl⟩ := hl.shape
  have hlen := hl.len
  unfold maxLen at hlen
  obtain ⟨w1, e1, hF, hB1, hB2, hs1⟩ := two_new w (rpc r (.slice ab r.bt.body.length cb)) 58 #[.slice av ls.length cv] 22
  have HB := Lib.hid (hl.keep hF); have HBD := Lib.hid (Sl.keep hbd hF); have HF := Lib.hid hF; have HR := Lib.hid hB1; have HP := Lib.hid hB2; have E1 := Lib.hid e1
  clear hl hbd hF hB1 hB2 hs1 e1
  go_enter Try.func8, Try.ntmps8
  go_upto_region 1 with fail
  rw [E1.out]
  clear E1
  generalize hg3 : w.heap.size = g3 at *
  clear hg3
  go_wp2_with fail
  refine l14alive_any.mono ?_
  rintro e w2 ⟨rfl, hF⟩
  have HF := Lib.hid (HF.out.trans hF)
  have HB := Lib.hid (HB.out.keep hF)
  have HBD := Lib.hid (Sl.keep HBD.out hF)
  have HR := Lib.hid (HR.out.keep hF)
  have HP := Lib.hid (HP.out.keep hF)
  clear hF
  have y5 := HP.out.cell 0
  simp only [List.getElem?_toArray, List.getElem?_cons_zero] at y5
  go_wp2_with fail
  clear y5
  refine (RFew13_any HB.out 60 400 (by omega) (by omega)).mono ?_
  rintro e w3 ⟨rfl, hF⟩
  have HF := Lib.hid (HF.out.trans hF)
  have HB := Lib.hid (HB.out.keep hF)
  have HBD := Lib.hid (Sl.keep HBD.out hF)
  have HR := Lib.hid (HR.out.keep hF)
  have HP := Lib.hid (HP.out.keep hF)
  clear hF
  have x11 := HR.out.cell 11
  simp only [rpc, List.getElem?_toArray, List.getElem?_cons_succ, List.getElem?_cons_zero] at x11
  by_cases hfew : few13 ls 60 400 = true
  rotate_left
  · have hfew2 : few13 ls 60 400 = false := by simpa using hfew
    rw [hfew2]
    go_wp2_with fail
    go_ret
    first | exact ⟨rfl, HF.out⟩ | exact ⟨ret_bool (by simp), HF.out⟩
  rw [hfew]
  obtain ⟨hn60, hsz⟩ := few13_true hfew
  clear hfew hsz
  by_cases hbl : 1600 < r.bt.body.length
  · have e1 : decide ((1600 : Int) < (r.bt.body.length : Int)) = true := decide_eq_true (by omega)
    go_wp2_with fail
    go_ret
    first | exact ⟨rfl, HF.out⟩ | exact ⟨ret_bool (by simp), HF.out⟩
  have e1 : decide ((1600 : Int) < (r.bt.body.length : Int)) = false := decide_eq_false (by omega)
  go_upto_region 5 with fail
  clear e1 x11
  have HSM : Hid (r.bt.body.length ≤ 1099511627776) := Lib.hid (by omega)
  go_cut [7, 8, 9] (fun s7 s8 s9 wx => W5 w3 (oneL (findL ls) ss r) s7 s8 s9 wx)
  case first =>
    refine wp_region_T (fun w' => Fr [] w3.drew w') [] 14 #[false, false, false, false, false, false, false, false, false, false, false, false, false, false] (by kernel_rfl) rfl rfl ?_
    try simp only [List.append_eq, List.cons_append, List.nil_append]
    have hF := (Fr.refl [] w3).drew
    have HF := Lib.hid (HF.out.trans hF)
    have HB := Lib.hid (HB.out.keep hF)
    have HBD := Lib.hid (Sl.keep HBD.out hF)
    have HR := Lib.hid (HR.out.keep hF)
    have HP := Lib.hid (HP.out.keep hF)
    have HWD := Lib.hid hF
    clear hF
    have HSS : Hid (Fr [] w3.drew w3.drew) := Lib.hid (Fr.refl _ _)
    generalize w3.drew = wd at *
    refine wpAnyT_load (i := 0) (v := ?_) rfl (by kernel_rfl) (by kernel_rfl) (by kernel_rfl) (by kernel_rfl) (by kernel_rfl) (fun _ _ _ h => h) HSS.out (by rfl) ?_ ?_
    rotate_left
    · intro w' hSw; refine run_load_row 58 (.tmp 3) ?_ g3 ?_ 58 _ _ (HR.out.keep hSw) Try.underlying58 rfl (by kernel_rfl) <;> rfl
    simp only [Act.put, List.getElem_toArray, List.getElem_cons_zero, List.getElem_cons_succ, List.setIfInBounds_toArray, List.set_cons_zero, List.set_cons_succ]
    refine wpAnyT_load (i := 1) (v := ?_) rfl (by kernel_rfl) (by kernel_rfl) (by kernel_rfl) (by kernel_rfl) (by kernel_rfl) (fun _ _ _ h => h) HSS.out (by rfl) ?_ ?_
    rotate_left
    · intro w hSw; skip; go_simp; try with_reducible rfl
    simp only [Act.put, List.getElem_toArray, List.getElem_cons_zero, List.getElem_cons_succ, List.setIfInBounds_toArray, List.set_cons_zero, List.set_cons_succ]
    refine wpAnyT_load (i := 2) (v := ?_) rfl (by kernel_rfl) (by kernel_rfl) (by kernel_rfl) (by kernel_rfl) (by kernel_rfl) (fun _ _ _ h => h) HSS.out (by rfl) ?_ ?_
    rotate_left
    · intro w hSw; have n0 := (HP.out.keep hSw).cell 0; simp only [List.getElem?_toArray, List.getElem?_cons_zero] at n0; go_simp; try with_reducible rfl
    simp only [Act.put, List.getElem_toArray, List.getElem_cons_zero, List.getElem_cons_succ, List.setIfInBounds_toArray, List.set_cons_zero, List.set_cons_succ]
    refine wpAnyT_three (i := 3) (j := 9) (k := 10) (by kernel_rfl) rfl rfl rfl (fun K hK => ?_) (fun K hK => ?_) (fun K hK => ?_)
    · rw [if_pos (by rfl)]
      go_simp
      refine (l14by_any (HB.out.keep HSS.out)).mono ?_
      rintro e wby ⟨gk, rfl, hk, hF⟩
      have HK := Lib.hid hk
      have HSS := Lib.hid (HSS.out.trans hF)
      clear hk hF
      go_simp
      refine hK.out _ _ (fun _ => HSS.out) ?_
      clear hK K
      simp only [Act.put, List.getElem_toArray, List.getElem_cons_zero, List.getElem_cons_succ, List.setIfInBounds_toArray, List.set_cons_zero, List.set_cons_succ]
      refine wpAnyT_three (i := 4) (j := 9) (k := 10) (by kernel_rfl) rfl rfl rfl (fun K hK => ?_) (fun K hK => ?_) (fun K hK => ?_)
      · rw [if_pos (by rfl)]
        go_simp
        refine (svOne_own (r := r) ⟨_, rfl, Sl.keep HBD.out HSS.out⟩ HSM.out HK.out ss).mono ?_
        rintro e won ⟨von, rfl, hO, hF⟩
        have HSS := Lib.hid (HSS.out.trans hF)
        obtain ⟨ao, co, rfl⟩ := Sl.shape hO.bytes
        simp only [List.length_map] at hO ⊢
        have HO := Lib.hid hO
        clear HK hO hF
        go_simp
        refine hK.out _ _ (fun _ => HSS.out) ?_
        clear hK K
        simp only [Act.put, List.getElem_toArray, List.getElem_cons_zero, List.getElem_cons_succ, List.setIfInBounds_toArray, List.set_cons_zero, List.set_cons_succ]
        refine wpAnyT_load (i := 5) (v := ?_) rfl (by kernel_rfl) (by kernel_rfl) (by kernel_rfl) (by kernel_rfl) (by kernel_rfl) (fun _ _ _ h => h) HSS.out (by rfl) ?_ ?_
        rotate_left
        · intro w hSw; skip; go_simp; try with_reducible rfl
        simp only [Act.put, List.getElem_toArray, List.getElem_cons_zero, List.getElem_cons_succ, List.setIfInBounds_toArray, List.set_cons_zero, List.set_cons_succ]
        refine wpAnyT_load (i := 6) (v := ?_) rfl (by kernel_rfl) (by kernel_rfl) (by kernel_rfl) (by kernel_rfl) (by kernel_rfl) (fun _ _ _ h => h) HSS.out (by rfl) ?_ ?_
        rotate_left
        · intro w hSw; skip; go_simp; try with_reducible rfl
        simp only [Act.put, List.getElem_toArray, List.getElem_cons_zero, List.getElem_cons_succ, List.setIfInBounds_toArray, List.set_cons_zero, List.set_cons_succ]
        refine wpAnyT_load (i := 7) (v := ?_) rfl (by kernel_rfl) (by kernel_rfl) (by kernel_rfl) (by kernel_rfl) (by kernel_rfl) (fun _ _ _ h => h) HSS.out (by rfl) ?_ ?_
        rotate_left
        · intro w hSw; skip; go_simp; try with_reducible rfl
        simp only [Act.put, List.getElem_toArray, List.getElem_cons_zero, List.getElem_cons_succ, List.setIfInBounds_toArray, List.set_cons_zero, List.set_cons_succ]
        refine wpAnyT_load (i := 8) (v := ?_) rfl (by kernel_rfl) (by kernel_rfl) (by kernel_rfl) (by kernel_rfl) (by kernel_rfl) (fun _ _ _ h => h) HSS.out (by rfl) ?_ ?_
        rotate_left
        · intro w hSw; skip; go_simp; try with_reducible rfl
        simp only [Act.put, List.getElem_toArray, List.getElem_cons_zero, List.getElem_cons_succ, List.setIfInBounds_toArray, List.set_cons_zero, List.set_cons_succ]
        refine wpAnyT_two (i := 9) (j := 10) (by kernel_rfl) rfl rfl (fun K hK => ?_) (fun K hK => ?_)
        · rw [if_pos (by rfl)]
          go_simp
          have HOL7 : Hid (∀ x, blockOf (.slice ao (oneL (findL ls) ss r).2.1.length co) = some x → x ≠ won.heap.size) := Lib.hid (fun x hx => by have h1 := (HO.out.block x hx).2; omega)
          obtain ⟨wa7, ea, hF, hBa, -⟩ := one_new won #[.int .u16 0] 42
          rw [ea]
          have HO := Lib.hid (HO.out.keep hF)
          have HA7 := Lib.hid hBa
          have HG7 : Hid (wd.heap.size ≤ won.heap.size) := Lib.hid HSS.out.size
          have HSS := Lib.hid (HSS.out.trans hF)
          clear hBa hF ea
          refine hK.out _ _ (fun _ => HSS.out) ?_
          clear hK K
          simp only [Act.put, List.getElem_toArray, List.getElem_cons_zero, List.getElem_cons_succ, List.setIfInBounds_toArray, List.set_cons_zero, List.set_cons_succ]
          generalize hga7 : won.heap.size = ga7 at *
          have HE7 := Lib.hid hga7
          clear hga7
          refine wpAnyT_one (i := 10) (by kernel_rfl) rfl (fun K hK => ?_)
          rw [if_pos (by rfl)]
          go_simp
          have NE : Hid (wa7.heap.size ≠ ga7) := Lib.hid (by have h1 := HA7.out.lt; omega)
          have HOL8 : Hid (∀ x, blockOf (.slice ao (oneL (findL ls) ss r).2.1.length co) = some x → x ≠ wa7.heap.size) := Lib.hid (fun x hx => by have h1 := (HO.out.block x hx).2; omega)
          obtain ⟨wa8, ea, hF, hBa, -⟩ := one_new wa7 #[.slice none 0 0] 25
          rw [ea]
          have HO := Lib.hid (HO.out.keep hF)
          have HA7 := Lib.hid (HA7.out.keep hF)
          have HA8 := Lib.hid hBa
          have HG8 : Hid (wd.heap.size ≤ wa7.heap.size) := Lib.hid HSS.out.size
          have HSS := Lib.hid (HSS.out.trans hF)
          clear hBa hF ea
          refine hK.out _ _ (fun _ => HSS.out) ?_
          clear hK K
          simp only [Act.put, List.getElem_toArray, List.getElem_cons_zero, List.getElem_cons_succ, List.setIfInBounds_toArray, List.set_cons_zero, List.set_cons_succ]
          generalize hga8 : wa7.heap.size = ga8 at *
          have HE8 := Lib.hid hga8
          clear hga8
          refine wpAnyT_one (i := 11) (by kernel_rfl) rfl (fun K hK => ?_)
          rw [if_pos (by rfl)]
          have z7 := HA7.out.cell 0; have y7 := HA7.out.free 0
          simp only [List.getElem?_toArray, List.getElem?_cons_zero] at z7
          go_simp
          obtain ⟨ws7, es, hFs, hBs, hss⟩ := set_new HA7.out 0 (.int .u16 ((oneL (findL ls) ss r).1.toNat : Nat))
          rw [es]
          have HA7 := Lib.hid hBs
          have hne := NE.out
          have HA8 := Lib.hid (HA8.out.fr hFs (by simp; omega))
          have HO := Lib.hid (HO.out.fr hFs (fun x hx hm => by have h1 := HOL7.out x hx; simp at hm; omega))
          have HSS := Lib.hid (HSS.out.step hFs (fun x hx => .inr (by simp at hx; have := HG7.out; have := HE7.out; omega)))
          clear es hFs hBs hss z7 y7 hne
          refine hK.out _ _ (fun _ => HSS.out) ?_
          clear hK K
          simp only [Act.put, List.getElem_toArray, List.getElem_cons_zero, List.getElem_cons_succ, List.setIfInBounds_toArray, List.set_cons_zero, List.set_cons_succ]
          refine wpAnyT_one (i := 12) (by kernel_rfl) rfl (fun K hK => ?_)
          rw [if_pos (by rfl)]
          have z8 := HA8.out.cell 0; have y8 := HA8.out.free 0
          simp only [List.getElem?_toArray, List.getElem?_cons_zero] at z8
          go_simp
          obtain ⟨ws8, es, hFs, hBs, hss⟩ := set_new HA8.out 0 (.slice ao (oneL (findL ls) ss r).2.1.length co)
          rw [es]
          have HA8 := Lib.hid hBs
          have hne := NE.out
          have HA7 := Lib.hid (HA7.out.fr hFs (by simp; omega))
          have HO := Lib.hid (HO.out.fr hFs (fun x hx hm => by have h1 := HOL8.out x hx; simp at hm; omega))
          have HSS := Lib.hid (HSS.out.step hFs (fun x hx => .inr (by simp at hx; have := HG8.out; have := HE8.out; omega)))
          clear es hFs hBs hss z8 y8 hne
          refine hK.out _ _ (fun _ => HSS.out) ?_
          clear hK K
          simp only [Act.put, List.getElem_toArray, List.getElem_cons_zero, List.getElem_cons_succ, List.setIfInBounds_toArray, List.set_cons_zero, List.set_cons_succ]
          refine wpAnyT_load (i := 13) (v := ?_) rfl (by kernel_rfl) (by kernel_rfl) (by kernel_rfl) (by kernel_rfl) (by kernel_rfl) (fun _ _ _ h => h) HSS.out (by rfl) ?_ ?_
          rotate_left
          · intro w hSw; skip; go_simp; try with_reducible rfl
          simp only [Act.put, List.getElem_toArray, List.getElem_cons_zero, List.getElem_cons_succ, List.setIfInBounds_toArray, List.set_cons_zero, List.set_cons_succ]
          refine wpAnyT_done (by kernel_rfl) ?_ _
          go_wp2_with fail
          go_meet
          exact ⟨ga7, ga8, ao, co, rfl, rfl, rfl, HA7.out, HA8.out, HO.out.bytes, HWD.out.trans HSS.out⟩
        · rw [if_pos (by rfl)]
          go_simp
          have HOL8 : Hid (∀ x, blockOf (.slice ao (oneL (findL ls) ss r).2.1.length co) = some x → x ≠ won.heap.size) := Lib.hid (fun x hx => by have h1 := (HO.out.block x hx).2; omega)
          obtain ⟨wa8, ea, hF, hBa, -⟩ := one_new won #[.slice none 0 0] 25
          rw [ea]
          have HO := Lib.hid (HO.out.keep hF)
          have HA8 := Lib.hid hBa
          have HG8 : Hid (wd.heap.size ≤ won.heap.size) := Lib.hid HSS.out.size
          have HSS := Lib.hid (HSS.out.trans hF)
          clear hBa hF ea
          refine hK.out _ _ (fun _ => HSS.out) ?_
          clear hK K
          simp only [Act.put, List.getElem_toArray, List.getElem_cons_zero, List.getElem_cons_succ, List.setIfInBounds_toArray, List.set_cons_zero, List.set_cons_succ]
          generalize hga8 : won.heap.size = ga8 at *
          have HE8 := Lib.hid hga8
          clear hga8
          refine wpAnyT_one (i := 9) (by kernel_rfl) rfl (fun K hK => ?_)
          rw [if_pos (by rfl)]
          go_simp
          have NE : Hid (wa8.heap.size ≠ ga8) := Lib.hid (by have h1 := HA8.out.lt; omega)
          have HOL7 : Hid (∀ x, blockOf (.slice ao (oneL (findL ls) ss r).2.1.length co) = some x → x ≠ wa8.heap.size) := Lib.hid (fun x hx => by have h1 := (HO.out.block x hx).2; omega)
          obtain ⟨wa7, ea, hF, hBa, -⟩ := one_new wa8 #[.int .u16 0] 42
          rw [ea]
          have HO := Lib.hid (HO.out.keep hF)
          have HA8 := Lib.hid (HA8.out.keep hF)
          have HA7 := Lib.hid hBa
          have HG7 : Hid (wd.heap.size ≤ wa8.heap.size) := Lib.hid HSS.out.size
          have HSS := Lib.hid (HSS.out.trans hF)
          clear hBa hF ea
          refine hK.out _ _ (fun _ => HSS.out) ?_
          clear hK K
          simp only [Act.put, List.getElem_toArray, List.getElem_cons_zero, List.getElem_cons_succ, List.setIfInBounds_toArray, List.set_cons_zero, List.set_cons_succ]
          generalize hga7 : wa8.heap.size = ga7 at *
          have HE7 := Lib.hid hga7
          clear hga7
          refine wpAnyT_one (i := 11) (by kernel_rfl) rfl (fun K hK => ?_)
          rw [if_pos (by rfl)]
          have z7 := HA7.out.cell 0; have y7 := HA7.out.free 0
          simp only [List.getElem?_toArray, List.getElem?_cons_zero] at z7
          go_simp
          obtain ⟨ws7, es, hFs, hBs, hss⟩ := set_new HA7.out 0 (.int .u16 ((oneL (findL ls) ss r).1.toNat : Nat))
          rw [es]
          have HA7 := Lib.hid hBs
          have hne := NE.out
          have HA8 := Lib.hid (HA8.out.fr hFs (by simp; omega))
          have HO := Lib.hid (HO.out.fr hFs (fun x hx hm => by have h1 := HOL7.out x hx; simp at hm; omega))
          have HSS := Lib.hid (HSS.out.step hFs (fun x hx => .inr (by simp at hx; have := HG7.out; have := HE7.out; omega)))
          clear es hFs hBs hss z7 y7 hne
          refine hK.out _ _ (fun _ => HSS.out) ?_
          clear hK K
          simp only [Act.put, List.getElem_toArray, List.getElem_cons_zero, List.getElem_cons_succ, List.setIfInBounds_toArray, List.set_cons_zero, List.set_cons_succ]
          refine wpAnyT_one (i := 12) (by kernel_rfl) rfl (fun K hK => ?_)
          rw [if_pos (by rfl)]
          have z8 := HA8.out.cell 0; have y8 := HA8.out.free 0
          simp only [List.getElem?_toArray, List.getElem?_cons_zero] at z8
          go_simp
          obtain ⟨ws8, es, hFs, hBs, hss⟩ := set_new HA8.out 0 (.slice ao (oneL (findL ls) ss r).2.1.length co)
          rw [es]
          have HA8 := Lib.hid hBs
          have hne := NE.out
          have HA7 := Lib.hid (HA7.out.fr hFs (by simp; omega))
          have HO := Lib.hid (HO.out.fr hFs (fun x hx hm => by have h1 := HOL8.out x hx; simp at hm; omega))
          have HSS := Lib.hid (HSS.out.step hFs (fun x hx => .inr (by simp at hx; have := HG8.out; have := HE8.out; omega)))
          clear es hFs hBs hss z8 y8 hne
          refine hK.out _ _ (fun _ => HSS.out) ?_
          clear hK K
          simp only [Act.put, List.getElem_toArray, List.getElem_cons_zero, List.getElem_cons_succ, List.setIfInBounds_toArray, List.set_cons_zero, List.set_cons_succ]
          refine wpAnyT_load (i := 13) (v := ?_) rfl (by kernel_rfl) (by kernel_rfl) (by kernel_rfl) (by kernel_rfl) (by kernel_rfl) (fun _ _ _ h => h) HSS.out (by rfl) ?_ ?_
          rotate_left
          · intro w hSw; skip; go_simp; try with_reducible rfl
          simp only [Act.put, List.getElem_toArray, List.getElem_cons_zero, List.getElem_cons_succ, List.setIfInBounds_toArray, List.set_cons_zero, List.set_cons_succ]
          refine wpAnyT_done (by kernel_rfl) ?_ _
          go_wp2_with fail
          go_meet
          exact ⟨ga7, ga8, ao, co, rfl, rfl, rfl, HA7.out, HA8.out, HO.out.bytes, HWD.out.trans HSS.out⟩
      · rw [if_pos (by rfl)]
        go_simp
        obtain ⟨wa7, ea, hF, hBa, -⟩ := one_new wby #[.int .u16 0] 42
        rw [ea]
        have HK := Lib.hid (HK.out.keep hF)
        have HA7 := Lib.hid hBa
        have HG7 : Hid (wd.heap.size ≤ wby.heap.size) := Lib.hid HSS.out.size
        have HSS := Lib.hid (HSS.out.trans hF)
        clear hBa hF ea
        refine hK.out _ _ (fun _ => HSS.out) ?_
        clear hK K
        simp only [Act.put, List.getElem_toArray, List.getElem_cons_zero, List.getElem_cons_succ, List.setIfInBounds_toArray, List.set_cons_zero, List.set_cons_succ]
        generalize hga7 : wby.heap.size = ga7 at *
        have HE7 := Lib.hid hga7
        clear hga7
        refine wpAnyT_two (i := 4) (j := 10) (by kernel_rfl) rfl rfl (fun K hK => ?_) (fun K hK => ?_)
        · rw [if_pos (by rfl)]
          go_simp
          have HLT7 : Hid (ga7 < wa7.heap.size) := Lib.hid HA7.out.lt
          refine (svOne_own (r := r) ⟨_, rfl, Sl.keep HBD.out HSS.out⟩ HSM.out HK.out ss).mono ?_
          rintro e won ⟨von, rfl, hO, hF⟩
          have HA7 := Lib.hid (HA7.out.keep hF)
          have HSS := Lib.hid (HSS.out.trans hF)
          obtain ⟨ao, co, rfl⟩ := Sl.shape hO.bytes
          simp only [List.length_map] at hO ⊢
          have HOL7 : Hid (∀ x, blockOf (.slice ao (oneL (findL ls) ss r).2.1.length co) = some x → x ≠ ga7) := Lib.hid (fun x hx => by have h1 := (hO.block x hx).1; have := HLT7.out; omega)
          have HO := Lib.hid hO
          clear HK hO hF
          go_simp
          refine hK.out _ _ (fun _ => HSS.out) ?_
          clear hK K
          simp only [Act.put, List.getElem_toArray, List.getElem_cons_zero, List.getElem_cons_succ, List.setIfInBounds_toArray, List.set_cons_zero, List.set_cons_succ]
          refine wpAnyT_load (i := 5) (v := ?_) rfl (by kernel_rfl) (by kernel_rfl) (by kernel_rfl) (by kernel_rfl) (by kernel_rfl) (fun _ _ _ h => h) HSS.out (by rfl) ?_ ?_
          rotate_left
          · intro w hSw; skip; go_simp; try with_reducible rfl
          simp only [Act.put, List.getElem_toArray, List.getElem_cons_zero, List.getElem_cons_succ, List.setIfInBounds_toArray, List.set_cons_zero, List.set_cons_succ]
          refine wpAnyT_load (i := 6) (v := ?_) rfl (by kernel_rfl) (by kernel_rfl) (by kernel_rfl) (by kernel_rfl) (by kernel_rfl) (fun _ _ _ h => h) HSS.out (by rfl) ?_ ?_
          rotate_left
          · intro w hSw; skip; go_simp; try with_reducible rfl
          simp only [Act.put, List.getElem_toArray, List.getElem_cons_zero, List.getElem_cons_succ, List.setIfInBounds_toArray, List.set_cons_zero, List.set_cons_succ]
          refine wpAnyT_load (i := 7) (v := ?_) rfl (by kernel_rfl) (by kernel_rfl) (by kernel_rfl) (by kernel_rfl) (by kernel_rfl) (fun _ _ _ h => h) HSS.out (by rfl) ?_ ?_
          rotate_left
          · intro w hSw; skip; go_simp; try with_reducible rfl
          simp only [Act.put, List.getElem_toArray, List.getElem_cons_zero, List.getElem_cons_succ, List.setIfInBounds_toArray, List.set_cons_zero, List.set_cons_succ]
          refine wpAnyT_load (i := 8) (v := ?_) rfl (by kernel_rfl) (by kernel_rfl) (by kernel_rfl) (by kernel_rfl) (by kernel_rfl) (fun _ _ _ h => h) HSS.out (by rfl) ?_ ?_
          rotate_left
          · intro w hSw; skip; go_simp; try with_reducible rfl
          simp only [Act.put, List.getElem_toArray, List.getElem_cons_zero, List.getElem_cons_succ, List.setIfInBounds_toArray, List.set_cons_zero, List.set_cons_succ]
          refine wpAnyT_one (i := 10) (by kernel_rfl) rfl (fun K hK => ?_)
          rw [if_pos (by rfl)]
          go_simp
          have NE : Hid (won.heap.size ≠ ga7) := Lib.hid (by have h1 := HA7.out.lt; omega)
          have HOL8 : Hid (∀ x, blockOf (.slice ao (oneL (findL ls) ss r).2.1.length co) = some x → x ≠ won.heap.size) := Lib.hid (fun x hx => by have h1 := (HO.out.block x hx).2; omega)
          obtain ⟨wa8, ea, hF, hBa, -⟩ := one_new won #[.slice none 0 0] 25
          rw [ea]
          have HA7 := Lib.hid (HA7.out.keep hF)
          have HO := Lib.hid (HO.out.keep hF)
          have HA8 := Lib.hid hBa
          have HG8 : Hid (wd.heap.size ≤ won.heap.size) := Lib.hid HSS.out.size
          have HSS := Lib.hid (HSS.out.trans hF)
          clear hBa hF ea
          refine hK.out _ _ (fun _ => HSS.out) ?_
          clear hK K
          simp only [Act.put, List.getElem_toArray, List.getElem_cons_zero, List.getElem_cons_succ, List.setIfInBounds_toArray, List.set_cons_zero, List.set_cons_succ]
          generalize hga8 : won.heap.size = ga8 at *
          have HE8 := Lib.hid hga8
          clear hga8
          refine wpAnyT_one (i := 11) (by kernel_rfl) rfl (fun K hK => ?_)
          rw [if_pos (by rfl)]
          have z7 := HA7.out.cell 0; have y7 := HA7.out.free 0
          simp only [List.getElem?_toArray, List.getElem?_cons_zero] at z7
          go_simp
          obtain ⟨ws7, es, hFs, hBs, hss⟩ := set_new HA7.out 0 (.int .u16 ((oneL (findL ls) ss r).1.toNat : Nat))
          rw [es]
          have HA7 := Lib.hid hBs
          have hne := NE.out
          have HA8 := Lib.hid (HA8.out.fr hFs (by simp; omega))
          have HO := Lib.hid (HO.out.fr hFs (fun x hx hm => by have h1 := HOL7.out x hx; simp at hm; omega))
          have HSS := Lib.hid (HSS.out.step hFs (fun x hx => .inr (by simp at hx; have := HG7.out; have := HE7.out; omega)))
          clear es hFs hBs hss z7 y7 hne
          refine hK.out _ _ (fun _ => HSS.out) ?_
          clear hK K
          simp only [Act.put, List.getElem_toArray, List.getElem_cons_zero, List.getElem_cons_succ, List.setIfInBounds_toArray, List.set_cons_zero, List.set_cons_succ]
          refine wpAnyT_one (i := 12) (by kernel_rfl) rfl (fun K hK => ?_)
          rw [if_pos (by rfl)]
          have z8 := HA8.out.cell 0; have y8 := HA8.out.free 0
          simp only [List.getElem?_toArray, List.getElem?_cons_zero] at z8
          go_simp
          obtain ⟨ws8, es, hFs, hBs, hss⟩ := set_new HA8.out 0 (.slice ao (oneL (findL ls) ss r).2.1.length co)
          rw [es]
          have HA8 := Lib.hid hBs
          have hne := NE.out
          have HA7 := Lib.hid (HA7.out.fr hFs (by simp; omega))
          have HO := Lib.hid (HO.out.fr hFs (fun x hx hm => by have h1 := HOL8.out x hx; simp at hm; omega))
          have HSS := Lib.hid (HSS.out.step hFs (fun x hx => .inr (by simp at hx; have := HG8.out; have := HE8.out; omega)))
          clear es hFs hBs hss z8 y8 hne
          refine hK.out _ _ (fun _ => HSS.out) ?_
          clear hK K
          simp only [Act.put, List.getElem_toArray, List.getElem_cons_zero, List.getElem_cons_succ, List.setIfInBounds_toArray, List.set_cons_zero, List.set_cons_succ]
          refine wpAnyT_load (i := 13) (v := ?_) rfl (by kernel_rfl) (by kernel_rfl) (by kernel_rfl) (by kernel_rfl) (by kernel_rfl) (fun _ _ _ h => h) HSS.out (by rfl) ?_ ?_
          rotate_left
          · intro w hSw; skip; go_simp; try with_reducible rfl
          simp only [Act.put, List.getElem_toArray, List.getElem_cons_zero, List.getElem_cons_succ, List.setIfInBounds_toArray, List.set_cons_zero, List.set_cons_succ]
          refine wpAnyT_done (by kernel_rfl) ?_ _
          go_wp2_with fail
          go_meet
          exact ⟨ga7, ga8, ao, co, rfl, rfl, rfl, HA7.out, HA8.out, HO.out.bytes, HWD.out.trans HSS.out⟩
        · rw [if_pos (by rfl)]
          go_simp
          have NE : Hid (wa7.heap.size ≠ ga7) := Lib.hid (by have h1 := HA7.out.lt; omega)
          obtain ⟨wa8, ea, hF, hBa, -⟩ := one_new wa7 #[.slice none 0 0] 25
          rw [ea]
          have HK := Lib.hid (HK.out.keep hF)
          have HA7 := Lib.hid (HA7.out.keep hF)
          have HA8 := Lib.hid hBa
          have HG8 : Hid (wd.heap.size ≤ wa7.heap.size) := Lib.hid HSS.out.size
          have HSS := Lib.hid (HSS.out.trans hF)
          clear hBa hF ea
          refine hK.out _ _ (fun _ => HSS.out) ?_
          clear hK K
          simp only [Act.put, List.getElem_toArray, List.getElem_cons_zero, List.getElem_cons_succ, List.setIfInBounds_toArray, List.set_cons_zero, List.set_cons_succ]
          generalize hga8 : wa7.heap.size = ga8 at *
          have HE8 := Lib.hid hga8
          clear hga8
          refine wpAnyT_one (i := 4) (by kernel_rfl) rfl (fun K hK => ?_)
          rw [if_pos (by rfl)]
          go_simp
          have HLT7 : Hid (ga7 < wa8.heap.size) := Lib.hid HA7.out.lt
          have HLT8 : Hid (ga8 < wa8.heap.size) := Lib.hid HA8.out.lt
          refine (svOne_own (r := r) ⟨_, rfl, Sl.keep HBD.out HSS.out⟩ HSM.out HK.out ss).mono ?_
          rintro e won ⟨von, rfl, hO, hF⟩
          have HA7 := Lib.hid (HA7.out.keep hF)
          have HA8 := Lib.hid (HA8.out.keep hF)
          have HSS := Lib.hid (HSS.out.trans hF)
          obtain ⟨ao, co, rfl⟩ := Sl.shape hO.bytes
          simp only [List.length_map] at hO ⊢
          have HOL7 : Hid (∀ x, blockOf (.slice ao (oneL (findL ls) ss r).2.1.length co) = some x → x ≠ ga7) := Lib.hid (fun x hx => by have h1 := (hO.block x hx).1; have := HLT7.out; omega)
          have HOL8 : Hid (∀ x, blockOf (.slice ao (oneL (findL ls) ss r).2.1.length co) = some x → x ≠ ga8) := Lib.hid (fun x hx => by have h1 := (hO.block x hx).1; have := HLT8.out; omega)
          have HO := Lib.hid hO
          clear HK hO hF
          go_simp
          refine hK.out _ _ (fun _ => HSS.out) ?_
          clear hK K
          simp only [Act.put, List.getElem_toArray, List.getElem_cons_zero, List.getElem_cons_succ, List.setIfInBounds_toArray, List.set_cons_zero, List.set_cons_succ]
          refine wpAnyT_load (i := 5) (v := ?_) rfl (by kernel_rfl) (by kernel_rfl) (by kernel_rfl) (by kernel_rfl) (by kernel_rfl) (fun _ _ _ h => h) HSS.out (by rfl) ?_ ?_
          rotate_left
          · intro w hSw; skip; go_simp; try with_reducible rfl
          simp only [Act.put, List.getElem_toArray, List.getElem_cons_zero, List.getElem_cons_succ, List.setIfInBounds_toArray, List.set_cons_zero, List.set_cons_succ]
          refine wpAnyT_load (i := 6) (v := ?_) rfl (by kernel_rfl) (by kernel_rfl) (by kernel_rfl) (by kernel_rfl) (by kernel_rfl) (fun _ _ _ h => h) HSS.out (by rfl) ?_ ?_
          rotate_left
          · intro w hSw; skip; go_simp; try with_reducible rfl
          simp only [Act.put, List.getElem_toArray, List.getElem_cons_zero, List.getElem_cons_succ, List.setIfInBounds_toArray, List.set_cons_zero, List.set_cons_succ]
          refine wpAnyT_load (i := 7) (v := ?_) rfl (by kernel_rfl) (by kernel_rfl) (by kernel_rfl) (by kernel_rfl) (by kernel_rfl) (fun _ _ _ h => h) HSS.out (by rfl) ?_ ?_
          rotate_left
          · intro w hSw; skip; go_simp; try with_reducible rfl
          simp only [Act.put, List.getElem_toArray, List.getElem_cons_zero, List.getElem_cons_succ, List.setIfInBounds_toArray, List.set_cons_zero, List.set_cons_succ]
          refine wpAnyT_load (i := 8) (v := ?_) rfl (by kernel_rfl) (by kernel_rfl) (by kernel_rfl) (by kernel_rfl) (by kernel_rfl) (fun _ _ _ h => h) HSS.out (by rfl) ?_ ?_
          rotate_left
          · intro w hSw; skip; go_simp; try with_reducible rfl
          simp only [Act.put, List.getElem_toArray, List.getElem_cons_zero, List.getElem_cons_succ, List.setIfInBounds_toArray, List.set_cons_zero, List.set_cons_succ]
          refine wpAnyT_one (i := 11) (by kernel_rfl) rfl (fun K hK => ?_)
          rw [if_pos (by rfl)]
          have z7 := HA7.out.cell 0; have y7 := HA7.out.free 0
          simp only [List.getElem?_toArray, List.getElem?_cons_zero] at z7
          go_simp
          obtain ⟨ws7, es, hFs, hBs, hss⟩ := set_new HA7.out 0 (.int .u16 ((oneL (findL ls) ss r).1.toNat : Nat))
          rw [es]
          have HA7 := Lib.hid hBs
          have hne := NE.out
          have HA8 := Lib.hid (HA8.out.fr hFs (by simp; omega))
          have HO := Lib.hid (HO.out.fr hFs (fun x hx hm => by have h1 := HOL7.out x hx; simp at hm; omega))
          have HSS := Lib.hid (HSS.out.step hFs (fun x hx => .inr (by simp at hx; have := HG7.out; have := HE7.out; omega)))
          clear es hFs hBs hss z7 y7 hne
          refine hK.out _ _ (fun _ => HSS.out) ?_
          clear hK K
          simp only [Act.put, List.getElem_toArray, List.getElem_cons_zero, List.getElem_cons_succ, List.setIfInBounds_toArray, List.set_cons_zero, List.set_cons_succ]
          refine wpAnyT_one (i := 12) (by kernel_rfl) rfl (fun K hK => ?_)
          rw [if_pos (by rfl)]
          have z8 := HA8.out.cell 0; have y8 := HA8.out.free 0
          simp only [List.getElem?_toArray, List.getElem?_cons_zero] at z8
          go_simp
          obtain ⟨ws8, es, hFs, hBs, hss⟩ := set_new HA8.out 0 (.slice ao (oneL (findL ls) ss r).2.1.length co)
          rw [es]
          have HA8 := Lib.hid hBs
          have hne := NE.out
          have HA7 := Lib.hid (HA7.out.fr hFs (by simp; omega))
          have HO := Lib.hid (HO.out.fr hFs (fun x hx hm => by have h1 := HOL8.out x hx; simp at hm; omega))
          have HSS := Lib.hid (HSS.out.step hFs (fun x hx => .inr (by simp at hx; have := HG8.out; have := HE8.out; omega)))
          clear es hFs hBs hss z8 y8 hne
          refine hK.out _ _ (fun _ => HSS.out) ?_
          clear hK K
          simp only [Act.put, List.getElem_toArray, List.getElem_cons_zero, List.getElem_cons_succ, List.setIfInBounds_toArray, List.set_cons_zero, List.set_cons_succ]
          refine wpAnyT_load (i := 13) (v := ?_) rfl (by kernel_rfl) (by kernel_rfl) (by kernel_rfl) (by kernel_rfl) (by kernel_rfl) (fun _ _ _ h => h) HSS.out (by rfl) ?_ ?_
          rotate_left
          · intro w hSw; skip; go_simp; try with_reducible rfl
          simp only [Act.put, List.getElem_toArray, List.getElem_cons_zero, List.getElem_cons_succ, List.setIfInBounds_toArray, List.set_cons_zero, List.set_cons_succ]
          refine wpAnyT_done (by kernel_rfl) ?_ _
          go_wp2_with fail
          go_meet
          exact ⟨ga7, ga8, ao, co, rfl, rfl, rfl, HA7.out, HA8.out, HO.out.bytes, HWD.out.trans HSS.out⟩
      · rw [if_pos (by rfl)]
        go_simp
        obtain ⟨wa8, ea, hF, hBa, -⟩ := one_new wby #[.slice none 0 0] 25
        rw [ea]
        have HK := Lib.hid (HK.out.keep hF)
        have HA8 := Lib.hid hBa
        have HG8 : Hid (wd.heap.size ≤ wby.heap.size) := Lib.hid HSS.out.size
        have HSS := Lib.hid (HSS.out.trans hF)
        clear hBa hF ea
        refine hK.out _ _ (fun _ => HSS.out) ?_
        clear hK K
        simp only [Act.put, List.getElem_toArray, List.getElem_cons_zero, List.getElem_cons_succ, List.setIfInBounds_toArray, List.set_cons_zero, List.set_cons_succ]
        generalize hga8 : wby.heap.size = ga8 at *
        have HE8 := Lib.hid hga8
        clear hga8
        refine wpAnyT_two (i := 4) (j := 9) (by kernel_rfl) rfl rfl (fun K hK => ?_) (fun K hK => ?_)
        · rw [if_pos (by rfl)]
          go_simp
          have HLT8 : Hid (ga8 < wa8.heap.size) := Lib.hid HA8.out.lt
          refine (svOne_own (r := r) ⟨_, rfl, Sl.keep HBD.out HSS.out⟩ HSM.out HK.out ss).mono ?_
          rintro e won ⟨von, rfl, hO, hF⟩
          have HA8 := Lib.hid (HA8.out.keep hF)
          have HSS := Lib.hid (HSS.out.trans hF)
          obtain ⟨ao, co, rfl⟩ := Sl.shape hO.bytes
          simp only [List.length_map] at hO ⊢
          have HOL8 : Hid (∀ x, blockOf (.slice ao (oneL (findL ls) ss r).2.1.length co) = some x → x ≠ ga8) := Lib.hid (fun x hx => by have h1 := (hO.block x hx).1; have := HLT8.out; omega)
          have HO := Lib.hid hO
          clear HK hO hF
          go_simp
          refine hK.out _ _ (fun _ => HSS.out) ?_
          clear hK K
          simp only [Act.put, List.getElem_toArray, List.getElem_cons_zero, List.getElem_cons_succ, List.setIfInBounds_toArray, List.set_cons_zero, List.set_cons_succ]
          refine wpAnyT_load (i := 5) (v := ?_) rfl (by kernel_rfl) (by kernel_rfl) (by kernel_rfl) (by kernel_rfl) (by kernel_rfl) (fun _ _ _ h => h) HSS.out (by rfl) ?_ ?_
          rotate_left
          · intro w hSw; skip; go_simp; try with_reducible rfl
          simp only [Act.put, List.getElem_toArray, List.getElem_cons_zero, List.getElem_cons_succ, List.setIfInBounds_toArray, List.set_cons_zero, List.set_cons_succ]
          refine wpAnyT_load (i := 6) (v := ?_) rfl (by kernel_rfl) (by kernel_rfl) (by kernel_rfl) (by kernel_rfl) (by kernel_rfl) (fun _ _ _ h => h) HSS.out (by rfl) ?_ ?_
          rotate_left
          · intro w hSw; skip; go_simp; try with_reducible rfl
          simp only [Act.put, List.getElem_toArray, List.getElem_cons_zero, List.getElem_cons_succ, List.setIfInBounds_toArray, List.set_cons_zero, List.set_cons_succ]
          refine wpAnyT_load (i := 7) (v := ?_) rfl (by kernel_rfl) (by kernel_rfl) (by kernel_rfl) (by kernel_rfl) (by kernel_rfl) (fun _ _ _ h => h) HSS.out (by rfl) ?_ ?_
          rotate_left
          · intro w hSw; skip; go_simp; try with_reducible rfl
          simp only [Act.put, List.getElem_toArray, List.getElem_cons_zero, List.getElem_cons_succ, List.setIfInBounds_toArray, List.set_cons_zero, List.set_cons_succ]
          refine wpAnyT_load (i := 8) (v := ?_) rfl (by kernel_rfl) (by kernel_rfl) (by kernel_rfl) (by kernel_rfl) (by kernel_rfl) (fun _ _ _ h => h) HSS.out (by rfl) ?_ ?_
          rotate_left
          · intro w hSw; skip; go_simp; try with_reducible rfl
          simp only [Act.put, List.getElem_toArray, List.getElem_cons_zero, List.getElem_cons_succ, List.setIfInBounds_toArray, List.set_cons_zero, List.set_cons_succ]
          refine wpAnyT_one (i := 9) (by kernel_rfl) rfl (fun K hK => ?_)
          rw [if_pos (by rfl)]
          go_simp
          have NE : Hid (won.heap.size ≠ ga8) := Lib.hid (by have h1 := HA8.out.lt; omega)
          have HOL7 : Hid (∀ x, blockOf (.slice ao (oneL (findL ls) ss r).2.1.length co) = some x → x ≠ won.heap.size) := Lib.hid (fun x hx => by have h1 := (HO.out.block x hx).2; omega)
          obtain ⟨wa7, ea, hF, hBa, -⟩ := one_new won #[.int .u16 0] 42
          rw [ea]
          have HA8 := Lib.hid (HA8.out.keep hF)
          have HO := Lib.hid (HO.out.keep hF)
          have HA7 := Lib.hid hBa
          have HG7 : Hid (wd.heap.size ≤ won.heap.size) := Lib.hid HSS.out.size
          have HSS := Lib.hid (HSS.out.trans hF)
          clear hBa hF ea
          refine hK.out _ _ (fun _ => HSS.out) ?_
          clear hK K
          simp only [Act.put, List.getElem_toArray, List.getElem_cons_zero, List.getElem_cons_succ, List.setIfInBounds_toArray, List.set_cons_zero, List.set_cons_succ]
          generalize hga7 : won.heap.size = ga7 at *
          have HE7 := Lib.hid hga7
          clear hga7
          refine wpAnyT_one (i := 11) (by kernel_rfl) rfl (fun K hK => ?_)
          rw [if_pos (by rfl)]
          have z7 := HA7.out.cell 0; have y7 := HA7.out.free 0
          simp only [List.getElem?_toArray, List.getElem?_cons_zero] at z7
          go_simp
          obtain ⟨ws7, es, hFs, hBs, hss⟩ := set_new HA7.out 0 (.int .u16 ((oneL (findL ls) ss r).1.toNat : Nat))
          rw [es]
          have HA7 := Lib.hid hBs
          have hne := NE.out
          have HA8 := Lib.hid (HA8.out.fr hFs (by simp; omega))
          have HO := Lib.hid (HO.out.fr hFs (fun x hx hm => by have h1 := HOL7.out x hx; simp at hm; omega))
          have HSS := Lib.hid (HSS.out.step hFs (fun x hx => .inr (by simp at hx; have := HG7.out; have := HE7.out; omega)))
          clear es hFs hBs hss z7 y7 hne
          refine hK.out _ _ (fun _ => HSS.out) ?_
          clear hK K
          simp only [Act.put, List.getElem_toArray, List.getElem_cons_zero, List.getElem_cons_succ, List.setIfInBounds_toArray, List.set_cons_zero, List.set_cons_succ]
          refine wpAnyT_one (i := 12) (by kernel_rfl) rfl (fun K hK => ?_)
          rw [if_pos (by rfl)]
          have z8 := HA8.out.cell 0; have y8 := HA8.out.free 0
          simp only [List.getElem?_toArray, List.getElem?_cons_zero] at z8
          go_simp
          obtain ⟨ws8, es, hFs, hBs, hss⟩ := set_new HA8.out 0 (.slice ao (oneL (findL ls) ss r).2.1.length co)
          rw [es]
          have HA8 := Lib.hid hBs
          have hne := NE.out
          have HA7 := Lib.hid (HA7.out.fr hFs (by simp; omega))
          have HO := Lib.hid (HO.out.fr hFs (fun x hx hm => by have h1 := HOL8.out x hx; simp at hm; omega))
          have HSS := Lib.hid (HSS.out.step hFs (fun x hx => .inr (by simp at hx; have := HG8.out; have := HE8.out; omega)))
          clear es hFs hBs hss z8 y8 hne
          refine hK.out _ _ (fun _ => HSS.out) ?_
          clear hK K
          simp only [Act.put, List.getElem_toArray, List.getElem_cons_zero, List.getElem_cons_succ, List.setIfInBounds_toArray, List.set_cons_zero, List.set_cons_succ]
          refine wpAnyT_load (i := 13) (v := ?_) rfl (by kernel_rfl) (by kernel_rfl) (by kernel_rfl) (by kernel_rfl) (by kernel_rfl) (fun _ _ _ h => h) HSS.out (by rfl) ?_ ?_
          rotate_left
          · intro w hSw; skip; go_simp; try with_reducible rfl
          simp only [Act.put, List.getElem_toArray, List.getElem_cons_zero, List.getElem_cons_succ, List.setIfInBounds_toArray, List.set_cons_zero, List.set_cons_succ]
          refine wpAnyT_done (by kernel_rfl) ?_ _
          go_wp2_with fail
          go_meet
          exact ⟨ga7, ga8, ao, co, rfl, rfl, rfl, HA7.out, HA8.out, HO.out.bytes, HWD.out.trans HSS.out⟩
        · rw [if_pos (by rfl)]
          go_simp
          have NE : Hid (wa8.heap.size ≠ ga8) := Lib.hid (by have h1 := HA8.out.lt; omega)
          obtain ⟨wa7, ea, hF, hBa, -⟩ := one_new wa8 #[.int .u16 0] 42
          rw [ea]
          have HK := Lib.hid (HK.out.keep hF)
          have HA8 := Lib.hid (HA8.out.keep hF)
          have HA7 := Lib.hid hBa
          have HG7 : Hid (wd.heap.size ≤ wa8.heap.size) := Lib.hid HSS.out.size
          have HSS := Lib.hid (HSS.out.trans hF)
          clear hBa hF ea
          refine hK.out _ _ (fun _ => HSS.out) ?_
          clear hK K
          simp only [Act.put, List.getElem_toArray, List.getElem_cons_zero, List.getElem_cons_succ, List.setIfInBounds_toArray, List.set_cons_zero, List.set_cons_succ]
          generalize hga7 : wa8.heap.size = ga7 at *
          have HE7 := Lib.hid hga7
          clear hga7
          refine wpAnyT_one (i := 4) (by kernel_rfl) rfl (fun K hK => ?_)
          rw [if_pos (by rfl)]
          go_simp
          have HLT8 : Hid (ga8 < wa7.heap.size) := Lib.hid HA8.out.lt
          have HLT7 : Hid (ga7 < wa7.heap.size) := Lib.hid HA7.out.lt
          refine (svOne_own (r := r) ⟨_, rfl, Sl.keep HBD.out HSS.out⟩ HSM.out HK.out ss).mono ?_
          rintro e won ⟨von, rfl, hO, hF⟩
          have HA8 := Lib.hid (HA8.out.keep hF)
          have HA7 := Lib.hid (HA7.out.keep hF)
          have HSS := Lib.hid (HSS.out.trans hF)
          obtain ⟨ao, co, rfl⟩ := Sl.shape hO.bytes
          simp only [List.length_map] at hO ⊢
          have HOL8 : Hid (∀ x, blockOf (.slice ao (oneL (findL ls) ss r).2.1.length co) = some x → x ≠ ga8) := Lib.hid (fun x hx => by have h1 := (hO.block x hx).1; have := HLT8.out; omega)
          have HOL7 : Hid (∀ x, blockOf (.slice ao (oneL (findL ls) ss r).2.1.length co) = some x → x ≠ ga7) := Lib.hid (fun x hx => by have h1 := (hO.block x hx).1; have := HLT7.out; omega)
          have HO := Lib.hid hO
          clear HK hO hF
          go_simp
          refine hK.out _ _ (fun _ => HSS.out) ?_
          clear hK K
          simp only [Act.put, List.getElem_toArray, List.getElem_cons_zero, List.getElem_cons_succ, List.setIfInBounds_toArray, List.set_cons_zero, List.set_cons_succ]
          refine wpAnyT_load (i := 5) (v := ?_) rfl (by kernel_rfl) (by kernel_rfl) (by kernel_rfl) (by kernel_rfl) (by kernel_rfl) (fun _ _ _ h => h) HSS.out (by rfl) ?_ ?_
          rotate_left
          · intro w hSw; skip; go_simp; try with_reducible rfl
          simp only [Act.put, List.getElem_toArray, List.getElem_cons_zero, List.getElem_cons_succ, List.setIfInBounds_toArray, List.set_cons_zero, List.set_cons_succ]
          refine wpAnyT_load (i := 6) (v := ?_) rfl (by kernel_rfl) (by kernel_rfl) (by kernel_rfl) (by kernel_rfl) (by kernel_rfl) (fun _ _ _ h => h) HSS.out (by rfl) ?_ ?_
          rotate_left
          · intro w hSw; skip; go_simp; try with_reducible rfl
          simp only [Act.put, List.getElem_toArray, List.getElem_cons_zero, List.getElem_cons_succ, List.setIfInBounds_toArray, List.set_cons_zero, List.set_cons_succ]
          refine wpAnyT_load (i := 7) (v := ?_) rfl (by kernel_rfl) (by kernel_rfl) (by kernel_rfl) (by kernel_rfl) (by kernel_rfl) (fun _ _ _ h => h) HSS.out (by rfl) ?_ ?_
          rotate_left
          · intro w hSw; skip; go_simp; try with_reducible rfl
          simp only [Act.put, List.getElem_toArray, List.getElem_cons_zero, List.getElem_cons_succ, List.setIfInBounds_toArray, List.set_cons_zero, List.set_cons_succ]
          refine wpAnyT_load (i := 8) (v := ?_) rfl (by kernel_rfl) (by kernel_rfl) (by kernel_rfl) (by kernel_rfl) (by kernel_rfl) (fun _ _ _ h => h) HSS.out (by rfl) ?_ ?_
          rotate_left
          · intro w hSw; skip; go_simp; try with_reducible rfl
          simp only [Act.put, List.getElem_toArray, List.getElem_cons_zero, List.getElem_cons_succ, List.setIfInBounds_toArray, List.set_cons_zero, List.set_cons_succ]
          refine wpAnyT_one (i := 11) (by kernel_rfl) rfl (fun K hK => ?_)
          rw [if_pos (by rfl)]
          have z7 := HA7.out.cell 0; have y7 := HA7.out.free 0
          simp only [List.getElem?_toArray, List.getElem?_cons_zero] at z7
          go_simp
          obtain ⟨ws7, es, hFs, hBs, hss⟩ := set_new HA7.out 0 (.int .u16 ((oneL (findL ls) ss r).1.toNat : Nat))
          rw [es]
          have HA7 := Lib.hid hBs
          have hne := NE.out
          have HA8 := Lib.hid (HA8.out.fr hFs (by simp; omega))
          have HO := Lib.hid (HO.out.fr hFs (fun x hx hm => by have h1 := HOL7.out x hx; simp at hm; omega))
          have HSS := Lib.hid (HSS.out.step hFs (fun x hx => .inr (by simp at hx; have := HG7.out; have := HE7.out; omega)))
          clear es hFs hBs hss z7 y7 hne
          refine hK.out _ _ (fun _ => HSS.out) ?_
          clear hK K
          simp only [Act.put, List.getElem_toArray, List.getElem_cons_zero, List.getElem_cons_succ, List.setIfInBounds_toArray, List.set_cons_zero, List.set_cons_succ]
          refine wpAnyT_one (i := 12) (by kernel_rfl) rfl (fun K hK => ?_)
          rw [if_pos (by rfl)]
          have z8 := HA8.out.cell 0; have y8 := HA8.out.free 0
          simp only [List.getElem?_toArray, List.getElem?_cons_zero] at z8
          go_simp
          obtain ⟨ws8, es, hFs, hBs, hss⟩ := set_new HA8.out 0 (.slice ao (oneL (findL ls) ss r).2.1.length co)
          rw [es]
          have HA8 := Lib.hid hBs
          have hne := NE.out
          have HA7 := Lib.hid (HA7.out.fr hFs (by simp; omega))
          have HO := Lib.hid (HO.out.fr hFs (fun x hx hm => by have h1 := HOL8.out x hx; simp at hm; omega))
          have HSS := Lib.hid (HSS.out.step hFs (fun x hx => .inr (by simp at hx; have := HG8.out; have := HE8.out; omega)))
          clear es hFs hBs hss z8 y8 hne
          refine hK.out _ _ (fun _ => HSS.out) ?_
          clear hK K
          simp only [Act.put, List.getElem_toArray, List.getElem_cons_zero, List.getElem_cons_succ, List.setIfInBounds_toArray, List.set_cons_zero, List.set_cons_succ]
          refine wpAnyT_load (i := 13) (v := ?_) rfl (by kernel_rfl) (by kernel_rfl) (by kernel_rfl) (by kernel_rfl) (by kernel_rfl) (fun _ _ _ h => h) HSS.out (by rfl) ?_ ?_
          rotate_left
          · intro w hSw; skip; go_simp; try with_reducible rfl
          simp only [Act.put, List.getElem_toArray, List.getElem_cons_zero, List.getElem_cons_succ, List.setIfInBounds_toArray, List.set_cons_zero, List.set_cons_succ]
          refine wpAnyT_done (by kernel_rfl) ?_ _
          go_wp2_with fail
          go_meet
          exact ⟨ga7, ga8, ao, co, rfl, rfl, rfl, HA7.out, HA8.out, HO.out.bytes, HWD.out.trans HSS.out⟩
    · rw [if_pos (by rfl)]
      go_simp
      obtain ⟨wa7, ea, hF, hBa, -⟩ := one_new wd #[.int .u16 0] 42
      rw [ea]
      have HA7 := Lib.hid hBa
      have HG7 : Hid (wd.heap.size ≤ wd.heap.size) := Lib.hid HSS.out.size
      have HSS := Lib.hid (HSS.out.trans hF)
      clear hBa hF ea
      refine hK.out _ _ (fun _ => HSS.out) ?_
      clear hK K
      simp only [Act.put, List.getElem_toArray, List.getElem_cons_zero, List.getElem_cons_succ, List.setIfInBounds_toArray, List.set_cons_zero, List.set_cons_succ]
      generalize hga7 : wd.heap.size = ga7 at *
      have HE7 := Lib.hid hga7
      clear hga7
      refine wpAnyT_two (i := 3) (j := 10) (by kernel_rfl) rfl rfl (fun K hK => ?_) (fun K hK => ?_)
      · rw [if_pos (by rfl)]
        go_simp
        refine (l14by_any (HB.out.keep HSS.out)).mono ?_
        rintro e wby ⟨gk, rfl, hk, hF⟩
        have HA7 := Lib.hid (HA7.out.keep hF)
        have HK := Lib.hid hk
        have HSS := Lib.hid (HSS.out.trans hF)
        clear hk hF
        go_simp
        refine hK.out _ _ (fun _ => HSS.out) ?_
        clear hK K
        simp only [Act.put, List.getElem_toArray, List.getElem_cons_zero, List.getElem_cons_succ, List.setIfInBounds_toArray, List.set_cons_zero, List.set_cons_succ]
        refine wpAnyT_two (i := 4) (j := 10) (by kernel_rfl) rfl rfl (fun K hK => ?_) (fun K hK => ?_)
        · rw [if_pos (by rfl)]
          go_simp
          have HLT7 : Hid (ga7 < wby.heap.size) := Lib.hid HA7.out.lt
          refine (svOne_own (r := r) ⟨_, rfl, Sl.keep HBD.out HSS.out⟩ HSM.out HK.out ss).mono ?_
          rintro e won ⟨von, rfl, hO, hF⟩
          have HA7 := Lib.hid (HA7.out.keep hF)
          have HSS := Lib.hid (HSS.out.trans hF)
          obtain ⟨ao, co, rfl⟩ := Sl.shape hO.bytes
          simp only [List.length_map] at hO ⊢
          have HOL7 : Hid (∀ x, blockOf (.slice ao (oneL (findL ls) ss r).2.1.length co) = some x → x ≠ ga7) := Lib.hid (fun x hx => by have h1 := (hO.block x hx).1; have := HLT7.out; omega)
          have HO := Lib.hid hO
          clear HK hO hF
          go_simp
          refine hK.out _ _ (fun _ => HSS.out) ?_
          clear hK K
          simp only [Act.put, List.getElem_toArray, List.getElem_cons_zero, List.getElem_cons_succ, List.setIfInBounds_toArray, List.set_cons_zero, List.set_cons_succ]
          refine wpAnyT_load (i := 5) (v := ?_) rfl (by kernel_rfl) (by kernel_rfl) (by kernel_rfl) (by kernel_rfl) (by kernel_rfl) (fun _ _ _ h => h) HSS.out (by rfl) ?_ ?_
          rotate_left
          · intro w hSw; skip; go_simp; try with_reducible rfl
          simp only [Act.put, List.getElem_toArray, List.getElem_cons_zero, List.getElem_cons_succ, List.setIfInBounds_toArray, List.set_cons_zero, List.set_cons_succ]
          refine wpAnyT_load (i := 6) (v := ?_) rfl (by kernel_rfl) (by kernel_rfl) (by kernel_rfl) (by kernel_rfl) (by kernel_rfl) (fun _ _ _ h => h) HSS.out (by rfl) ?_ ?_
          rotate_left
          · intro w hSw; skip; go_simp; try with_reducible rfl
          simp only [Act.put, List.getElem_toArray, List.getElem_cons_zero, List.getElem_cons_succ, List.setIfInBounds_toArray, List.set_cons_zero, List.set_cons_succ]
          refine wpAnyT_load (i := 7) (v := ?_) rfl (by kernel_rfl) (by kernel_rfl) (by kernel_rfl) (by kernel_rfl) (by kernel_rfl) (fun _ _ _ h => h) HSS.out (by rfl) ?_ ?_
          rotate_left
          · intro w hSw; skip; go_simp; try with_reducible rfl
          simp only [Act.put, List.getElem_toArray, List.getElem_cons_zero, List.getElem_cons_succ, List.setIfInBounds_toArray, List.set_cons_zero, List.set_cons_succ]
          refine wpAnyT_load (i := 8) (v := ?_) rfl (by kernel_rfl) (by kernel_rfl) (by kernel_rfl) (by kernel_rfl) (by kernel_rfl) (fun _ _ _ h => h) HSS.out (by rfl) ?_ ?_
          rotate_left
          · intro w hSw; skip; go_simp; try with_reducible rfl
          simp only [Act.put, List.getElem_toArray, List.getElem_cons_zero, List.getElem_cons_succ, List.setIfInBounds_toArray, List.set_cons_zero, List.set_cons_succ]
          refine wpAnyT_one (i := 10) (by kernel_rfl) rfl (fun K hK => ?_)
          rw [if_pos (by rfl)]
          go_simp
          have NE : Hid (won.heap.size ≠ ga7) := Lib.hid (by have h1 := HA7.out.lt; omega)
          have HOL8 : Hid (∀ x, blockOf (.slice ao (oneL (findL ls) ss r).2.1.length co) = some x → x ≠ won.heap.size) := Lib.hid (fun x hx => by have h1 := (HO.out.block x hx).2; omega)
          obtain ⟨wa8, ea, hF, hBa, -⟩ := one_new won #[.slice none 0 0] 25
          rw [ea]
          have HA7 := Lib.hid (HA7.out.keep hF)
          have HO := Lib.hid (HO.out.keep hF)
          have HA8 := Lib.hid hBa
          have HG8 : Hid (wd.heap.size ≤ won.heap.size) := Lib.hid HSS.out.size
          have HSS := Lib.hid (HSS.out.trans hF)
          clear hBa hF ea
          refine hK.out _ _ (fun _ => HSS.out) ?_
          clear hK K
          simp only [Act.put, List.getElem_toArray, List.getElem_cons_zero, List.getElem_cons_succ, List.setIfInBounds_toArray, List.set_cons_zero, List.set_cons_succ]
          generalize hga8 : won.heap.size = ga8 at *
          have HE8 := Lib.hid hga8
          clear hga8
          refine wpAnyT_one (i := 11) (by kernel_rfl) rfl (fun K hK => ?_)
          rw [if_pos (by rfl)]
          have z7 := HA7.out.cell 0; have y7 := HA7.out.free 0
          simp only [List.getElem?_toArray, List.getElem?_cons_zero] at z7
          go_simp
          obtain ⟨ws7, es, hFs, hBs, hss⟩ := set_new HA7.out 0 (.int .u16 ((oneL (findL ls) ss r).1.toNat : Nat))
          rw [es]
          have HA7 := Lib.hid hBs
          have hne := NE.out
          have HA8 := Lib.hid (HA8.out.fr hFs (by simp; omega))
          have HO := Lib.hid (HO.out.fr hFs (fun x hx hm => by have h1 := HOL7.out x hx; simp at hm; omega))
          have HSS := Lib.hid (HSS.out.step hFs (fun x hx => .inr (by simp at hx; have := HG7.out; have := HE7.out; omega)))
          clear es hFs hBs hss z7 y7 hne
          refine hK.out _ _ (fun _ => HSS.out) ?_
          clear hK K
          simp only [Act.put, List.getElem_toArray, List.getElem_cons_zero, List.getElem_cons_succ, List.setIfInBounds_toArray, List.set_cons_zero, List.set_cons_succ]
          refine wpAnyT_one (i := 12) (by kernel_rfl) rfl (fun K hK => ?_)
          rw [if_pos (by rfl)]
          have z8 := HA8.out.cell 0; have y8 := HA8.out.free 0
          simp only [List.getElem?_toArray, List.getElem?_cons_zero] at z8
          go_simp
          obtain ⟨ws8, es, hFs, hBs, hss⟩ := set_new HA8.out 0 (.slice ao (oneL (findL ls) ss r).2.1.length co)
          rw [es]
          have HA8 := Lib.hid hBs
          have hne := NE.out
          have HA7 := Lib.hid (HA7.out.fr hFs (by simp; omega))
          have HO := Lib.hid (HO.out.fr hFs (fun x hx hm => by have h1 := HOL8.out x hx; simp at hm; omega))
          have HSS := Lib.hid (HSS.out.step hFs (fun x hx => .inr (by simp at hx; have := HG8.out; have := HE8.out; omega)))
          clear es hFs hBs hss z8 y8 hne
          refine hK.out _ _ (fun _ => HSS.out) ?_
          clear hK K
          simp only [Act.put, List.getElem_toArray, List.getElem_cons_zero, List.getElem_cons_succ, List.setIfInBounds_toArray, List.set_cons_zero, List.set_cons_succ]
          refine wpAnyT_load (i := 13) (v := ?_) rfl (by kernel_rfl) (by kernel_rfl) (by kernel_rfl) (by kernel_rfl) (by kernel_rfl) (fun _ _ _ h => h) HSS.out (by rfl) ?_ ?_
          rotate_left
          · intro w hSw; skip; go_simp; try with_reducible rfl
          simp only [Act.put, List.getElem_toArray, List.getElem_cons_zero, List.getElem_cons_succ, List.setIfInBounds_toArray, List.set_cons_zero, List.set_cons_succ]
          refine wpAnyT_done (by kernel_rfl) ?_ _
          go_wp2_with fail
          go_meet
          exact ⟨ga7, ga8, ao, co, rfl, rfl, rfl, HA7.out, HA8.out, HO.out.bytes, HWD.out.trans HSS.out⟩
        · rw [if_pos (by rfl)]
          go_simp
          have NE : Hid (wby.heap.size ≠ ga7) := Lib.hid (by have h1 := HA7.out.lt; omega)
          obtain ⟨wa8, ea, hF, hBa, -⟩ := one_new wby #[.slice none 0 0] 25
          rw [ea]
          have HA7 := Lib.hid (HA7.out.keep hF)
          have HK := Lib.hid (HK.out.keep hF)
          have HA8 := Lib.hid hBa
          have HG8 : Hid (wd.heap.size ≤ wby.heap.size) := Lib.hid HSS.out.size
          have HSS := Lib.hid (HSS.out.trans hF)
          clear hBa hF ea
          refine hK.out _ _ (fun _ => HSS.out) ?_
          clear hK K
          simp only [Act.put, List.getElem_toArray, List.getElem_cons_zero, List.getElem_cons_succ, List.setIfInBounds_toArray, List.set_cons_zero, List.set_cons_succ]
          generalize hga8 : wby.heap.size = ga8 at *
          have HE8 := Lib.hid hga8
          clear hga8
          refine wpAnyT_one (i := 4) (by kernel_rfl) rfl (fun K hK => ?_)
          rw [if_pos (by rfl)]
          go_simp
          have HLT7 : Hid (ga7 < wa8.heap.size) := Lib.hid HA7.out.lt
          have HLT8 : Hid (ga8 < wa8.heap.size) := Lib.hid HA8.out.lt
          refine (svOne_own (r := r) ⟨_, rfl, Sl.keep HBD.out HSS.out⟩ HSM.out HK.out ss).mono ?_
          rintro e won ⟨von, rfl, hO, hF⟩
          have HA7 := Lib.hid (HA7.out.keep hF)
          have HA8 := Lib.hid (HA8.out.keep hF)
          have HSS := Lib.hid (HSS.out.trans hF)
          obtain ⟨ao, co, rfl⟩ := Sl.shape hO.bytes
          simp only [List.length_map] at hO ⊢
          have HOL7 : Hid (∀ x, blockOf (.slice ao (oneL (findL ls) ss r).2.1.length co) = some x → x ≠ ga7) := Lib.hid (fun x hx => by have h1 := (hO.block x hx).1; have := HLT7.out; omega)
          have HOL8 : Hid (∀ x, blockOf (.slice ao (oneL (findL ls) ss r).2.1.length co) = some x → x ≠ ga8) := Lib.hid (fun x hx => by have h1 := (hO.block x hx).1; have := HLT8.out; omega)
          have HO := Lib.hid hO
          clear HK hO hF
          go_simp
          refine hK.out _ _ (fun _ => HSS.out) ?_
          clear hK K
          simp only [Act.put, List.getElem_toArray, List.getElem_cons_zero, List.getElem_cons_succ, List.setIfInBounds_toArray, List.set_cons_zero, List.set_cons_succ]
          refine wpAnyT_load (i := 5) (v := ?_) rfl (by kernel_rfl) (by kernel_rfl) (by kernel_rfl) (by kernel_rfl) (by kernel_rfl) (fun _ _ _ h => h) HSS.out (by rfl) ?_ ?_
          rotate_left
          · intro w hSw; skip; go_simp; try with_reducible rfl
          simp only [Act.put, List.getElem_toArray, List.getElem_cons_zero, List.getElem_cons_succ, List.setIfInBounds_toArray, List.set_cons_zero, List.set_cons_succ]
          refine wpAnyT_load (i := 6) (v := ?_) rfl (by kernel_rfl) (by kernel_rfl) (by kernel_rfl) (by kernel_rfl) (by kernel_rfl) (fun _ _ _ h => h) HSS.out (by rfl) ?_ ?_
          rotate_left
          · intro w hSw; skip; go_simp; try with_reducible rfl
          simp only [Act.put, List.getElem_toArray, List.getElem_cons_zero, List.getElem_cons_succ, List.setIfInBounds_toArray, List.set_cons_zero, List.set_cons_succ]
          refine wpAnyT_load (i := 7) (v := ?_) rfl (by kernel_rfl) (by kernel_rfl) (by kernel_rfl) (by kernel_rfl) (by kernel_rfl) (fun _ _ _ h => h) HSS.out (by rfl) ?_ ?_
          rotate_left
          · intro w hSw; skip; go_simp; try with_reducible rfl
          simp only [Act.put, List.getElem_toArray, List.getElem_cons_zero, List.getElem_cons_succ, List.setIfInBounds_toArray, List.set_cons_zero, List.set_cons_succ]
          refine wpAnyT_load (i := 8) (v := ?_) rfl (by kernel_rfl) (by kernel_rfl) (by kernel_rfl) (by kernel_rfl) (by kernel_rfl) (fun _ _ _ h => h) HSS.out (by rfl) ?_ ?_
          rotate_left
          · intro w hSw; skip; go_simp; try with_reducible rfl
          simp only [Act.put, List.getElem_toArray, List.getElem_cons_zero, List.getElem_cons_succ, List.setIfInBounds_toArray, List.set_cons_zero, List.set_cons_succ]
          refine wpAnyT_one (i := 11) (by kernel_rfl) rfl (fun K hK => ?_)
          rw [if_pos (by rfl)]
          have z7 := HA7.out.cell 0; have y7 := HA7.out.free 0
          simp only [List.getElem?_toArray, List.getElem?_cons_zero] at z7
          go_simp
          obtain ⟨ws7, es, hFs, hBs, hss⟩ := set_new HA7.out 0 (.int .u16 ((oneL (findL ls) ss r).1.toNat : Nat))
          rw [es]
          have HA7 := Lib.hid hBs
          have hne := NE.out
          have HA8 := Lib.hid (HA8.out.fr hFs (by simp; omega))
          have HO := Lib.hid (HO.out.fr hFs (fun x hx hm => by have h1 := HOL7.out x hx; simp at hm; omega))
          have HSS := Lib.hid (HSS.out.step hFs (fun x hx => .inr (by simp at hx; have := HG7.out; have := HE7.out; omega)))
          clear es hFs hBs hss z7 y7 hne
          refine hK.out _ _ (fun _ => HSS.out) ?_
          clear hK K
          simp only [Act.put, List.getElem_toArray, List.getElem_cons_zero, List.getElem_cons_succ, List.setIfInBounds_toArray, List.set_cons_zero, List.set_cons_succ]
          refine wpAnyT_one (i := 12) (by kernel_rfl) rfl (fun K hK => ?_)
          rw [if_pos (by rfl)]
          have z8 := HA8.out.cell 0; have y8 := HA8.out.free 0
          simp only [List.getElem?_toArray, List.getElem?_cons_zero] at z8
          go_simp
          obtain ⟨ws8, es, hFs, hBs, hss⟩ := set_new HA8.out 0 (.slice ao (oneL (findL ls) ss r).2.1.length co)
          rw [es]
          have HA8 := Lib.hid hBs
          have hne := NE.out
          have HA7 := Lib.hid (HA7.out.fr hFs (by simp; omega))
          have HO := Lib.hid (HO.out.fr hFs (fun x hx hm => by have h1 := HOL8.out x hx; simp at hm; omega))
          have HSS := Lib.hid (HSS.out.step hFs (fun x hx => .inr (by simp at hx; have := HG8.out; have := HE8.out; omega)))
          clear es hFs hBs hss z8 y8 hne
          refine hK.out _ _ (fun _ => HSS.out) ?_
          clear hK K
          simp only [Act.put, List.getElem_toArray, List.getElem_cons_zero, List.getElem_cons_succ, List.setIfInBounds_toArray, List.set_cons_zero, List.set_cons_succ]
          refine wpAnyT_load (i := 13) (v := ?_) rfl (by kernel_rfl) (by kernel_rfl) (by kernel_rfl) (by kernel_rfl) (by kernel_rfl) (fun _ _ _ h => h) HSS.out (by rfl) ?_ ?_
          rotate_left
          · intro w hSw; skip; go_simp; try with_reducible rfl
          simp only [Act.put, List.getElem_toArray, List.getElem_cons_zero, List.getElem_cons_succ, List.setIfInBounds_toArray, List.set_cons_zero, List.set_cons_succ]
          refine wpAnyT_done (by kernel_rfl) ?_ _
          go_wp2_with fail
          go_meet
          exact ⟨ga7, ga8, ao, co, rfl, rfl, rfl, HA7.out, HA8.out, HO.out.bytes, HWD.out.trans HSS.out⟩
      · rw [if_pos (by rfl)]
        go_simp
        have NE : Hid (wa7.heap.size ≠ ga7) := Lib.hid (by have h1 := HA7.out.lt; omega)
        obtain ⟨wa8, ea, hF, hBa, -⟩ := one_new wa7 #[.slice none 0 0] 25
        rw [ea]
        have HA7 := Lib.hid (HA7.out.keep hF)
        have HA8 := Lib.hid hBa
        have HG8 : Hid (wd.heap.size ≤ wa7.heap.size) := Lib.hid HSS.out.size
        have HSS := Lib.hid (HSS.out.trans hF)
        clear hBa hF ea
        refine hK.out _ _ (fun _ => HSS.out) ?_
        clear hK K
        simp only [Act.put, List.getElem_toArray, List.getElem_cons_zero, List.getElem_cons_succ, List.setIfInBounds_toArray, List.set_cons_zero, List.set_cons_succ]
        generalize hga8 : wa7.heap.size = ga8 at *
        have HE8 := Lib.hid hga8
        clear hga8
        refine wpAnyT_one (i := 3) (by kernel_rfl) rfl (fun K hK => ?_)
        rw [if_pos (by rfl)]
        go_simp
        refine (l14by_any (HB.out.keep HSS.out)).mono ?_
        rintro e wby ⟨gk, rfl, hk, hF⟩
        have HA7 := Lib.hid (HA7.out.keep hF)
        have HA8 := Lib.hid (HA8.out.keep hF)
        have HK := Lib.hid hk
        have HSS := Lib.hid (HSS.out.trans hF)
        clear hk hF
        go_simp
        refine hK.out _ _ (fun _ => HSS.out) ?_
        clear hK K
        simp only [Act.put, List.getElem_toArray, List.getElem_cons_zero, List.getElem_cons_succ, List.setIfInBounds_toArray, List.set_cons_zero, List.set_cons_succ]
        refine wpAnyT_one (i := 4) (by kernel_rfl) rfl (fun K hK => ?_)
        rw [if_pos (by rfl)]
        go_simp
        have HLT7 : Hid (ga7 < wby.heap.size) := Lib.hid HA7.out.lt
        have HLT8 : Hid (ga8 < wby.heap.size) := Lib.hid HA8.out.lt
        refine (svOne_own (r := r) ⟨_, rfl, Sl.keep HBD.out HSS.out⟩ HSM.out HK.out ss).mono ?_
        rintro e won ⟨von, rfl, hO, hF⟩
        have HA7 := Lib.hid (HA7.out.keep hF)
        have HA8 := Lib.hid (HA8.out.keep hF)
        have HSS := Lib.hid (HSS.out.trans hF)
        obtain ⟨ao, co, rfl⟩ := Sl.shape hO.bytes
        simp only [List.length_map] at hO ⊢
        have HOL7 : Hid (∀ x, blockOf (.slice ao (oneL (findL ls) ss r).2.1.length co) = some x → x ≠ ga7) := Lib.hid (fun x hx => by have h1 := (hO.block x hx).1; have := HLT7.out; omega)
        have HOL8 : Hid (∀ x, blockOf (.slice ao (oneL (findL ls) ss r).2.1.length co) = some x → x ≠ ga8) := Lib.hid (fun x hx => by have h1 := (hO.block x hx).1; have := HLT8.out; omega)
        have HO := Lib.hid hO
        clear HK hO hF
        go_simp
        refine hK.out _ _ (fun _ => HSS.out) ?_
        clear hK K
        simp only [Act.put, List.getElem_toArray, List.getElem_cons_zero, List.getElem_cons_succ, List.setIfInBounds_toArray, List.set_cons_zero, List.set_cons_succ]
        refine wpAnyT_load (i := 5) (v := ?_) rfl (by kernel_rfl) (by kernel_rfl) (by kernel_rfl) (by kernel_rfl) (by kernel_rfl) (fun _ _ _ h => h) HSS.out (by rfl) ?_ ?_
        rotate_left
        · intro w hSw; skip; go_simp; try with_reducible rfl
        simp only [Act.put, List.getElem_toArray, List.getElem_cons_zero, List.getElem_cons_succ, List.setIfInBounds_toArray, List.set_cons_zero, List.set_cons_succ]
        refine wpAnyT_load (i := 6) (v := ?_) rfl (by kernel_rfl) (by kernel_rfl) (by kernel_rfl) (by kernel_rfl) (by kernel_rfl) (fun _ _ _ h => h) HSS.out (by rfl) ?_ ?_
        rotate_left
        · intro w hSw; skip; go_simp; try with_reducible rfl
        simp only [Act.put, List.getElem_toArray, List.getElem_cons_zero, List.getElem_cons_succ, List.setIfInBounds_toArray, List.set_cons_zero, List.set_cons_succ]
        refine wpAnyT_load (i := 7) (v := ?_) rfl (by kernel_rfl) (by kernel_rfl) (by kernel_rfl) (by kernel_rfl) (by kernel_rfl) (fun _ _ _ h => h) HSS.out (by rfl) ?_ ?_
        rotate_left
        · intro w hSw; skip; go_simp; try with_reducible rfl
        simp only [Act.put, List.getElem_toArray, List.getElem_cons_zero, List.getElem_cons_succ, List.setIfInBounds_toArray, List.set_cons_zero, List.set_cons_succ]
        refine wpAnyT_load (i := 8) (v := ?_) rfl (by kernel_rfl) (by kernel_rfl) (by kernel_rfl) (by kernel_rfl) (by kernel_rfl) (fun _ _ _ h => h) HSS.out (by rfl) ?_ ?_
        rotate_left
        · intro w hSw; skip; go_simp; try with_reducible rfl
        simp only [Act.put, List.getElem_toArray, List.getElem_cons_zero, List.getElem_cons_succ, List.setIfInBounds_toArray, List.set_cons_zero, List.set_cons_succ]
        refine wpAnyT_one (i := 11) (by kernel_rfl) rfl (fun K hK => ?_)
        rw [if_pos (by rfl)]
        have z7 := HA7.out.cell 0; have y7 := HA7.out.free 0
        simp only [List.getElem?_toArray, List.getElem?_cons_zero] at z7
        go_simp
        obtain ⟨ws7, es, hFs, hBs, hss⟩ := set_new HA7.out 0 (.int .u16 ((oneL (findL ls) ss r).1.toNat : Nat))
        rw [es]
        have HA7 := Lib.hid hBs
        have hne := NE.out
        have HA8 := Lib.hid (HA8.out.fr hFs (by simp; omega))
        have HO := Lib.hid (HO.out.fr hFs (fun x hx hm => by have h1 := HOL7.out x hx; simp at hm; omega))
        have HSS := Lib.hid (HSS.out.step hFs (fun x hx => .inr (by simp at hx; have := HG7.out; have := HE7.out; omega)))
        clear es hFs hBs hss z7 y7 hne
        refine hK.out _ _ (fun _ => HSS.out) ?_
        clear hK K
        simp only [Act.put, List.getElem_toArray, List.getElem_cons_zero, List.getElem_cons_succ, List.setIfInBounds_toArray, List.set_cons_zero, List.set_cons_succ]
        refine wpAnyT_one (i := 12) (by kernel_rfl) rfl (fun K hK => ?_)
        rw [if_pos (by rfl)]
        have z8 := HA8.out.cell 0; have y8 := HA8.out.free 0
        simp only [List.getElem?_toArray, List.getElem?_cons_zero] at z8
        go_simp
        obtain ⟨ws8, es, hFs, hBs, hss⟩ := set_new HA8.out 0 (.slice ao (oneL (findL ls) ss r).2.1.length co)
        rw [es]
        have HA8 := Lib.hid hBs
        have hne := NE.out
        have HA7 := Lib.hid (HA7.out.fr hFs (by simp; omega))
        have HO := Lib.hid (HO.out.fr hFs (fun x hx hm => by have h1 := HOL8.out x hx; simp at hm; omega))
        have HSS := Lib.hid (HSS.out.step hFs (fun x hx => .inr (by simp at hx; have := HG8.out; have := HE8.out; omega)))
        clear es hFs hBs hss z8 y8 hne
        refine hK.out _ _ (fun _ => HSS.out) ?_
        clear hK K
        simp only [Act.put, List.getElem_toArray, List.getElem_cons_zero, List.getElem_cons_succ, List.setIfInBounds_toArray, List.set_cons_zero, List.set_cons_succ]
        refine wpAnyT_load (i := 13) (v := ?_) rfl (by kernel_rfl) (by kernel_rfl) (by kernel_rfl) (by kernel_rfl) (by kernel_rfl) (fun _ _ _ h => h) HSS.out (by rfl) ?_ ?_
        rotate_left
        · intro w hSw; skip; go_simp; try with_reducible rfl
        simp only [Act.put, List.getElem_toArray, List.getElem_cons_zero, List.getElem_cons_succ, List.setIfInBounds_toArray, List.set_cons_zero, List.set_cons_succ]
        refine wpAnyT_done (by kernel_rfl) ?_ _
        go_wp2_with fail
        go_meet
        exact ⟨ga7, ga8, ao, co, rfl, rfl, rfl, HA7.out, HA8.out, HO.out.bytes, HWD.out.trans HSS.out⟩
    · rw [if_pos (by rfl)]
      go_simp
      obtain ⟨wa8, ea, hF, hBa, -⟩ := one_new wd #[.slice none 0 0] 25
      rw [ea]
      have HA8 := Lib.hid hBa
      have HG8 : Hid (wd.heap.size ≤ wd.heap.size) := Lib.hid HSS.out.size
      have HSS := Lib.hid (HSS.out.trans hF)
      clear hBa hF ea
      refine hK.out _ _ (fun _ => HSS.out) ?_
      clear hK K
      simp only [Act.put, List.getElem_toArray, List.getElem_cons_zero, List.getElem_cons_succ, List.setIfInBounds_toArray, List.set_cons_zero, List.set_cons_succ]
      generalize hga8 : wd.heap.size = ga8 at *
      have HE8 := Lib.hid hga8
      clear hga8
      refine wpAnyT_two (i := 3) (j := 9) (by kernel_rfl) rfl rfl (fun K hK => ?_) (fun K hK => ?_)
      · rw [if_pos (by rfl)]
        go_simp
        refine (l14by_any (HB.out.keep HSS.out)).mono ?_
        rintro e wby ⟨gk, rfl, hk, hF⟩
        have HA8 := Lib.hid (HA8.out.keep hF)
        have HK := Lib.hid hk
        have HSS := Lib.hid (HSS.out.trans hF)
        clear hk hF
        go_simp
        refine hK.out _ _ (fun _ => HSS.out) ?_
        clear hK K
        simp only [Act.put, List.getElem_toArray, List.getElem_cons_zero, List.getElem_cons_succ, List.setIfInBounds_toArray, List.set_cons_zero, List.set_cons_succ]
        refine wpAnyT_two (i := 4) (j := 9) (by kernel_rfl) rfl rfl (fun K hK => ?_) (fun K hK => ?_)
        · rw [if_pos (by rfl)]
          go_simp
          have HLT8 : Hid (ga8 < wby.heap.size) := Lib.hid HA8.out.lt
          refine (svOne_own (r := r) ⟨_, rfl, Sl.keep HBD.out HSS.out⟩ HSM.out HK.out ss).mono ?_
          rintro e won ⟨von, rfl, hO, hF⟩
          have HA8 := Lib.hid (HA8.out.keep hF)
          have HSS := Lib.hid (HSS.out.trans hF)
          obtain ⟨ao, co, rfl⟩ := Sl.shape hO.bytes
          simp only [List.length_map] at hO ⊢
          have HOL8 : Hid (∀ x, blockOf (.slice ao (oneL (findL ls) ss r).2.1.length co) = some x → x ≠ ga8) := Lib.hid (fun x hx => by have h1 := (hO.block x hx).1; have := HLT8.out; omega)
          have HO := Lib.hid hO
          clear HK hO hF
          go_simp
          refine hK.out _ _ (fun _ => HSS.out) ?_
          clear hK K
          simp only [Act.put, List.getElem_toArray, List.getElem_cons_zero, List.getElem_cons_succ, List.setIfInBounds_toArray, List.set_cons_zero, List.set_cons_succ]
          refine wpAnyT_load (i := 5) (v := ?_) rfl (by kernel_rfl) (by kernel_rfl) (by kernel_rfl) (by kernel_rfl) (by kernel_rfl) (fun _ _ _ h => h) HSS.out (by rfl) ?_ ?_
          rotate_left
          · intro w hSw; skip; go_simp; try with_reducible rfl
          simp only [Act.put, List.getElem_toArray, List.getElem_cons_zero, List.getElem_cons_succ, List.setIfInBounds_toArray, List.set_cons_zero, List.set_cons_succ]
          refine wpAnyT_load (i := 6) (v := ?_) rfl (by kernel_rfl) (by kernel_rfl) (by kernel_rfl) (by kernel_rfl) (by kernel_rfl) (fun _ _ _ h => h) HSS.out (by rfl) ?_ ?_
          rotate_left
          · intro w hSw; skip; go_simp; try with_reducible rfl
          simp only [Act.put, List.getElem_toArray, List.getElem_cons_zero, List.getElem_cons_succ, List.setIfInBounds_toArray, List.set_cons_zero, List.set_cons_succ]
          refine wpAnyT_load (i := 7) (v := ?_) rfl (by kernel_rfl) (by kernel_rfl) (by kernel_rfl) (by kernel_rfl) (by kernel_rfl) (fun _ _ _ h => h) HSS.out (by rfl) ?_ ?_
          rotate_left
          · intro w hSw; skip; go_simp; try with_reducible rfl
          simp only [Act.put, List.getElem_toArray, List.getElem_cons_zero, List.getElem_cons_succ, List.setIfInBounds_toArray, List.set_cons_zero, List.set_cons_succ]
          refine wpAnyT_load (i := 8) (v := ?_) rfl (by kernel_rfl) (by kernel_rfl) (by kernel_rfl) (by kernel_rfl) (by kernel_rfl) (fun _ _ _ h => h) HSS.out (by rfl) ?_ ?_
          rotate_left
          · intro w hSw; skip; go_simp; try with_reducible rfl
          simp only [Act.put, List.getElem_toArray, List.getElem_cons_zero, List.getElem_cons_succ, List.setIfInBounds_toArray, List.set_cons_zero, List.set_cons_succ]
          refine wpAnyT_one (i := 9) (by kernel_rfl) rfl (fun K hK => ?_)
          rw [if_pos (by rfl)]
          go_simp
          have NE : Hid (won.heap.size ≠ ga8) := Lib.hid (by have h1 := HA8.out.lt; omega)
          have HOL7 : Hid (∀ x, blockOf (.slice ao (oneL (findL ls) ss r).2.1.length co) = some x → x ≠ won.heap.size) := Lib.hid (fun x hx => by have h1 := (HO.out.block x hx).2; omega)
          obtain ⟨wa7, ea, hF, hBa, -⟩ := one_new won #[.int .u16 0] 42
          rw [ea]
          have HA8 := Lib.hid (HA8.out.keep hF)
          have HO := Lib.hid (HO.out.keep hF)
          have HA7 := Lib.hid hBa
          have HG7 : Hid (wd.heap.size ≤ won.heap.size) := Lib.hid HSS.out.size
          have HSS := Lib.hid (HSS.out.trans hF)
          clear hBa hF ea
          refine hK.out _ _ (fun _ => HSS.out) ?_
          clear hK K
          simp only [Act.put, List.getElem_toArray, List.getElem_cons_zero, List.getElem_cons_succ, List.setIfInBounds_toArray, List.set_cons_zero, List.set_cons_succ]
          generalize hga7 : won.heap.size = ga7 at *
          have HE7 := Lib.hid hga7
          clear hga7
          refine wpAnyT_one (i := 11) (by kernel_rfl) rfl (fun K hK => ?_)
          rw [if_pos (by rfl)]
          have z7 := HA7.out.cell 0; have y7 := HA7.out.free 0
          simp only [List.getElem?_toArray, List.getElem?_cons_zero] at z7
          go_simp
          obtain ⟨ws7, es, hFs, hBs, hss⟩ := set_new HA7.out 0 (.int .u16 ((oneL (findL ls) ss r).1.toNat : Nat))
          rw [es]
          have HA7 := Lib.hid hBs
          have hne := NE.out
          have HA8 := Lib.hid (HA8.out.fr hFs (by simp; omega))
          have HO := Lib.hid (HO.out.fr hFs (fun x hx hm => by have h1 := HOL7.out x hx; simp at hm; omega))
          have HSS := Lib.hid (HSS.out.step hFs (fun x hx => .inr (by simp at hx; have := HG7.out; have := HE7.out; omega)))
          clear es hFs hBs hss z7 y7 hne
          refine hK.out _ _ (fun _ => HSS.out) ?_
          clear hK K
          simp only [Act.put, List.getElem_toArray, List.getElem_cons_zero, List.getElem_cons_succ, List.setIfInBounds_toArray, List.set_cons_zero, List.set_cons_succ]
          refine wpAnyT_one (i := 12) (by kernel_rfl) rfl (fun K hK => ?_)
          rw [if_pos (by rfl)]
          have z8 := HA8.out.cell 0; have y8 := HA8.out.free 0
          simp only [List.getElem?_toArray, List.getElem?_cons_zero] at z8
          go_simp
          obtain ⟨ws8, es, hFs, hBs, hss⟩ := set_new HA8.out 0 (.slice ao (oneL (findL ls) ss r).2.1.length co)
          rw [es]
          have HA8 := Lib.hid hBs
          have hne := NE.out
          have HA7 := Lib.hid (HA7.out.fr hFs (by simp; omega))
          have HO := Lib.hid (HO.out.fr hFs (fun x hx hm => by have h1 := HOL8.out x hx; simp at hm; omega))
          have HSS := Lib.hid (HSS.out.step hFs (fun x hx => .inr (by simp at hx; have := HG8.out; have := HE8.out; omega)))
          clear es hFs hBs hss z8 y8 hne
          refine hK.out _ _ (fun _ => HSS.out) ?_
          clear hK K
          simp only [Act.put, List.getElem_toArray, List.getElem_cons_zero, List.getElem_cons_succ, List.setIfInBounds_toArray, List.set_cons_zero, List.set_cons_succ]
          refine wpAnyT_load (i := 13) (v := ?_) rfl (by kernel_rfl) (by kernel_rfl) (by kernel_rfl) (by kernel_rfl) (by kernel_rfl) (fun _ _ _ h => h) HSS.out (by rfl) ?_ ?_
          rotate_left
          · intro w hSw; skip; go_simp; try with_reducible rfl
          simp only [Act.put, List.getElem_toArray, List.getElem_cons_zero, List.getElem_cons_succ, List.setIfInBounds_toArray, List.set_cons_zero, List.set_cons_succ]
          refine wpAnyT_done (by kernel_rfl) ?_ _
          go_wp2_with fail
          go_meet
          exact ⟨ga7, ga8, ao, co, rfl, rfl, rfl, HA7.out, HA8.out, HO.out.bytes, HWD.out.trans HSS.out⟩
        · rw [if_pos (by rfl)]
          go_simp
          have NE : Hid (wby.heap.size ≠ ga8) := Lib.hid (by have h1 := HA8.out.lt; omega)
          obtain ⟨wa7, ea, hF, hBa, -⟩ := one_new wby #[.int .u16 0] 42
          rw [ea]
          have HA8 := Lib.hid (HA8.out.keep hF)
          have HK := Lib.hid (HK.out.keep hF)
          have HA7 := Lib.hid hBa
          have HG7 : Hid (wd.heap.size ≤ wby.heap.size) := Lib.hid HSS.out.size
          have HSS := Lib.hid (HSS.out.trans hF)
          clear hBa hF ea
          refine hK.out _ _ (fun _ => HSS.out) ?_
          clear hK K
          simp only [Act.put, List.getElem_toArray, List.getElem_cons_zero, List.getElem_cons_succ, List.setIfInBounds_toArray, List.set_cons_zero, List.set_cons_succ]
          generalize hga7 : wby.heap.size = ga7 at *
          have HE7 := Lib.hid hga7
          clear hga7
          refine wpAnyT_one (i := 4) (by kernel_rfl) rfl (fun K hK => ?_)
          rw [if_pos (by rfl)]
          go_simp
          have HLT8 : Hid (ga8 < wa7.heap.size) := Lib.hid HA8.out.lt
          have HLT7 : Hid (ga7 < wa7.heap.size) := Lib.hid HA7.out.lt
          refine (svOne_own (r := r) ⟨_, rfl, Sl.keep HBD.out HSS.out⟩ HSM.out HK.out ss).mono ?_
          rintro e won ⟨von, rfl, hO, hF⟩
          have HA8 := Lib.hid (HA8.out.keep hF)
          have HA7 := Lib.hid (HA7.out.keep hF)
          have HSS := Lib.hid (HSS.out.trans hF)
          obtain ⟨ao, co, rfl⟩ := Sl.shape hO.bytes
          simp only [List.length_map] at hO ⊢
          have HOL8 : Hid (∀ x, blockOf (.slice ao (oneL (findL ls) ss r).2.1.length co) = some x → x ≠ ga8) := Lib.hid (fun x hx => by have h1 := (hO.block x hx).1; have := HLT8.out; omega)
          have HOL7 : Hid (∀ x, blockOf (.slice ao (oneL (findL ls) ss r).2.1.length co) = some x → x ≠ ga7) := Lib.hid (fun x hx => by have h1 := (hO.block x hx).1; have := HLT7.out; omega)
          have HO := Lib.hid hO
          clear HK hO hF
          go_simp
          refine hK.out _ _ (fun _ => HSS.out) ?_
          clear hK K
          simp only [Act.put, List.getElem_toArray, List.getElem_cons_zero, List.getElem_cons_succ, List.setIfInBounds_toArray, List.set_cons_zero, List.set_cons_succ]
          refine wpAnyT_load (i := 5) (v := ?_) rfl (by kernel_rfl) (by kernel_rfl) (by kernel_rfl) (by kernel_rfl) (by kernel_rfl) (fun _ _ _ h => h) HSS.out (by rfl) ?_ ?_
          rotate_left
          · intro w hSw; skip; go_simp; try with_reducible rfl
          simp only [Act.put, List.getElem_toArray, List.getElem_cons_zero, List.getElem_cons_succ, List.setIfInBounds_toArray, List.set_cons_zero, List.set_cons_succ]
          refine wpAnyT_load (i := 6) (v := ?_) rfl (by kernel_rfl) (by kernel_rfl) (by kernel_rfl) (by kernel_rfl) (by kernel_rfl) (fun _ _ _ h => h) HSS.out (by rfl) ?_ ?_
          rotate_left
          · intro w hSw; skip; go_simp; try with_reducible rfl
          simp only [Act.put, List.getElem_toArray, List.getElem_cons_zero, List.getElem_cons_succ, List.setIfInBounds_toArray, List.set_cons_zero, List.set_cons_succ]
          refine wpAnyT_load (i := 7) (v := ?_) rfl (by kernel_rfl) (by kernel_rfl) (by kernel_rfl) (by kernel_rfl) (by kernel_rfl) (fun _ _ _ h => h) HSS.out (by rfl) ?_ ?_
          rotate_left
          · intro w hSw; skip; go_simp; try with_reducible rfl
          simp only [Act.put, List.getElem_toArray, List.getElem_cons_zero, List.getElem_cons_succ, List.setIfInBounds_toArray, List.set_cons_zero, List.set_cons_succ]
          refine wpAnyT_load (i := 8) (v := ?_) rfl (by kernel_rfl) (by kernel_rfl) (by kernel_rfl) (by kernel_rfl) (by kernel_rfl) (fun _ _ _ h => h) HSS.out (by rfl) ?_ ?_
          rotate_left
          · intro w hSw; skip; go_simp; try with_reducible rfl
          simp only [Act.put, List.getElem_toArray, List.getElem_cons_zero, List.getElem_cons_succ, List.setIfInBounds_toArray, List.set_cons_zero, List.set_cons_succ]
          refine wpAnyT_one (i := 11) (by kernel_rfl) rfl (fun K hK => ?_)
          rw [if_pos (by rfl)]
          have z7 := HA7.out.cell 0; have y7 := HA7.out.free 0
          simp only [List.getElem?_toArray, List.getElem?_cons_zero] at z7
          go_simp
          obtain ⟨ws7, es, hFs, hBs, hss⟩ := set_new HA7.out 0 (.int .u16 ((oneL (findL ls) ss r).1.toNat : Nat))
          rw [es]
          have HA7 := Lib.hid hBs
          have hne := NE.out
          have HA8 := Lib.hid (HA8.out.fr hFs (by simp; omega))
          have HO := Lib.hid (HO.out.fr hFs (fun x hx hm => by have h1 := HOL7.out x hx; simp at hm; omega))
          have HSS := Lib.hid (HSS.out.step hFs (fun x hx => .inr (by simp at hx; have := HG7.out; have := HE7.out; omega)))
          clear es hFs hBs hss z7 y7 hne
          refine hK.out _ _ (fun _ => HSS.out) ?_
          clear hK K
          simp only [Act.put, List.getElem_toArray, List.getElem_cons_zero, List.getElem_cons_succ, List.setIfInBounds_toArray, List.set_cons_zero, List.set_cons_succ]
          refine wpAnyT_one (i := 12) (by kernel_rfl) rfl (fun K hK => ?_)
          rw [if_pos (by rfl)]
          have z8 := HA8.out.cell 0; have y8 := HA8.out.free 0
          simp only [List.getElem?_toArray, List.getElem?_cons_zero] at z8
          go_simp
          obtain ⟨ws8, es, hFs, hBs, hss⟩ := set_new HA8.out 0 (.slice ao (oneL (findL ls) ss r).2.1.length co)
          rw [es]
          have HA8 := Lib.hid hBs
          have hne := NE.out
          have HA7 := Lib.hid (HA7.out.fr hFs (by simp; omega))
          have HO := Lib.hid (HO.out.fr hFs (fun x hx hm => by have h1 := HOL8.out x hx; simp at hm; omega))
          have HSS := Lib.hid (HSS.out.step hFs (fun x hx => .inr (by simp at hx; have := HG8.out; have := HE8.out; omega)))
          clear es hFs hBs hss z8 y8 hne
          refine hK.out _ _ (fun _ => HSS.out) ?_
          clear hK K
          simp only [Act.put, List.getElem_toArray, List.getElem_cons_zero, List.getElem_cons_succ, List.setIfInBounds_toArray, List.set_cons_zero, List.set_cons_succ]
          refine wpAnyT_load (i := 13) (v := ?_) rfl (by kernel_rfl) (by kernel_rfl) (by kernel_rfl) (by kernel_rfl) (by kernel_rfl) (fun _ _ _ h => h) HSS.out (by rfl) ?_ ?_
          rotate_left
          · intro w hSw; skip; go_simp; try with_reducible rfl
          simp only [Act.put, List.getElem_toArray, List.getElem_cons_zero, List.getElem_cons_succ, List.setIfInBounds_toArray, List.set_cons_zero, List.set_cons_succ]
          refine wpAnyT_done (by kernel_rfl) ?_ _
          go_wp2_with fail
          go_meet
          exact ⟨ga7, ga8, ao, co, rfl, rfl, rfl, HA7.out, HA8.out, HO.out.bytes, HWD.out.trans HSS.out⟩
      · rw [if_pos (by rfl)]
        go_simp
        have NE : Hid (wa8.heap.size ≠ ga8) := Lib.hid (by have h1 := HA8.out.lt; omega)
        obtain ⟨wa7, ea, hF, hBa, -⟩ := one_new wa8 #[.int .u16 0] 42
        rw [ea]
        have HA8 := Lib.hid (HA8.out.keep hF)
        have HA7 := Lib.hid hBa
        have HG7 : Hid (wd.heap.size ≤ wa8.heap.size) := Lib.hid HSS.out.size
        have HSS := Lib.hid (HSS.out.trans hF)
        clear hBa hF ea
        refine hK.out _ _ (fun _ => HSS.out) ?_
        clear hK K
        simp only [Act.put, List.getElem_toArray, List.getElem_cons_zero, List.getElem_cons_succ, List.setIfInBounds_toArray, List.set_cons_zero, List.set_cons_succ]
        generalize hga7 : wa8.heap.size = ga7 at *
        have HE7 := Lib.hid hga7
        clear hga7
        refine wpAnyT_one (i := 3) (by kernel_rfl) rfl (fun K hK => ?_)
        rw [if_pos (by rfl)]
        go_simp
        refine (l14by_any (HB.out.keep HSS.out)).mono ?_
        rintro e wby ⟨gk, rfl, hk, hF⟩
        have HA8 := Lib.hid (HA8.out.keep hF)
        have HA7 := Lib.hid (HA7.out.keep hF)
        have HK := Lib.hid hk
        have HSS := Lib.hid (HSS.out.trans hF)
        clear hk hF
        go_simp
        refine hK.out _ _ (fun _ => HSS.out) ?_
        clear hK K
        simp only [Act.put, List.getElem_toArray, List.getElem_cons_zero, List.getElem_cons_succ, List.setIfInBounds_toArray, List.set_cons_zero, List.set_cons_succ]
        refine wpAnyT_one (i := 4) (by kernel_rfl) rfl (fun K hK => ?_)
        rw [if_pos (by rfl)]
        go_simp
        have HLT8 : Hid (ga8 < wby.heap.size) := Lib.hid HA8.out.lt
        have HLT7 : Hid (ga7 < wby.heap.size) := Lib.hid HA7.out.lt
        refine (svOne_own (r := r) ⟨_, rfl, Sl.keep HBD.out HSS.out⟩ HSM.out HK.out ss).mono ?_
        rintro e won ⟨von, rfl, hO, hF⟩
        have HA8 := Lib.hid (HA8.out.keep hF)
        have HA7 := Lib.hid (HA7.out.keep hF)
        have HSS := Lib.hid (HSS.out.trans hF)
        obtain ⟨ao, co, rfl⟩ := Sl.shape hO.bytes
        simp only [List.length_map] at hO ⊢
        have HOL8 : Hid (∀ x, blockOf (.slice ao (oneL (findL ls) ss r).2.1.length co) = some x → x ≠ ga8) := Lib.hid (fun x hx => by have h1 := (hO.block x hx).1; have := HLT8.out; omega)
        have HOL7 : Hid (∀ x, blockOf (.slice ao (oneL (findL ls) ss r).2.1.length co) = some x → x ≠ ga7) := Lib.hid (fun x hx => by have h1 := (hO.block x hx).1; have := HLT7.out; omega)
        have HO := Lib.hid hO
        clear HK hO hF
        go_simp
        refine hK.out _ _ (fun _ => HSS.out) ?_
        clear hK K
        simp only [Act.put, List.getElem_toArray, List.getElem_cons_zero, List.getElem_cons_succ, List.setIfInBounds_toArray, List.set_cons_zero, List.set_cons_succ]
        refine wpAnyT_load (i := 5) (v := ?_) rfl (by kernel_rfl) (by kernel_rfl) (by kernel_rfl) (by kernel_rfl) (by kernel_rfl) (fun _ _ _ h => h) HSS.out (by rfl) ?_ ?_
        rotate_left
        · intro w hSw; skip; go_simp; try with_reducible rfl
        simp only [Act.put, List.getElem_toArray, List.getElem_cons_zero, List.getElem_cons_succ, List.setIfInBounds_toArray, List.set_cons_zero, List.set_cons_succ]
        refine wpAnyT_load (i := 6) (v := ?_) rfl (by kernel_rfl) (by kernel_rfl) (by kernel_rfl) (by kernel_rfl) (by kernel_rfl) (fun _ _ _ h => h) HSS.out (by rfl) ?_ ?_
        rotate_left
        · intro w hSw; skip; go_simp; try with_reducible rfl
        simp only [Act.put, List.getElem_toArray, List.getElem_cons_zero, List.getElem_cons_succ, List.setIfInBounds_toArray, List.set_cons_zero, List.set_cons_succ]
        refine wpAnyT_load (i := 7) (v := ?_) rfl (by kernel_rfl) (by kernel_rfl) (by kernel_rfl) (by kernel_rfl) (by kernel_rfl) (fun _ _ _ h => h) HSS.out (by rfl) ?_ ?_
        rotate_left
        · intro w hSw; skip; go_simp; try with_reducible rfl
        simp only [Act.put, List.getElem_toArray, List.getElem_cons_zero, List.getElem_cons_succ, List.setIfInBounds_toArray, List.set_cons_zero, List.set_cons_succ]
        refine wpAnyT_load (i := 8) (v := ?_) rfl (by kernel_rfl) (by kernel_rfl) (by kernel_rfl) (by kernel_rfl) (by kernel_rfl) (fun _ _ _ h => h) HSS.out (by rfl) ?_ ?_
        rotate_left
        · intro w hSw; skip; go_simp; try with_reducible rfl
        simp only [Act.put, List.getElem_toArray, List.getElem_cons_zero, List.getElem_cons_succ, List.setIfInBounds_toArray, List.set_cons_zero, List.set_cons_succ]
        refine wpAnyT_one (i := 11) (by kernel_rfl) rfl (fun K hK => ?_)
        rw [if_pos (by rfl)]
        have z7 := HA7.out.cell 0; have y7 := HA7.out.free 0
        simp only [List.getElem?_toArray, List.getElem?_cons_zero] at z7
        go_simp
        obtain ⟨ws7, es, hFs, hBs, hss⟩ := set_new HA7.out 0 (.int .u16 ((oneL (findL ls) ss r).1.toNat : Nat))
        rw [es]
        have HA7 := Lib.hid hBs
        have hne := NE.out
        have HA8 := Lib.hid (HA8.out.fr hFs (by simp; omega))
        have HO := Lib.hid (HO.out.fr hFs (fun x hx hm => by have h1 := HOL7.out x hx; simp at hm; omega))
        have HSS := Lib.hid (HSS.out.step hFs (fun x hx => .inr (by simp at hx; have := HG7.out; have := HE7.out; omega)))
        clear es hFs hBs hss z7 y7 hne
        refine hK.out _ _ (fun _ => HSS.out) ?_
        clear hK K
        simp only [Act.put, List.getElem_toArray, List.getElem_cons_zero, List.getElem_cons_succ, List.setIfInBounds_toArray, List.set_cons_zero, List.set_cons_succ]
        refine wpAnyT_one (i := 12) (by kernel_rfl) rfl (fun K hK => ?_)
        rw [if_pos (by rfl)]
        have z8 := HA8.out.cell 0; have y8 := HA8.out.free 0
        simp only [List.getElem?_toArray, List.getElem?_cons_zero] at z8
        go_simp
        obtain ⟨ws8, es, hFs, hBs, hss⟩ := set_new HA8.out 0 (.slice ao (oneL (findL ls) ss r).2.1.length co)
        rw [es]
        have HA8 := Lib.hid hBs
        have hne := NE.out
        have HA7 := Lib.hid (HA7.out.fr hFs (by simp; omega))
        have HO := Lib.hid (HO.out.fr hFs (fun x hx hm => by have h1 := HOL8.out x hx; simp at hm; omega))
        have HSS := Lib.hid (HSS.out.step hFs (fun x hx => .inr (by simp at hx; have := HG8.out; have := HE8.out; omega)))
        clear es hFs hBs hss z8 y8 hne
        refine hK.out _ _ (fun _ => HSS.out) ?_
        clear hK K
        simp only [Act.put, List.getElem_toArray, List.getElem_cons_zero, List.getElem_cons_succ, List.setIfInBounds_toArray, List.set_cons_zero, List.set_cons_succ]
        refine wpAnyT_load (i := 13) (v := ?_) rfl (by kernel_rfl) (by kernel_rfl) (by kernel_rfl) (by kernel_rfl) (by kernel_rfl) (fun _ _ _ h => h) HSS.out (by rfl) ?_ ?_
        rotate_left
        · intro w hSw; skip; go_simp; try with_reducible rfl
        simp only [Act.put, List.getElem_toArray, List.getElem_cons_zero, List.getElem_cons_succ, List.setIfInBounds_toArray, List.set_cons_zero, List.set_cons_succ]
        refine wpAnyT_done (by kernel_rfl) ?_ _
        go_wp2_with fail
        go_meet
        exact ⟨ga7, ga8, ao, co, rfl, rfl, rfl, HA7.out, HA8.out, HO.out.bytes, HWD.out.trans HSS.out⟩
  case rest =>
    obtain ⟨g7, g8, a8, c8, rfl, rfl, rfl, h7, h8, hb8, hF⟩ := hcut
    have H7 := Lib.hid h7; have H8 := Lib.hid h8; have HB8 := Lib.hid hb8
    have HF := Lib.hid (HF.out.trans hF)
    have HB := Lib.hid (HB.out.keep hF)
    have HBD := Lib.hid (Sl.keep HBD.out hF)
    have HR := Lib.hid (HR.out.keep hF)
    have HP := Lib.hid (HP.out.keep hF)
    clear h7 h8 hb8 hF
    rcases oneL_cases (findL ls) ss r with ⟨k, hk, ho⟩ | ⟨n, b, ho, hms, hpk, hz⟩
    · rw [ho] at H7 H8 HB8 ⊢
      have hkb : (k != 0) = true := bne_iff_ne.2 hk
      have z7 := H7.out.cell 0; have z8 := H8.out.cell 0
      simp only [List.getElem?_toArray, List.getElem?_cons_zero, List.length_nil] at z7 z8
      clear ho
      go_wp2_with fail
      go_ret
      first | exact ⟨rfl, HF.out⟩ | exact ⟨ret_bool (by simp), HF.out⟩
    rw [ho] at H7 H8 HB8 ⊢
    obtain ⟨p, hp, hps, hpt⟩ := pack_ok hpk
    obtain ⟨hsb, hsm⟩ := size_bytes hp
    have HT := Lib.hid (with_told hms hp hps hpt hz)
    have HSB := Lib.hid hsb; have HSL := Lib.hid hsm; have HPP := Lib.hid hp
    subst hps hpt
    clear ho hms hpk hz hsb hsm hp
    have z8 := H8.out.cell 0
    simp only [List.getElem?_toArray, List.getElem?_cons_zero] at z8
    go_wp2_with fail
    clear z8
    refine (Parse_any HB8.out).mono ?_
    rintro e wq (⟨vp, p', hp, rfl, hV, hF⟩ | ⟨k, hp, -, -⟩)
    rotate_left
    · rw [HPP.out] at hp; cases hp
    obtain rfl : p = p' := by rw [HPP.out] at hp; cases hp; rfl
    obtain ⟨q1, k1, q2, k2, q3, k3, q4, k4, rfl, -, -, -, -⟩ := hV.open_
    have HV := Lib.hid hV
    clear hp hV
    have HF := Lib.hid (HF.out.trans hF)
    have HB := Lib.hid (HB.out.keep hF)
    have HBD := Lib.hid (Sl.keep HBD.out hF)
    have HR := Lib.hid (HR.out.keep hF)
    have HP := Lib.hid (HP.out.keep hF)
    have H7 := Lib.hid (H7.out.keep hF)
    have H8 := Lib.hid (H8.out.keep hF)
    have HB8 := Lib.hid (Sl.keep HB8.out hF)
    clear hF
    go_upto_region 9 with (refine wpList_store_row rfl 88 (.tmp 10) (.tmp 48) rfl wq.heap.size rfl _ _ rfl 88 (Box.new wq 88 #[.bool false, .int .i64 0, .int .u16 0, .int .u32 0, .int .u32 0, .slice none 0 0, .bool false, .int .u16 0, .slice none 0 0, .slice none 0 0, .slice none 0 0]) (by kernel_rfl) rfl (oneCell_pc _ _ _ _ _ _ _ _ _ _ _ ⟨_, _, _, rfl⟩ ⟨_, _, _, rfl⟩ ⟨_, _, _, rfl⟩ ⟨_, _, _, rfl⟩) ?_; intro wr hY hG; have hFn := ((Fr.refl [] wq).alloc _).step hG (by simp); have HFn := Lib.hid hFn; have HY := Lib.hid hY; clear hG hFn hY)
    have hF := HFn.out
    have HF := Lib.hid (HF.out.trans hF)
    have HB := Lib.hid (HB.out.keep hF)
    have HBD := Lib.hid (Sl.keep HBD.out hF)
    have HR := Lib.hid (HR.out.keep hF)
    have HP := Lib.hid (HP.out.keep hF)
    have H7 := Lib.hid (H7.out.keep hF)
    have H8 := Lib.hid (H8.out.keep hF)
    have HB8 := Lib.hid (Sl.keep HB8.out hF)
    have HV := Lib.hid (HV.out.keep hF)
    have HPB := HY
    clear hF HFn HY
    generalize hgp : wq.heap.size = gp at *
    clear hgp
    obtain ⟨p0, p1, p2, p3, p4, p5, p6, p7, p8, p9, p10⟩ := HPB.out.pcells
    have z7 := H7.out.cell 0
    simp only [List.getElem?_toArray, List.getElem?_cons_zero] at z7
    go_upto_region 12 with fail
    clear p0 p1 p2 p3 p4 p5 p6 p7 p8 p9 p10 z7
    have HKN : Hid (Knows wr 46 #[.pointer (some ⟨g7, 0, none⟩), .pointer (some ⟨g8, 0, none⟩), .pointer (some ⟨g3 + 1, 0, none⟩)] (fun m => if m = p.seq then some b else findL ls m)) := Lib.hid ⟨enters_of Try.func46 (by kernel_rfl) rfl, fun W n hW => l14w1_any (H7.out.keep hW) (H8.out.keep hW) (Sl.keep HB8.out hW) (HP.out.keep hW) (HB.out.keep hW) n⟩
    go_wp2_with (refine wpList_load_row_w rfl 58 (.tmp 3) rfl g3 rfl 58 _ _ HR.out Try.underlying58 rfl (by kernel_rfl) ?_)
    refine (svOne_any (r := r) ⟨_, rfl, HBD.out⟩ HSM.out HKN.out p.ssrc).mono ?_
    rw [HT.out.1]
    rintro e wt ⟨vt, rfl, hO, hF⟩
    obtain ⟨at_, ct, rfl⟩ : ∃ a c, vt = .slice a 0 c := Sl.shape hO
    have HF := Lib.hid (HF.out.trans hF)
    have HB := Lib.hid (HB.out.keep hF)
    have HBD := Lib.hid (Sl.keep HBD.out hF)
    have HR := Lib.hid (HR.out.keep hF)
    have HP := Lib.hid (HP.out.keep hF)
    have H7 := Lib.hid (H7.out.keep hF)
    have H8 := Lib.hid (H8.out.keep hF)
    have HB8 := Lib.hid (Sl.keep HB8.out hF)
    have HV := Lib.hid (HV.out.keep hF)
    have HPB := Lib.hid (HPB.out.keep hF)
    have HKN := Lib.hid (HKN.out.keep hF)
    clear hO hF
    go_upto_region 13 with fail
    refine wp_region_T (fun w' => Fr [] wt.drew w') [] 17 #[false, false, false, false, false, false, false, false, false, false, false, false, false, false, false, false, false] (by kernel_rfl) rfl rfl ?_
    try simp only [List.append_eq, List.cons_append, List.nil_append]
    have hF := (Fr.refl [] wt).drew
    have HF := Lib.hid (HF.out.trans hF)
    have HB := Lib.hid (HB.out.keep hF)
    have HBD := Lib.hid (Sl.keep HBD.out hF)
    have HR := Lib.hid (HR.out.keep hF)
    have HP := Lib.hid (HP.out.keep hF)
    have H7 := Lib.hid (H7.out.keep hF)
    have H8 := Lib.hid (H8.out.keep hF)
    have HB8 := Lib.hid (Sl.keep HB8.out hF)
    have HV := Lib.hid (HV.out.keep hF)
    have HPB := Lib.hid (HPB.out.keep hF)
    have HKN := Lib.hid (HKN.out.keep hF)
    clear hF
    have HSS : Hid (Fr [] wt.drew wt.drew) := Lib.hid (Fr.refl _ _)
    generalize wt.drew = wu at *
    refine wpAnyT_load (i := 0) (v := ?_) rfl (by kernel_rfl) (by kernel_rfl) (by kernel_rfl) (by kernel_rfl) (by kernel_rfl) (fun _ _ _ h => h) HSS.out (by rfl) ?_ ?_
    rotate_left
    · intro w' hSw; refine run_load_row 58 (.tmp 3) ?_ g3 ?_ 58 _ _ (HR.out.keep hSw) Try.underlying58 rfl (by kernel_rfl) <;> rfl
    simp only [Act.put, List.getElem_toArray, List.getElem_cons_zero, List.getElem_cons_succ, List.setIfInBounds_toArray, List.set_cons_zero, List.set_cons_succ]
    refine wpAnyT_load (i := 1) (v := ?_) rfl (by kernel_rfl) (by kernel_rfl) (by kernel_rfl) (by kernel_rfl) (by kernel_rfl) (fun _ _ _ h => h) HSS.out (by rfl) ?_ ?_
    rotate_left
    · intro w hSw; skip; go_simp; try with_reducible rfl
    simp only [Act.put, List.getElem_toArray, List.getElem_cons_zero, List.getElem_cons_succ, List.setIfInBounds_toArray, List.set_cons_zero, List.set_cons_succ]
    refine wpAnyT_load (i := 2) (v := ?_) rfl (by kernel_rfl) (by kernel_rfl) (by kernel_rfl) (by kernel_rfl) (by kernel_rfl) (fun _ _ _ h => h) HSS.out (by rfl) ?_ ?_
    rotate_left
    · intro w hSw; skip; go_simp; try with_reducible rfl
    simp only [Act.put, List.getElem_toArray, List.getElem_cons_zero, List.getElem_cons_succ, List.setIfInBounds_toArray, List.set_cons_zero, List.set_cons_succ]
    refine wpAnyT_one (i := 3) (by kernel_rfl) rfl (fun K hK => ?_)
    rw [if_pos (by rfl)]
    go_simp
    refine (svCount_any (r := r) ⟨_, rfl, Sl.keep HBD.out HSS.out⟩ HSM.out (HKN.out.keep HSS.out) p.ssrc).mono ?_
    rw [HT.out.2]
    rintro e wv ⟨rfl, hF⟩
    have HSS := Lib.hid (HSS.out.trans hF)
    clear hF
    go_simp
    refine hK.out _ _ (fun _ => HSS.out) ?_
    clear hK K
    simp only [Act.put, List.getElem_toArray, List.getElem_cons_zero, List.getElem_cons_succ, List.setIfInBounds_toArray, List.set_cons_zero, List.set_cons_succ]
    refine wpAnyT_load (i := 4) (v := ?_) rfl (by kernel_rfl) (by kernel_rfl) (by kernel_rfl) (by kernel_rfl) (by kernel_rfl) (fun _ _ _ h => h) HSS.out (by rfl) ?_ ?_
    rotate_left
    · intro w hSw; skip; go_simp; try with_reducible rfl
    simp only [Act.put, List.getElem_toArray, List.getElem_cons_zero, List.getElem_cons_succ, List.setIfInBounds_toArray, List.set_cons_zero, List.set_cons_succ]
    refine wpAnyT_load (i := 5) (v := ?_) rfl (by kernel_rfl) (by kernel_rfl) (by kernel_rfl) (by kernel_rfl) (by kernel_rfl) (fun _ _ _ h => h) HSS.out (by rfl) ?_ ?_
    rotate_left
    · intro w hSw; skip; go_simp; try with_reducible rfl
    simp only [Act.put, List.getElem_toArray, List.getElem_cons_zero, List.getElem_cons_succ, List.setIfInBounds_toArray, List.set_cons_zero, List.set_cons_succ]
    refine wpAnyT_load (i := 6) (v := ?_) rfl (by kernel_rfl) (by kernel_rfl) (by kernel_rfl) (by kernel_rfl) (by kernel_rfl) (fun _ _ _ h => h) HSS.out (by rfl) ?_ ?_
    rotate_left
    · intro w hSw; skip; go_simp; try with_reducible rfl
    simp only [Act.put, List.getElem_toArray, List.getElem_cons_zero, List.getElem_cons_succ, List.setIfInBounds_toArray, List.set_cons_zero, List.set_cons_succ]
    refine wpAnyT_load (i := 7) (v := ?_) rfl (by kernel_rfl) (by kernel_rfl) (by kernel_rfl) (by kernel_rfl) (by kernel_rfl) (fun _ _ _ h => h) HSS.out (by rfl) ?_ ?_
    rotate_left
    · intro w hSw; skip; go_simp; try with_reducible rfl
    simp only [Act.put, List.getElem_toArray, List.getElem_cons_zero, List.getElem_cons_succ, List.setIfInBounds_toArray, List.set_cons_zero, List.set_cons_succ]
    refine wpAnyT_load (i := 8) (v := ?_) rfl (by kernel_rfl) (by kernel_rfl) (by kernel_rfl) (by kernel_rfl) (by kernel_rfl) (fun _ _ _ h => h) HSS.out (by rfl) ?_ ?_
    rotate_left
    · intro w hSw; skip; go_simp; try with_reducible rfl
    simp only [Act.put, List.getElem_toArray, List.getElem_cons_zero, List.getElem_cons_succ, List.setIfInBounds_toArray, List.set_cons_zero, List.set_cons_succ]
    refine wpAnyT_load (i := 9) (v := ?_) rfl (by kernel_rfl) (by kernel_rfl) (by kernel_rfl) (by kernel_rfl) (by kernel_rfl) (fun _ _ _ h => h) HSS.out (by rfl) ?_ ?_
    rotate_left
    · intro w hSw; skip; go_simp; try with_reducible rfl
    simp only [Act.put, List.getElem_toArray, List.getElem_cons_zero, List.getElem_cons_succ, List.setIfInBounds_toArray, List.set_cons_zero, List.set_cons_succ]
    refine wpAnyT_load (i := 10) (v := ?_) rfl (by kernel_rfl) (by kernel_rfl) (by kernel_rfl) (by kernel_rfl) (by kernel_rfl) (fun _ _ _ h => h) HSS.out (by rfl) ?_ ?_
    rotate_left
    · intro w' hSw; refine run_load_row 88 (.tmp 10) ?_ gp ?_ 88 _ _ (HPB.out.keep hSw) Try.underlying88 rfl (by kernel_rfl) <;> rfl
    simp only [Act.put, List.getElem_toArray, List.getElem_cons_zero, List.getElem_cons_succ, List.setIfInBounds_toArray, List.set_cons_zero, List.set_cons_succ]
    refine wpAnyT_load (i := 12) (v := ?_) rfl (by kernel_rfl) (by kernel_rfl) (by kernel_rfl) (by kernel_rfl) (by kernel_rfl) (fun _ _ _ h => h) HSS.out (by rfl) ?_ ?_
    rotate_left
    · intro w hSw; have n0 := (H8.out.keep hSw).cell 0; simp only [List.getElem?_toArray, List.getElem?_cons_zero] at n0; go_simp; try with_reducible rfl
    simp only [Act.put, List.getElem_toArray, List.getElem_cons_zero, List.getElem_cons_succ, List.setIfInBounds_toArray, List.set_cons_zero, List.set_cons_succ]
    refine wpAnyT_load (i := 13) (v := ?_) rfl (by kernel_rfl) (by kernel_rfl) (by kernel_rfl) (by kernel_rfl) (by kernel_rfl) (fun _ _ _ h => h) HSS.out (by rfl) ?_ ?_
    rotate_left
    · intro w hSw; skip; go_simp; try with_reducible rfl
    simp only [Act.put, List.getElem_toArray, List.getElem_cons_zero, List.getElem_cons_succ, List.setIfInBounds_toArray, List.set_cons_zero, List.set_cons_succ]
    refine wpAnyT_one (i := 11) (by kernel_rfl) rfl (fun K hK => ?_)
    rw [if_pos (by rfl)]
    go_simp
    refine (R5Size_any (HV.out.keep HSS.out) HSL.out).mono ?_
    rw [HSB.out]
    rintro e ww ⟨rfl, hF⟩
    have HSS := Lib.hid (HSS.out.trans hF)
    clear hF
    go_simp
    refine hK.out _ _ (fun _ => HSS.out) ?_
    clear hK K
    simp only [Act.put, List.getElem_toArray, List.getElem_cons_zero, List.getElem_cons_succ, List.setIfInBounds_toArray, List.set_cons_zero, List.set_cons_succ]
    refine wpAnyT_load (i := 14) (v := ?_) rfl (by kernel_rfl) (by kernel_rfl) (by kernel_rfl) (by kernel_rfl) (by kernel_rfl) (fun _ _ _ h => h) HSS.out (by rfl) ?_ ?_
    rotate_left
    · intro w hSw; skip; go_simp; try with_reducible rfl
    simp only [Act.put, List.getElem_toArray, List.getElem_cons_zero, List.getElem_cons_succ, List.setIfInBounds_toArray, List.set_cons_zero, List.set_cons_succ]
    refine wpAnyT_load (i := 15) (v := ?_) rfl (by kernel_rfl) (by kernel_rfl) (by kernel_rfl) (by kernel_rfl) (by kernel_rfl) (fun _ _ _ h => h) HSS.out (by rfl) ?_ ?_
    rotate_left
    · intro w hSw; skip; go_simp; try with_reducible rfl
    simp only [Act.put, List.getElem_toArray, List.getElem_cons_zero, List.getElem_cons_succ, List.setIfInBounds_toArray, List.set_cons_zero, List.set_cons_succ]
    refine wpAnyT_load (i := 16) (v := ?_) rfl (by kernel_rfl) (by kernel_rfl) (by kernel_rfl) (by kernel_rfl) (by kernel_rfl) (fun _ _ _ h => h) HSS.out (by rfl) ?_ ?_
    rotate_left
    · intro w hSw; skip; go_simp; try with_reducible rfl
    simp only [Act.put, List.getElem_toArray, List.getElem_cons_zero, List.getElem_cons_succ, List.setIfInBounds_toArray, List.set_cons_zero, List.set_cons_succ]
    refine wpAnyT_done (by kernel_rfl) ?_ _
    have HF := Lib.hid (HF.out.trans HSS.out)
    go_wp2_with fail
    go_ret
    first | exact ⟨rfl, HF.out⟩ | exact ⟨ret_bool (by simp), HF.out⟩
end Go.Proofs.Ytchbgiindfoepaa
