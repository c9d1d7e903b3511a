/- The walk of confluxlaw14.SolveBack (printed by gen_svback.py). -/
import Derived.Test.YtchbgiindfoepaaMs38
import Derived.Test.YtchbgiindfoepaaMs37
import Derived.Test.YtchbgiindfoepaaMs23
import Derived.Test.YtchbgiindfoepaaMs29
namespace Go.Proofs.Ytchbgiindfoepaa
open Go.RowKit

set_option maxRecDepth 100000 in
set_option maxHeartbeats 16000000 in
theorem SolveBack_any {w : World} {v : Value} {ls : List (List UInt8)} (hl : BRows w v ls) (c d : Int) :
    Calls Try.prog 10 #[v, .int .i64 c, .int .i64 d] w fun e w' => e = .returned (.bool true) ∧ Fr [] w w' := by
  obtain ⟨av, cv, rfl⟩ := hl.shape
  have hlen := hl.len
  unfold maxLen at hlen
  have HB := Lib.hid hl; have HF : Hid (Fr [] w w) := Lib.hid (Fr.refl _ _)
  clear hl
  go_enter Try.func10, Try.ntmps10
  go_wp2_with fail
  refine l14alive_any.mono ?_
  rintro e w1 ⟨rfl, hF⟩
  have HF := Lib.hid (HF.out.trans hF)
  have HB := Lib.hid (HB.out.keep hF)
  clear hF
  go_wp2_with fail
  refine (RFew13_any HB.out 48 400 (by omega) (by omega)).mono ?_
  rintro e w2 ⟨rfl, hF⟩
  have HF := Lib.hid (HF.out.trans hF)
  have HB := Lib.hid (HB.out.keep hF)
  clear hF
  by_cases hfew : few13 ls 48 400 = true
  rotate_left
  · have hfew2 : few13 ls 48 400 = false := by simpa using hfew
    rw [hfew2]
    go_wp2_with fail
    go_ret
    first | exact ⟨rfl, HF.out⟩ | exact ⟨ret_bool (by simp), HF.out⟩
  rw [hfew]
  obtain ⟨hn48, hsz⟩ := few13_true hfew
  clear hfew hsz
  go_wp2_with fail
  refine (pMake_any HB.out).mono ?_
  rintro e w3 ⟨hF, ⟨r, v', hm, rfl, hv⟩ | ⟨kk, hm, hk0, rfl⟩⟩
  rotate_left
  · have hkb : (kk != 0) = true := bne_iff_ne.2 hk0
    have HF := Lib.hid (HF.out.trans hF)
    have HB := Lib.hid (HB.out.keep hF)
    clear hm hk0 hF
    go_upto_region 6 with (refine wpList_store_row rfl 58 (.tmp 7) (.tmp 28) rfl w3.heap.size rfl _ _ rfl 58 (Box.new w3 58 rpz) (by kernel_rfl) rfl (by simp [Value.oneCell']) ?_; intro w4 hY hG; have hFn := ((Fr.refl [] w3).alloc _).step hG (by simp); have HFn := Lib.hid hFn; have HY := Lib.hid hY; clear hG hFn hY)
    have hF := HFn.out
    have HF := Lib.hid (HF.out.trans hF)
    have HB := Lib.hid (HB.out.keep hF)
    clear hF HFn HY
    go_wp2_with fail
    go_ret
    first | exact ⟨rfl, HF.out⟩ | exact ⟨ret_bool (by simp), HF.out⟩
  obtain ⟨vb, rfl, hb, -⟩ := hv
  obtain ⟨a2, n2, c2, rfl⟩ := Sl.isSlice hb
  have HM := Lib.hid hm
  have HF := Lib.hid (HF.out.trans hF)
  have HB := Lib.hid (HB.out.keep hF)
  have HBD := Lib.hid hb
  clear hb hF hm
  go_upto_region 6 with (refine wpList_store_row rfl 58 (.tmp 7) (.tmp 28) rfl w3.heap.size rfl _ _ rfl 58 (Box.new w3 58 rpz) (by kernel_rfl) rfl (by simp [Value.oneCell']) ?_; intro w4 hY hG; have hFn := ((Fr.refl [] w3).alloc _).step hG (by simp); have HFn := Lib.hid hFn; have HY := Lib.hid hY; clear hG hFn hY)
  have hF := HFn.out
  have HF := Lib.hid (HF.out.trans hF)
  have HB := Lib.hid (HB.out.keep hF)
  have HBD := Lib.hid (Sl.keep HBD.out hF)
  have HR := HY
  clear hF HFn HY
  generalize hg7 : w3.heap.size = g7 at *
  clear hg7
  have hpos : 0 < ls.length := List.length_pos_iff.2 (mkP_iff.1 HM.out).ne
  obtain ⟨b, o, al0, cl0, ea, -, hc0, hx0⟩ := HB.out.at_ 0 hpos
  subst ea
  simp only [Nat.add_zero] at hc0
  have HX0 := Lib.hid hx0
  have HSM : Hid (r.bt.body.length ≤ 1099511627776) := Lib.hid (mkP_small HM.out)
  go_wp2_with fail
  refine (SSRC_any HX0.out).mono ?_
  rintro e w5 (⟨p0, hp0, rfl, hF⟩ | ⟨k2, hp0, -, -⟩)
  rotate_left
  · obtain ⟨p, hp⟩ := (mkP_iff.1 HM.out).ok ls[0] (List.getElem_mem hpos)
    rw [hp] at hp0
    cases hp0
  have hss : ∀ l ∈ ls, ssF l = p0.ssrc := fun l hl => by
    rw [(mkP_iff.1 HM.out).alike l hl ls[0] (List.getElem_mem hpos)]
    unfold ssF
    rw [hp0]
  have HSC := Lib.hid hss
  clear hss hp0 HX0 hx0 hc0
  generalize p0.ssrc = ss at *
  have HF := Lib.hid (HF.out.trans hF)
  have HB := Lib.hid (HB.out.keep hF)
  have HBD := Lib.hid (Sl.keep HBD.out hF)
  have HR := Lib.hid (HR.out.keep hF)
  clear hF
  obtain ⟨cn, hcn, hcl⟩ := and1023 c
  obtain ⟨kk, hkk⟩ : ∃ kk, kk = cn % ls.length := ⟨_, rfl⟩
  have hkl : kk < ls.length := by rw [hkk]; exact Nat.mod_lt _ hpos
  have hKK : ((cn : Int) % (ls.length : Int)) = (kk : Int) := by rw [hkk]; omega
  clear hkk
  go_upto_region 10 with fail
  have hkcA : kk ≤ cv := by omega
  obtain ⟨k1, hk1A⟩ : ∃ k1, k1 = kk + 1 := ⟨_, rfl⟩
  have hk1nA : k1 ≤ ls.length := by omega
  have hkc2A : k1 ≤ cv := by omega
  have hwkA : IntKind.i64.wrap ((kk : Int) + 1) = (k1 : Int) := by rw [IntWalk.i64_in _ (by omega), hk1A]; rfl
  obtain ⟨rs, hrsA⟩ : ∃ xs, xs = ls.take kk ++ ls.drop k1 := ⟨_, rfl⟩
  have HRQA := Lib.hid hrsA
  have HK1A := Lib.hid hk1A
  clear hk1A hrsA
  obtain ⟨qA, hqA⟩ : ∃ qq, (if cv = k1 then some (⟨b, o, none⟩ : Addr) else some ⟨b, o + k1, none⟩) = qq := ⟨_, rfl⟩
  have HQA := Lib.hid hqA
  obtain ⟨pk, hpk⟩ := (mkP_iff.1 HM.out).ok ls[kk] (List.getElem_mem hkl)
  have HPK := Lib.hid hpk
  have HSQ : Hid (seqF ls[kk] = pk.seq) := Lib.hid (by unfold seqF; rw [hpk])
  clear hpk
  obtain ⟨b', o', al, cl, ea, -, hc, hx⟩ := HB.out.at_ kk hkl
  cases ea
  have HX := Lib.hid hx; have HC := Lib.hid hc
  clear hc hx
  refine wp_region_T (fun w' => Fr [] w5.drew w') [] 11 #[false, false, false, false, false, false, false, false, false, false, false] (by kernel_rfl) rfl rfl ?_
  try simp only [List.append_eq, List.cons_append, List.nil_append]
  have hF := (Fr.refl [] w5).drew
  have HF := Lib.hid (HF.out.trans hF)
  have HB := Lib.hid (HB.out.keep hF)
  have HBD := Lib.hid (Sl.keep HBD.out hF)
  have HR := Lib.hid (HR.out.keep hF)
  have HX := Lib.hid (Sl.keep HX.out hF)
  have HC := Lib.hid (hF.cellSome HC.out (by simp))
  clear hF
  have HSS : Hid (Fr [] w5.drew w5.drew) := Lib.hid (Fr.refl _ _)
  generalize w5.drew = wd at *
  obtain ⟨ad1A, cells1A, B1A, e1A, hE1, hlt1, hc1⟩ := rows_ad HB.out 0 kk (by omega)
  obtain ⟨ad2A, cells2A, B2A, e2A, hE2, hlt2, hc2⟩ := rows_ad HB.out k1 (ls.length - k1) (by omega)
  rw [if_neg (by omega)] at e1A
  cases e1A
  rw [HQA.out] at e2A
  have hl1 : ((ls.drop 0).take kk).length = kk := by rw [List.length_take, List.length_drop]; omega
  have hl2 : ((ls.drop k1).take (ls.length - k1)).length = ls.length - k1 := by rw [List.length_take, List.length_drop]; omega
  have HE1A := Lib.hid hE1; have HC1A := Lib.hid hc1; have HL1A := Lib.hid hl1; have HLT1A := Lib.hid hlt1
  have HE2A := Lib.hid hE2; have HC2A := Lib.hid hc2; have HL2A := Lib.hid hl2; have HLT2A := Lib.hid hlt2
  have HE0A := Lib.hid e2A
  clear hE1 hlt1 hc1 hl1 hE2 hlt2 hc2 hl2 e2A
  refine wpAnyT_load (i := 1) (v := ?_) rfl (by kernel_rfl) (by kernel_rfl) (by kernel_rfl) (by kernel_rfl) (by kernel_rfl) (fun _ _ _ h => h) HSS.out (by rfl) ?_ ?_
  rotate_left
  · intro w hSw; skip; go_simp; try with_reducible rfl
  simp only [Act.put, List.getElem_toArray, List.getElem_cons_zero, List.getElem_cons_succ, List.setIfInBounds_toArray, List.set_cons_zero, List.set_cons_succ]
  refine wpAnyT_load (i := 2) (v := ?_) rfl (by kernel_rfl) (by kernel_rfl) (by kernel_rfl) (by kernel_rfl) (by kernel_rfl) (fun _ _ _ h => h) HSS.out (by rfl) ?_ ?_
  rotate_left
  · intro w hSw; skip; go_simp; try with_reducible rfl
  simp only [Act.put, List.getElem_toArray, List.getElem_cons_zero, List.getElem_cons_succ, List.setIfInBounds_toArray, List.set_cons_zero, List.set_cons_succ]
  refine wpAnyT_load (i := 3) (v := ?_) rfl (by kernel_rfl) (by kernel_rfl) (by kernel_rfl) (by kernel_rfl) (by kernel_rfl) (fun _ _ _ h => h) HSS.out (by rfl) ?_ ?_
  rotate_left
  · intro w hSw; skip; go_simp; try with_reducible rfl
  simp only [Act.put, List.getElem_toArray, List.getElem_cons_zero, List.getElem_cons_succ, List.setIfInBounds_toArray, List.set_cons_zero, List.set_cons_succ]
  refine wpAnyT_load (i := 5) (v := ?_) rfl (by kernel_rfl) (by kernel_rfl) (by kernel_rfl) (by kernel_rfl) (by kernel_rfl) (fun _ _ _ h => h) HSS.out (by rfl) ?_ ?_
  rotate_left
  · intro w hSw; skip; go_simp; try with_reducible rfl
  simp only [Act.put, List.getElem_toArray, List.getElem_cons_zero, List.getElem_cons_succ, List.setIfInBounds_toArray, List.set_cons_zero, List.set_cons_succ]
  refine wpAnyT_load (i := 6) (v := ?_) rfl (by kernel_rfl) (by kernel_rfl) (by kernel_rfl) (by kernel_rfl) (by kernel_rfl) (fun _ _ _ h => h) HSS.out (by rfl) ?_ ?_
  rotate_left
  · intro w hSw; skip; go_simp; try with_reducible rfl
  simp only [Act.put, List.getElem_toArray, List.getElem_cons_zero, List.getElem_cons_succ, List.setIfInBounds_toArray, List.set_cons_zero, List.set_cons_succ]
  refine wpAnyT_load (i := 7) (v := ?_) rfl (by kernel_rfl) (by kernel_rfl) (by kernel_rfl) (by kernel_rfl) (by kernel_rfl) (fun _ _ _ h => h) HSS.out (by rfl) ?_ ?_
  rotate_left
  · intro w hSw; skip; go_simp; try with_reducible rfl
  simp only [Act.put, List.getElem_toArray, List.getElem_cons_zero, List.getElem_cons_succ, List.setIfInBounds_toArray, List.set_cons_zero, List.set_cons_succ]
  refine wpAnyT_load (i := 8) (v := ?_) rfl (by kernel_rfl) (by kernel_rfl) (by kernel_rfl) (by kernel_rfl) (by kernel_rfl) (fun _ _ _ h => h) HSS.out (by rfl) ?_ ?_
  rotate_left
  · intro w hSw; skip; go_simp; try with_reducible rfl
  simp only [Act.put, List.getElem_toArray, List.getElem_cons_zero, List.getElem_cons_succ, List.setIfInBounds_toArray, List.set_cons_zero, List.set_cons_succ]
  obtain ⟨waA, e12, hF, hB12, hs12⟩ := one_new wd #[] 25
  have HOA : Hid (OwnEls 1 BytesR waA wd.heap.size 25 (.slice (some ⟨wd.heap.size, 0, none⟩) 0 0) [] []) := Lib.hid (by rw [← e12]; exact OwnEls.made wd wd.heap.size _ (Nat.le_refl _))
  refine wpAnyT_one (i := 0) (by kernel_rfl) rfl (fun K hK => ?_)
  rw [if_pos (by rfl)]
  go_simp
  refine hK.out _ _ (fun _ => hF) ?_
  clear hK K
  simp only [Act.put, List.getElem_toArray, List.getElem_cons_zero, List.getElem_cons_succ, List.setIfInBounds_toArray, List.set_cons_zero, List.set_cons_succ]
  have HSS := Lib.hid hF
  have HW12A : Hid (wd.heap.size ≤ waA.heap.size) := Lib.hid (by omega)
  clear e12 hF hB12 hs12
  have HDJ : Hid (∀ x, blockOf (.slice (some ⟨wd.heap.size, 0, none⟩) 0 0) = some x → x ∉ B1A) := Lib.hid (fun x hx hm => by have := HLT1A.out x hm; simp [blockOf] at hx; omega)
  refine wpAnyT_one (i := 4) (by kernel_rfl) rfl (fun K hK => ?_)
  refine step_append_els Rep.bytes (by decide) rfl (.tmp 44) (.tmp 47) 22 rfl wd.heap.size 25 (.slice none 0 0) 24 Try.underlying22 info_bs rfl _ [] [] rfl HOA.out ⟨b, o, none⟩ kk cv rfl ((ls.drop 0).take kk) HL1A.out cells1A B1A (HE1A.out.fr Rep.bytes HSS.out (by simp)) (fun j u hj => HSS.out.cellSome (HC1A.out j u hj) (by simp)) HDJ.out (by unfold maxLen; simp only [List.length_nil]; omega) (by simp only [List.length_nil]; omega) HW12A.out ?_
  intro v13 wbA hown hfr hbl
  rw [List.nil_append, List.nil_append] at hown
  obtain ⟨a13A, c13A, e13⟩ := hown.shape
  rw [HL1A.out] at e13
  subst e13
  have HOA := Lib.hid hown
  have HSS := Lib.hid (HSS.out.step hfr (fun x hx => .inr (by rw [mem_toList] at hx; exact Nat.le_of_eq (Option.some.inj hx))))
  have hF : Fr [] wd wbA := HSS.out
  have HBLA : Hid (∀ x, blockOf (.slice a13A kk c13A) = some x → wd.heap.size ≤ x) := Lib.hid (fun x hx => (hown.block x hx).1)
  have HW13A : Hid (wd.heap.size ≤ wbA.heap.size) := Lib.hid hF.size
  clear hown hfr hbl hF HE1A HC1A HDJ
  refine hK.out _ _ (fun _ => HSS.out) ?_
  clear hK K
  simp only [Act.put, List.getElem_toArray, List.getElem_cons_zero, List.getElem_cons_succ, List.setIfInBounds_toArray, List.set_cons_zero, List.set_cons_succ]
  have HDJ : Hid (∀ x, blockOf (.slice a13A kk c13A) = some x → x ∉ B2A) := Lib.hid (fun x hx hm => by have := HLT2A.out x hm; have := HBLA.out x hx; omega)
  have hq2 := HE0A.out
  subst hq2
  refine wpAnyT_one (i := 9) (by kernel_rfl) rfl (fun K hK => ?_)
  refine step_append_els Rep.bytes (by decide) rfl (.tmp 48) (.tmp 52) 22 rfl wd.heap.size 25 (.slice none 0 0) 24 Try.underlying22 info_bs rfl _ ((ls.drop 0).take kk) B1A rfl HOA.out ad2A (ls.length - k1) (cv - k1) rfl ((ls.drop k1).take (ls.length - k1)) HL2A.out cells2A B2A (HE2A.out.fr Rep.bytes HSS.out (by simp)) (fun j u hj => HSS.out.cellSome (HC2A.out j u hj) (by simp)) HDJ.out (by rw [HL1A.out]; unfold maxLen; omega) (by rw [HL1A.out]; omega) HW13A.out ?_
  intro v14 wcA hown hfr hbl
  have hrl : (ls.drop 0).take kk ++ (ls.drop k1).take (ls.length - k1) = ls.take kk ++ ls.drop k1 := by
    rw [List.drop_zero, List.take_of_length_le (l := ls.drop k1) (by rw [List.length_drop]; omega)]
  rw [hrl, ← HRQA.out] at hown
  obtain ⟨arA, crA, e14⟩ := hown.shape
  subst e14
  have HOA := Lib.hid hown
  have HSS := Lib.hid (HSS.out.step hfr (fun x hx => .inr (by rw [mem_toList] at hx; have := HBLA.out x hx; omega)))
  clear hown hfr hbl hrl HE2A HC2A HDJ HL2A
  refine hK.out _ _ (fun _ => HSS.out) ?_
  clear hK K
  simp only [Act.put, List.getElem_toArray, List.getElem_cons_zero, List.getElem_cons_succ, List.setIfInBounds_toArray, List.set_cons_zero, List.set_cons_succ]
  refine wpAnyT_load (i := 10) (v := ?_) rfl (by kernel_rfl) (by kernel_rfl) (by kernel_rfl) (by kernel_rfl) (by kernel_rfl) (fun _ _ _ h => h) HSS.out (by rfl) ?_ ?_
  rotate_left
  · intro w hSw; skip; go_simp; try with_reducible rfl
  simp only [Act.put, List.getElem_toArray, List.getElem_cons_zero, List.getElem_cons_succ, List.setIfInBounds_toArray, List.set_cons_zero, List.set_cons_succ]
  refine wpAnyT_done (by kernel_rfl) ?_ _
  have hF := HSS.out
  have HF := Lib.hid (HF.out.trans hF)
  have HB := Lib.hid (HB.out.keep hF)
  have HBD := Lib.hid (Sl.keep HBD.out hF)
  have HR := Lib.hid (HR.out.keep hF)
  have HX := Lib.hid (Sl.keep HX.out hF)
  have HC := Lib.hid (hF.cellSome HC.out (by simp))
  clear hF HSS
  have hrs := HRQA.out
  have hrn : rs.length = ls.length - 1 := by rw [hrs, List.length_append, List.length_take, List.length_drop]; have := HK1A.out; omega
  have HRS : Hid (BRows wcA (.slice arA rs.length crA) rs) := Lib.hid HOA.out.sl.rows
  have hlr := HRS.out.len
  unfold maxLen at hlr
  rw [HK1A.out] at hrs
  have hperm : ls.Perm (rs ++ [ls[kk]]) := by rw [hrs]; exact rest_perm ls hkl
  have HPM := Lib.hid hperm
  have HRN := Lib.hid hrn
  have hkp := known_part HM.out hperm
  have HONE : Hid (oneL (findL rs) ss r = (pk.seq, ls[kk], 0)) := Lib.hid (by have h := (one_lost HM.out hperm HSC.out hkp.1 (hkp.2 _ (by simp))).1; rw [HSQ.out] at h; exact h)
  have HCH2 : Hid (checkL (findL rs) ss r = false) := Lib.hid (one_lost HM.out hperm HSC.out hkp.1 (hkp.2 _ (by simp))).2.1
  have HCH1 : Hid (checkL (findL ls) ss r = true) := Lib.hid (none_lost HM.out HSC.out (find_in (mkP_iff.1 HM.out).ok (mkP_nodup HM.out))).2.1
  have hr48 : rs.length ≤ 48 := by omega
  clear hrn hrs hperm hkp HOA hKK hwkA hcn hqA HRQA HQA HE0A HLT1A HLT2A HL1A HBLA HW12A HW13A
  go_upto_region 11 with fail
  refine wp_region_T (fun w' => Fr [] wcA.drew w') [] 12 #[false, false, false, false, false, false, false, false, false, false, false, false] (by kernel_rfl) rfl rfl ?_
  try simp only [List.append_eq, List.cons_append, List.nil_append]
  have hF := (Fr.refl [] wcA).drew
  have HF := Lib.hid (HF.out.trans hF)
  have HB := Lib.hid (HB.out.keep hF)
  have HBD := Lib.hid (Sl.keep HBD.out hF)
  have HR := Lib.hid (HR.out.keep hF)
  have HX := Lib.hid (Sl.keep HX.out hF)
  have HC := Lib.hid (hF.cellSome HC.out (by simp))
  have HRS := Lib.hid (HRS.out.keep hF)
  clear hF
  have HSS : Hid (Fr [] wcA.drew wcA.drew) := Lib.hid (Fr.refl _ _)
  generalize wcA.drew = we at *
  refine wpAnyT_load (i := 0) (v := ?_) rfl (by kernel_rfl) (by kernel_rfl) (by kernel_rfl) (by kernel_rfl) (by kernel_rfl) (fun _ _ _ h => h) HSS.out (by rfl) ?_ ?_
  rotate_left
  · intro w' hSw; refine run_load_row 58 (.tmp 7) ?_ g7 ?_ 58 _ _ (HR.out.keep hSw) Try.underlying58 rfl (by kernel_rfl) <;> rfl
  simp only [Act.put, List.getElem_toArray, List.getElem_cons_zero, List.getElem_cons_succ, List.setIfInBounds_toArray, List.set_cons_zero, List.set_cons_succ]
  refine wpAnyT_load (i := 1) (v := ?_) rfl (by kernel_rfl) (by kernel_rfl) (by kernel_rfl) (by kernel_rfl) (by kernel_rfl) (fun _ _ _ h => h) HSS.out (by rfl) ?_ ?_
  rotate_left
  · intro w hSw; skip; go_simp; try with_reducible rfl
  simp only [Act.put, List.getElem_toArray, List.getElem_cons_zero, List.getElem_cons_succ, List.setIfInBounds_toArray, List.set_cons_zero, List.set_cons_succ]
  refine wpAnyT_load (i := 2) (v := ?_) rfl (by kernel_rfl) (by kernel_rfl) (by kernel_rfl) (by kernel_rfl) (by kernel_rfl) (fun _ _ _ h => h) HSS.out (by rfl) ?_ ?_
  rotate_left
  · intro w hSw; skip; go_simp; try with_reducible rfl
  simp only [Act.put, List.getElem_toArray, List.getElem_cons_zero, List.getElem_cons_succ, List.setIfInBounds_toArray, List.set_cons_zero, List.set_cons_succ]
  refine wpAnyT_one (i := 3) (by kernel_rfl) rfl (fun K hK => ?_)
  rw [if_pos (by rfl)]
  go_simp
  refine (l14by_any (HRS.out.keep HSS.out)).mono ?_
  rintro e wf ⟨gk, rfl, hk, hF⟩
  have HK := Lib.hid hk
  have HSS := Lib.hid (HSS.out.trans hF)
  clear hk hF
  go_simp
  refine hK.out _ _ (fun _ => HSS.out) ?_
  clear hK K
  simp only [Act.put, List.getElem_toArray, List.getElem_cons_zero, List.getElem_cons_succ, List.setIfInBounds_toArray, List.set_cons_zero, List.set_cons_succ]
  refine wpAnyT_one (i := 4) (by kernel_rfl) rfl (fun K hK => ?_)
  rw [if_pos (by rfl)]
  go_simp
  refine (svOne_any (r := r) ⟨_, rfl, Sl.keep HBD.out HSS.out⟩ HSM.out HK.out ss).mono ?_
  rw [HONE.out]
  rintro e wg ⟨vwg, rfl, hO, hF⟩
  have HSS := Lib.hid (HSS.out.trans hF)
  obtain ⟨awg, nwg, cwg, rfl⟩ := Sl.isSlice hO
  have HO := Lib.hid hO
  clear HK hO hF
  go_simp
  refine hK.out _ _ (fun _ => HSS.out) ?_
  clear hK K
  simp only [Act.put, List.getElem_toArray, List.getElem_cons_zero, List.getElem_cons_succ, List.setIfInBounds_toArray, List.set_cons_zero, List.set_cons_succ]
  refine wpAnyT_load (i := 5) (v := ?_) rfl (by kernel_rfl) (by kernel_rfl) (by kernel_rfl) (by kernel_rfl) (by kernel_rfl) (fun _ _ _ h => h) HSS.out (by rfl) ?_ ?_
  rotate_left
  · intro w hSw; skip; go_simp; try with_reducible rfl
  simp only [Act.put, List.getElem_toArray, List.getElem_cons_zero, List.getElem_cons_succ, List.setIfInBounds_toArray, List.set_cons_zero, List.set_cons_succ]
  refine wpAnyT_load (i := 6) (v := ?_) rfl (by kernel_rfl) (by kernel_rfl) (by kernel_rfl) (by kernel_rfl) (by kernel_rfl) (fun _ _ _ h => h) HSS.out (by rfl) ?_ ?_
  rotate_left
  · intro w hSw; skip; go_simp; try with_reducible rfl
  simp only [Act.put, List.getElem_toArray, List.getElem_cons_zero, List.getElem_cons_succ, List.setIfInBounds_toArray, List.set_cons_zero, List.set_cons_succ]
  refine wpAnyT_load (i := 7) (v := ?_) rfl (by kernel_rfl) (by kernel_rfl) (by kernel_rfl) (by kernel_rfl) (by kernel_rfl) (fun _ _ _ h => h) HSS.out (by rfl) ?_ ?_
  rotate_left
  · intro w hSw; skip; go_simp; try with_reducible rfl
  simp only [Act.put, List.getElem_toArray, List.getElem_cons_zero, List.getElem_cons_succ, List.setIfInBounds_toArray, List.set_cons_zero, List.set_cons_succ]
  refine wpAnyT_load (i := 8) (v := ?_) rfl (by kernel_rfl) (by kernel_rfl) (by kernel_rfl) (by kernel_rfl) (by kernel_rfl) (fun _ _ _ h => h) HSS.out (by rfl) ?_ ?_
  rotate_left
  · intro w hSw; skip; go_simp; try with_reducible rfl
  simp only [Act.put, List.getElem_toArray, List.getElem_cons_zero, List.getElem_cons_succ, List.setIfInBounds_toArray, List.set_cons_zero, List.set_cons_succ]
  refine wpAnyT_load (i := 9) (v := ?_) rfl (by kernel_rfl) (by kernel_rfl) (by kernel_rfl) (by kernel_rfl) (by kernel_rfl) (fun _ _ _ h => h) HSS.out (by rfl) ?_ ?_
  rotate_left
  · intro w hSw; skip; go_simp; try with_reducible rfl
  simp only [Act.put, List.getElem_toArray, List.getElem_cons_zero, List.getElem_cons_succ, List.setIfInBounds_toArray, List.set_cons_zero, List.set_cons_succ]
  refine wpAnyT_load (i := 10) (v := ?_) rfl (by kernel_rfl) (by kernel_rfl) (by kernel_rfl) (by kernel_rfl) (by kernel_rfl) (fun _ _ _ h => h) HSS.out (by rfl) ?_ ?_
  rotate_left
  · intro w hSw; skip; go_simp; try with_reducible rfl
  simp only [Act.put, List.getElem_toArray, List.getElem_cons_zero, List.getElem_cons_succ, List.setIfInBounds_toArray, List.set_cons_zero, List.set_cons_succ]
  refine wpAnyT_load (i := 11) (v := ?_) rfl (by kernel_rfl) (by kernel_rfl) (by kernel_rfl) (by kernel_rfl) (by kernel_rfl) (fun _ _ _ h => h) HSS.out (by rfl) ?_ ?_
  rotate_left
  · intro w hSw; skip; go_simp; try with_reducible rfl
  simp only [Act.put, List.getElem_toArray, List.getElem_cons_zero, List.getElem_cons_succ, List.setIfInBounds_toArray, List.set_cons_zero, List.set_cons_succ]
  refine wpAnyT_done (by kernel_rfl) ?_ _
  have hF := HSS.out
  have HF := Lib.hid (HF.out.trans hF)
  have HB := Lib.hid (HB.out.keep hF)
  have HBD := Lib.hid (Sl.keep HBD.out hF)
  have HR := Lib.hid (HR.out.keep hF)
  have HX := Lib.hid (Sl.keep HX.out hF)
  have HC := Lib.hid (hF.cellSome HC.out (by simp))
  have HRS := Lib.hid (HRS.out.keep hF)
  have HOB := HO
  clear hF HSS HO HONE
  have d0 := HC.out
  go_wp2_with fail
  refine (Seq_any HX.out).mono ?_
  rintro e wh (⟨p, hp, rfl, hF⟩ | ⟨k2, hp, -, -⟩)
  rotate_left
  · rw [HPK.out] at hp
    cases hp
  obtain rfl : pk = p := by rw [HPK.out] at hp; cases hp; rfl
  clear d0 hp
  have HF := Lib.hid (HF.out.trans hF)
  have HB := Lib.hid (HB.out.keep hF)
  have HBD := Lib.hid (Sl.keep HBD.out hF)
  have HR := Lib.hid (HR.out.keep hF)
  have HX := Lib.hid (Sl.keep HX.out hF)
  have HC := Lib.hid (hF.cellSome HC.out (by simp))
  have HRS := Lib.hid (HRS.out.keep hF)
  have HOB := Lib.hid (Sl.keep HOB.out hF)
  clear hF
  have HLK : Hid (ls[kk].length ≤ 1099511627776) := Lib.hid (by have := (parse_len HPK.out).2; omega)
  go_upto_region 13 with fail
  refine wp_region_T (fun w' => Fr [] wh.drew w') [] 31 #[false, false, false, false, false, false, false, false, false, false, false, false, false, false, false, false, false, false, false, false, false, false, false, false, false, false, false, false, false, false, false] (by kernel_rfl) rfl rfl ?_
  try simp only [List.append_eq, List.cons_append, List.nil_append]
  have hF := (Fr.refl [] wh).drew
  have HF := Lib.hid (HF.out.trans hF)
  have HB := Lib.hid (HB.out.keep hF)
  have HBD := Lib.hid (Sl.keep HBD.out hF)
  have HR := Lib.hid (HR.out.keep hF)
  have HX := Lib.hid (Sl.keep HX.out hF)
  have HC := Lib.hid (hF.cellSome HC.out (by simp))
  have HRS := Lib.hid (HRS.out.keep hF)
  have HOB := Lib.hid (Sl.keep HOB.out hF)
  clear hF
  have HSS : Hid (Fr [] wh.drew wh.drew) := Lib.hid (Fr.refl _ _)
  generalize wh.drew = wi at *
  refine wpAnyT_load (i := 0) (v := ?_) rfl (by kernel_rfl) (by kernel_rfl) (by kernel_rfl) (by kernel_rfl) (by kernel_rfl) (fun _ _ _ h => h) HSS.out (by rfl) ?_ ?_
  rotate_left
  · intro w hSw; skip; go_simp; try with_reducible rfl
  simp only [Act.put, List.getElem_toArray, List.getElem_cons_zero, List.getElem_cons_succ, List.setIfInBounds_toArray, List.set_cons_zero, List.set_cons_succ]
  refine wpAnyT_load (i := 1) (v := ?_) rfl (by kernel_rfl) (by kernel_rfl) (by kernel_rfl) (by kernel_rfl) (by kernel_rfl) (fun _ _ _ h => h) HSS.out (by rfl) ?_ ?_
  rotate_left
  · intro w hSw; skip; go_simp; try with_reducible rfl
  simp only [Act.put, List.getElem_toArray, List.getElem_cons_zero, List.getElem_cons_succ, List.setIfInBounds_toArray, List.set_cons_zero, List.set_cons_succ]
  refine wpAnyT_load (i := 2) (v := ?_) rfl (by kernel_rfl) (by kernel_rfl) (by kernel_rfl) (by kernel_rfl) (by kernel_rfl) (fun _ _ _ h => h) HSS.out (by rfl) ?_ ?_
  rotate_left
  · intro w hSw; skip; go_simp; try with_reducible rfl
  simp only [Act.put, List.getElem_toArray, List.getElem_cons_zero, List.getElem_cons_succ, List.setIfInBounds_toArray, List.set_cons_zero, List.set_cons_succ]
  refine wpAnyT_load (i := 3) (v := ?_) rfl (by kernel_rfl) (by kernel_rfl) (by kernel_rfl) (by kernel_rfl) (by kernel_rfl) (fun _ _ _ h => h) HSS.out (by rfl) ?_ ?_
  rotate_left
  · intro w hSw; skip; go_simp; try with_reducible rfl
  simp only [Act.put, List.getElem_toArray, List.getElem_cons_zero, List.getElem_cons_succ, List.setIfInBounds_toArray, List.set_cons_zero, List.set_cons_succ]
  refine wpAnyT_load (i := 4) (v := ?_) rfl (by kernel_rfl) (by kernel_rfl) (by kernel_rfl) (by kernel_rfl) (by kernel_rfl) (fun _ _ _ h => h) HSS.out (by rfl) ?_ ?_
  rotate_left
  · intro w hSw; skip; go_simp; try with_reducible rfl
  simp only [Act.put, List.getElem_toArray, List.getElem_cons_zero, List.getElem_cons_succ, List.setIfInBounds_toArray, List.set_cons_zero, List.set_cons_succ]
  refine wpAnyT_load (i := 5) (v := ?_) rfl (by kernel_rfl) (by kernel_rfl) (by kernel_rfl) (by kernel_rfl) (by kernel_rfl) (fun _ _ _ h => h) HSS.out (by rfl) ?_ ?_
  rotate_left
  · intro w hSw; skip; go_simp; try with_reducible rfl
  simp only [Act.put, List.getElem_toArray, List.getElem_cons_zero, List.getElem_cons_succ, List.setIfInBounds_toArray, List.set_cons_zero, List.set_cons_succ]
  refine wpAnyT_load (i := 6) (v := ?_) rfl (by kernel_rfl) (by kernel_rfl) (by kernel_rfl) (by kernel_rfl) (by kernel_rfl) (fun _ _ _ h => h) HSS.out (by rfl) ?_ ?_
  rotate_left
  · intro w hSw; skip; go_simp; try with_reducible rfl
  simp only [Act.put, List.getElem_toArray, List.getElem_cons_zero, List.getElem_cons_succ, List.setIfInBounds_toArray, List.set_cons_zero, List.set_cons_succ]
  refine wpAnyT_load (i := 7) (v := ?_) rfl (by kernel_rfl) (by kernel_rfl) (by kernel_rfl) (by kernel_rfl) (by kernel_rfl) (fun _ _ _ h => h) HSS.out (by rfl) ?_ ?_
  rotate_left
  · intro w hSw; skip; go_simp; try with_reducible rfl
  simp only [Act.put, List.getElem_toArray, List.getElem_cons_zero, List.getElem_cons_succ, List.setIfInBounds_toArray, List.set_cons_zero, List.set_cons_succ]
  refine wpAnyT_load (i := 8) (v := ?_) rfl (by kernel_rfl) (by kernel_rfl) (by kernel_rfl) (by kernel_rfl) (by kernel_rfl) (fun _ _ _ h => h) HSS.out (by rfl) ?_ ?_
  rotate_left
  · intro w hSw; skip; go_simp; try with_reducible rfl
  simp only [Act.put, List.getElem_toArray, List.getElem_cons_zero, List.getElem_cons_succ, List.setIfInBounds_toArray, List.set_cons_zero, List.set_cons_succ]
  refine wpAnyT_load (i := 9) (v := ?_) rfl (by kernel_rfl) (by kernel_rfl) (by kernel_rfl) (by kernel_rfl) (by kernel_rfl) (fun _ _ _ h => h) HSS.out (by rfl) ?_ ?_
  rotate_left
  · intro w hSw; skip; go_simp; try with_reducible rfl
  simp only [Act.put, List.getElem_toArray, List.getElem_cons_zero, List.getElem_cons_succ, List.setIfInBounds_toArray, List.set_cons_zero, List.set_cons_succ]
  refine wpAnyT_load (i := 10) (v := ?_) rfl (by kernel_rfl) (by kernel_rfl) (by kernel_rfl) (by kernel_rfl) (by kernel_rfl) (fun _ _ _ h => h) HSS.out (by rfl) ?_ ?_
  rotate_left
  · intro w hSw; skip; go_simp; try with_reducible rfl
  simp only [Act.put, List.getElem_toArray, List.getElem_cons_zero, List.getElem_cons_succ, List.setIfInBounds_toArray, List.set_cons_zero, List.set_cons_succ]
  refine wpAnyT_load (i := 11) (v := ?_) rfl (by kernel_rfl) (by kernel_rfl) (by kernel_rfl) (by kernel_rfl) (by kernel_rfl) (fun _ _ _ h => h) HSS.out (by rfl) ?_ ?_
  rotate_left
  · intro w hSw; skip; go_simp; try with_reducible rfl
  simp only [Act.put, List.getElem_toArray, List.getElem_cons_zero, List.getElem_cons_succ, List.setIfInBounds_toArray, List.set_cons_zero, List.set_cons_succ]
  refine wpAnyT_load (i := 12) (v := ?_) rfl (by kernel_rfl) (by kernel_rfl) (by kernel_rfl) (by kernel_rfl) (by kernel_rfl) (fun _ _ _ h => h) HSS.out (by rfl) ?_ ?_
  rotate_left
  · intro w hSw; have n0 := hSw.cellSome HC.out (by simp); go_simp; try with_reducible rfl
  simp only [Act.put, List.getElem_toArray, List.getElem_cons_zero, List.getElem_cons_succ, List.setIfInBounds_toArray, List.set_cons_zero, List.set_cons_succ]
  refine wpAnyT_one (i := 13) (by kernel_rfl) rfl (fun K hK => ?_)
  rw [if_pos (by rfl)]
  go_simp
  refine (RSame_any (Sl.keep HOB.out HSS.out) (Sl.keep HX.out HSS.out) HLK.out HLK.out).mono ?_
  rintro e wj ⟨rfl, hF⟩
  rw [beq_self_eq_true]
  go_simp
  have HSS := Lib.hid (HSS.out.trans hF)
  clear hF
  refine hK.out _ _ (fun _ => HSS.out) ?_
  clear hK K
  simp only [Act.put, List.getElem_toArray, List.getElem_cons_zero, List.getElem_cons_succ, List.setIfInBounds_toArray, List.set_cons_zero, List.set_cons_succ]
  refine wpAnyT_load (i := 14) (v := ?_) rfl (by kernel_rfl) (by kernel_rfl) (by kernel_rfl) (by kernel_rfl) (by kernel_rfl) (fun _ _ _ h => h) HSS.out (by rfl) ?_ ?_
  rotate_left
  · intro w hSw; skip; go_simp; try with_reducible rfl
  simp only [Act.put, List.getElem_toArray, List.getElem_cons_zero, List.getElem_cons_succ, List.setIfInBounds_toArray, List.set_cons_zero, List.set_cons_succ]
  refine wpAnyT_load (i := 15) (v := ?_) rfl (by kernel_rfl) (by kernel_rfl) (by kernel_rfl) (by kernel_rfl) (by kernel_rfl) (fun _ _ _ h => h) HSS.out (by rfl) ?_ ?_
  rotate_left
  · intro w hSw; skip; go_simp; try with_reducible rfl
  simp only [Act.put, List.getElem_toArray, List.getElem_cons_zero, List.getElem_cons_succ, List.setIfInBounds_toArray, List.set_cons_zero, List.set_cons_succ]
  refine wpAnyT_load (i := 16) (v := ?_) rfl (by kernel_rfl) (by kernel_rfl) (by kernel_rfl) (by kernel_rfl) (by kernel_rfl) (fun _ _ _ h => h) HSS.out (by rfl) ?_ ?_
  rotate_left
  · intro w hSw; skip; go_simp; try with_reducible rfl
  simp only [Act.put, List.getElem_toArray, List.getElem_cons_zero, List.getElem_cons_succ, List.setIfInBounds_toArray, List.set_cons_zero, List.set_cons_succ]
  refine wpAnyT_load (i := 17) (v := ?_) rfl (by kernel_rfl) (by kernel_rfl) (by kernel_rfl) (by kernel_rfl) (by kernel_rfl) (fun _ _ _ h => h) HSS.out (by rfl) ?_ ?_
  rotate_left
  · intro w' hSw; refine run_load_row 58 (.tmp 7) ?_ g7 ?_ 58 _ _ (HR.out.keep hSw) Try.underlying58 rfl (by kernel_rfl) <;> rfl
  simp only [Act.put, List.getElem_toArray, List.getElem_cons_zero, List.getElem_cons_succ, List.setIfInBounds_toArray, List.set_cons_zero, List.set_cons_succ]
  refine wpAnyT_load (i := 18) (v := ?_) rfl (by kernel_rfl) (by kernel_rfl) (by kernel_rfl) (by kernel_rfl) (by kernel_rfl) (fun _ _ _ h => h) HSS.out (by rfl) ?_ ?_
  rotate_left
  · intro w hSw; skip; go_simp; try with_reducible rfl
  simp only [Act.put, List.getElem_toArray, List.getElem_cons_zero, List.getElem_cons_succ, List.setIfInBounds_toArray, List.set_cons_zero, List.set_cons_succ]
  refine wpAnyT_load (i := 19) (v := ?_) rfl (by kernel_rfl) (by kernel_rfl) (by kernel_rfl) (by kernel_rfl) (by kernel_rfl) (fun _ _ _ h => h) HSS.out (by rfl) ?_ ?_
  rotate_left
  · intro w hSw; skip; go_simp; try with_reducible rfl
  simp only [Act.put, List.getElem_toArray, List.getElem_cons_zero, List.getElem_cons_succ, List.setIfInBounds_toArray, List.set_cons_zero, List.set_cons_succ]
  refine wpAnyT_one (i := 20) (by kernel_rfl) rfl (fun K hK => ?_)
  rw [if_pos (by rfl)]
  go_simp
  refine (l14by_any (HB.out.keep HSS.out)).mono ?_
  rintro e wk ⟨gk, rfl, hk, hF⟩
  have HK := Lib.hid hk
  have HSS := Lib.hid (HSS.out.trans hF)
  clear hk hF
  go_simp
  refine hK.out _ _ (fun _ => HSS.out) ?_
  clear hK K
  simp only [Act.put, List.getElem_toArray, List.getElem_cons_zero, List.getElem_cons_succ, List.setIfInBounds_toArray, List.set_cons_zero, List.set_cons_succ]
  refine wpAnyT_one (i := 21) (by kernel_rfl) rfl (fun K hK => ?_)
  rw [if_pos (by rfl)]
  go_simp
  refine (svCheck_any (r := r) ⟨_, rfl, Sl.keep HBD.out HSS.out⟩ HSM.out HK.out ss).mono ?_
  rw [HCH1.out]
  rintro e wm21 ⟨rfl, hF⟩
  have HSS := Lib.hid (HSS.out.trans hF)
  clear HK hF
  go_simp
  refine hK.out _ _ (fun _ => HSS.out) ?_
  clear hK K
  simp only [Act.put, List.getElem_toArray, List.getElem_cons_zero, List.getElem_cons_succ, List.setIfInBounds_toArray, List.set_cons_zero, List.set_cons_succ]
  refine wpAnyT_load (i := 22) (v := ?_) rfl (by kernel_rfl) (by kernel_rfl) (by kernel_rfl) (by kernel_rfl) (by kernel_rfl) (fun _ _ _ h => h) HSS.out (by rfl) ?_ ?_
  rotate_left
  · intro w hSw; skip; go_simp; try with_reducible rfl
  simp only [Act.put, List.getElem_toArray, List.getElem_cons_zero, List.getElem_cons_succ, List.setIfInBounds_toArray, List.set_cons_zero, List.set_cons_succ]
  refine wpAnyT_load (i := 23) (v := ?_) rfl (by kernel_rfl) (by kernel_rfl) (by kernel_rfl) (by kernel_rfl) (by kernel_rfl) (fun _ _ _ h => h) HSS.out (by rfl) ?_ ?_
  rotate_left
  · intro w hSw; skip; go_simp; try with_reducible rfl
  simp only [Act.put, List.getElem_toArray, List.getElem_cons_zero, List.getElem_cons_succ, List.setIfInBounds_toArray, List.set_cons_zero, List.set_cons_succ]
  refine wpAnyT_load (i := 24) (v := ?_) rfl (by kernel_rfl) (by kernel_rfl) (by kernel_rfl) (by kernel_rfl) (by kernel_rfl) (fun _ _ _ h => h) HSS.out (by rfl) ?_ ?_
  rotate_left
  · intro w hSw; skip; go_simp; try with_reducible rfl
  simp only [Act.put, List.getElem_toArray, List.getElem_cons_zero, List.getElem_cons_succ, List.setIfInBounds_toArray, List.set_cons_zero, List.set_cons_succ]
  refine wpAnyT_load (i := 25) (v := ?_) rfl (by kernel_rfl) (by kernel_rfl) (by kernel_rfl) (by kernel_rfl) (by kernel_rfl) (fun _ _ _ h => h) HSS.out (by rfl) ?_ ?_
  rotate_left
  · intro w' hSw; refine run_load_row 58 (.tmp 7) ?_ g7 ?_ 58 _ _ (HR.out.keep hSw) Try.underlying58 rfl (by kernel_rfl) <;> rfl
  simp only [Act.put, List.getElem_toArray, List.getElem_cons_zero, List.getElem_cons_succ, List.setIfInBounds_toArray, List.set_cons_zero, List.set_cons_succ]
  refine wpAnyT_load (i := 26) (v := ?_) rfl (by kernel_rfl) (by kernel_rfl) (by kernel_rfl) (by kernel_rfl) (by kernel_rfl) (fun _ _ _ h => h) HSS.out (by rfl) ?_ ?_
  rotate_left
  · intro w hSw; skip; go_simp; try with_reducible rfl
  simp only [Act.put, List.getElem_toArray, List.getElem_cons_zero, List.getElem_cons_succ, List.setIfInBounds_toArray, List.set_cons_zero, List.set_cons_succ]
  refine wpAnyT_load (i := 27) (v := ?_) rfl (by kernel_rfl) (by kernel_rfl) (by kernel_rfl) (by kernel_rfl) (by kernel_rfl) (fun _ _ _ h => h) HSS.out (by rfl) ?_ ?_
  rotate_left
  · intro w hSw; skip; go_simp; try with_reducible rfl
  simp only [Act.put, List.getElem_toArray, List.getElem_cons_zero, List.getElem_cons_succ, List.setIfInBounds_toArray, List.set_cons_zero, List.set_cons_succ]
  refine wpAnyT_one (i := 28) (by kernel_rfl) rfl (fun K hK => ?_)
  rw [if_pos (by rfl)]
  go_simp
  refine (l14by_any (HRS.out.keep HSS.out)).mono ?_
  rintro e wl ⟨gk, rfl, hk, hF⟩
  have HK := Lib.hid hk
  have HSS := Lib.hid (HSS.out.trans hF)
  clear hk hF
  go_simp
  refine hK.out _ _ (fun _ => HSS.out) ?_
  clear hK K
  simp only [Act.put, List.getElem_toArray, List.getElem_cons_zero, List.getElem_cons_succ, List.setIfInBounds_toArray, List.set_cons_zero, List.set_cons_succ]
  refine wpAnyT_one (i := 29) (by kernel_rfl) rfl (fun K hK => ?_)
  rw [if_pos (by rfl)]
  go_simp
  refine (svCheck_any (r := r) ⟨_, rfl, Sl.keep HBD.out HSS.out⟩ HSM.out HK.out ss).mono ?_
  rw [HCH2.out]
  rintro e wm29 ⟨rfl, hF⟩
  have HSS := Lib.hid (HSS.out.trans hF)
  clear HK hF
  go_simp
  refine hK.out _ _ (fun _ => HSS.out) ?_
  clear hK K
  simp only [Act.put, List.getElem_toArray, List.getElem_cons_zero, List.getElem_cons_succ, List.setIfInBounds_toArray, List.set_cons_zero, List.set_cons_succ]
  refine wpAnyT_load (i := 30) (v := ?_) rfl (by kernel_rfl) (by kernel_rfl) (by kernel_rfl) (by kernel_rfl) (by kernel_rfl) (fun _ _ _ h => h) HSS.out (by rfl) ?_ ?_
  rotate_left
  · intro w hSw; skip; go_simp; try with_reducible rfl
  simp only [Act.put, List.getElem_toArray, List.getElem_cons_zero, List.getElem_cons_succ, List.setIfInBounds_toArray, List.set_cons_zero, List.set_cons_succ]
  refine wpAnyT_done (by kernel_rfl) ?_ _
  have hF := HSS.out
  have HF := Lib.hid (HF.out.trans hF)
  have HB := Lib.hid (HB.out.keep hF)
  have HBD := Lib.hid (Sl.keep HBD.out hF)
  have HR := Lib.hid (HR.out.keep hF)
  have HRS := Lib.hid (HRS.out.keep hF)
  clear hF HSS HOB HX HC HCH1 HCH2 HLK
  by_cases hr0 : rs.length = 0
  · go_wp2_with fail
    go_ret
    first | exact ⟨rfl, HF.out⟩ | exact ⟨ret_bool (by simp), HF.out⟩
  obtain ⟨dn, hdn, hdl⟩ := and1023 d
  obtain ⟨oo, hoo⟩ : ∃ oo, oo = dn % rs.length := ⟨_, rfl⟩
  have hol : oo < rs.length := by rw [hoo]; exact Nat.mod_lt _ (by omega)
  have hOO : ((dn : Int) % (rs.length : Int)) = (oo : Int) := by rw [hoo]; omega
  clear hoo
  obtain ⟨b2, o2, al2, cl2, ea, -, -, -⟩ := HRS.out.at_ oo hol
  subst ea
  go_upto_region 18 with fail
  have hkcB : oo ≤ crA := by omega
  obtain ⟨k2, hk1B⟩ : ∃ k1, k1 = oo + 1 := ⟨_, rfl⟩
  have hk1nB : k2 ≤ rs.length := by omega
  have hkc2B : k2 ≤ crA := by omega
  have hwkB : IntKind.i64.wrap ((oo : Int) + 1) = (k2 : Int) := by rw [IntWalk.i64_in _ (by omega), hk1B]; rfl
  obtain ⟨rt, hrsB⟩ : ∃ xs, xs = rs.take oo ++ rs.drop k2 := ⟨_, rfl⟩
  have HRQB := Lib.hid hrsB
  have HK1B := Lib.hid hk1B
  clear hk1B hrsB
  obtain ⟨qB, hqB⟩ : ∃ qq, (if crA = k2 then some (⟨b2, o2, none⟩ : Addr) else some ⟨b2, o2 + k2, none⟩) = qq := ⟨_, rfl⟩
  have HQB := Lib.hid hqB
  refine wp_region_T (fun w' => Fr [] wm29.drew w') [] 21 #[false, false, false, false, false, false, false, false, false, false, false, false, false, false, false, false, false, false, false, false, false] (by kernel_rfl) rfl rfl ?_
  try simp only [List.append_eq, List.cons_append, List.nil_append]
  have hF := (Fr.refl [] wm29).drew
  have HF := Lib.hid (HF.out.trans hF)
  have HB := Lib.hid (HB.out.keep hF)
  have HBD := Lib.hid (Sl.keep HBD.out hF)
  have HR := Lib.hid (HR.out.keep hF)
  have HRS := Lib.hid (HRS.out.keep hF)
  clear hF
  have HSS : Hid (Fr [] wm29.drew wm29.drew) := Lib.hid (Fr.refl _ _)
  generalize wm29.drew = wn at *
  obtain ⟨ad1B, cells1B, B1B, e1B, hE1, hlt1, hc1⟩ := rows_ad HRS.out 0 oo (by omega)
  obtain ⟨ad2B, cells2B, B2B, e2B, hE2, hlt2, hc2⟩ := rows_ad HRS.out k2 (rs.length - k2) (by omega)
  rw [if_neg (by omega)] at e1B
  cases e1B
  rw [HQB.out] at e2B
  have hl1 : ((rs.drop 0).take oo).length = oo := by rw [List.length_take, List.length_drop]; omega
  have hl2 : ((rs.drop k2).take (rs.length - k2)).length = rs.length - k2 := by rw [List.length_take, List.length_drop]; omega
  have HE1B := Lib.hid hE1; have HC1B := Lib.hid hc1; have HL1B := Lib.hid hl1; have HLT1B := Lib.hid hlt1
  have HE2B := Lib.hid hE2; have HC2B := Lib.hid hc2; have HL2B := Lib.hid hl2; have HLT2B := Lib.hid hlt2
  have HE0B := Lib.hid e2B
  clear hE1 hlt1 hc1 hl1 hE2 hlt2 hc2 hl2 e2B
  refine wpAnyT_load (i := 0) (v := ?_) rfl (by kernel_rfl) (by kernel_rfl) (by kernel_rfl) (by kernel_rfl) (by kernel_rfl) (fun _ _ _ h => h) HSS.out (by rfl) ?_ ?_
  rotate_left
  · intro w' hSw; refine run_load_row 58 (.tmp 7) ?_ g7 ?_ 58 _ _ (HR.out.keep hSw) Try.underlying58 rfl (by kernel_rfl) <;> rfl
  simp only [Act.put, List.getElem_toArray, List.getElem_cons_zero, List.getElem_cons_succ, List.setIfInBounds_toArray, List.set_cons_zero, List.set_cons_succ]
  refine wpAnyT_load (i := 1) (v := ?_) rfl (by kernel_rfl) (by kernel_rfl) (by kernel_rfl) (by kernel_rfl) (by kernel_rfl) (fun _ _ _ h => h) HSS.out (by rfl) ?_ ?_
  rotate_left
  · intro w hSw; skip; go_simp; try with_reducible rfl
  simp only [Act.put, List.getElem_toArray, List.getElem_cons_zero, List.getElem_cons_succ, List.setIfInBounds_toArray, List.set_cons_zero, List.set_cons_succ]
  refine wpAnyT_load (i := 3) (v := ?_) rfl (by kernel_rfl) (by kernel_rfl) (by kernel_rfl) (by kernel_rfl) (by kernel_rfl) (fun _ _ _ h => h) HSS.out (by rfl) ?_ ?_
  rotate_left
  · intro w hSw; skip; go_simp; try with_reducible rfl
  simp only [Act.put, List.getElem_toArray, List.getElem_cons_zero, List.getElem_cons_succ, List.setIfInBounds_toArray, List.set_cons_zero, List.set_cons_succ]
  refine wpAnyT_load (i := 4) (v := ?_) rfl (by kernel_rfl) (by kernel_rfl) (by kernel_rfl) (by kernel_rfl) (by kernel_rfl) (fun _ _ _ h => h) HSS.out (by rfl) ?_ ?_
  rotate_left
  · intro w hSw; skip; go_simp; try with_reducible rfl
  simp only [Act.put, List.getElem_toArray, List.getElem_cons_zero, List.getElem_cons_succ, List.setIfInBounds_toArray, List.set_cons_zero, List.set_cons_succ]
  refine wpAnyT_load (i := 5) (v := ?_) rfl (by kernel_rfl) (by kernel_rfl) (by kernel_rfl) (by kernel_rfl) (by kernel_rfl) (fun _ _ _ h => h) HSS.out (by rfl) ?_ ?_
  rotate_left
  · intro w hSw; skip; go_simp; try with_reducible rfl
  simp only [Act.put, List.getElem_toArray, List.getElem_cons_zero, List.getElem_cons_succ, List.setIfInBounds_toArray, List.set_cons_zero, List.set_cons_succ]
  refine wpAnyT_load (i := 7) (v := ?_) rfl (by kernel_rfl) (by kernel_rfl) (by kernel_rfl) (by kernel_rfl) (by kernel_rfl) (fun _ _ _ h => h) HSS.out (by rfl) ?_ ?_
  rotate_left
  · intro w hSw; skip; go_simp; try with_reducible rfl
  simp only [Act.put, List.getElem_toArray, List.getElem_cons_zero, List.getElem_cons_succ, List.setIfInBounds_toArray, List.set_cons_zero, List.set_cons_succ]
  refine wpAnyT_load (i := 8) (v := ?_) rfl (by kernel_rfl) (by kernel_rfl) (by kernel_rfl) (by kernel_rfl) (by kernel_rfl) (fun _ _ _ h => h) HSS.out (by rfl) ?_ ?_
  rotate_left
  · intro w hSw; skip; go_simp; try with_reducible rfl
  simp only [Act.put, List.getElem_toArray, List.getElem_cons_zero, List.getElem_cons_succ, List.setIfInBounds_toArray, List.set_cons_zero, List.set_cons_succ]
  refine wpAnyT_load (i := 9) (v := ?_) rfl (by kernel_rfl) (by kernel_rfl) (by kernel_rfl) (by kernel_rfl) (by kernel_rfl) (fun _ _ _ h => h) HSS.out (by rfl) ?_ ?_
  rotate_left
  · intro w hSw; skip; go_simp; try with_reducible rfl
  simp only [Act.put, List.getElem_toArray, List.getElem_cons_zero, List.getElem_cons_succ, List.setIfInBounds_toArray, List.set_cons_zero, List.set_cons_succ]
  refine wpAnyT_load (i := 10) (v := ?_) rfl (by kernel_rfl) (by kernel_rfl) (by kernel_rfl) (by kernel_rfl) (by kernel_rfl) (fun _ _ _ h => h) HSS.out (by rfl) ?_ ?_
  rotate_left
  · intro w hSw; skip; go_simp; try with_reducible rfl
  simp only [Act.put, List.getElem_toArray, List.getElem_cons_zero, List.getElem_cons_succ, List.setIfInBounds_toArray, List.set_cons_zero, List.set_cons_succ]
  obtain ⟨waB, e12, hF, hB12, hs12⟩ := one_new wn #[] 25
  have HOB : Hid (OwnEls 1 BytesR waB wn.heap.size 25 (.slice (some ⟨wn.heap.size, 0, none⟩) 0 0) [] []) := Lib.hid (by rw [← e12]; exact OwnEls.made wn wn.heap.size _ (Nat.le_refl _))
  refine wpAnyT_one (i := 2) (by kernel_rfl) rfl (fun K hK => ?_)
  rw [if_pos (by rfl)]
  go_simp
  refine hK.out _ _ (fun _ => hF) ?_
  clear hK K
  simp only [Act.put, List.getElem_toArray, List.getElem_cons_zero, List.getElem_cons_succ, List.setIfInBounds_toArray, List.set_cons_zero, List.set_cons_succ]
  have HSS := Lib.hid hF
  have HW12B : Hid (wn.heap.size ≤ waB.heap.size) := Lib.hid (by omega)
  clear e12 hF hB12 hs12
  have HDJ : Hid (∀ x, blockOf (.slice (some ⟨wn.heap.size, 0, none⟩) 0 0) = some x → x ∉ B1B) := Lib.hid (fun x hx hm => by have := HLT1B.out x hm; simp [blockOf] at hx; omega)
  refine wpAnyT_one (i := 6) (by kernel_rfl) rfl (fun K hK => ?_)
  refine step_append_els Rep.bytes (by decide) rfl (.tmp 113) (.tmp 116) 22 rfl wn.heap.size 25 (.slice none 0 0) 24 Try.underlying22 info_bs rfl _ [] [] rfl HOB.out ⟨b2, o2, none⟩ oo crA rfl ((rs.drop 0).take oo) HL1B.out cells1B B1B (HE1B.out.fr Rep.bytes HSS.out (by simp)) (fun j u hj => HSS.out.cellSome (HC1B.out j u hj) (by simp)) HDJ.out (by unfold maxLen; simp only [List.length_nil]; omega) (by simp only [List.length_nil]; omega) HW12B.out ?_
  intro v13 wbB hown hfr hbl
  rw [List.nil_append, List.nil_append] at hown
  obtain ⟨a13B, c13B, e13⟩ := hown.shape
  rw [HL1B.out] at e13
  subst e13
  have HOB := Lib.hid hown
  have HSS := Lib.hid (HSS.out.step hfr (fun x hx => .inr (by rw [mem_toList] at hx; exact Nat.le_of_eq (Option.some.inj hx))))
  have hF : Fr [] wn wbB := HSS.out
  have HBLB : Hid (∀ x, blockOf (.slice a13B oo c13B) = some x → wn.heap.size ≤ x) := Lib.hid (fun x hx => (hown.block x hx).1)
  have HW13B : Hid (wn.heap.size ≤ wbB.heap.size) := Lib.hid hF.size
  clear hown hfr hbl hF HE1B HC1B HDJ
  refine hK.out _ _ (fun _ => HSS.out) ?_
  clear hK K
  simp only [Act.put, List.getElem_toArray, List.getElem_cons_zero, List.getElem_cons_succ, List.setIfInBounds_toArray, List.set_cons_zero, List.set_cons_succ]
  have HDJ : Hid (∀ x, blockOf (.slice a13B oo c13B) = some x → x ∉ B2B) := Lib.hid (fun x hx hm => by have := HLT2B.out x hm; have := HBLB.out x hx; omega)
  have hq2 := HE0B.out
  subst hq2
  refine wpAnyT_one (i := 11) (by kernel_rfl) rfl (fun K hK => ?_)
  refine step_append_els Rep.bytes (by decide) rfl (.tmp 117) (.tmp 121) 22 rfl wn.heap.size 25 (.slice none 0 0) 24 Try.underlying22 info_bs rfl _ ((rs.drop 0).take oo) B1B rfl HOB.out ad2B (rs.length - k2) (crA - k2) rfl ((rs.drop k2).take (rs.length - k2)) HL2B.out cells2B B2B (HE2B.out.fr Rep.bytes HSS.out (by simp)) (fun j u hj => HSS.out.cellSome (HC2B.out j u hj) (by simp)) HDJ.out (by rw [HL1B.out]; unfold maxLen; omega) (by rw [HL1B.out]; omega) HW13B.out ?_
  intro v14 wcB hown hfr hbl
  have hrl : (rs.drop 0).take oo ++ (rs.drop k2).take (rs.length - k2) = rs.take oo ++ rs.drop k2 := by
    rw [List.drop_zero, List.take_of_length_le (l := rs.drop k2) (by rw [List.length_drop]; omega)]
  rw [hrl, ← HRQB.out] at hown
  obtain ⟨arB, crB, e14⟩ := hown.shape
  subst e14
  have HOB := Lib.hid hown
  have HSS := Lib.hid (HSS.out.step hfr (fun x hx => .inr (by rw [mem_toList] at hx; have := HBLB.out x hx; omega)))
  clear hown hfr hbl hrl HE2B HC2B HDJ HL2B
  refine hK.out _ _ (fun _ => HSS.out) ?_
  clear hK K
  simp only [Act.put, List.getElem_toArray, List.getElem_cons_zero, List.getElem_cons_succ, List.setIfInBounds_toArray, List.set_cons_zero, List.set_cons_succ]
  have HRT : Hid (BRows wcB (.slice arB rt.length crB) rt) := Lib.hid HOB.out.sl.rows
  have hrt := HRQB.out
  rw [HK1B.out] at hrt
  have hperm : ls.Perm (rt ++ [rs[oo], ls[kk]]) := by
    refine HPM.out.trans ?_
    have := (rest_perm rs hol).append_right [ls[kk]]
    rw [← hrt, List.append_assoc] at this
    exact this
  have hkp := known_part HM.out hperm
  have HTWO : Hid (oneL (findL rt) ss r = (0, [], 41)) := Lib.hid (two_lost HM.out hperm HSC.out hkp.1 (hkp.2 _ (by simp)) (hkp.2 _ (by simp)))
  clear hrt hperm hkp
  refine wpAnyT_one (i := 12) (by kernel_rfl) rfl (fun K hK => ?_)
  rw [if_pos (by rfl)]
  go_simp
  refine (l14by_any HRT.out).mono ?_
  rintro e wo ⟨gk, rfl, hk, hF⟩
  have HK := Lib.hid hk
  have HSS := Lib.hid (HSS.out.trans hF)
  clear hk hF
  go_simp
  refine hK.out _ _ (fun _ => HSS.out) ?_
  clear hK K
  simp only [Act.put, List.getElem_toArray, List.getElem_cons_zero, List.getElem_cons_succ, List.setIfInBounds_toArray, List.set_cons_zero, List.set_cons_succ]
  refine wpAnyT_one (i := 13) (by kernel_rfl) rfl (fun K hK => ?_)
  rw [if_pos (by rfl)]
  go_simp
  refine (svOne_any (r := r) ⟨_, rfl, Sl.keep HBD.out HSS.out⟩ HSM.out HK.out ss).mono ?_
  rw [HTWO.out]
  rintro e wp ⟨vwp, rfl, hO, hF⟩
  have HSS := Lib.hid (HSS.out.trans hF)
  obtain ⟨awp, nwp, cwp, rfl⟩ := Sl.isSlice hO
  have HO := Lib.hid hO
  clear HK hO hF
  go_simp
  refine hK.out _ _ (fun _ => HSS.out) ?_
  clear hK K
  simp only [Act.put, List.getElem_toArray, List.getElem_cons_zero, List.getElem_cons_succ, List.setIfInBounds_toArray, List.set_cons_zero, List.set_cons_succ]
  refine wpAnyT_load (i := 14) (v := ?_) rfl (by kernel_rfl) (by kernel_rfl) (by kernel_rfl) (by kernel_rfl) (by kernel_rfl) (fun _ _ _ h => h) HSS.out (by rfl) ?_ ?_
  rotate_left
  · intro w hSw; skip; go_simp; try with_reducible rfl
  simp only [Act.put, List.getElem_toArray, List.getElem_cons_zero, List.getElem_cons_succ, List.setIfInBounds_toArray, List.set_cons_zero, List.set_cons_succ]
  refine wpAnyT_load (i := 15) (v := ?_) rfl (by kernel_rfl) (by kernel_rfl) (by kernel_rfl) (by kernel_rfl) (by kernel_rfl) (fun _ _ _ h => h) HSS.out (by rfl) ?_ ?_
  rotate_left
  · intro w hSw; skip; go_simp; try with_reducible rfl
  simp only [Act.put, List.getElem_toArray, List.getElem_cons_zero, List.getElem_cons_succ, List.setIfInBounds_toArray, List.set_cons_zero, List.set_cons_succ]
  refine wpAnyT_load (i := 16) (v := ?_) rfl (by kernel_rfl) (by kernel_rfl) (by kernel_rfl) (by kernel_rfl) (by kernel_rfl) (fun _ _ _ h => h) HSS.out (by rfl) ?_ ?_
  rotate_left
  · intro w hSw; skip; go_simp; try with_reducible rfl
  simp only [Act.put, List.getElem_toArray, List.getElem_cons_zero, List.getElem_cons_succ, List.setIfInBounds_toArray, List.set_cons_zero, List.set_cons_succ]
  refine wpAnyT_load (i := 17) (v := ?_) rfl (by kernel_rfl) (by kernel_rfl) (by kernel_rfl) (by kernel_rfl) (by kernel_rfl) (fun _ _ _ h => h) HSS.out (by rfl) ?_ ?_
  rotate_left
  · intro w hSw; skip; go_simp; try with_reducible rfl
  simp only [Act.put, List.getElem_toArray, List.getElem_cons_zero, List.getElem_cons_succ, List.setIfInBounds_toArray, List.set_cons_zero, List.set_cons_succ]
  refine wpAnyT_load (i := 18) (v := ?_) rfl (by kernel_rfl) (by kernel_rfl) (by kernel_rfl) (by kernel_rfl) (by kernel_rfl) (fun _ _ _ h => h) HSS.out (by rfl) ?_ ?_
  rotate_left
  · intro w hSw; skip; go_simp; try with_reducible rfl
  simp only [Act.put, List.getElem_toArray, List.getElem_cons_zero, List.getElem_cons_succ, List.setIfInBounds_toArray, List.set_cons_zero, List.set_cons_succ]
  refine wpAnyT_load (i := 19) (v := ?_) rfl (by kernel_rfl) (by kernel_rfl) (by kernel_rfl) (by kernel_rfl) (by kernel_rfl) (fun _ _ _ h => h) HSS.out (by rfl) ?_ ?_
  rotate_left
  · intro w hSw; skip; go_simp; try with_reducible rfl
  simp only [Act.put, List.getElem_toArray, List.getElem_cons_zero, List.getElem_cons_succ, List.setIfInBounds_toArray, List.set_cons_zero, List.set_cons_succ]
  refine wpAnyT_load (i := 20) (v := ?_) rfl (by kernel_rfl) (by kernel_rfl) (by kernel_rfl) (by kernel_rfl) (by kernel_rfl) (fun _ _ _ h => h) HSS.out (by rfl) ?_ ?_
  rotate_left
  · intro w hSw; skip; go_simp; try with_reducible rfl
  simp only [Act.put, List.getElem_toArray, List.getElem_cons_zero, List.getElem_cons_succ, List.setIfInBounds_toArray, List.set_cons_zero, List.set_cons_succ]
  obtain ⟨ap, cp, ep⟩ : ∃ a c, Value.slice awp nwp cwp = .slice a 0 c := Sl.shape HO.out
  cases ep
  refine wpAnyT_done (by kernel_rfl) ?_ _
  have hF := HSS.out
  have HF := Lib.hid (HF.out.trans hF)
  clear hF HSS HO
  go_wp2_with fail
  go_ret
  first | exact ⟨rfl, HF.out⟩ | exact ⟨ret_bool (by simp), HF.out⟩
end Go.Proofs.Ytchbgiindfoepaa
