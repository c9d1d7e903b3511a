import Derived.Lib.SlBytesConst
import Derived.Test.YtchbgiindfoepaaMs35
import Derived.Test.YtchbgiindfoepaaMs36
import Derived.Test.YtchbgiindfoepaaMs34
import Derived.Test.YtchbgiindfoepaaMs22
import Derived.Test.YtchbgiindfoepaaMs24
/- The walk of confluxlaw14.two and alive (printed by gen_alive14.py). -/
namespace Go.Proofs.Ytchbgiindfoepaa
open Go.RowKit Go.Maps

def ba14 : List UInt8 := [128, 96, 255, 255, 0, 0, 0, 2, 0, 0, 0, 3, 97, 98]
def bb14 : List UInt8 := [128, 96, 0, 0, 0, 0, 0, 2, 0, 0, 0, 3, 98]
def ca14 : Array Value := #[.int .u8 128, .int .u8 96, .int .u8 255, .int .u8 255, .int .u8 0, .int .u8 0, .int .u8 0, .int .u8 2, .int .u8 0, .int .u8 0, .int .u8 0, .int .u8 3, .int .u8 97, .int .u8 98]
def cb14 : Array Value := #[.int .u8 128, .int .u8 96, .int .u8 0, .int .u8 0, .int .u8 0, .int .u8 0, .int .u8 0, .int .u8 2, .int .u8 0, .int .u8 0, .int .u8 0, .int .u8 3, .int .u8 98]
abbrev two14 : List (List UInt8) := [ba14, bb14]
def rep14 : Rep_ := ⟨⟨0, 0, 0, 0, 0, 0, 0, 3, [3, 98]⟩, 65535, ⟨13835058055282163712#64, 0#64⟩⟩
def zrep14 : Rep_ := ⟨Bt.zero, 0, ⟨0, 0⟩⟩
theorem zrep14_v (w : World) : RpV w (.agg rpz) zrep14 := ⟨.slice none 0 0, rfl, Sl.nil w⟩
theorem mk_two14 : mkP two14 = .ok rep14 := by rfl
set_option maxRecDepth 100000 in
theorem one14a : oneL (findL [bb14]) 3 rep14 = (65535, ba14, 0) := by decide +kernel
set_option maxRecDepth 100000 in
theorem one14b : oneL (findL two14) 3 rep14 = (0, [], 40) := by decide +kernel
set_option maxRecDepth 100000 in
theorem one14c : oneL (findL []) 3 rep14 = (0, [], 41) := by decide +kernel
theorem one14d : oneL (findL two14) 3 zrep14 = (0, [], 30) := by unfold oneL; rw [if_pos ⟨rfl, rfl⟩]
set_option maxRecDepth 100000 in
theorem check14a : checkL (findL two14) 3 rep14 = true := by decide +kernel
set_option maxRecDepth 100000 in
theorem check14b : checkL (findL [bb14]) 3 rep14 = false := by decide +kernel
set_option maxRecDepth 100000 in
theorem count14 : (restL (findL [bb14]) 3 rep14).2.length = 1 := by decide +kernel
set_option maxRecDepth 100000 in
theorem find14 : findL [ba14, bb14, ba14] 0 = some bb14 := by decide +kernel
set_option maxRecDepth 100000 in
theorem book14 : bookC [ba14, bb14, ba14] 3 = 2 := by decide +kernel
set_option maxRecDepth 100000 in
theorem BookV.look {w : World} {base b c : Nat} {D : DataW Value} {K : UInt16 → Option (List UInt8)} (h : BookV w base b D K c) {n : UInt16} {v : Value} (hv : ∀ z, D.atKey (bkey n) z = .held v) :
    (Instr.lookup 96 (.map (some b)) (.int .u16 (n.toNat : Nat)) false).run Try.prog w = .ok v w := by
  obtain ⟨own, -, hn, hs, -⟩ := h
  obtain ⟨es, clock, hb, F, -, rfl⟩ := own
  have hkey : keyOf Try.prog 42 (.int .u16 (n.toNat : Nat)) = some (bkey n) := keyOf_int_mk Try.underlying42 (bkey_wf n)
  rcases fit_look false keyU16 Try.underlying96 (zeroBytes w) hb F hkey with ⟨-, -, hat⟩ | ⟨e0, y, -, -, hrun, hR, hat, -⟩
  · exfalso
    have := (hat .nil).symm.trans (hv .nil)
    cases this
  · cases hR
    have := (hat .nil).symm.trans (hv .nil)
    injection this with this
    rw [hrun, this]
    rfl
set_option maxRecDepth 100000 in
set_option maxHeartbeats 4000000 in
theorem l14two_any {w : World} : Calls Try.prog 76 #[] w fun e w' => ∃ g B, e = .returned (.slice (some ⟨g, 0, none⟩) 2 2) ∧ OwnEls 1 BytesR w' w.heap.size 25 (.slice (some ⟨g, 0, none⟩) 2 2) two14 B ∧ Fr [] w w' := by
  have k1 := Lib.run_convert_bytes_const (P := Try.prog) w 25 5 ca14 14 14 Try.underlying25 Try.underlying5
  obtain ⟨w1, e1, hF1, hB1⟩ := const_block w ca14 5 (ca14.size, ca14.size + 1) 14 rfl (by unfold maxLen; omega)
  rw [e1] at k1
  have k2 := Lib.run_convert_bytes_const (P := Try.prog) w1 25 5 cb14 13 13 Try.underlying25 Try.underlying5
  obtain ⟨w2, e2, hF2, hB2⟩ := const_block w1 cb14 5 (cb14.size, cb14.size + 1) 13 rfl (by unfold maxLen; omega)
  rw [e2] at k2
  have HA : Hid (Bytes w2 (.slice (some ⟨w.heap.size, 0, none⟩) 14 14) ba14) := Lib.hid (Sl.keep hB1 hF2)
  have HB : Hid (Bytes w2 (.slice (some ⟨w1.heap.size, 0, none⟩) 13 13) bb14) := Lib.hid hB2
  have HF := Lib.hid (hF1.trans hF2)
  clear e1 hF1 hB1 e2 hF2 hB2
  unfold ca14 at k1
  unfold cb14 at k2
  go_enter Try.func76, Try.ntmps76
  go_wp2_with fail
  go_ret
  have hf2 : Fr [] w2 (w2.alloc (.cells #[.slice (some ⟨w.heap.size, 0, none⟩) 14 14, .slice (some ⟨w1.heap.size, 0, none⟩) 13 13] 25)) := (Fr.refl [] w2).alloc _
  have hown : OwnEls 1 BytesR (w2.alloc (.cells #[.slice (some ⟨w.heap.size, 0, none⟩) 14 14, .slice (some ⟨w1.heap.size, 0, none⟩) 13 13] 25)) w.heap.size 25 (.slice (some ⟨w2.heap.size, 0, none⟩) 2 2) two14 [w.heap.size, w1.heap.size] :=
    ⟨[.slice (some ⟨w.heap.size, 0, none⟩) 14 14, .slice (some ⟨w1.heap.size, 0, none⟩) 13 13],
      ⟨rfl, .inr ⟨w2.heap.size, 2, _, rfl, HF.out.size, heap_alloc_new w2 _, Nat.le_refl _, by unfold maxLen; omega, rfl, rfl⟩⟩,
      ⟨[_], [_], [w.heap.size], [w1.heap.size], rfl, rfl, ⟨_, rfl, Sl.keep HA.out hf2, rfl⟩, ⟨[_], [], [w1.heap.size], [], rfl, rfl, ⟨_, rfl, Sl.keep HB.out hf2, rfl⟩, rfl, rfl⟩⟩,
      fun b hb hm => by
        simp only [blockOf, Option.some.injEq] at hb
        have h1 : w.heap.size < w2.heap.size := Sl.lt HA.out _ rfl
        have h2 : w1.heap.size < w2.heap.size := Sl.lt HB.out _ rfl
        simp only [List.mem_cons, List.not_mem_nil, or_false] at hm
        rcases hm with hm | hm <;> omega⟩
  exact ⟨_, _, rfl, hown, HF.out.trans hf2⟩
theorem els_one {w : World} {v : Value} {l : List UInt8} (h : Bytes w v l) : Els BytesR [l] w [v] (liveOf v).toList := ⟨[v], [], (liveOf v).toList, [], rfl, by simp, ⟨v, rfl, h, rfl⟩, rfl, rfl⟩
set_option maxRecDepth 100000 in
set_option maxHeartbeats 16000000 in
theorem l14alive_any {w : World} : Calls Try.prog 42 #[] w fun e w' => e = .returned (.bool true) ∧ Fr [] w w' := by
  go_enter Try.func42, Try.ntmps42
  go_wp2_with fail
  refine l14two_any.mono ?_
  rintro e w1 ⟨gp, B1, rfl, hO, hF⟩
  have HP := Lib.hid hO.sl.rows; have HF := Lib.hid hF
  clear hO hF
  go_wp2_with fail
  refine (pMake_any HP.out).mono ?_
  rintro e w2 ⟨hF, ⟨r, v', hm, rfl, hv⟩ | ⟨kk, hm, -, -⟩⟩
  rotate_left
  · rw [mk_two14] at hm; cases hm
  rw [mk_two14] at hm
  cases hm
  obtain ⟨vb, rfl, hb, -⟩ := hv
  obtain ⟨a2, c2, rfl⟩ : ∃ a c, vb = .slice a 2 c := Sl.shape hb
  have HF := Lib.hid (HF.out.trans hF)
  have HP := Lib.hid (HP.out.keep hF)
  have HB := Lib.hid hb
  clear hb hF
  go_upto_region 3 with (refine wpList_store_row rfl 58 (.tmp 2) (.tmp 21) rfl w2.heap.size rfl _ _ rfl 58 (Box.new w2 58 rpz) (by kernel_rfl) rfl (by simp [Value.oneCell']) ?_; intro w3 hY hG; have hFn := ((Fr.refl [] w2).alloc _).step hG (by simp); have HFn := Lib.hid hFn; have HY := Lib.hid hY; clear hG hFn hY)
  have hF := HFn.out
  have HF := Lib.hid (HF.out.trans hF)
  have HP := Lib.hid (HP.out.keep hF)
  have HB := Lib.hid (Sl.keep HB.out hF)
  have HR := HY
  clear hF HFn HY
  generalize hg2 : w2.heap.size = g2 at *
  clear hg2
  have HP1 : Hid (BRows w3 (.slice (some ⟨gp, 1, none⟩) 1 1) [bb14]) := Lib.hid (by have := HP.out.from_ 1 1 rfl; simpa using this)
  go_upto_region 3 with fail
  refine wp_region_T (fun w' => Fr [] w3.drew w') [] 12 #[false, false, false, false, false, false, false, false, false, false, false, false] (by kernel_rfl) rfl rfl ?_
  try simp only [List.append_eq, List.cons_append, List.nil_append]
  have hF := (Fr.refl [] w3).drew
  have HF := Lib.hid (HF.out.trans hF)
  have HP := Lib.hid (HP.out.keep hF)
  have HB := Lib.hid (Sl.keep HB.out hF)
  have HR := Lib.hid (HR.out.keep hF)
  have HP1 := Lib.hid (HP1.out.keep hF)
  clear hF
  have HSS : Hid (Fr [] w3.drew w3.drew) := Lib.hid (Fr.refl _ _)
  generalize w3.drew = wd3 at *
  refine wpAnyT_load (i := 0) (v := ?_) rfl (by kernel_rfl) (by kernel_rfl) (by kernel_rfl) (by kernel_rfl) (by kernel_rfl) (fun _ _ _ h => h) HSS.out (by rfl) ?_ ?_
  rotate_left
  · intro w' hSw; refine run_load_row 58 (.tmp 2) ?_ g2 ?_ 58 _ _ (HR.out.keep hSw) Try.underlying58 rfl (by kernel_rfl) <;> rfl
  simp only [Act.put, List.getElem_toArray, List.getElem_cons_zero, List.getElem_cons_succ, List.setIfInBounds_toArray, List.set_cons_zero, List.set_cons_succ]
  refine wpAnyT_load (i := 1) (v := ?_) rfl (by kernel_rfl) (by kernel_rfl) (by kernel_rfl) (by kernel_rfl) (by kernel_rfl) (fun _ _ _ h => h) HSS.out (by rfl) ?_ ?_
  rotate_left
  · intro w hSw; skip; go_simp; try with_reducible rfl
  simp only [Act.put, List.getElem_toArray, List.getElem_cons_zero, List.getElem_cons_succ, List.setIfInBounds_toArray, List.set_cons_zero, List.set_cons_succ]
  refine wpAnyT_load (i := 2) (v := ?_) rfl (by kernel_rfl) (by kernel_rfl) (by kernel_rfl) (by kernel_rfl) (by kernel_rfl) (fun _ _ _ h => h) HSS.out (by rfl) ?_ ?_
  rotate_left
  · intro w hSw; skip; go_simp; try with_reducible rfl
  simp only [Act.put, List.getElem_toArray, List.getElem_cons_zero, List.getElem_cons_succ, List.setIfInBounds_toArray, List.set_cons_zero, List.set_cons_succ]
  refine wpAnyT_one (i := 3) (by kernel_rfl) rfl (fun K hK => ?_)
  rw [if_pos (by rfl)]
  go_simp
  refine (l14by_any (HP1.out.keep HSS.out)).mono ?_
  rintro e wb3 ⟨gk, rfl, hk, hF⟩
  have HK := Lib.hid hk
  have HSS := Lib.hid (HSS.out.trans hF)
  clear hk hF
  go_simp
  refine hK.out _ _ (fun _ => HSS.out) ?_
  clear hK K
  simp only [Act.put, List.getElem_toArray, List.getElem_cons_zero, List.getElem_cons_succ, List.setIfInBounds_toArray, List.set_cons_zero, List.set_cons_succ]
  refine wpAnyT_one (i := 4) (by kernel_rfl) rfl (fun K hK => ?_)
  rw [if_pos (by rfl)]
  go_simp
  refine (svOne_any (r := rep14) ⟨_, rfl, Sl.keep HB.out HSS.out⟩ (by decide) HK.out 3).mono ?_
  rw [one14a]
  rintro e wo3 ⟨vwo3, rfl, hO, hF⟩
  have HSS := Lib.hid (HSS.out.trans hF)
  have HO := Lib.hid hO
  clear HK hO hF
  go_simp
  refine hK.out _ _ (fun _ => HSS.out) ?_
  clear hK K
  simp only [Act.put, List.getElem_toArray, List.getElem_cons_zero, List.getElem_cons_succ, List.setIfInBounds_toArray, List.set_cons_zero, List.set_cons_succ]
  refine wpAnyT_load (i := 5) (v := ?_) rfl (by kernel_rfl) (by kernel_rfl) (by kernel_rfl) (by kernel_rfl) (by kernel_rfl) (fun _ _ _ h => h) HSS.out (by rfl) ?_ ?_
  rotate_left
  · intro w hSw; skip; go_simp; try with_reducible rfl
  simp only [Act.put, List.getElem_toArray, List.getElem_cons_zero, List.getElem_cons_succ, List.setIfInBounds_toArray, List.set_cons_zero, List.set_cons_succ]
  refine wpAnyT_load (i := 6) (v := ?_) rfl (by kernel_rfl) (by kernel_rfl) (by kernel_rfl) (by kernel_rfl) (by kernel_rfl) (fun _ _ _ h => h) HSS.out (by rfl) ?_ ?_
  rotate_left
  · intro w hSw; skip; go_simp; try with_reducible rfl
  simp only [Act.put, List.getElem_toArray, List.getElem_cons_zero, List.getElem_cons_succ, List.setIfInBounds_toArray, List.set_cons_zero, List.set_cons_succ]
  refine wpAnyT_load (i := 7) (v := ?_) rfl (by kernel_rfl) (by kernel_rfl) (by kernel_rfl) (by kernel_rfl) (by kernel_rfl) (fun _ _ _ h => h) HSS.out (by rfl) ?_ ?_
  rotate_left
  · intro w hSw; skip; go_simp; try with_reducible rfl
  simp only [Act.put, List.getElem_toArray, List.getElem_cons_zero, List.getElem_cons_succ, List.setIfInBounds_toArray, List.set_cons_zero, List.set_cons_succ]
  refine wpAnyT_load (i := 8) (v := ?_) rfl (by kernel_rfl) (by kernel_rfl) (by kernel_rfl) (by kernel_rfl) (by kernel_rfl) (fun _ _ _ h => h) HSS.out (by rfl) ?_ ?_
  rotate_left
  · intro w hSw; skip; go_simp; try with_reducible rfl
  simp only [Act.put, List.getElem_toArray, List.getElem_cons_zero, List.getElem_cons_succ, List.setIfInBounds_toArray, List.set_cons_zero, List.set_cons_succ]
  refine wpAnyT_load (i := 9) (v := ?_) rfl (by kernel_rfl) (by kernel_rfl) (by kernel_rfl) (by kernel_rfl) (by kernel_rfl) (fun _ _ _ h => h) HSS.out (by rfl) ?_ ?_
  rotate_left
  · intro w hSw; skip; go_simp; try with_reducible rfl
  simp only [Act.put, List.getElem_toArray, List.getElem_cons_zero, List.getElem_cons_succ, List.setIfInBounds_toArray, List.set_cons_zero, List.set_cons_succ]
  refine wpAnyT_load (i := 10) (v := ?_) rfl (by kernel_rfl) (by kernel_rfl) (by kernel_rfl) (by kernel_rfl) (by kernel_rfl) (fun _ _ _ h => h) HSS.out (by rfl) ?_ ?_
  rotate_left
  · intro w hSw; skip; go_simp; try with_reducible rfl
  simp only [Act.put, List.getElem_toArray, List.getElem_cons_zero, List.getElem_cons_succ, List.setIfInBounds_toArray, List.set_cons_zero, List.set_cons_succ]
  refine wpAnyT_load (i := 11) (v := ?_) rfl (by kernel_rfl) (by kernel_rfl) (by kernel_rfl) (by kernel_rfl) (by kernel_rfl) (fun _ _ _ h => h) HSS.out (by rfl) ?_ ?_
  rotate_left
  · intro w hSw; skip; go_simp; try with_reducible rfl
  simp only [Act.put, List.getElem_toArray, List.getElem_cons_zero, List.getElem_cons_succ, List.setIfInBounds_toArray, List.set_cons_zero, List.set_cons_succ]
  refine wpAnyT_done (by kernel_rfl) ?_ _
  have hF := HSS.out
  have HF := Lib.hid (HF.out.trans hF)
  have HP := Lib.hid (HP.out.keep hF)
  have HB := Lib.hid (Sl.keep HB.out hF)
  have HR := Lib.hid (HR.out.keep hF)
  have HP1 := Lib.hid (HP1.out.keep hF)
  clear hF HSS
  obtain ⟨a7, c7, rfl⟩ : ∃ a c, vwo3 = .slice a 14 c := Sl.shape HO.out
  have HOA := HO
  clear HO
  go_upto_region 4 with fail
  refine wp_region_T (fun w' => Fr [] wo3.drew w') [] 11 #[false, false, false, false, false, false, false, false, false, false, false] (by kernel_rfl) rfl rfl ?_
  try simp only [List.append_eq, List.cons_append, List.nil_append]
  have hF := (Fr.refl [] wo3).drew
  have HF := Lib.hid (HF.out.trans hF)
  have HP := Lib.hid (HP.out.keep hF)
  have HB := Lib.hid (Sl.keep HB.out hF)
  have HR := Lib.hid (HR.out.keep hF)
  have HP1 := Lib.hid (HP1.out.keep hF)
  have HOA := Lib.hid (Sl.keep HOA.out hF)
  clear hF
  have HSS : Hid (Fr [] wo3.drew wo3.drew) := Lib.hid (Fr.refl _ _)
  generalize wo3.drew = wd4 at *
  refine wpAnyT_load (i := 0) (v := ?_) rfl (by kernel_rfl) (by kernel_rfl) (by kernel_rfl) (by kernel_rfl) (by kernel_rfl) (fun _ _ _ h => h) HSS.out (by rfl) ?_ ?_
  rotate_left
  · intro w' hSw; refine run_load_row 58 (.tmp 2) ?_ g2 ?_ 58 _ _ (HR.out.keep hSw) Try.underlying58 rfl (by kernel_rfl) <;> rfl
  simp only [Act.put, List.getElem_toArray, List.getElem_cons_zero, List.getElem_cons_succ, List.setIfInBounds_toArray, List.set_cons_zero, List.set_cons_succ]
  refine wpAnyT_load (i := 1) (v := ?_) rfl (by kernel_rfl) (by kernel_rfl) (by kernel_rfl) (by kernel_rfl) (by kernel_rfl) (fun _ _ _ h => h) HSS.out (by rfl) ?_ ?_
  rotate_left
  · intro w hSw; skip; go_simp; try with_reducible rfl
  simp only [Act.put, List.getElem_toArray, List.getElem_cons_zero, List.getElem_cons_succ, List.setIfInBounds_toArray, List.set_cons_zero, List.set_cons_succ]
  refine wpAnyT_one (i := 2) (by kernel_rfl) rfl (fun K hK => ?_)
  rw [if_pos (by rfl)]
  go_simp
  refine (l14by_any (HP.out.keep HSS.out)).mono ?_
  rintro e wb4 ⟨gk, rfl, hk, hF⟩
  have HK := Lib.hid hk
  have HSS := Lib.hid (HSS.out.trans hF)
  clear hk hF
  go_simp
  refine hK.out _ _ (fun _ => HSS.out) ?_
  clear hK K
  simp only [Act.put, List.getElem_toArray, List.getElem_cons_zero, List.getElem_cons_succ, List.setIfInBounds_toArray, List.set_cons_zero, List.set_cons_succ]
  refine wpAnyT_one (i := 3) (by kernel_rfl) rfl (fun K hK => ?_)
  rw [if_pos (by rfl)]
  go_simp
  refine (svOne_any (r := rep14) ⟨_, rfl, Sl.keep HB.out HSS.out⟩ (by decide) HK.out 3).mono ?_
  rw [one14b]
  rintro e wo4 ⟨vwo4, rfl, hO, hF⟩
  have HSS := Lib.hid (HSS.out.trans hF)
  have HO := Lib.hid hO
  clear HK hO hF
  go_simp
  refine hK.out _ _ (fun _ => HSS.out) ?_
  clear hK K
  simp only [Act.put, List.getElem_toArray, List.getElem_cons_zero, List.getElem_cons_succ, List.setIfInBounds_toArray, List.set_cons_zero, List.set_cons_succ]
  refine wpAnyT_load (i := 4) (v := ?_) rfl (by kernel_rfl) (by kernel_rfl) (by kernel_rfl) (by kernel_rfl) (by kernel_rfl) (fun _ _ _ h => h) HSS.out (by rfl) ?_ ?_
  rotate_left
  · intro w hSw; skip; go_simp; try with_reducible rfl
  simp only [Act.put, List.getElem_toArray, List.getElem_cons_zero, List.getElem_cons_succ, List.setIfInBounds_toArray, List.set_cons_zero, List.set_cons_succ]
  refine wpAnyT_load (i := 5) (v := ?_) rfl (by kernel_rfl) (by kernel_rfl) (by kernel_rfl) (by kernel_rfl) (by kernel_rfl) (fun _ _ _ h => h) HSS.out (by rfl) ?_ ?_
  rotate_left
  · intro w hSw; skip; go_simp; try with_reducible rfl
  simp only [Act.put, List.getElem_toArray, List.getElem_cons_zero, List.getElem_cons_succ, List.setIfInBounds_toArray, List.set_cons_zero, List.set_cons_succ]
  refine wpAnyT_load (i := 6) (v := ?_) rfl (by kernel_rfl) (by kernel_rfl) (by kernel_rfl) (by kernel_rfl) (by kernel_rfl) (fun _ _ _ h => h) HSS.out (by rfl) ?_ ?_
  rotate_left
  · intro w hSw; skip; go_simp; try with_reducible rfl
  simp only [Act.put, List.getElem_toArray, List.getElem_cons_zero, List.getElem_cons_succ, List.setIfInBounds_toArray, List.set_cons_zero, List.set_cons_succ]
  refine wpAnyT_load (i := 7) (v := ?_) rfl (by kernel_rfl) (by kernel_rfl) (by kernel_rfl) (by kernel_rfl) (by kernel_rfl) (fun _ _ _ h => h) HSS.out (by rfl) ?_ ?_
  rotate_left
  · intro w hSw; skip; go_simp; try with_reducible rfl
  simp only [Act.put, List.getElem_toArray, List.getElem_cons_zero, List.getElem_cons_succ, List.setIfInBounds_toArray, List.set_cons_zero, List.set_cons_succ]
  refine wpAnyT_load (i := 8) (v := ?_) rfl (by kernel_rfl) (by kernel_rfl) (by kernel_rfl) (by kernel_rfl) (by kernel_rfl) (fun _ _ _ h => h) HSS.out (by rfl) ?_ ?_
  rotate_left
  · intro w hSw; skip; go_simp; try with_reducible rfl
  simp only [Act.put, List.getElem_toArray, List.getElem_cons_zero, List.getElem_cons_succ, List.setIfInBounds_toArray, List.set_cons_zero, List.set_cons_succ]
  refine wpAnyT_load (i := 9) (v := ?_) rfl (by kernel_rfl) (by kernel_rfl) (by kernel_rfl) (by kernel_rfl) (by kernel_rfl) (fun _ _ _ h => h) HSS.out (by rfl) ?_ ?_
  rotate_left
  · intro w hSw; skip; go_simp; try with_reducible rfl
  simp only [Act.put, List.getElem_toArray, List.getElem_cons_zero, List.getElem_cons_succ, List.setIfInBounds_toArray, List.set_cons_zero, List.set_cons_succ]
  refine wpAnyT_load (i := 10) (v := ?_) rfl (by kernel_rfl) (by kernel_rfl) (by kernel_rfl) (by kernel_rfl) (by kernel_rfl) (fun _ _ _ h => h) HSS.out (by rfl) ?_ ?_
  rotate_left
  · intro w hSw; skip; go_simp; try with_reducible rfl
  simp only [Act.put, List.getElem_toArray, List.getElem_cons_zero, List.getElem_cons_succ, List.setIfInBounds_toArray, List.set_cons_zero, List.set_cons_succ]
  refine wpAnyT_done (by kernel_rfl) ?_ _
  have hF := HSS.out
  have HF := Lib.hid (HF.out.trans hF)
  have HP := Lib.hid (HP.out.keep hF)
  have HB := Lib.hid (Sl.keep HB.out hF)
  have HR := Lib.hid (HR.out.keep hF)
  have HP1 := Lib.hid (HP1.out.keep hF)
  have HOA := Lib.hid (Sl.keep HOA.out hF)
  clear hF HSS
  obtain ⟨ao4, co4, rfl⟩ : ∃ a c, vwo4 = .slice a 0 c := Sl.shape HO.out
  clear HO
  go_upto_region 5 with fail
  refine wp_region_T (fun w' => Fr [] wo4.drew w') [] 10 #[false, false, false, false, false, false, false, false, false, false] (by kernel_rfl) rfl rfl ?_
  try simp only [List.append_eq, List.cons_append, List.nil_append]
  have hF := (Fr.refl [] wo4).drew
  have HF := Lib.hid (HF.out.trans hF)
  have HP := Lib.hid (HP.out.keep hF)
  have HB := Lib.hid (Sl.keep HB.out hF)
  have HR := Lib.hid (HR.out.keep hF)
  have HP1 := Lib.hid (HP1.out.keep hF)
  have HOA := Lib.hid (Sl.keep HOA.out hF)
  clear hF
  have HSS : Hid (Fr [] wo4.drew wo4.drew) := Lib.hid (Fr.refl _ _)
  generalize wo4.drew = wd5 at *
  refine wpAnyT_load (i := 0) (v := ?_) rfl (by kernel_rfl) (by kernel_rfl) (by kernel_rfl) (by kernel_rfl) (by kernel_rfl) (fun _ _ _ h => h) HSS.out (by rfl) ?_ ?_
  rotate_left
  · intro w' hSw; refine run_load_row 58 (.tmp 2) ?_ g2 ?_ 58 _ _ (HR.out.keep hSw) Try.underlying58 rfl (by kernel_rfl) <;> rfl
  simp only [Act.put, List.getElem_toArray, List.getElem_cons_zero, List.getElem_cons_succ, List.setIfInBounds_toArray, List.set_cons_zero, List.set_cons_succ]
  refine wpAnyT_one (i := 1) (by kernel_rfl) rfl (fun K hK => ?_)
  rw [if_pos (by rfl)]
  go_simp
  refine (l14by_any ((BRows.nil wd5).keep HSS.out)).mono ?_
  rintro e wb5 ⟨gk, rfl, hk, hF⟩
  have HK := Lib.hid hk
  have HSS := Lib.hid (HSS.out.trans hF)
  clear hk hF
  go_simp
  refine hK.out _ _ (fun _ => HSS.out) ?_
  clear hK K
  simp only [Act.put, List.getElem_toArray, List.getElem_cons_zero, List.getElem_cons_succ, List.setIfInBounds_toArray, List.set_cons_zero, List.set_cons_succ]
  refine wpAnyT_one (i := 2) (by kernel_rfl) rfl (fun K hK => ?_)
  rw [if_pos (by rfl)]
  go_simp
  refine (svOne_any (r := rep14) ⟨_, rfl, Sl.keep HB.out HSS.out⟩ (by decide) HK.out 3).mono ?_
  rw [one14c]
  rintro e wo5 ⟨vwo5, rfl, hO, hF⟩
  have HSS := Lib.hid (HSS.out.trans hF)
  have HO := Lib.hid hO
  clear HK hO hF
  go_simp
  refine hK.out _ _ (fun _ => HSS.out) ?_
  clear hK K
  simp only [Act.put, List.getElem_toArray, List.getElem_cons_zero, List.getElem_cons_succ, List.setIfInBounds_toArray, List.set_cons_zero, List.set_cons_succ]
  refine wpAnyT_load (i := 3) (v := ?_) rfl (by kernel_rfl) (by kernel_rfl) (by kernel_rfl) (by kernel_rfl) (by kernel_rfl) (fun _ _ _ h => h) HSS.out (by rfl) ?_ ?_
  rotate_left
  · intro w hSw; skip; go_simp; try with_reducible rfl
  simp only [Act.put, List.getElem_toArray, List.getElem_cons_zero, List.getElem_cons_succ, List.setIfInBounds_toArray, List.set_cons_zero, List.set_cons_succ]
  refine wpAnyT_load (i := 4) (v := ?_) rfl (by kernel_rfl) (by kernel_rfl) (by kernel_rfl) (by kernel_rfl) (by kernel_rfl) (fun _ _ _ h => h) HSS.out (by rfl) ?_ ?_
  rotate_left
  · intro w hSw; skip; go_simp; try with_reducible rfl
  simp only [Act.put, List.getElem_toArray, List.getElem_cons_zero, List.getElem_cons_succ, List.setIfInBounds_toArray, List.set_cons_zero, List.set_cons_succ]
  refine wpAnyT_load (i := 5) (v := ?_) rfl (by kernel_rfl) (by kernel_rfl) (by kernel_rfl) (by kernel_rfl) (by kernel_rfl) (fun _ _ _ h => h) HSS.out (by rfl) ?_ ?_
  rotate_left
  · intro w hSw; skip; go_simp; try with_reducible rfl
  simp only [Act.put, List.getElem_toArray, List.getElem_cons_zero, List.getElem_cons_succ, List.setIfInBounds_toArray, List.set_cons_zero, List.set_cons_succ]
  refine wpAnyT_load (i := 6) (v := ?_) rfl (by kernel_rfl) (by kernel_rfl) (by kernel_rfl) (by kernel_rfl) (by kernel_rfl) (fun _ _ _ h => h) HSS.out (by rfl) ?_ ?_
  rotate_left
  · intro w hSw; skip; go_simp; try with_reducible rfl
  simp only [Act.put, List.getElem_toArray, List.getElem_cons_zero, List.getElem_cons_succ, List.setIfInBounds_toArray, List.set_cons_zero, List.set_cons_succ]
  refine wpAnyT_load (i := 7) (v := ?_) rfl (by kernel_rfl) (by kernel_rfl) (by kernel_rfl) (by kernel_rfl) (by kernel_rfl) (fun _ _ _ h => h) HSS.out (by rfl) ?_ ?_
  rotate_left
  · intro w hSw; skip; go_simp; try with_reducible rfl
  simp only [Act.put, List.getElem_toArray, List.getElem_cons_zero, List.getElem_cons_succ, List.setIfInBounds_toArray, List.set_cons_zero, List.set_cons_succ]
  refine wpAnyT_load (i := 8) (v := ?_) rfl (by kernel_rfl) (by kernel_rfl) (by kernel_rfl) (by kernel_rfl) (by kernel_rfl) (fun _ _ _ h => h) HSS.out (by rfl) ?_ ?_
  rotate_left
  · intro w hSw; skip; go_simp; try with_reducible rfl
  simp only [Act.put, List.getElem_toArray, List.getElem_cons_zero, List.getElem_cons_succ, List.setIfInBounds_toArray, List.set_cons_zero, List.set_cons_succ]
  refine wpAnyT_load (i := 9) (v := ?_) rfl (by kernel_rfl) (by kernel_rfl) (by kernel_rfl) (by kernel_rfl) (by kernel_rfl) (fun _ _ _ h => h) HSS.out (by rfl) ?_ ?_
  rotate_left
  · intro w hSw; skip; go_simp; try with_reducible rfl
  simp only [Act.put, List.getElem_toArray, List.getElem_cons_zero, List.getElem_cons_succ, List.setIfInBounds_toArray, List.set_cons_zero, List.set_cons_succ]
  refine wpAnyT_done (by kernel_rfl) ?_ _
  have hF := HSS.out
  have HF := Lib.hid (HF.out.trans hF)
  have HP := Lib.hid (HP.out.keep hF)
  have HB := Lib.hid (Sl.keep HB.out hF)
  have HR := Lib.hid (HR.out.keep hF)
  have HP1 := Lib.hid (HP1.out.keep hF)
  have HOA := Lib.hid (Sl.keep HOA.out hF)
  clear hF HSS
  obtain ⟨ao5, co5, rfl⟩ : ∃ a c, vwo5 = .slice a 0 c := Sl.shape HO.out
  clear HO
  go_wp2_with fail
  refine (l14by_any HP.out).mono ?_
  rintro e wb6 ⟨gk, rfl, hk, hF⟩
  have HK := Lib.hid hk
  have HF := Lib.hid (HF.out.trans hF)
  have HP := Lib.hid (HP.out.keep hF)
  have HB := Lib.hid (Sl.keep HB.out hF)
  have HR := Lib.hid (HR.out.keep hF)
  have HP1 := Lib.hid (HP1.out.keep hF)
  have HOA := Lib.hid (Sl.keep HOA.out hF)
  clear hk hF
  go_wp2_with fail
  refine (svOne_any (r := zrep14) (zrep14_v _) (by decide) HK.out 3).mono ?_
  rw [one14d]
  rintro e wo6 ⟨vwo6, rfl, hO, hF⟩
  have HO := Lib.hid hO
  have HF := Lib.hid (HF.out.trans hF)
  have HP := Lib.hid (HP.out.keep hF)
  have HB := Lib.hid (Sl.keep HB.out hF)
  have HR := Lib.hid (HR.out.keep hF)
  have HP1 := Lib.hid (HP1.out.keep hF)
  have HOA := Lib.hid (Sl.keep HOA.out hF)
  clear HK hO hF
  obtain ⟨ao6, co6, rfl⟩ : ∃ a c, vwo6 = .slice a 0 c := Sl.shape HO.out
  clear HO
  obtain ⟨b0, o0, al0, cl0, ea, -, hc0, hx0⟩ := HP.out.at_ 0 (by decide)
  cases ea
  have HC0 := Lib.hid hc0; have HX0 := Lib.hid hx0
  clear hc0 hx0
  simp only [show (List.length (two14[0]'(by decide))) = 14 from rfl, show (two14[0]'(by decide)) = ba14 from rfl, show ba14.length = 14 from rfl, Nat.zero_add, Nat.add_zero] at HC0 HX0
  go_upto_region 7 with fail
  refine wp_region_T (fun w' => Fr [] wo6.drew w') [] 8 #[false, false, false, false, false, false, false, false] (by kernel_rfl) rfl rfl ?_
  try simp only [List.append_eq, List.cons_append, List.nil_append]
  have hF := (Fr.refl [] wo6).drew
  have HF := Lib.hid (HF.out.trans hF)
  have HP := Lib.hid (HP.out.keep hF)
  have HB := Lib.hid (Sl.keep HB.out hF)
  have HR := Lib.hid (HR.out.keep hF)
  have HP1 := Lib.hid (HP1.out.keep hF)
  have HOA := Lib.hid (Sl.keep HOA.out hF)
  have HC0 := Lib.hid (hF.cellSome HC0.out (by simp))
  have HX0 := Lib.hid (Sl.keep HX0.out hF)
  clear hF
  have HSS : Hid (Fr [] wo6.drew wo6.drew) := Lib.hid (Fr.refl _ _)
  generalize wo6.drew = wd7 at *
  refine wpAnyT_load (i := 1) (v := ?_) rfl (by kernel_rfl) (by kernel_rfl) (by kernel_rfl) (by kernel_rfl) (by kernel_rfl) (fun _ _ _ h => h) HSS.out (by rfl) ?_ ?_
  rotate_left
  · intro w hSw; have n0 := hSw.cellSome HC0.out (by simp); go_simp; try with_reducible rfl
  simp only [Act.put, List.getElem_toArray, List.getElem_cons_zero, List.getElem_cons_succ, List.setIfInBounds_toArray, List.set_cons_zero, List.set_cons_succ]
  refine wpAnyT_load (i := 2) (v := ?_) rfl (by kernel_rfl) (by kernel_rfl) (by kernel_rfl) (by kernel_rfl) (by kernel_rfl) (fun _ _ _ h => h) HSS.out (by rfl) ?_ ?_
  rotate_left
  · intro w hSw; have n0 := hSw.cellSome HC0.out (by simp); go_simp; try with_reducible rfl
  simp only [Act.put, List.getElem_toArray, List.getElem_cons_zero, List.getElem_cons_succ, List.setIfInBounds_toArray, List.set_cons_zero, List.set_cons_succ]
  refine wpAnyT_load (i := 3) (v := ?_) rfl (by kernel_rfl) (by kernel_rfl) (by kernel_rfl) (by kernel_rfl) (by kernel_rfl) (fun _ _ _ h => h) HSS.out (by rfl) ?_ ?_
  rotate_left
  · intro w hSw; have n0 := hSw.cellSome HC0.out (by simp); go_simp; try with_reducible rfl
  simp only [Act.put, List.getElem_toArray, List.getElem_cons_zero, List.getElem_cons_succ, List.setIfInBounds_toArray, List.set_cons_zero, List.set_cons_succ]
  refine wpAnyT_two (i := 0) (j := 4) (by kernel_rfl) rfl rfl (fun K hK => ?_) (fun K hK => ?_)
  · rw [if_pos (by rfl)]
    go_simp
    refine l14two_any.mono ?_
    rintro e wt7 ⟨g7, B7, rfl, hO, hF⟩
    have HO7 := Lib.hid (hO.mono (base' := wd7.heap.size) HSS.out.size)
    have HSS := Lib.hid (HSS.out.trans hF)
    clear hO hF
    go_simp
    refine hK.out _ _ (fun _ => HSS.out) ?_
    clear hK K
    simp only [Act.put, List.getElem_toArray, List.getElem_cons_zero, List.getElem_cons_succ, List.setIfInBounds_toArray, List.set_cons_zero, List.set_cons_succ]
    refine wpAnyT_one (i := 4) (by kernel_rfl) rfl (fun K hK => ?_)
    rw [if_pos (by rfl)]
    go_simp
    obtain ⟨wl7, el, hF, hBl, -⟩ := one_new wt7 #[.slice al0 14 cl0] 25
    rw [el]
    have HO7 := Lib.hid (HO7.out.keep Rep.bytes hF)
    have HL7 := Lib.hid hBl
    have HSS := Lib.hid (HSS.out.trans hF)
    clear hBl hF el
    refine hK.out _ _ (fun _ => HSS.out) ?_
    clear hK K
    simp only [Act.put, List.getElem_toArray, List.getElem_cons_zero, List.getElem_cons_succ, List.setIfInBounds_toArray, List.set_cons_zero, List.set_cons_succ]
    generalize hgl : wt7.heap.size = gl at *
    clear hgl
    refine wpAnyT_one (i := 5) (by kernel_rfl) rfl (fun K hK => ?_)
    refine step_append_els Rep.bytes (by decide) rfl (.tmp 55) (.tmp 59) 22 rfl wd7.heap.size 25 (.slice none 0 0) 24 Try.underlying22 info_bs rfl _ two14 B7 rfl HO7.out ⟨gl, 0, none⟩ 1 1 rfl [ba14] rfl [.slice al0 14 cl0] (liveOf (.slice al0 14 cl0)).toList (els_one (Sl.keep HX0.out HSS.out)) (fun j u hj => by have h9 := box_range HL7.out j u hj; simpa [addr_add] using h9) (fun b hb hm => by have h1 := (HO7.out.block b hb).1; have h2 := Sl.lt HX0.out b (mem_toList.1 hm); omega) (by unfold maxLen; decide) (by decide) HSS.out.size ?_
    intro v8 w8 hown hfr hbl
    obtain ⟨a8, c8, e8⟩ := hown.shape
    have HO8 := Lib.hid hown.sl.rows
    have HSS := Lib.hid (HSS.out.step hfr (fun x hx => .inr (by rw [mem_toList] at hx; exact (HO7.out.block x hx).1)))
    subst e8
    clear hown hfr hbl
    refine hK.out _ _ (fun _ => HSS.out) ?_
    clear hK K
    simp only [Act.put, List.getElem_toArray, List.getElem_cons_zero, List.getElem_cons_succ, List.setIfInBounds_toArray, List.set_cons_zero, List.set_cons_succ]
    refine wpAnyT_one (i := 6) (by kernel_rfl) rfl (fun K hK => ?_)
    rw [if_pos (by rfl)]
    go_simp
    refine (svBook_any HO8.out (by decide)).mono ?_
    rintro e w9 ⟨gb, D, rfl, hBk, hF⟩
    have HBK := Lib.hid hBk
    have HSS := Lib.hid (HSS.out.trans hF)
    clear hBk hF
    go_simp
    refine hK.out _ _ (fun _ => HSS.out) ?_
    clear hK K
    simp only [Act.put, List.getElem_toArray, List.getElem_cons_zero, List.getElem_cons_succ, List.setIfInBounds_toArray, List.set_cons_zero, List.set_cons_succ]
    refine wpAnyT_load (i := 7) (v := ?_) rfl (by kernel_rfl) (by kernel_rfl) (by kernel_rfl) (by kernel_rfl) (by kernel_rfl) (fun _ _ _ h => h) HSS.out (by rfl) ?_ ?_
    rotate_left
    · intro w hSw; skip; go_simp; try with_reducible rfl
    simp only [Act.put, List.getElem_toArray, List.getElem_cons_zero, List.getElem_cons_succ, List.setIfInBounds_toArray, List.set_cons_zero, List.set_cons_succ]
    refine wpAnyT_done (by kernel_rfl) ?_ _
    have hF := HSS.out
    have HF := Lib.hid (HF.out.trans hF)
    have HP := Lib.hid (HP.out.keep hF)
    have HB := Lib.hid (Sl.keep HB.out hF)
    have HR := Lib.hid (HR.out.keep hF)
    have HP1 := Lib.hid (HP1.out.keep hF)
    have HOA := Lib.hid (Sl.keep HOA.out hF)
    have HC0 := Lib.hid (hF.cellSome HC0.out (by simp))
    have HX0 := Lib.hid (Sl.keep HX0.out hF)
    clear hF HSS
    have hbn := HBK.out
    rw [show two14 ++ [ba14] = [ba14, bb14, ba14] from rfl, show ([ba14, bb14, ba14] : List (List UInt8)).length = 3 from rfl, book14] at hbn
    obtain ⟨vq, hvq, hvb, -⟩ := hbn.some_ 0 bb14 find14
    obtain ⟨aq, cq, rfl⟩ : ∃ a c, vq = .slice a 13 c := Sl.shape hvb
    have HBK := Lib.hid hbn; have HVQ := Lib.hid hvq
    clear hbn hvq hvb
    go_upto_region 8 with fail
    refine wp_region_T (fun w' => Fr [] w9.drew w') [] 63 #[false, false, false, false, false, false, false, false, false, false, false, false, false, false, false, false, false, false, false, false, false, false, false, false, false, false, false, false, false, false, false, false, false, false, false, false, false, false, false, false, false, false, false, false, false, false, false, false, false, false, false, false, false, false, false, false, false, false, false, false, false, false, false] (by kernel_rfl) rfl rfl ?_
    try simp only [List.append_eq, List.cons_append, List.nil_append]
    have hF := (Fr.refl [] w9).drew
    have HF := Lib.hid (HF.out.trans hF)
    have HP := Lib.hid (HP.out.keep hF)
    have HB := Lib.hid (Sl.keep HB.out hF)
    have HR := Lib.hid (HR.out.keep hF)
    have HP1 := Lib.hid (HP1.out.keep hF)
    have HOA := Lib.hid (Sl.keep HOA.out hF)
    have HC0 := Lib.hid (hF.cellSome HC0.out (by simp))
    have HX0 := Lib.hid (Sl.keep HX0.out hF)
    have HBK := Lib.hid (HBK.out.keep hF)
    clear hF
    have HSS : Hid (Fr [] w9.drew w9.drew) := Lib.hid (Fr.refl _ _)
    generalize w9.drew = wd at *
    refine wpAnyT_load (i := 0) (v := ?_) rfl (by kernel_rfl) (by kernel_rfl) (by kernel_rfl) (by kernel_rfl) (by kernel_rfl) (fun _ _ _ h => h) HSS.out (by rfl) ?_ ?_
    rotate_left
    · intro w hSw; skip; go_simp; try with_reducible rfl
    simp only [Act.put, List.getElem_toArray, List.getElem_cons_zero, List.getElem_cons_succ, List.setIfInBounds_toArray, List.set_cons_zero, List.set_cons_succ]
    refine wpAnyT_load (i := 1) (v := ?_) rfl (by kernel_rfl) (by kernel_rfl) (by kernel_rfl) (by kernel_rfl) (by kernel_rfl) (fun _ _ _ h => h) HSS.out (by rfl) ?_ ?_
    rotate_left
    · intro w hSw; skip; go_simp; try with_reducible rfl
    simp only [Act.put, List.getElem_toArray, List.getElem_cons_zero, List.getElem_cons_succ, List.setIfInBounds_toArray, List.set_cons_zero, List.set_cons_succ]
    refine wpAnyT_load (i := 2) (v := ?_) rfl (by kernel_rfl) (by kernel_rfl) (by kernel_rfl) (by kernel_rfl) (by kernel_rfl) (fun _ _ _ h => h) HSS.out (by rfl) ?_ ?_
    rotate_left
    · intro w hSw; skip; go_simp; try with_reducible rfl
    simp only [Act.put, List.getElem_toArray, List.getElem_cons_zero, List.getElem_cons_succ, List.setIfInBounds_toArray, List.set_cons_zero, List.set_cons_succ]
    refine wpAnyT_load (i := 3) (v := ?_) rfl (by kernel_rfl) (by kernel_rfl) (by kernel_rfl) (by kernel_rfl) (by kernel_rfl) (fun _ _ _ h => h) HSS.out (by rfl) ?_ ?_
    rotate_left
    · intro w hSw; skip; go_simp; try with_reducible rfl
    simp only [Act.put, List.getElem_toArray, List.getElem_cons_zero, List.getElem_cons_succ, List.setIfInBounds_toArray, List.set_cons_zero, List.set_cons_succ]
    refine wpAnyT_load (i := 4) (v := ?_) rfl (by kernel_rfl) (by kernel_rfl) (by kernel_rfl) (by kernel_rfl) (by kernel_rfl) (fun _ _ _ h => h) HSS.out (by rfl) ?_ ?_
    rotate_left
    · intro w hSw; skip; go_simp; try with_reducible rfl
    simp only [Act.put, List.getElem_toArray, List.getElem_cons_zero, List.getElem_cons_succ, List.setIfInBounds_toArray, List.set_cons_zero, List.set_cons_succ]
    refine wpAnyT_load (i := 5) (v := ?_) rfl (by kernel_rfl) (by kernel_rfl) (by kernel_rfl) (by kernel_rfl) (by kernel_rfl) (fun _ _ _ h => h) HSS.out (by rfl) ?_ ?_
    rotate_left
    · intro w hSw; skip; go_simp; try with_reducible rfl
    simp only [Act.put, List.getElem_toArray, List.getElem_cons_zero, List.getElem_cons_succ, List.setIfInBounds_toArray, List.set_cons_zero, List.set_cons_succ]
    refine wpAnyT_load (i := 6) (v := ?_) rfl (by kernel_rfl) (by kernel_rfl) (by kernel_rfl) (by kernel_rfl) (by kernel_rfl) (fun _ _ _ h => h) HSS.out (by rfl) ?_ ?_
    rotate_left
    · intro w hSw; skip; go_simp; try with_reducible rfl
    simp only [Act.put, List.getElem_toArray, List.getElem_cons_zero, List.getElem_cons_succ, List.setIfInBounds_toArray, List.set_cons_zero, List.set_cons_succ]
    refine wpAnyT_load (i := 7) (v := ?_) rfl (by kernel_rfl) (by kernel_rfl) (by kernel_rfl) (by kernel_rfl) (by kernel_rfl) (fun _ _ _ h => h) HSS.out (by rfl) ?_ ?_
    rotate_left
    · intro w hSw; skip; go_simp; try with_reducible rfl
    simp only [Act.put, List.getElem_toArray, List.getElem_cons_zero, List.getElem_cons_succ, List.setIfInBounds_toArray, List.set_cons_zero, List.set_cons_succ]
    refine wpAnyT_load (i := 8) (v := ?_) rfl (by kernel_rfl) (by kernel_rfl) (by kernel_rfl) (by kernel_rfl) (by kernel_rfl) (fun _ _ _ h => h) HSS.out (by rfl) ?_ ?_
    rotate_left
    · intro w hSw; skip; go_simp; try with_reducible rfl
    simp only [Act.put, List.getElem_toArray, List.getElem_cons_zero, List.getElem_cons_succ, List.setIfInBounds_toArray, List.set_cons_zero, List.set_cons_succ]
    refine wpAnyT_load (i := 9) (v := ?_) rfl (by kernel_rfl) (by kernel_rfl) (by kernel_rfl) (by kernel_rfl) (by kernel_rfl) (fun _ _ _ h => h) HSS.out (by rfl) ?_ ?_
    rotate_left
    · intro w hSw; skip; go_simp; try with_reducible rfl
    simp only [Act.put, List.getElem_toArray, List.getElem_cons_zero, List.getElem_cons_succ, List.setIfInBounds_toArray, List.set_cons_zero, List.set_cons_succ]
    refine wpAnyT_load (i := 10) (v := ?_) rfl (by kernel_rfl) (by kernel_rfl) (by kernel_rfl) (by kernel_rfl) (by kernel_rfl) (fun _ _ _ h => h) HSS.out (by rfl) ?_ ?_
    rotate_left
    · intro w hSw; skip; go_simp; try with_reducible rfl
    simp only [Act.put, List.getElem_toArray, List.getElem_cons_zero, List.getElem_cons_succ, List.setIfInBounds_toArray, List.set_cons_zero, List.set_cons_succ]
    refine wpAnyT_load (i := 11) (v := ?_) rfl (by kernel_rfl) (by kernel_rfl) (by kernel_rfl) (by kernel_rfl) (by kernel_rfl) (fun _ _ _ h => h) HSS.out (by rfl) ?_ ?_
    rotate_left
    · intro w hSw; skip; go_simp; try with_reducible rfl
    simp only [Act.put, List.getElem_toArray, List.getElem_cons_zero, List.getElem_cons_succ, List.setIfInBounds_toArray, List.set_cons_zero, List.set_cons_succ]
    refine wpAnyT_load (i := 12) (v := ?_) rfl (by kernel_rfl) (by kernel_rfl) (by kernel_rfl) (by kernel_rfl) (by kernel_rfl) (fun _ _ _ h => h) HSS.out (by rfl) ?_ ?_
    rotate_left
    · intro w hSw; skip; go_simp; try with_reducible rfl
    simp only [Act.put, List.getElem_toArray, List.getElem_cons_zero, List.getElem_cons_succ, List.setIfInBounds_toArray, List.set_cons_zero, List.set_cons_succ]
    refine wpAnyT_load (i := 13) (v := ?_) rfl (by kernel_rfl) (by kernel_rfl) (by kernel_rfl) (by kernel_rfl) (by kernel_rfl) (fun _ _ _ h => h) HSS.out (by rfl) ?_ ?_
    rotate_left
    · intro w hSw; skip; go_simp; try with_reducible rfl
    simp only [Act.put, List.getElem_toArray, List.getElem_cons_zero, List.getElem_cons_succ, List.setIfInBounds_toArray, List.set_cons_zero, List.set_cons_succ]
    refine wpAnyT_load (i := 14) (v := ?_) rfl (by kernel_rfl) (by kernel_rfl) (by kernel_rfl) (by kernel_rfl) (by kernel_rfl) (fun _ _ _ h => h) HSS.out (by rfl) ?_ ?_
    rotate_left
    · intro w hSw; have n0 := hSw.cellSome HC0.out (by simp); go_simp; try with_reducible rfl
    simp only [Act.put, List.getElem_toArray, List.getElem_cons_zero, List.getElem_cons_succ, List.setIfInBounds_toArray, List.set_cons_zero, List.set_cons_succ]
    refine wpAnyT_one (i := 15) (by kernel_rfl) rfl (fun K hK => ?_)
    rw [if_pos (by rfl)]
    go_simp
    refine (RSame_any (Sl.keep HOA.out HSS.out) (Sl.keep HX0.out HSS.out) (by decide) (by decide)).mono ?_
    rintro e w10 ⟨rfl, hF⟩
    rw [show (ba14 == ba14) = true from rfl]
    go_simp
    have HSS := Lib.hid (HSS.out.trans hF)
    clear hF
    refine hK.out _ _ (fun _ => HSS.out) ?_
    clear hK K
    simp only [Act.put, List.getElem_toArray, List.getElem_cons_zero, List.getElem_cons_succ, List.setIfInBounds_toArray, List.set_cons_zero, List.set_cons_succ]
    refine wpAnyT_load (i := 16) (v := ?_) rfl (by kernel_rfl) (by kernel_rfl) (by kernel_rfl) (by kernel_rfl) (by kernel_rfl) (fun _ _ _ h => h) HSS.out (by rfl) ?_ ?_
    rotate_left
    · intro w hSw; skip; go_simp; try with_reducible rfl
    simp only [Act.put, List.getElem_toArray, List.getElem_cons_zero, List.getElem_cons_succ, List.setIfInBounds_toArray, List.set_cons_zero, List.set_cons_succ]
    refine wpAnyT_load (i := 17) (v := ?_) rfl (by kernel_rfl) (by kernel_rfl) (by kernel_rfl) (by kernel_rfl) (by kernel_rfl) (fun _ _ _ h => h) HSS.out (by rfl) ?_ ?_
    rotate_left
    · intro w hSw; skip; go_simp; try with_reducible rfl
    simp only [Act.put, List.getElem_toArray, List.getElem_cons_zero, List.getElem_cons_succ, List.setIfInBounds_toArray, List.set_cons_zero, List.set_cons_succ]
    refine wpAnyT_load (i := 18) (v := ?_) rfl (by kernel_rfl) (by kernel_rfl) (by kernel_rfl) (by kernel_rfl) (by kernel_rfl) (fun _ _ _ h => h) HSS.out (by rfl) ?_ ?_
    rotate_left
    · intro w hSw; skip; go_simp; try with_reducible rfl
    simp only [Act.put, List.getElem_toArray, List.getElem_cons_zero, List.getElem_cons_succ, List.setIfInBounds_toArray, List.set_cons_zero, List.set_cons_succ]
    refine wpAnyT_load (i := 19) (v := ?_) rfl (by kernel_rfl) (by kernel_rfl) (by kernel_rfl) (by kernel_rfl) (by kernel_rfl) (fun _ _ _ h => h) HSS.out (by rfl) ?_ ?_
    rotate_left
    · intro w hSw; skip; go_simp; try with_reducible rfl
    simp only [Act.put, List.getElem_toArray, List.getElem_cons_zero, List.getElem_cons_succ, List.setIfInBounds_toArray, List.set_cons_zero, List.set_cons_succ]
    refine wpAnyT_load (i := 20) (v := ?_) rfl (by kernel_rfl) (by kernel_rfl) (by kernel_rfl) (by kernel_rfl) (by kernel_rfl) (fun _ _ _ h => h) HSS.out (by rfl) ?_ ?_
    rotate_left
    · intro w hSw; skip; go_simp; try with_reducible rfl
    simp only [Act.put, List.getElem_toArray, List.getElem_cons_zero, List.getElem_cons_succ, List.setIfInBounds_toArray, List.set_cons_zero, List.set_cons_succ]
    refine wpAnyT_load (i := 21) (v := ?_) rfl (by kernel_rfl) (by kernel_rfl) (by kernel_rfl) (by kernel_rfl) (by kernel_rfl) (fun _ _ _ h => h) HSS.out (by rfl) ?_ ?_
    rotate_left
    · intro w hSw; skip; go_simp; try with_reducible rfl
    simp only [Act.put, List.getElem_toArray, List.getElem_cons_zero, List.getElem_cons_succ, List.setIfInBounds_toArray, List.set_cons_zero, List.set_cons_succ]
    refine wpAnyT_load (i := 22) (v := ?_) rfl (by kernel_rfl) (by kernel_rfl) (by kernel_rfl) (by kernel_rfl) (by kernel_rfl) (fun _ _ _ h => h) HSS.out (by rfl) ?_ ?_
    rotate_left
    · intro w hSw; skip; go_simp; try with_reducible rfl
    simp only [Act.put, List.getElem_toArray, List.getElem_cons_zero, List.getElem_cons_succ, List.setIfInBounds_toArray, List.set_cons_zero, List.set_cons_succ]
    refine wpAnyT_load (i := 23) (v := ?_) rfl (by kernel_rfl) (by kernel_rfl) (by kernel_rfl) (by kernel_rfl) (by kernel_rfl) (fun _ _ _ h => h) HSS.out (by rfl) ?_ ?_
    rotate_left
    · intro w hSw; skip; go_simp; try with_reducible rfl
    simp only [Act.put, List.getElem_toArray, List.getElem_cons_zero, List.getElem_cons_succ, List.setIfInBounds_toArray, List.set_cons_zero, List.set_cons_succ]
    refine wpAnyT_load (i := 24) (v := ?_) rfl (by kernel_rfl) (by kernel_rfl) (by kernel_rfl) (by kernel_rfl) (by kernel_rfl) (fun _ _ _ h => h) HSS.out (by rfl) ?_ ?_
    rotate_left
    · intro w hSw; skip; go_simp; try with_reducible rfl
    simp only [Act.put, List.getElem_toArray, List.getElem_cons_zero, List.getElem_cons_succ, List.setIfInBounds_toArray, List.set_cons_zero, List.set_cons_succ]
    refine wpAnyT_load (i := 25) (v := ?_) rfl (by kernel_rfl) (by kernel_rfl) (by kernel_rfl) (by kernel_rfl) (by kernel_rfl) (fun _ _ _ h => h) HSS.out (by rfl) ?_ ?_
    rotate_left
    · intro w hSw; skip; go_simp; try with_reducible rfl
    simp only [Act.put, List.getElem_toArray, List.getElem_cons_zero, List.getElem_cons_succ, List.setIfInBounds_toArray, List.set_cons_zero, List.set_cons_succ]
    refine wpAnyT_load (i := 26) (v := ?_) rfl (by kernel_rfl) (by kernel_rfl) (by kernel_rfl) (by kernel_rfl) (by kernel_rfl) (fun _ _ _ h => h) HSS.out (by rfl) ?_ ?_
    rotate_left
    · intro w hSw; skip; go_simp; try with_reducible rfl
    simp only [Act.put, List.getElem_toArray, List.getElem_cons_zero, List.getElem_cons_succ, List.setIfInBounds_toArray, List.set_cons_zero, List.set_cons_succ]
    refine wpAnyT_load (i := 27) (v := ?_) rfl (by kernel_rfl) (by kernel_rfl) (by kernel_rfl) (by kernel_rfl) (by kernel_rfl) (fun _ _ _ h => h) HSS.out (by rfl) ?_ ?_
    rotate_left
    · intro w hSw; skip; go_simp; try with_reducible rfl
    simp only [Act.put, List.getElem_toArray, List.getElem_cons_zero, List.getElem_cons_succ, List.setIfInBounds_toArray, List.set_cons_zero, List.set_cons_succ]
    refine wpAnyT_load (i := 28) (v := ?_) rfl (by kernel_rfl) (by kernel_rfl) (by kernel_rfl) (by kernel_rfl) (by kernel_rfl) (fun _ _ _ h => h) HSS.out (by rfl) ?_ ?_
    rotate_left
    · intro w hSw; skip; go_simp; try with_reducible rfl
    simp only [Act.put, List.getElem_toArray, List.getElem_cons_zero, List.getElem_cons_succ, List.setIfInBounds_toArray, List.set_cons_zero, List.set_cons_succ]
    refine wpAnyT_load (i := 29) (v := ?_) rfl (by kernel_rfl) (by kernel_rfl) (by kernel_rfl) (by kernel_rfl) (by kernel_rfl) (fun _ _ _ h => h) HSS.out (by rfl) ?_ ?_
    rotate_left
    · intro w hSw; skip; go_simp; try with_reducible rfl
    simp only [Act.put, List.getElem_toArray, List.getElem_cons_zero, List.getElem_cons_succ, List.setIfInBounds_toArray, List.set_cons_zero, List.set_cons_succ]
    refine wpAnyT_load (i := 30) (v := ?_) rfl (by kernel_rfl) (by kernel_rfl) (by kernel_rfl) (by kernel_rfl) (by kernel_rfl) (fun _ _ _ h => h) HSS.out (by rfl) ?_ ?_
    rotate_left
    · intro w' hSw; refine run_load_row 58 (.tmp 2) ?_ g2 ?_ 58 _ _ (HR.out.keep hSw) Try.underlying58 rfl (by kernel_rfl) <;> rfl
    simp only [Act.put, List.getElem_toArray, List.getElem_cons_zero, List.getElem_cons_succ, List.setIfInBounds_toArray, List.set_cons_zero, List.set_cons_succ]
    refine wpAnyT_load (i := 31) (v := ?_) rfl (by kernel_rfl) (by kernel_rfl) (by kernel_rfl) (by kernel_rfl) (by kernel_rfl) (fun _ _ _ h => h) HSS.out (by rfl) ?_ ?_
    rotate_left
    · intro w hSw; skip; go_simp; try with_reducible rfl
    simp only [Act.put, List.getElem_toArray, List.getElem_cons_zero, List.getElem_cons_succ, List.setIfInBounds_toArray, List.set_cons_zero, List.set_cons_succ]
    refine wpAnyT_one (i := 32) (by kernel_rfl) rfl (fun K hK => ?_)
    rw [if_pos (by rfl)]
    go_simp
    refine (l14by_any (HP.out.keep HSS.out)).mono ?_
    rintro e w11 ⟨gk, rfl, hk, hF⟩
    have HK := Lib.hid hk
    have HSS := Lib.hid (HSS.out.trans hF)
    clear hk hF
    go_simp
    refine hK.out _ _ (fun _ => HSS.out) ?_
    clear hK K
    simp only [Act.put, List.getElem_toArray, List.getElem_cons_zero, List.getElem_cons_succ, List.setIfInBounds_toArray, List.set_cons_zero, List.set_cons_succ]
    refine wpAnyT_one (i := 33) (by kernel_rfl) rfl (fun K hK => ?_)
    rw [if_pos (by rfl)]
    go_simp
    refine (svCheck_any (r := rep14) ⟨_, rfl, Sl.keep HB.out HSS.out⟩ (by decide) HK.out 3).mono ?_
    rw [check14a]
    rintro e wc1 ⟨rfl, hF⟩
    have HSS := Lib.hid (HSS.out.trans hF)
    clear HK hF
    go_simp
    refine hK.out _ _ (fun _ => HSS.out) ?_
    clear hK K
    simp only [Act.put, List.getElem_toArray, List.getElem_cons_zero, List.getElem_cons_succ, List.setIfInBounds_toArray, List.set_cons_zero, List.set_cons_succ]
    refine wpAnyT_load (i := 34) (v := ?_) rfl (by kernel_rfl) (by kernel_rfl) (by kernel_rfl) (by kernel_rfl) (by kernel_rfl) (fun _ _ _ h => h) HSS.out (by rfl) ?_ ?_
    rotate_left
    · intro w hSw; skip; go_simp; try with_reducible rfl
    simp only [Act.put, List.getElem_toArray, List.getElem_cons_zero, List.getElem_cons_succ, List.setIfInBounds_toArray, List.set_cons_zero, List.set_cons_succ]
    refine wpAnyT_load (i := 35) (v := ?_) rfl (by kernel_rfl) (by kernel_rfl) (by kernel_rfl) (by kernel_rfl) (by kernel_rfl) (fun _ _ _ h => h) HSS.out (by rfl) ?_ ?_
    rotate_left
    · intro w hSw; skip; go_simp; try with_reducible rfl
    simp only [Act.put, List.getElem_toArray, List.getElem_cons_zero, List.getElem_cons_succ, List.setIfInBounds_toArray, List.set_cons_zero, List.set_cons_succ]
    refine wpAnyT_load (i := 36) (v := ?_) rfl (by kernel_rfl) (by kernel_rfl) (by kernel_rfl) (by kernel_rfl) (by kernel_rfl) (fun _ _ _ h => h) HSS.out (by rfl) ?_ ?_
    rotate_left
    · intro w' hSw; refine run_load_row 58 (.tmp 2) ?_ g2 ?_ 58 _ _ (HR.out.keep hSw) Try.underlying58 rfl (by kernel_rfl) <;> rfl
    simp only [Act.put, List.getElem_toArray, List.getElem_cons_zero, List.getElem_cons_succ, List.setIfInBounds_toArray, List.set_cons_zero, List.set_cons_succ]
    refine wpAnyT_load (i := 37) (v := ?_) rfl (by kernel_rfl) (by kernel_rfl) (by kernel_rfl) (by kernel_rfl) (by kernel_rfl) (fun _ _ _ h => h) HSS.out (by rfl) ?_ ?_
    rotate_left
    · intro w hSw; skip; go_simp; try with_reducible rfl
    simp only [Act.put, List.getElem_toArray, List.getElem_cons_zero, List.getElem_cons_succ, List.setIfInBounds_toArray, List.set_cons_zero, List.set_cons_succ]
    refine wpAnyT_load (i := 38) (v := ?_) rfl (by kernel_rfl) (by kernel_rfl) (by kernel_rfl) (by kernel_rfl) (by kernel_rfl) (fun _ _ _ h => h) HSS.out (by rfl) ?_ ?_
    rotate_left
    · intro w hSw; skip; go_simp; try with_reducible rfl
    simp only [Act.put, List.getElem_toArray, List.getElem_cons_zero, List.getElem_cons_succ, List.setIfInBounds_toArray, List.set_cons_zero, List.set_cons_succ]
    refine wpAnyT_one (i := 39) (by kernel_rfl) rfl (fun K hK => ?_)
    rw [if_pos (by rfl)]
    go_simp
    refine (l14by_any (HP1.out.keep HSS.out)).mono ?_
    rintro e w12 ⟨gk, rfl, hk, hF⟩
    have HK := Lib.hid hk
    have HSS := Lib.hid (HSS.out.trans hF)
    clear hk hF
    go_simp
    refine hK.out _ _ (fun _ => HSS.out) ?_
    clear hK K
    simp only [Act.put, List.getElem_toArray, List.getElem_cons_zero, List.getElem_cons_succ, List.setIfInBounds_toArray, List.set_cons_zero, List.set_cons_succ]
    refine wpAnyT_one (i := 40) (by kernel_rfl) rfl (fun K hK => ?_)
    rw [if_pos (by rfl)]
    go_simp
    refine (svCheck_any (r := rep14) ⟨_, rfl, Sl.keep HB.out HSS.out⟩ (by decide) HK.out 3).mono ?_
    rw [check14b]
    rintro e wc2 ⟨rfl, hF⟩
    have HSS := Lib.hid (HSS.out.trans hF)
    clear HK hF
    go_simp
    refine hK.out _ _ (fun _ => HSS.out) ?_
    clear hK K
    simp only [Act.put, List.getElem_toArray, List.getElem_cons_zero, List.getElem_cons_succ, List.setIfInBounds_toArray, List.set_cons_zero, List.set_cons_succ]
    refine wpAnyT_load (i := 41) (v := ?_) rfl (by kernel_rfl) (by kernel_rfl) (by kernel_rfl) (by kernel_rfl) (by kernel_rfl) (fun _ _ _ h => h) HSS.out (by rfl) ?_ ?_
    rotate_left
    · intro w hSw; skip; go_simp; try with_reducible rfl
    simp only [Act.put, List.getElem_toArray, List.getElem_cons_zero, List.getElem_cons_succ, List.setIfInBounds_toArray, List.set_cons_zero, List.set_cons_succ]
    refine wpAnyT_load (i := 42) (v := ?_) rfl (by kernel_rfl) (by kernel_rfl) (by kernel_rfl) (by kernel_rfl) (by kernel_rfl) (fun _ _ _ h => h) HSS.out (by rfl) ?_ ?_
    rotate_left
    · intro w hSw; skip; go_simp; try with_reducible rfl
    simp only [Act.put, List.getElem_toArray, List.getElem_cons_zero, List.getElem_cons_succ, List.setIfInBounds_toArray, List.set_cons_zero, List.set_cons_succ]
    refine wpAnyT_load (i := 43) (v := ?_) rfl (by kernel_rfl) (by kernel_rfl) (by kernel_rfl) (by kernel_rfl) (by kernel_rfl) (fun _ _ _ h => h) HSS.out (by rfl) ?_ ?_
    rotate_left
    · intro w hSw; skip; go_simp; try with_reducible rfl
    simp only [Act.put, List.getElem_toArray, List.getElem_cons_zero, List.getElem_cons_succ, List.setIfInBounds_toArray, List.set_cons_zero, List.set_cons_succ]
    refine wpAnyT_load (i := 44) (v := ?_) rfl (by kernel_rfl) (by kernel_rfl) (by kernel_rfl) (by kernel_rfl) (by kernel_rfl) (fun _ _ _ h => h) HSS.out (by rfl) ?_ ?_
    rotate_left
    · intro w' hSw; refine run_load_row 58 (.tmp 2) ?_ g2 ?_ 58 _ _ (HR.out.keep hSw) Try.underlying58 rfl (by kernel_rfl) <;> rfl
    simp only [Act.put, List.getElem_toArray, List.getElem_cons_zero, List.getElem_cons_succ, List.setIfInBounds_toArray, List.set_cons_zero, List.set_cons_succ]
    refine wpAnyT_load (i := 45) (v := ?_) rfl (by kernel_rfl) (by kernel_rfl) (by kernel_rfl) (by kernel_rfl) (by kernel_rfl) (fun _ _ _ h => h) HSS.out (by rfl) ?_ ?_
    rotate_left
    · intro w hSw; skip; go_simp; try with_reducible rfl
    simp only [Act.put, List.getElem_toArray, List.getElem_cons_zero, List.getElem_cons_succ, List.setIfInBounds_toArray, List.set_cons_zero, List.set_cons_succ]
    refine wpAnyT_load (i := 46) (v := ?_) rfl (by kernel_rfl) (by kernel_rfl) (by kernel_rfl) (by kernel_rfl) (by kernel_rfl) (fun _ _ _ h => h) HSS.out (by rfl) ?_ ?_
    rotate_left
    · intro w hSw; skip; go_simp; try with_reducible rfl
    simp only [Act.put, List.getElem_toArray, List.getElem_cons_zero, List.getElem_cons_succ, List.setIfInBounds_toArray, List.set_cons_zero, List.set_cons_succ]
    refine wpAnyT_one (i := 47) (by kernel_rfl) rfl (fun K hK => ?_)
    rw [if_pos (by rfl)]
    go_simp
    refine (l14by_any (HP1.out.keep HSS.out)).mono ?_
    rintro e w13 ⟨gk, rfl, hk, hF⟩
    have HK := Lib.hid hk
    have HSS := Lib.hid (HSS.out.trans hF)
    clear hk hF
    go_simp
    refine hK.out _ _ (fun _ => HSS.out) ?_
    clear hK K
    simp only [Act.put, List.getElem_toArray, List.getElem_cons_zero, List.getElem_cons_succ, List.setIfInBounds_toArray, List.set_cons_zero, List.set_cons_succ]
    refine wpAnyT_one (i := 48) (by kernel_rfl) rfl (fun K hK => ?_)
    rw [if_pos (by rfl)]
    go_simp
    refine (svCount_any (r := rep14) ⟨_, rfl, Sl.keep HB.out HSS.out⟩ (by decide) HK.out 3).mono ?_
    rw [count14]
    rintro e wc3 ⟨rfl, hF⟩
    have HSS := Lib.hid (HSS.out.trans hF)
    clear HK hF
    go_simp
    refine hK.out _ _ (fun _ => HSS.out) ?_
    clear hK K
    simp only [Act.put, List.getElem_toArray, List.getElem_cons_zero, List.getElem_cons_succ, List.setIfInBounds_toArray, List.set_cons_zero, List.set_cons_succ]
    refine wpAnyT_load (i := 49) (v := ?_) rfl (by kernel_rfl) (by kernel_rfl) (by kernel_rfl) (by kernel_rfl) (by kernel_rfl) (fun _ _ _ h => h) HSS.out (by rfl) ?_ ?_
    rotate_left
    · intro w hSw; skip; go_simp; try with_reducible rfl
    simp only [Act.put, List.getElem_toArray, List.getElem_cons_zero, List.getElem_cons_succ, List.setIfInBounds_toArray, List.set_cons_zero, List.set_cons_succ]
    refine wpAnyT_load (i := 50) (v := ?_) rfl (by kernel_rfl) (by kernel_rfl) (by kernel_rfl) (by kernel_rfl) (by kernel_rfl) (fun _ _ _ h => h) HSS.out (by rfl) ?_ ?_
    rotate_left
    · intro w hSw; skip; go_simp; try with_reducible rfl
    simp only [Act.put, List.getElem_toArray, List.getElem_cons_zero, List.getElem_cons_succ, List.setIfInBounds_toArray, List.set_cons_zero, List.set_cons_succ]
    refine wpAnyT_load (i := 51) (v := ?_) rfl (by kernel_rfl) (by kernel_rfl) (by kernel_rfl) (by kernel_rfl) (by kernel_rfl) (fun _ _ _ h => h) HSS.out (by rfl) ?_ ?_
    rotate_left
    · intro w hSw; skip; go_simp; try with_reducible rfl
    simp only [Act.put, List.getElem_toArray, List.getElem_cons_zero, List.getElem_cons_succ, List.setIfInBounds_toArray, List.set_cons_zero, List.set_cons_succ]
    refine wpAnyT_load (i := 52) (v := ?_) rfl (by kernel_rfl) (by kernel_rfl) (by kernel_rfl) (by kernel_rfl) (by kernel_rfl) (fun _ _ _ h => h) HSS.out (by rfl) ?_ ?_
    rotate_left
    · intro w hSw; skip; go_simp; try with_reducible rfl
    simp only [Act.put, List.getElem_toArray, List.getElem_cons_zero, List.getElem_cons_succ, List.setIfInBounds_toArray, List.set_cons_zero, List.set_cons_succ]
    refine wpAnyT_load (i := 53) (v := ?_) rfl (by kernel_rfl) (by kernel_rfl) (by kernel_rfl) (by kernel_rfl) (by kernel_rfl) (fun _ _ _ h => h) HSS.out (by rfl) ?_ ?_
    rotate_left
    · intro w hSw; have n0 := (HBK.out.keep hSw).own.len Try.underlying96 ; rw [(HBK.out.keep hSw).size] at n0; go_simp; try with_reducible rfl
    simp only [Act.put, List.getElem_toArray, List.getElem_cons_zero, List.getElem_cons_succ, List.setIfInBounds_toArray, List.set_cons_zero, List.set_cons_succ]
    refine wpAnyT_load (i := 54) (v := ?_) rfl (by kernel_rfl) (by kernel_rfl) (by kernel_rfl) (by kernel_rfl) (by kernel_rfl) (fun _ _ _ h => h) HSS.out (by rfl) ?_ ?_
    rotate_left
    · intro w hSw; skip; go_simp; try with_reducible rfl
    simp only [Act.put, List.getElem_toArray, List.getElem_cons_zero, List.getElem_cons_succ, List.setIfInBounds_toArray, List.set_cons_zero, List.set_cons_succ]
    refine wpAnyT_load (i := 55) (v := ?_) rfl (by kernel_rfl) (by kernel_rfl) (by kernel_rfl) (by kernel_rfl) (by kernel_rfl) (fun _ _ _ h => h) HSS.out (by rfl) ?_ ?_
    rotate_left
    · intro w hSw; skip; go_simp; try with_reducible rfl
    simp only [Act.put, List.getElem_toArray, List.getElem_cons_zero, List.getElem_cons_succ, List.setIfInBounds_toArray, List.set_cons_zero, List.set_cons_succ]
    refine wpAnyT_load (i := 56) (v := ?_) rfl (by kernel_rfl) (by kernel_rfl) (by kernel_rfl) (by kernel_rfl) (by kernel_rfl) (fun _ _ _ h => h) HSS.out (by rfl) ?_ ?_
    rotate_left
    · intro w hSw; skip; go_simp; try with_reducible rfl
    simp only [Act.put, List.getElem_toArray, List.getElem_cons_zero, List.getElem_cons_succ, List.setIfInBounds_toArray, List.set_cons_zero, List.set_cons_succ]
    refine wpAnyT_load (i := 57) (v := ?_) rfl (by kernel_rfl) (by kernel_rfl) (by kernel_rfl) (by kernel_rfl) (by kernel_rfl) (fun _ _ _ h => h) HSS.out (by rfl) ?_ ?_
    rotate_left
    · intro w hSw; skip; go_simp; try with_reducible rfl
    simp only [Act.put, List.getElem_toArray, List.getElem_cons_zero, List.getElem_cons_succ, List.setIfInBounds_toArray, List.set_cons_zero, List.set_cons_succ]
    refine wpAnyT_load (i := 58) (v := ?_) rfl (by kernel_rfl) (by kernel_rfl) (by kernel_rfl) (by kernel_rfl) (by kernel_rfl) (fun _ _ _ h => h) HSS.out (by rfl) ?_ ?_
    rotate_left
    · intro w hSw; have n0 := (HBK.out.keep hSw).look HVQ.out; simp only [show (((0 : UInt16).toNat : Nat) : Int) = 0 from rfl] at n0; go_simp; try with_reducible rfl
    simp only [Act.put, List.getElem_toArray, List.getElem_cons_zero, List.getElem_cons_succ, List.setIfInBounds_toArray, List.set_cons_zero, List.set_cons_succ]
    refine wpAnyT_load (i := 59) (v := ?_) rfl (by kernel_rfl) (by kernel_rfl) (by kernel_rfl) (by kernel_rfl) (by kernel_rfl) (fun _ _ _ h => h) HSS.out (by rfl) ?_ ?_
    rotate_left
    · intro w hSw; skip; go_simp; try with_reducible rfl
    simp only [Act.put, List.getElem_toArray, List.getElem_cons_zero, List.getElem_cons_succ, List.setIfInBounds_toArray, List.set_cons_zero, List.set_cons_succ]
    refine wpAnyT_load (i := 60) (v := ?_) rfl (by kernel_rfl) (by kernel_rfl) (by kernel_rfl) (by kernel_rfl) (by kernel_rfl) (fun _ _ _ h => h) HSS.out (by rfl) ?_ ?_
    rotate_left
    · intro w hSw; skip; go_simp; try with_reducible rfl
    simp only [Act.put, List.getElem_toArray, List.getElem_cons_zero, List.getElem_cons_succ, List.setIfInBounds_toArray, List.set_cons_zero, List.set_cons_succ]
    refine wpAnyT_load (i := 61) (v := ?_) rfl (by kernel_rfl) (by kernel_rfl) (by kernel_rfl) (by kernel_rfl) (by kernel_rfl) (fun _ _ _ h => h) HSS.out (by rfl) ?_ ?_
    rotate_left
    · intro w hSw; skip; go_simp; try with_reducible rfl
    simp only [Act.put, List.getElem_toArray, List.getElem_cons_zero, List.getElem_cons_succ, List.setIfInBounds_toArray, List.set_cons_zero, List.set_cons_succ]
    refine wpAnyT_load (i := 62) (v := ?_) rfl (by kernel_rfl) (by kernel_rfl) (by kernel_rfl) (by kernel_rfl) (by kernel_rfl) (fun _ _ _ h => h) HSS.out (by rfl) ?_ ?_
    rotate_left
    · intro w hSw; skip; go_simp; try with_reducible rfl
    simp only [Act.put, List.getElem_toArray, List.getElem_cons_zero, List.getElem_cons_succ, List.setIfInBounds_toArray, List.set_cons_zero, List.set_cons_succ]
    refine wpAnyT_done (by kernel_rfl) ?_ _
    have HF := Lib.hid (HF.out.trans HSS.out)
    go_wp2_with fail
    go_ret
    first | exact ⟨rfl, HF.out⟩ | exact ⟨ret_bool (by simp), HF.out⟩
  · rw [if_pos (by rfl)]
    go_simp
    obtain ⟨wl7, el, hF, hBl, -⟩ := one_new wd7 #[.slice al0 14 cl0] 25
    rw [el]
    have HL7 := Lib.hid hBl
    have HSS := Lib.hid (HSS.out.trans hF)
    clear hBl hF el
    refine hK.out _ _ (fun _ => HSS.out) ?_
    clear hK K
    simp only [Act.put, List.getElem_toArray, List.getElem_cons_zero, List.getElem_cons_succ, List.setIfInBounds_toArray, List.set_cons_zero, List.set_cons_succ]
    generalize hgl : wd7.heap.size = gl at *
    clear hgl
    refine wpAnyT_one (i := 0) (by kernel_rfl) rfl (fun K hK => ?_)
    rw [if_pos (by rfl)]
    go_simp
    refine l14two_any.mono ?_
    rintro e wt7 ⟨g7, B7, rfl, hO, hF⟩
    have HL7 := Lib.hid (HL7.out.keep hF)
    have HO7 := Lib.hid (hO.mono (base' := wd7.heap.size) HSS.out.size)
    have HSS := Lib.hid (HSS.out.trans hF)
    clear hO hF
    go_simp
    refine hK.out _ _ (fun _ => HSS.out) ?_
    clear hK K
    simp only [Act.put, List.getElem_toArray, List.getElem_cons_zero, List.getElem_cons_succ, List.setIfInBounds_toArray, List.set_cons_zero, List.set_cons_succ]
    refine wpAnyT_one (i := 5) (by kernel_rfl) rfl (fun K hK => ?_)
    refine step_append_els Rep.bytes (by decide) rfl (.tmp 55) (.tmp 59) 22 rfl wd7.heap.size 25 (.slice none 0 0) 24 Try.underlying22 info_bs rfl _ two14 B7 rfl HO7.out ⟨gl, 0, none⟩ 1 1 rfl [ba14] rfl [.slice al0 14 cl0] (liveOf (.slice al0 14 cl0)).toList (els_one (Sl.keep HX0.out HSS.out)) (fun j u hj => by have h9 := box_range HL7.out j u hj; simpa [addr_add] using h9) (fun b hb hm => by have h1 := (HO7.out.block b hb).1; have h2 := Sl.lt HX0.out b (mem_toList.1 hm); omega) (by unfold maxLen; decide) (by decide) HSS.out.size ?_
    intro v8 w8 hown hfr hbl
    obtain ⟨a8, c8, e8⟩ := hown.shape
    have HO8 := Lib.hid hown.sl.rows
    have HSS := Lib.hid (HSS.out.step hfr (fun x hx => .inr (by rw [mem_toList] at hx; exact (HO7.out.block x hx).1)))
    subst e8
    clear hown hfr hbl
    refine hK.out _ _ (fun _ => HSS.out) ?_
    clear hK K
    simp only [Act.put, List.getElem_toArray, List.getElem_cons_zero, List.getElem_cons_succ, List.setIfInBounds_toArray, List.set_cons_zero, List.set_cons_succ]
    refine wpAnyT_one (i := 6) (by kernel_rfl) rfl (fun K hK => ?_)
    rw [if_pos (by rfl)]
    go_simp
    refine (svBook_any HO8.out (by decide)).mono ?_
    rintro e w9 ⟨gb, D, rfl, hBk, hF⟩
    have HBK := Lib.hid hBk
    have HSS := Lib.hid (HSS.out.trans hF)
    clear hBk hF
    go_simp
    refine hK.out _ _ (fun _ => HSS.out) ?_
    clear hK K
    simp only [Act.put, List.getElem_toArray, List.getElem_cons_zero, List.getElem_cons_succ, List.setIfInBounds_toArray, List.set_cons_zero, List.set_cons_succ]
    refine wpAnyT_load (i := 7) (v := ?_) rfl (by kernel_rfl) (by kernel_rfl) (by kernel_rfl) (by kernel_rfl) (by kernel_rfl) (fun _ _ _ h => h) HSS.out (by rfl) ?_ ?_
    rotate_left
    · intro w hSw; skip; go_simp; try with_reducible rfl
    simp only [Act.put, List.getElem_toArray, List.getElem_cons_zero, List.getElem_cons_succ, List.setIfInBounds_toArray, List.set_cons_zero, List.set_cons_succ]
    refine wpAnyT_done (by kernel_rfl) ?_ _
    have hF := HSS.out
    have HF := Lib.hid (HF.out.trans hF)
    have HP := Lib.hid (HP.out.keep hF)
    have HB := Lib.hid (Sl.keep HB.out hF)
    have HR := Lib.hid (HR.out.keep hF)
    have HP1 := Lib.hid (HP1.out.keep hF)
    have HOA := Lib.hid (Sl.keep HOA.out hF)
    have HC0 := Lib.hid (hF.cellSome HC0.out (by simp))
    have HX0 := Lib.hid (Sl.keep HX0.out hF)
    clear hF HSS
    have hbn := HBK.out
    rw [show two14 ++ [ba14] = [ba14, bb14, ba14] from rfl, show ([ba14, bb14, ba14] : List (List UInt8)).length = 3 from rfl, book14] at hbn
    obtain ⟨vq, hvq, hvb, -⟩ := hbn.some_ 0 bb14 find14
    obtain ⟨aq, cq, rfl⟩ : ∃ a c, vq = .slice a 13 c := Sl.shape hvb
    have HBK := Lib.hid hbn; have HVQ := Lib.hid hvq
    clear hbn hvq hvb
    go_upto_region 8 with fail
    refine wp_region_T (fun w' => Fr [] w9.drew w') [] 63 #[false, false, false, false, false, false, false, false, false, false, false, false, false, false, false, false, false, false, false, false, false, false, false, false, false, false, false, false, false, false, false, false, false, false, false, false, false, false, false, false, false, false, false, false, false, false, false, false, false, false, false, false, false, false, false, false, false, false, false, false, false, false, false] (by kernel_rfl) rfl rfl ?_
    try simp only [List.append_eq, List.cons_append, List.nil_append]
    have hF := (Fr.refl [] w9).drew
    have HF := Lib.hid (HF.out.trans hF)
    have HP := Lib.hid (HP.out.keep hF)
    have HB := Lib.hid (Sl.keep HB.out hF)
    have HR := Lib.hid (HR.out.keep hF)
    have HP1 := Lib.hid (HP1.out.keep hF)
    have HOA := Lib.hid (Sl.keep HOA.out hF)
    have HC0 := Lib.hid (hF.cellSome HC0.out (by simp))
    have HX0 := Lib.hid (Sl.keep HX0.out hF)
    have HBK := Lib.hid (HBK.out.keep hF)
    clear hF
    have HSS : Hid (Fr [] w9.drew w9.drew) := Lib.hid (Fr.refl _ _)
    generalize w9.drew = wd at *
    refine wpAnyT_load (i := 0) (v := ?_) rfl (by kernel_rfl) (by kernel_rfl) (by kernel_rfl) (by kernel_rfl) (by kernel_rfl) (fun _ _ _ h => h) HSS.out (by rfl) ?_ ?_
    rotate_left
    · intro w hSw; skip; go_simp; try with_reducible rfl
    simp only [Act.put, List.getElem_toArray, List.getElem_cons_zero, List.getElem_cons_succ, List.setIfInBounds_toArray, List.set_cons_zero, List.set_cons_succ]
    refine wpAnyT_load (i := 1) (v := ?_) rfl (by kernel_rfl) (by kernel_rfl) (by kernel_rfl) (by kernel_rfl) (by kernel_rfl) (fun _ _ _ h => h) HSS.out (by rfl) ?_ ?_
    rotate_left
    · intro w hSw; skip; go_simp; try with_reducible rfl
    simp only [Act.put, List.getElem_toArray, List.getElem_cons_zero, List.getElem_cons_succ, List.setIfInBounds_toArray, List.set_cons_zero, List.set_cons_succ]
    refine wpAnyT_load (i := 2) (v := ?_) rfl (by kernel_rfl) (by kernel_rfl) (by kernel_rfl) (by kernel_rfl) (by kernel_rfl) (fun _ _ _ h => h) HSS.out (by rfl) ?_ ?_
    rotate_left
    · intro w hSw; skip; go_simp; try with_reducible rfl
    simp only [Act.put, List.getElem_toArray, List.getElem_cons_zero, List.getElem_cons_succ, List.setIfInBounds_toArray, List.set_cons_zero, List.set_cons_succ]
    refine wpAnyT_load (i := 3) (v := ?_) rfl (by kernel_rfl) (by kernel_rfl) (by kernel_rfl) (by kernel_rfl) (by kernel_rfl) (fun _ _ _ h => h) HSS.out (by rfl) ?_ ?_
    rotate_left
    · intro w hSw; skip; go_simp; try with_reducible rfl
    simp only [Act.put, List.getElem_toArray, List.getElem_cons_zero, List.getElem_cons_succ, List.setIfInBounds_toArray, List.set_cons_zero, List.set_cons_succ]
    refine wpAnyT_load (i := 4) (v := ?_) rfl (by kernel_rfl) (by kernel_rfl) (by kernel_rfl) (by kernel_rfl) (by kernel_rfl) (fun _ _ _ h => h) HSS.out (by rfl) ?_ ?_
    rotate_left
    · intro w hSw; skip; go_simp; try with_reducible rfl
    simp only [Act.put, List.getElem_toArray, List.getElem_cons_zero, List.getElem_cons_succ, List.setIfInBounds_toArray, List.set_cons_zero, List.set_cons_succ]
    refine wpAnyT_load (i := 5) (v := ?_) rfl (by kernel_rfl) (by kernel_rfl) (by kernel_rfl) (by kernel_rfl) (by kernel_rfl) (fun _ _ _ h => h) HSS.out (by rfl) ?_ ?_
    rotate_left
    · intro w hSw; skip; go_simp; try with_reducible rfl
    simp only [Act.put, List.getElem_toArray, List.getElem_cons_zero, List.getElem_cons_succ, List.setIfInBounds_toArray, List.set_cons_zero, List.set_cons_succ]
    refine wpAnyT_load (i := 6) (v := ?_) rfl (by kernel_rfl) (by kernel_rfl) (by kernel_rfl) (by kernel_rfl) (by kernel_rfl) (fun _ _ _ h => h) HSS.out (by rfl) ?_ ?_
    rotate_left
    · intro w hSw; skip; go_simp; try with_reducible rfl
    simp only [Act.put, List.getElem_toArray, List.getElem_cons_zero, List.getElem_cons_succ, List.setIfInBounds_toArray, List.set_cons_zero, List.set_cons_succ]
    refine wpAnyT_load (i := 7) (v := ?_) rfl (by kernel_rfl) (by kernel_rfl) (by kernel_rfl) (by kernel_rfl) (by kernel_rfl) (fun _ _ _ h => h) HSS.out (by rfl) ?_ ?_
    rotate_left
    · intro w hSw; skip; go_simp; try with_reducible rfl
    simp only [Act.put, List.getElem_toArray, List.getElem_cons_zero, List.getElem_cons_succ, List.setIfInBounds_toArray, List.set_cons_zero, List.set_cons_succ]
    refine wpAnyT_load (i := 8) (v := ?_) rfl (by kernel_rfl) (by kernel_rfl) (by kernel_rfl) (by kernel_rfl) (by kernel_rfl) (fun _ _ _ h => h) HSS.out (by rfl) ?_ ?_
    rotate_left
    · intro w hSw; skip; go_simp; try with_reducible rfl
    simp only [Act.put, List.getElem_toArray, List.getElem_cons_zero, List.getElem_cons_succ, List.setIfInBounds_toArray, List.set_cons_zero, List.set_cons_succ]
    refine wpAnyT_load (i := 9) (v := ?_) rfl (by kernel_rfl) (by kernel_rfl) (by kernel_rfl) (by kernel_rfl) (by kernel_rfl) (fun _ _ _ h => h) HSS.out (by rfl) ?_ ?_
    rotate_left
    · intro w hSw; skip; go_simp; try with_reducible rfl
    simp only [Act.put, List.getElem_toArray, List.getElem_cons_zero, List.getElem_cons_succ, List.setIfInBounds_toArray, List.set_cons_zero, List.set_cons_succ]
    refine wpAnyT_load (i := 10) (v := ?_) rfl (by kernel_rfl) (by kernel_rfl) (by kernel_rfl) (by kernel_rfl) (by kernel_rfl) (fun _ _ _ h => h) HSS.out (by rfl) ?_ ?_
    rotate_left
    · intro w hSw; skip; go_simp; try with_reducible rfl
    simp only [Act.put, List.getElem_toArray, List.getElem_cons_zero, List.getElem_cons_succ, List.setIfInBounds_toArray, List.set_cons_zero, List.set_cons_succ]
    refine wpAnyT_load (i := 11) (v := ?_) rfl (by kernel_rfl) (by kernel_rfl) (by kernel_rfl) (by kernel_rfl) (by kernel_rfl) (fun _ _ _ h => h) HSS.out (by rfl) ?_ ?_
    rotate_left
    · intro w hSw; skip; go_simp; try with_reducible rfl
    simp only [Act.put, List.getElem_toArray, List.getElem_cons_zero, List.getElem_cons_succ, List.setIfInBounds_toArray, List.set_cons_zero, List.set_cons_succ]
    refine wpAnyT_load (i := 12) (v := ?_) rfl (by kernel_rfl) (by kernel_rfl) (by kernel_rfl) (by kernel_rfl) (by kernel_rfl) (fun _ _ _ h => h) HSS.out (by rfl) ?_ ?_
    rotate_left
    · intro w hSw; skip; go_simp; try with_reducible rfl
    simp only [Act.put, List.getElem_toArray, List.getElem_cons_zero, List.getElem_cons_succ, List.setIfInBounds_toArray, List.set_cons_zero, List.set_cons_succ]
    refine wpAnyT_load (i := 13) (v := ?_) rfl (by kernel_rfl) (by kernel_rfl) (by kernel_rfl) (by kernel_rfl) (by kernel_rfl) (fun _ _ _ h => h) HSS.out (by rfl) ?_ ?_
    rotate_left
    · intro w hSw; skip; go_simp; try with_reducible rfl
    simp only [Act.put, List.getElem_toArray, List.getElem_cons_zero, List.getElem_cons_succ, List.setIfInBounds_toArray, List.set_cons_zero, List.set_cons_succ]
    refine wpAnyT_load (i := 14) (v := ?_) rfl (by kernel_rfl) (by kernel_rfl) (by kernel_rfl) (by kernel_rfl) (by kernel_rfl) (fun _ _ _ h => h) HSS.out (by rfl) ?_ ?_
    rotate_left
    · intro w hSw; have n0 := hSw.cellSome HC0.out (by simp); go_simp; try with_reducible rfl
    simp only [Act.put, List.getElem_toArray, List.getElem_cons_zero, List.getElem_cons_succ, List.setIfInBounds_toArray, List.set_cons_zero, List.set_cons_succ]
    refine wpAnyT_one (i := 15) (by kernel_rfl) rfl (fun K hK => ?_)
    rw [if_pos (by rfl)]
    go_simp
    refine (RSame_any (Sl.keep HOA.out HSS.out) (Sl.keep HX0.out HSS.out) (by decide) (by decide)).mono ?_
    rintro e w10 ⟨rfl, hF⟩
    rw [show (ba14 == ba14) = true from rfl]
    go_simp
    have HSS := Lib.hid (HSS.out.trans hF)
    clear hF
    refine hK.out _ _ (fun _ => HSS.out) ?_
    clear hK K
    simp only [Act.put, List.getElem_toArray, List.getElem_cons_zero, List.getElem_cons_succ, List.setIfInBounds_toArray, List.set_cons_zero, List.set_cons_succ]
    refine wpAnyT_load (i := 16) (v := ?_) rfl (by kernel_rfl) (by kernel_rfl) (by kernel_rfl) (by kernel_rfl) (by kernel_rfl) (fun _ _ _ h => h) HSS.out (by rfl) ?_ ?_
    rotate_left
    · intro w hSw; skip; go_simp; try with_reducible rfl
    simp only [Act.put, List.getElem_toArray, List.getElem_cons_zero, List.getElem_cons_succ, List.setIfInBounds_toArray, List.set_cons_zero, List.set_cons_succ]
    refine wpAnyT_load (i := 17) (v := ?_) rfl (by kernel_rfl) (by kernel_rfl) (by kernel_rfl) (by kernel_rfl) (by kernel_rfl) (fun _ _ _ h => h) HSS.out (by rfl) ?_ ?_
    rotate_left
    · intro w hSw; skip; go_simp; try with_reducible rfl
    simp only [Act.put, List.getElem_toArray, List.getElem_cons_zero, List.getElem_cons_succ, List.setIfInBounds_toArray, List.set_cons_zero, List.set_cons_succ]
    refine wpAnyT_load (i := 18) (v := ?_) rfl (by kernel_rfl) (by kernel_rfl) (by kernel_rfl) (by kernel_rfl) (by kernel_rfl) (fun _ _ _ h => h) HSS.out (by rfl) ?_ ?_
    rotate_left
    · intro w hSw; skip; go_simp; try with_reducible rfl
    simp only [Act.put, List.getElem_toArray, List.getElem_cons_zero, List.getElem_cons_succ, List.setIfInBounds_toArray, List.set_cons_zero, List.set_cons_succ]
    refine wpAnyT_load (i := 19) (v := ?_) rfl (by kernel_rfl) (by kernel_rfl) (by kernel_rfl) (by kernel_rfl) (by kernel_rfl) (fun _ _ _ h => h) HSS.out (by rfl) ?_ ?_
    rotate_left
    · intro w hSw; skip; go_simp; try with_reducible rfl
    simp only [Act.put, List.getElem_toArray, List.getElem_cons_zero, List.getElem_cons_succ, List.setIfInBounds_toArray, List.set_cons_zero, List.set_cons_succ]
    refine wpAnyT_load (i := 20) (v := ?_) rfl (by kernel_rfl) (by kernel_rfl) (by kernel_rfl) (by kernel_rfl) (by kernel_rfl) (fun _ _ _ h => h) HSS.out (by rfl) ?_ ?_
    rotate_left
    · intro w hSw; skip; go_simp; try with_reducible rfl
    simp only [Act.put, List.getElem_toArray, List.getElem_cons_zero, List.getElem_cons_succ, List.setIfInBounds_toArray, List.set_cons_zero, List.set_cons_succ]
    refine wpAnyT_load (i := 21) (v := ?_) rfl (by kernel_rfl) (by kernel_rfl) (by kernel_rfl) (by kernel_rfl) (by kernel_rfl) (fun _ _ _ h => h) HSS.out (by rfl) ?_ ?_
    rotate_left
    · intro w hSw; skip; go_simp; try with_reducible rfl
    simp only [Act.put, List.getElem_toArray, List.getElem_cons_zero, List.getElem_cons_succ, List.setIfInBounds_toArray, List.set_cons_zero, List.set_cons_succ]
    refine wpAnyT_load (i := 22) (v := ?_) rfl (by kernel_rfl) (by kernel_rfl) (by kernel_rfl) (by kernel_rfl) (by kernel_rfl) (fun _ _ _ h => h) HSS.out (by rfl) ?_ ?_
    rotate_left
    · intro w hSw; skip; go_simp; try with_reducible rfl
    simp only [Act.put, List.getElem_toArray, List.getElem_cons_zero, List.getElem_cons_succ, List.setIfInBounds_toArray, List.set_cons_zero, List.set_cons_succ]
    refine wpAnyT_load (i := 23) (v := ?_) rfl (by kernel_rfl) (by kernel_rfl) (by kernel_rfl) (by kernel_rfl) (by kernel_rfl) (fun _ _ _ h => h) HSS.out (by rfl) ?_ ?_
    rotate_left
    · intro w hSw; skip; go_simp; try with_reducible rfl
    simp only [Act.put, List.getElem_toArray, List.getElem_cons_zero, List.getElem_cons_succ, List.setIfInBounds_toArray, List.set_cons_zero, List.set_cons_succ]
    refine wpAnyT_load (i := 24) (v := ?_) rfl (by kernel_rfl) (by kernel_rfl) (by kernel_rfl) (by kernel_rfl) (by kernel_rfl) (fun _ _ _ h => h) HSS.out (by rfl) ?_ ?_
    rotate_left
    · intro w hSw; skip; go_simp; try with_reducible rfl
    simp only [Act.put, List.getElem_toArray, List.getElem_cons_zero, List.getElem_cons_succ, List.setIfInBounds_toArray, List.set_cons_zero, List.set_cons_succ]
    refine wpAnyT_load (i := 25) (v := ?_) rfl (by kernel_rfl) (by kernel_rfl) (by kernel_rfl) (by kernel_rfl) (by kernel_rfl) (fun _ _ _ h => h) HSS.out (by rfl) ?_ ?_
    rotate_left
    · intro w hSw; skip; go_simp; try with_reducible rfl
    simp only [Act.put, List.getElem_toArray, List.getElem_cons_zero, List.getElem_cons_succ, List.setIfInBounds_toArray, List.set_cons_zero, List.set_cons_succ]
    refine wpAnyT_load (i := 26) (v := ?_) rfl (by kernel_rfl) (by kernel_rfl) (by kernel_rfl) (by kernel_rfl) (by kernel_rfl) (fun _ _ _ h => h) HSS.out (by rfl) ?_ ?_
    rotate_left
    · intro w hSw; skip; go_simp; try with_reducible rfl
    simp only [Act.put, List.getElem_toArray, List.getElem_cons_zero, List.getElem_cons_succ, List.setIfInBounds_toArray, List.set_cons_zero, List.set_cons_succ]
    refine wpAnyT_load (i := 27) (v := ?_) rfl (by kernel_rfl) (by kernel_rfl) (by kernel_rfl) (by kernel_rfl) (by kernel_rfl) (fun _ _ _ h => h) HSS.out (by rfl) ?_ ?_
    rotate_left
    · intro w hSw; skip; go_simp; try with_reducible rfl
    simp only [Act.put, List.getElem_toArray, List.getElem_cons_zero, List.getElem_cons_succ, List.setIfInBounds_toArray, List.set_cons_zero, List.set_cons_succ]
    refine wpAnyT_load (i := 28) (v := ?_) rfl (by kernel_rfl) (by kernel_rfl) (by kernel_rfl) (by kernel_rfl) (by kernel_rfl) (fun _ _ _ h => h) HSS.out (by rfl) ?_ ?_
    rotate_left
    · intro w hSw; skip; go_simp; try with_reducible rfl
    simp only [Act.put, List.getElem_toArray, List.getElem_cons_zero, List.getElem_cons_succ, List.setIfInBounds_toArray, List.set_cons_zero, List.set_cons_succ]
    refine wpAnyT_load (i := 29) (v := ?_) rfl (by kernel_rfl) (by kernel_rfl) (by kernel_rfl) (by kernel_rfl) (by kernel_rfl) (fun _ _ _ h => h) HSS.out (by rfl) ?_ ?_
    rotate_left
    · intro w hSw; skip; go_simp; try with_reducible rfl
    simp only [Act.put, List.getElem_toArray, List.getElem_cons_zero, List.getElem_cons_succ, List.setIfInBounds_toArray, List.set_cons_zero, List.set_cons_succ]
    refine wpAnyT_load (i := 30) (v := ?_) rfl (by kernel_rfl) (by kernel_rfl) (by kernel_rfl) (by kernel_rfl) (by kernel_rfl) (fun _ _ _ h => h) HSS.out (by rfl) ?_ ?_
    rotate_left
    · intro w' hSw; refine run_load_row 58 (.tmp 2) ?_ g2 ?_ 58 _ _ (HR.out.keep hSw) Try.underlying58 rfl (by kernel_rfl) <;> rfl
    simp only [Act.put, List.getElem_toArray, List.getElem_cons_zero, List.getElem_cons_succ, List.setIfInBounds_toArray, List.set_cons_zero, List.set_cons_succ]
    refine wpAnyT_load (i := 31) (v := ?_) rfl (by kernel_rfl) (by kernel_rfl) (by kernel_rfl) (by kernel_rfl) (by kernel_rfl) (fun _ _ _ h => h) HSS.out (by rfl) ?_ ?_
    rotate_left
    · intro w hSw; skip; go_simp; try with_reducible rfl
    simp only [Act.put, List.getElem_toArray, List.getElem_cons_zero, List.getElem_cons_succ, List.setIfInBounds_toArray, List.set_cons_zero, List.set_cons_succ]
    refine wpAnyT_one (i := 32) (by kernel_rfl) rfl (fun K hK => ?_)
    rw [if_pos (by rfl)]
    go_simp
    refine (l14by_any (HP.out.keep HSS.out)).mono ?_
    rintro e w11 ⟨gk, rfl, hk, hF⟩
    have HK := Lib.hid hk
    have HSS := Lib.hid (HSS.out.trans hF)
    clear hk hF
    go_simp
    refine hK.out _ _ (fun _ => HSS.out) ?_
    clear hK K
    simp only [Act.put, List.getElem_toArray, List.getElem_cons_zero, List.getElem_cons_succ, List.setIfInBounds_toArray, List.set_cons_zero, List.set_cons_succ]
    refine wpAnyT_one (i := 33) (by kernel_rfl) rfl (fun K hK => ?_)
    rw [if_pos (by rfl)]
    go_simp
    refine (svCheck_any (r := rep14) ⟨_, rfl, Sl.keep HB.out HSS.out⟩ (by decide) HK.out 3).mono ?_
    rw [check14a]
    rintro e wc1 ⟨rfl, hF⟩
    have HSS := Lib.hid (HSS.out.trans hF)
    clear HK hF
    go_simp
    refine hK.out _ _ (fun _ => HSS.out) ?_
    clear hK K
    simp only [Act.put, List.getElem_toArray, List.getElem_cons_zero, List.getElem_cons_succ, List.setIfInBounds_toArray, List.set_cons_zero, List.set_cons_succ]
    refine wpAnyT_load (i := 34) (v := ?_) rfl (by kernel_rfl) (by kernel_rfl) (by kernel_rfl) (by kernel_rfl) (by kernel_rfl) (fun _ _ _ h => h) HSS.out (by rfl) ?_ ?_
    rotate_left
    · intro w hSw; skip; go_simp; try with_reducible rfl
    simp only [Act.put, List.getElem_toArray, List.getElem_cons_zero, List.getElem_cons_succ, List.setIfInBounds_toArray, List.set_cons_zero, List.set_cons_succ]
    refine wpAnyT_load (i := 35) (v := ?_) rfl (by kernel_rfl) (by kernel_rfl) (by kernel_rfl) (by kernel_rfl) (by kernel_rfl) (fun _ _ _ h => h) HSS.out (by rfl) ?_ ?_
    rotate_left
    · intro w hSw; skip; go_simp; try with_reducible rfl
    simp only [Act.put, List.getElem_toArray, List.getElem_cons_zero, List.getElem_cons_succ, List.setIfInBounds_toArray, List.set_cons_zero, List.set_cons_succ]
    refine wpAnyT_load (i := 36) (v := ?_) rfl (by kernel_rfl) (by kernel_rfl) (by kernel_rfl) (by kernel_rfl) (by kernel_rfl) (fun _ _ _ h => h) HSS.out (by rfl) ?_ ?_
    rotate_left
    · intro w' hSw; refine run_load_row 58 (.tmp 2) ?_ g2 ?_ 58 _ _ (HR.out.keep hSw) Try.underlying58 rfl (by kernel_rfl) <;> rfl
    simp only [Act.put, List.getElem_toArray, List.getElem_cons_zero, List.getElem_cons_succ, List.setIfInBounds_toArray, List.set_cons_zero, List.set_cons_succ]
    refine wpAnyT_load (i := 37) (v := ?_) rfl (by kernel_rfl) (by kernel_rfl) (by kernel_rfl) (by kernel_rfl) (by kernel_rfl) (fun _ _ _ h => h) HSS.out (by rfl) ?_ ?_
    rotate_left
    · intro w hSw; skip; go_simp; try with_reducible rfl
    simp only [Act.put, List.getElem_toArray, List.getElem_cons_zero, List.getElem_cons_succ, List.setIfInBounds_toArray, List.set_cons_zero, List.set_cons_succ]
    refine wpAnyT_load (i := 38) (v := ?_) rfl (by kernel_rfl) (by kernel_rfl) (by kernel_rfl) (by kernel_rfl) (by kernel_rfl) (fun _ _ _ h => h) HSS.out (by rfl) ?_ ?_
    rotate_left
    · intro w hSw; skip; go_simp; try with_reducible rfl
    simp only [Act.put, List.getElem_toArray, List.getElem_cons_zero, List.getElem_cons_succ, List.setIfInBounds_toArray, List.set_cons_zero, List.set_cons_succ]
    refine wpAnyT_one (i := 39) (by kernel_rfl) rfl (fun K hK => ?_)
    rw [if_pos (by rfl)]
    go_simp
    refine (l14by_any (HP1.out.keep HSS.out)).mono ?_
    rintro e w12 ⟨gk, rfl, hk, hF⟩
    have HK := Lib.hid hk
    have HSS := Lib.hid (HSS.out.trans hF)
    clear hk hF
    go_simp
    refine hK.out _ _ (fun _ => HSS.out) ?_
    clear hK K
    simp only [Act.put, List.getElem_toArray, List.getElem_cons_zero, List.getElem_cons_succ, List.setIfInBounds_toArray, List.set_cons_zero, List.set_cons_succ]
    refine wpAnyT_one (i := 40) (by kernel_rfl) rfl (fun K hK => ?_)
    rw [if_pos (by rfl)]
    go_simp
    refine (svCheck_any (r := rep14) ⟨_, rfl, Sl.keep HB.out HSS.out⟩ (by decide) HK.out 3).mono ?_
    rw [check14b]
    rintro e wc2 ⟨rfl, hF⟩
    have HSS := Lib.hid (HSS.out.trans hF)
    clear HK hF
    go_simp
    refine hK.out _ _ (fun _ => HSS.out) ?_
    clear hK K
    simp only [Act.put, List.getElem_toArray, List.getElem_cons_zero, List.getElem_cons_succ, List.setIfInBounds_toArray, List.set_cons_zero, List.set_cons_succ]
    refine wpAnyT_load (i := 41) (v := ?_) rfl (by kernel_rfl) (by kernel_rfl) (by kernel_rfl) (by kernel_rfl) (by kernel_rfl) (fun _ _ _ h => h) HSS.out (by rfl) ?_ ?_
    rotate_left
    · intro w hSw; skip; go_simp; try with_reducible rfl
    simp only [Act.put, List.getElem_toArray, List.getElem_cons_zero, List.getElem_cons_succ, List.setIfInBounds_toArray, List.set_cons_zero, List.set_cons_succ]
    refine wpAnyT_load (i := 42) (v := ?_) rfl (by kernel_rfl) (by kernel_rfl) (by kernel_rfl) (by kernel_rfl) (by kernel_rfl) (fun _ _ _ h => h) HSS.out (by rfl) ?_ ?_
    rotate_left
    · intro w hSw; skip; go_simp; try with_reducible rfl
    simp only [Act.put, List.getElem_toArray, List.getElem_cons_zero, List.getElem_cons_succ, List.setIfInBounds_toArray, List.set_cons_zero, List.set_cons_succ]
    refine wpAnyT_load (i := 43) (v := ?_) rfl (by kernel_rfl) (by kernel_rfl) (by kernel_rfl) (by kernel_rfl) (by kernel_rfl) (fun _ _ _ h => h) HSS.out (by rfl) ?_ ?_
    rotate_left
    · intro w hSw; skip; go_simp; try with_reducible rfl
    simp only [Act.put, List.getElem_toArray, List.getElem_cons_zero, List.getElem_cons_succ, List.setIfInBounds_toArray, List.set_cons_zero, List.set_cons_succ]
    refine wpAnyT_load (i := 44) (v := ?_) rfl (by kernel_rfl) (by kernel_rfl) (by kernel_rfl) (by kernel_rfl) (by kernel_rfl) (fun _ _ _ h => h) HSS.out (by rfl) ?_ ?_
    rotate_left
    · intro w' hSw; refine run_load_row 58 (.tmp 2) ?_ g2 ?_ 58 _ _ (HR.out.keep hSw) Try.underlying58 rfl (by kernel_rfl) <;> rfl
    simp only [Act.put, List.getElem_toArray, List.getElem_cons_zero, List.getElem_cons_succ, List.setIfInBounds_toArray, List.set_cons_zero, List.set_cons_succ]
    refine wpAnyT_load (i := 45) (v := ?_) rfl (by kernel_rfl) (by kernel_rfl) (by kernel_rfl) (by kernel_rfl) (by kernel_rfl) (fun _ _ _ h => h) HSS.out (by rfl) ?_ ?_
    rotate_left
    · intro w hSw; skip; go_simp; try with_reducible rfl
    simp only [Act.put, List.getElem_toArray, List.getElem_cons_zero, List.getElem_cons_succ, List.setIfInBounds_toArray, List.set_cons_zero, List.set_cons_succ]
    refine wpAnyT_load (i := 46) (v := ?_) rfl (by kernel_rfl) (by kernel_rfl) (by kernel_rfl) (by kernel_rfl) (by kernel_rfl) (fun _ _ _ h => h) HSS.out (by rfl) ?_ ?_
    rotate_left
    · intro w hSw; skip; go_simp; try with_reducible rfl
    simp only [Act.put, List.getElem_toArray, List.getElem_cons_zero, List.getElem_cons_succ, List.setIfInBounds_toArray, List.set_cons_zero, List.set_cons_succ]
    refine wpAnyT_one (i := 47) (by kernel_rfl) rfl (fun K hK => ?_)
    rw [if_pos (by rfl)]
    go_simp
    refine (l14by_any (HP1.out.keep HSS.out)).mono ?_
    rintro e w13 ⟨gk, rfl, hk, hF⟩
    have HK := Lib.hid hk
    have HSS := Lib.hid (HSS.out.trans hF)
    clear hk hF
    go_simp
    refine hK.out _ _ (fun _ => HSS.out) ?_
    clear hK K
    simp only [Act.put, List.getElem_toArray, List.getElem_cons_zero, List.getElem_cons_succ, List.setIfInBounds_toArray, List.set_cons_zero, List.set_cons_succ]
    refine wpAnyT_one (i := 48) (by kernel_rfl) rfl (fun K hK => ?_)
    rw [if_pos (by rfl)]
    go_simp
    refine (svCount_any (r := rep14) ⟨_, rfl, Sl.keep HB.out HSS.out⟩ (by decide) HK.out 3).mono ?_
    rw [count14]
    rintro e wc3 ⟨rfl, hF⟩
    have HSS := Lib.hid (HSS.out.trans hF)
    clear HK hF
    go_simp
    refine hK.out _ _ (fun _ => HSS.out) ?_
    clear hK K
    simp only [Act.put, List.getElem_toArray, List.getElem_cons_zero, List.getElem_cons_succ, List.setIfInBounds_toArray, List.set_cons_zero, List.set_cons_succ]
    refine wpAnyT_load (i := 49) (v := ?_) rfl (by kernel_rfl) (by kernel_rfl) (by kernel_rfl) (by kernel_rfl) (by kernel_rfl) (fun _ _ _ h => h) HSS.out (by rfl) ?_ ?_
    rotate_left
    · intro w hSw; skip; go_simp; try with_reducible rfl
    simp only [Act.put, List.getElem_toArray, List.getElem_cons_zero, List.getElem_cons_succ, List.setIfInBounds_toArray, List.set_cons_zero, List.set_cons_succ]
    refine wpAnyT_load (i := 50) (v := ?_) rfl (by kernel_rfl) (by kernel_rfl) (by kernel_rfl) (by kernel_rfl) (by kernel_rfl) (fun _ _ _ h => h) HSS.out (by rfl) ?_ ?_
    rotate_left
    · intro w hSw; skip; go_simp; try with_reducible rfl
    simp only [Act.put, List.getElem_toArray, List.getElem_cons_zero, List.getElem_cons_succ, List.setIfInBounds_toArray, List.set_cons_zero, List.set_cons_succ]
    refine wpAnyT_load (i := 51) (v := ?_) rfl (by kernel_rfl) (by kernel_rfl) (by kernel_rfl) (by kernel_rfl) (by kernel_rfl) (fun _ _ _ h => h) HSS.out (by rfl) ?_ ?_
    rotate_left
    · intro w hSw; skip; go_simp; try with_reducible rfl
    simp only [Act.put, List.getElem_toArray, List.getElem_cons_zero, List.getElem_cons_succ, List.setIfInBounds_toArray, List.set_cons_zero, List.set_cons_succ]
    refine wpAnyT_load (i := 52) (v := ?_) rfl (by kernel_rfl) (by kernel_rfl) (by kernel_rfl) (by kernel_rfl) (by kernel_rfl) (fun _ _ _ h => h) HSS.out (by rfl) ?_ ?_
    rotate_left
    · intro w hSw; skip; go_simp; try with_reducible rfl
    simp only [Act.put, List.getElem_toArray, List.getElem_cons_zero, List.getElem_cons_succ, List.setIfInBounds_toArray, List.set_cons_zero, List.set_cons_succ]
    refine wpAnyT_load (i := 53) (v := ?_) rfl (by kernel_rfl) (by kernel_rfl) (by kernel_rfl) (by kernel_rfl) (by kernel_rfl) (fun _ _ _ h => h) HSS.out (by rfl) ?_ ?_
    rotate_left
    · intro w hSw; have n0 := (HBK.out.keep hSw).own.len Try.underlying96 ; rw [(HBK.out.keep hSw).size] at n0; go_simp; try with_reducible rfl
    simp only [Act.put, List.getElem_toArray, List.getElem_cons_zero, List.getElem_cons_succ, List.setIfInBounds_toArray, List.set_cons_zero, List.set_cons_succ]
    refine wpAnyT_load (i := 54) (v := ?_) rfl (by kernel_rfl) (by kernel_rfl) (by kernel_rfl) (by kernel_rfl) (by kernel_rfl) (fun _ _ _ h => h) HSS.out (by rfl) ?_ ?_
    rotate_left
    · intro w hSw; skip; go_simp; try with_reducible rfl
    simp only [Act.put, List.getElem_toArray, List.getElem_cons_zero, List.getElem_cons_succ, List.setIfInBounds_toArray, List.set_cons_zero, List.set_cons_succ]
    refine wpAnyT_load (i := 55) (v := ?_) rfl (by kernel_rfl) (by kernel_rfl) (by kernel_rfl) (by kernel_rfl) (by kernel_rfl) (fun _ _ _ h => h) HSS.out (by rfl) ?_ ?_
    rotate_left
    · intro w hSw; skip; go_simp; try with_reducible rfl
    simp only [Act.put, List.getElem_toArray, List.getElem_cons_zero, List.getElem_cons_succ, List.setIfInBounds_toArray, List.set_cons_zero, List.set_cons_succ]
    refine wpAnyT_load (i := 56) (v := ?_) rfl (by kernel_rfl) (by kernel_rfl) (by kernel_rfl) (by kernel_rfl) (by kernel_rfl) (fun _ _ _ h => h) HSS.out (by rfl) ?_ ?_
    rotate_left
    · intro w hSw; skip; go_simp; try with_reducible rfl
    simp only [Act.put, List.getElem_toArray, List.getElem_cons_zero, List.getElem_cons_succ, List.setIfInBounds_toArray, List.set_cons_zero, List.set_cons_succ]
    refine wpAnyT_load (i := 57) (v := ?_) rfl (by kernel_rfl) (by kernel_rfl) (by kernel_rfl) (by kernel_rfl) (by kernel_rfl) (fun _ _ _ h => h) HSS.out (by rfl) ?_ ?_
    rotate_left
    · intro w hSw; skip; go_simp; try with_reducible rfl
    simp only [Act.put, List.getElem_toArray, List.getElem_cons_zero, List.getElem_cons_succ, List.setIfInBounds_toArray, List.set_cons_zero, List.set_cons_succ]
    refine wpAnyT_load (i := 58) (v := ?_) rfl (by kernel_rfl) (by kernel_rfl) (by kernel_rfl) (by kernel_rfl) (by kernel_rfl) (fun _ _ _ h => h) HSS.out (by rfl) ?_ ?_
    rotate_left
    · intro w hSw; have n0 := (HBK.out.keep hSw).look HVQ.out; simp only [show (((0 : UInt16).toNat : Nat) : Int) = 0 from rfl] at n0; go_simp; try with_reducible rfl
    simp only [Act.put, List.getElem_toArray, List.getElem_cons_zero, List.getElem_cons_succ, List.setIfInBounds_toArray, List.set_cons_zero, List.set_cons_succ]
    refine wpAnyT_load (i := 59) (v := ?_) rfl (by kernel_rfl) (by kernel_rfl) (by kernel_rfl) (by kernel_rfl) (by kernel_rfl) (fun _ _ _ h => h) HSS.out (by rfl) ?_ ?_
    rotate_left
    · intro w hSw; skip; go_simp; try with_reducible rfl
    simp only [Act.put, List.getElem_toArray, List.getElem_cons_zero, List.getElem_cons_succ, List.setIfInBounds_toArray, List.set_cons_zero, List.set_cons_succ]
    refine wpAnyT_load (i := 60) (v := ?_) rfl (by kernel_rfl) (by kernel_rfl) (by kernel_rfl) (by kernel_rfl) (by kernel_rfl) (fun _ _ _ h => h) HSS.out (by rfl) ?_ ?_
    rotate_left
    · intro w hSw; skip; go_simp; try with_reducible rfl
    simp only [Act.put, List.getElem_toArray, List.getElem_cons_zero, List.getElem_cons_succ, List.setIfInBounds_toArray, List.set_cons_zero, List.set_cons_succ]
    refine wpAnyT_load (i := 61) (v := ?_) rfl (by kernel_rfl) (by kernel_rfl) (by kernel_rfl) (by kernel_rfl) (by kernel_rfl) (fun _ _ _ h => h) HSS.out (by rfl) ?_ ?_
    rotate_left
    · intro w hSw; skip; go_simp; try with_reducible rfl
    simp only [Act.put, List.getElem_toArray, List.getElem_cons_zero, List.getElem_cons_succ, List.setIfInBounds_toArray, List.set_cons_zero, List.set_cons_succ]
    refine wpAnyT_load (i := 62) (v := ?_) rfl (by kernel_rfl) (by kernel_rfl) (by kernel_rfl) (by kernel_rfl) (by kernel_rfl) (fun _ _ _ h => h) HSS.out (by rfl) ?_ ?_
    rotate_left
    · intro w hSw; skip; go_simp; try with_reducible rfl
    simp only [Act.put, List.getElem_toArray, List.getElem_cons_zero, List.getElem_cons_succ, List.setIfInBounds_toArray, List.set_cons_zero, List.set_cons_succ]
    refine wpAnyT_done (by kernel_rfl) ?_ _
    have HF := Lib.hid (HF.out.trans HSS.out)
    go_wp2_with fail
    go_ret
    first | exact ⟨rfl, HF.out⟩ | exact ⟨ret_bool (by simp), HF.out⟩
end Go.Proofs.Ytchbgiindfoepaa
