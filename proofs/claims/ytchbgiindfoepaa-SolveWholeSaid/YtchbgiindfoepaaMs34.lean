import Derived.Maps.Own
import Derived.Maps.Views
import Derived.Test.YtchbgiindfoepaaMs33
import Derived.Test.YtchbgiindfoepaaMs20
import Derived.Test.YtchbgiindfoepaaMs24
/- The walk of parity.Some (printed by gen_some.py). -/
namespace Go.Proofs.Ytchbgiindfoepaa
open Go.RowKit Go.Maps

def Ints (w : World) (v : Value) (xs : List Int) : Prop := Sl w v (xs.map (Value.int .i64))
/-- Are places in range, each once? -/
def pickOk (n : Nat) (xs : List Int) : Prop := (∀ x ∈ xs, 0 ≤ x ∧ x < n) ∧ xs.Nodup
instance (n : Nat) (xs : List Int) : Decidable (pickOk n xs) := by unfold pickOk; infer_instance
def pick (ls : List (List UInt8)) (xs : List Int) : List (List UInt8) := xs.map fun x => ls.getD x.toNat []
def someR (ls : List (List UInt8)) (xs : List Int) : Except Int Rep_ := if pickOk ls.length xs then mkP (pick ls xs) else .error 1
def seenD (xs : List Int) : DataW Unit := xs.foldl (fun D x => D.put (.int .i64 x) (.lit (.bool true))) (.map [])
theorem seen_fold (y : Int) : ∀ (xs : List Int) (D : DataW Unit), IsMap D → (xs.foldl (fun D x => D.put (.int .i64 x) (.lit (.bool true))) D).atKey (.int .i64 y) (.lit (.bool false)) = if y ∈ xs then .lit (.bool true) else D.atKey (.int .i64 y) (.lit (.bool false))
  | [], D, _ => by simp
  | x :: xs, D, hD => by
    rw [List.foldl_cons, seen_fold y xs _ (hD.put _ _)]
    by_cases h : y ∈ xs
    · simp [h]
    · by_cases hx : y = x
      · subst hx
        simp [h, atKey_put_same hD (k := .int .i64 y) trivial]
      · have : ¬ y ∈ x :: xs := by simp [h, hx]
        rw [if_neg h, if_neg this, atKey_put_other (by simpa using hx)]
theorem seen_at (xs : List Int) (y : Int) : (seenD xs).atKey (.int .i64 y) (.lit (.bool false)) = .lit (.bool (decide (y ∈ xs))) := by
  unfold seenD
  rw [seen_fold y xs _ isMap_empty]
  by_cases h : y ∈ xs
  · simp [h]
  · simp [h, DataW.atKey]
theorem plainElem_bool_inv {P : Program} {e : TypeId} (he : P.underlying e = some .bool) {v : Value} {z : DataW Unit × List MemPlace} (h : plainElem P e v = some z) : ∃ a, v = .bool a ∧ z = (.lit (.bool a), []) := by
  unfold plainElem at h
  rw [he] at h
  cases v <;> simp at h
  exact ⟨_, rfl, h.symm⟩
theorem zeroBool (w : World) : (zeroValue 4).run Try.prog w = .ok (.bool false) w := by kernel_rfl
theorem keyInt : Keyed Try.prog 3 := int_keyed Try.underlying3
/-- 'seen[x]'. -/
theorem seen_run {w : World} {b n : Nat} {xs : List Int} (h : w.ownsMap Try.prog 3 (plainElem Try.prog 4) b n (seenD xs)) {y : Int} (hy : (Lit.int .i64 y).wf = true) :
    (Instr.lookup 133 (.map (some b)) (.int .i64 y) false).run Try.prog w = .ok (.bool (decide (y ∈ xs))) w := by
  obtain ⟨v, ps, hrun, hv⟩ := h.lookup keyInt Try.underlying133 (zeroBool w) (plainElem_bool Try.underlying4 false) (keyOf_int_mk Try.underlying3 hy)
  obtain ⟨c, rfl, hc⟩ := plainElem_bool_inv Try.underlying4 hv
  simp only [Prod.mk.injEq, seen_at] at hc
  rw [hrun]
  have : decide (y ∈ xs) = c := by
    have := hc.1
    simpa using this
  rw [this]
theorem Ints.at_ {w : World} {b o n c : Nat} {xs : List Int} (h : Ints w (.slice (some ⟨b, o, none⟩) n c) xs) (i : Nat) (hi : i < xs.length) : w.cell? ⟨b, o + i, none⟩ = some (.int .i64 xs[i]) := by
  have hlen : n = xs.length := by have := Sl.len h; simpa using this.1
  obtain ⟨b', o', e, _, hc⟩ := Sl.at_ h (k := i) (by omega)
  cases e
  exact hc i (.int .i64 xs[i]) (by rw [List.getElem?_map, List.getElem?_eq_getElem hi]; rfl)
theorem Els.bytes {w : World} : ∀ {ys : List (List UInt8)} {cells : List Value} {B : List Nat}, Els BytesR ys w cells B → cells.length = ys.length ∧ ∀ (i : Nat) (x : Value) (a : List UInt8), cells[i]? = some x → ys[i]? = some a → Bytes w x a
  | [], cells, B, h => by obtain ⟨rfl, rfl⟩ := h; exact ⟨rfl, fun i x a hx => by simp at hx⟩
  | y :: ys, cells, B, h => by
    obtain ⟨c, rest, B1, B2, rfl, rfl, ⟨v, rfl, hv, -⟩, h2⟩ := h
    obtain ⟨g1, g2⟩ := Els.bytes h2
    refine ⟨by simp [g1], fun i x a hx ha => ?_⟩
    cases i with
    | zero => simp at hx ha; subst hx ha; exact hv
    | succ i => exact g2 i x a (by simpa using hx) (by simpa using ha)
theorem SlEls.rows {w : World} {v : Value} {ys : List (List UInt8)} {B : List Nat} (h : SlEls 1 BytesR w v ys B) : BRows w v ys := by
  obtain ⟨cells, a, cap, rfl, h1, h2, h3, h4, h5⟩ := h
  obtain ⟨g1, g2⟩ := h4.bytes
  exact ⟨cells, ⟨a, cap, by rw [g1], by omega, h2, h3, h5⟩, g1, g2⟩
theorem BRows.at_ {w : World} {av : Option Addr} {n c : Nat} {ls : List (List UInt8)} (h : BRows w (.slice av n c) ls) (i : Nat) (hi : i < ls.length) :
    ∃ b o al cl, av = some ⟨b, o, none⟩ ∧ b < w.heap.size ∧ w.cell? ⟨b, o + i, none⟩ = some (.slice al ls[i].length cl) ∧ Bytes w (.slice al ls[i].length cl) ls[i] := by
  obtain ⟨cells, h1, h2, h3⟩ := h
  have hn := Sl.len h1
  have hic : i < cells.length := by omega
  obtain ⟨b, o, e, hb, hc⟩ := Sl.at_ h1 (k := i) (by omega)
  have hy := h3 i cells[i] ls[i] (List.getElem?_eq_getElem hic) (List.getElem?_eq_getElem hi)
  obtain ⟨al, cl, e2⟩ := hy.shape
  rw [List.length_map] at e2
  rw [e2] at hy
  exact ⟨b, o, al, cl, e, hb, by rw [hc i cells[i] (List.getElem?_eq_getElem hic), e2], hy⟩
theorem Fr.ownsMap {H : Type} {P : Program} {k : TypeId} {R : Value → Option (DataW H × List MemPlace)} {w w' : World} {S : List Nat} {b n : Nat} {D : DataW H} (hf : Fr S w w') (h : w.ownsMap P k R b n D) (hb : b ∉ S) : w'.ownsMap P k R b n D := by
  have hlt := h.lt
  obtain ⟨es, clock, h1, F, hs, hD⟩ := h
  exact ⟨es, clock, (hf.block b hlt hb).trans h1, F, hs, hD⟩
theorem seenD_snoc (xs : List Int) (x : Int) : (seenD xs).put (.int .i64 x) (.lit (.bool true)) = seenD (xs ++ [x]) := by unfold seenD; rw [List.foldl_append]; rfl
theorem pick_snoc (ls : List (List UInt8)) (xs : List Int) (x : Int) : pick ls (xs ++ [x]) = pick ls xs ++ [ls.getD x.toNat []] := by simp [pick]
theorem pickOk_snoc {n : Nat} {xs : List Int} {x : Int} (h : pickOk n xs) (h0 : 0 ≤ x) (h1 : x < n) (h2 : ¬ x ∈ xs) : pickOk n (xs ++ [x]) := by
  refine ⟨fun y hy => ?_, ?_⟩
  · rcases List.mem_append.1 hy with hy | hy
    · exact h.1 y hy
    · simp at hy; subst hy; exact ⟨h0, h1⟩
  · rw [List.nodup_append]
    refine ⟨h.2, by simp, fun a ha b hb => ?_⟩
    simp at hb
    subst hb
    exact fun e => h2 (by rw [← e]; exact ha)
theorem pickOk_bad {n : Nat} {a b : List Int} {x : Int} (h : ¬ (0 ≤ x ∧ x < n) ∨ x ∈ a) : ¬ pickOk n (a ++ x :: b) := by
  rintro ⟨h1, h2⟩
  rcases h with h | h
  · exact h (h1 x (by simp))
  · rw [List.nodup_append] at h2
    exact h2.2.2 x h x (by simp) rfl
set_option maxRecDepth 100000 in
theorem info_bs : (Try.prog.info? 25).map (fun i => (i.zero, i.size, i.bytes)) = some (some (.slice none 0 0), 1, 24) := by kernel_rfl
set_option maxRecDepth 100000 in
set_option maxHeartbeats 8000000 in
theorem pSome_any {w : World} {v1 v2 : Value} {ls : List (List UInt8)} {xs : List Int} (hl : BRows w v1 ls) (hx : Ints w v2 xs) (hsz : ls.length ≤ 1000) (hsx : xs.length ≤ 1000) :
    Calls Try.prog 31 #[v1, v2] w fun e w' => Fr [] w w' ∧ Made (someR ls xs) w.heap.size e w' := by
  obtain ⟨av, cv, rfl⟩ := hl.shape
  obtain ⟨ax, cx, rfl⟩ := Sl.shape hx
  rw [List.length_map] at hx ⊢
  obtain ⟨w1, e1, hF1, hB1, hs1⟩ := one_new w rpz 58
  obtain ⟨w2, hw2⟩ : ∃ w2, w1.alloc (.map #[] 0) = w2 := ⟨_, rfl⟩
  have hF2 : Fr [] w1 w2 := by rw [← hw2]; exact (Fr.refl _ _).alloc _
  have hM2 : w2.ownsMap Try.prog 3 (plainElem (H := Unit) Try.prog 4) w1.heap.size 0 (seenD []) := by rw [← hw2]; exact World.ownsMap_made _ _ _ _
  have hs2 : w2.heap.size = w1.heap.size + 1 := by rw [← hw2]; simp
  have HL0 := Lib.hid hl; have HX0 := Lib.hid hx; have HL := Lib.hid (hl.keep hF1); have HX := Lib.hid (Sl.keep hx hF1); have HF := Lib.hid hF1; have HR := Lib.hid hB1; have E1 := Lib.hid e1; have E2 := Lib.hid hw2
  have HM := Lib.hid hM2; have HF2 := Lib.hid hF2; have HS2 := Lib.hid hs2
  have HG2 : Hid (w.heap.size < w1.heap.size) := Lib.hid hB1.lt
  have hmm := @run_makeMap Try.prog
  clear hl hx hF1 hB1 e1 hs1 hw2 hF2 hM2 hs2
  go_enter Try.func31, Try.ntmps31
  go_upto_region 1 with fail
  rw [E1.out]
  clear E1
  go_upto_region 2 with fail
  rw [E2.out]
  clear E2 hmm
  generalize hmb : w1.heap.size = mb at *
  have HMB := Lib.hid hmb
  clear hmb
  go_wp2_with fail
  go_loopw [7, 13] (fun sv iv wr => ∃ (k : Nat) (Bs : List Nat), k ≤ xs.length ∧ iv = .int .i64 k ∧ pickOk ls.length (xs.take k) ∧ OwnEls 1 BytesR wr w2.heap.size 25 sv (pick ls (xs.take k)) Bs ∧ wr.ownsMap Try.prog 3 (plainElem (H := Unit) Try.prog 4) mb k (seenD (xs.take k)) ∧ Fr [] w1 wr ∧ (∀ b ∈ Bs, b < w1.heap.size) ∧ w2.heap.size ≤ wr.heap.size) (fun _ iv _ => xs.length - (intOf iv).toNat)
  case atStart => exact ⟨0, [], Nat.zero_le _, rfl, ⟨by simp, by simp⟩, OwnEls.nil _ _ _, HM.out, HF2.out, by simp, Nat.le_refl _⟩
  case round =>
    clear HM HF2
    obtain ⟨k, Bs, hk, rfl, hP, hO, hM, hF, hBs, hz⟩ := hrel
    obtain ⟨as_, cs, rfl⟩ := hO.shape
    have HP := Lib.hid hP; have HO := Lib.hid hO; have HM := Lib.hid hM; have HFQ := Lib.hid hF; have HBS := Lib.hid hBs; have HZ := Lib.hid hz
    clear hP hO hM hF hBs hz
    by_cases hlt : k < xs.length
    · obtain ⟨b, o, ea, hb, -⟩ := Sl.at_ HX.out hlt
      subst ea
      have d0 := HFQ.out.cellSome (Ints.at_ HX.out k hlt) (by simp)
      have HT : Hid (xs.take (k + 1) = xs.take k ++ [xs[k]]) := Lib.hid (List.take_succ_eq_append_getElem hlt)
      have HTF : Hid (xs = xs.take k ++ xs[k] :: xs.drop (k + 1)) := Lib.hid (by rw [List.getElem_cons_drop, List.take_append_drop])
      generalize xs[k] = x at *
      have HRW := Lib.hid (HR.out.keep HFQ.out)
      by_cases h0 : x < 0
      · have HE : Hid (someR ls xs = .error 1) := Lib.hid (by unfold someR; rw [HTF.out, if_neg (pickOk_bad (.inl (by omega)))])
        go_wp2_with (refine wpList_store_row rfl 58 (.tmp 4) (.tmp 30) rfl w.heap.size rfl _ _ rfl 58 HRW.out (by kernel_rfl) rfl (by simp [Value.oneCell']) ?_; intro w9 hY hG; have HY := Lib.hid hY; have HGn := Lib.hid hG; clear hY hG)
        refine bodyPost_ret (results_row_1 rfl _ _ w.heap.size 58 _ _ rfl HY.out Try.underlying58 rfl (by kernel_rfl)) rfl ⟨(HF.out.trans HFQ.out).step HGn.out (by simp), .inr ⟨1, HE.out, by omega, rfl⟩⟩
      by_cases h1 : (ls.length : Int) ≤ x
      · have HE : Hid (someR ls xs = .error 1) := Lib.hid (by unfold someR; rw [HTF.out, if_neg (pickOk_bad (.inl (by omega)))])
        go_wp2_with (refine wpList_store_row rfl 58 (.tmp 4) (.tmp 30) rfl w.heap.size rfl _ _ rfl 58 HRW.out (by kernel_rfl) rfl (by simp [Value.oneCell']) ?_; intro w9 hY hG; have HY := Lib.hid hY; have HGn := Lib.hid hG; clear hY hG)
        refine bodyPost_ret (results_row_1 rfl _ _ w.heap.size 58 _ _ rfl HY.out Try.underlying58 rfl (by kernel_rfl)) rfl ⟨(HF.out.trans HFQ.out).step HGn.out (by simp), .inr ⟨1, HE.out, by omega, rfl⟩⟩
      have hrun := seen_run HM.out (y := x) (WalkArith.wf_i64 (by omega))
      by_cases h2 : x ∈ xs.take k
      · have HE : Hid (someR ls xs = .error 1) := Lib.hid (by unfold someR; rw [HTF.out, if_neg (pickOk_bad (.inr h2))])
        rw [decide_eq_true h2] at hrun
        clear h2
        go_wp2_with (refine wpList_store_row rfl 58 (.tmp 4) (.tmp 30) rfl w.heap.size rfl _ _ rfl 58 HRW.out (by kernel_rfl) rfl (by simp [Value.oneCell']) ?_; intro w9 hY hG; have HY := Lib.hid hY; have HGn := Lib.hid hG; clear hY hG)
        refine bodyPost_ret (results_row_1 rfl _ _ w.heap.size 58 _ _ rfl HY.out Try.underlying58 rfl (by kernel_rfl)) rfl ⟨(HF.out.trans HFQ.out).step HGn.out (by simp), .inr ⟨1, HE.out, by omega, rfl⟩⟩
      rw [decide_eq_false h2] at hrun
      have HN2 := Lib.hid h2
      clear h2
      obtain ⟨i, rfl⟩ := Int.eq_ofNat_of_zero_le (by omega : 0 ≤ x)
      have hil : i < ls.length := by omega
      have HPK : Hid (pick ls (xs.take (k + 1)) = pick ls (xs.take k) ++ [ls[i]]) := Lib.hid (by rw [HT.out, pick_snoc]; congr 2; simp [List.getD_eq_getElem?_getD, List.getElem?_eq_getElem hil])
      have HSD : Hid (seenD (xs.take (k + 1)) = (seenD (xs.take k)).put (.int .i64 (i : Int)) (.lit (.bool true))) := Lib.hid (by rw [HT.out, seenD_snoc])
      have HPO : Hid (pickOk ls.length (xs.take (k + 1))) := Lib.hid (by rw [HT.out]; exact pickOk_snoc HP.out (by omega) (by omega) HN2.out)
      obtain ⟨bl, ol, al, cl, ea, hbl, hcl, hyl⟩ := BRows.at_ HL.out i hil
      subst ea
      have HYL := Lib.hid hyl
      clear hyl
      have HKL : Hid (List.length (pick ls (xs.take k)) = k) := Lib.hid (by unfold pick; rw [List.length_map, List.length_take]; omega)
      generalize ls[i] = y at *
      generalize hps : pick ls (xs.take k) = ps at *
      have HPS := Lib.hid hps
      clear hps
      have HWX : Hid ((Lit.int .i64 (i : Int)).wf = true) := Lib.hid (WalkArith.wf_i64 (by omega))
      have HKM : Hid (k < maxLen) := Lib.hid (by unfold maxLen; omega)
      go_upto_region 9 with (at_mapUpdate; refine wpList_mapUpdate_own _ rfl _ _ _ 133 rfl 3 4 keyInt Try.underlying133 _ mb k (seenD (xs.take k)) rfl HM.out HKM.out (.int .i64 (i : Int)) (.bool true) (.int .i64 (i : Int)) rfl rfl (keyOf_int_mk Try.underlying3 HWX.out) (.lit (.bool true)) [] (plainElem_bool Try.underlying4 true) ?_; intro w3 hm3 hg3; have HM3 := Lib.hid hm3; have HF3 := Lib.hid (Fr.ofGrown hg3); clear hm3 hg3)
      clear hrun
      have HBM : Hid (∀ b, b < w1.heap.size → b ∉ (some mb).toList) := Lib.hid (fun b hb hm => by have h1 := mem_toList.1 hm; have := HMB.out; injection h1; omega)
      have d1 := HF3.out.cellSome (HFQ.out.cellSome hcl (by simp)) (HBM.out _ hbl)
      clear hcl
      have HY3 : Hid (Bytes w3 (.slice al y.length cl) y) := Lib.hid (Sl.frL (Sl.keep HYL.out HFQ.out) HF3.out (fun b hb => HBM.out b (by have := Sl.lt HYL.out b hb; exact this)))
      have HYB : Hid (∀ b ∈ (liveOf (.slice al y.length cl)).toList, b < w1.heap.size) := Lib.hid (fun b hb => Sl.lt HYL.out b (mem_toList.1 hb))
      have HO3 : Hid (OwnEls 1 BytesR w3 w2.heap.size 25 (.slice as_ ps.length cs) ps Bs) := Lib.hid (HO.out.fr Rep.bytes HF3.out (fun b hb => HBM.out b (HBS.out b hb)) (fun b hb hm => by have h1 := (HO.out.block b hb).1; have h2 := mem_toList.1 hm; have := HS2.out; injection h2; omega))
      obtain ⟨w4, e4, hF4, hB4, hs4⟩ := one_new w3 #[.slice al y.length cl] 25
      have E4 := Lib.hid e4; have HF4 := Lib.hid hF4; have HB4 := Lib.hid hB4; have HS4 := Lib.hid hs4
      clear e4 hF4 hB4 hs4
      have HD : Hid (∀ b, blockOf (.slice as_ ps.length cs) = some b → b ∉ (liveOf (.slice al y.length cl)).toList) := Lib.hid (fun b hb hm => by have h1 := HYB.out b hm; have h2 := (HO.out.block b hb).1; have := HS2.out; have := HMB.out; omega)
      have HL1 : Hid (ps.length + 1 ≤ maxLen) := Lib.hid (by have := HKL.out; unfold maxLen; omega)
      have HL2 : Hid ((ps.length + 1) * 24 ≤ 140737488355328) := Lib.hid (by have := HKL.out; omega)
      have HL3 : Hid (w2.heap.size ≤ w4.heap.size) := Lib.hid (by have := HZ.out; have := HF3.out.size; have := HF4.out.size; omega)
      have HKL' := HKL
      go_wp2_with (at_builtin; (rw [E4.out]); refine wpList_append_el Rep.bytes (by decide) rfl (.tmp 33) (.tmp 38) 22 rfl w2.heap.size 25 (.slice none 0 0) 24 Try.underlying22 info_bs rfl (.slice as_ ps.length cs) ps Bs rfl (HO3.out.keep Rep.bytes HF4.out) w3.heap.size 0 1 rfl [.slice al y.length cl] y (liveOf (.slice al y.length cl)).toList (box_range HB4.out) ⟨_, rfl, Sl.keep HY3.out HF4.out, rfl⟩ HD.out HL1.out HL2.out HL3.out ?_; intro vs1 w5 hown1 hfr1 hbl1; have HV1 := Lib.hid hown1; have HF5 := Lib.hid hfr1; obtain ⟨as1, cs1, rfl⟩ := hown1.shape; clear hown1 hfr1 hbl1)
      exact ⟨⟨k + 1, _, by omega, by go_num, HPO.out, by rw [HPK.out]; have h1 := HV1.out; rw [List.length_append] at h1; exact h1, by rw [HSD.out]; exact Fr.ownsMap HF5.out (Fr.ownsMap HF4.out HM3.out (by simp)) (fun hm => by have h1 := (HO3.out.block mb (mem_toList.1 hm)).1; have := HS2.out; omega),
        (((HFQ.out.step HF3.out (fun b hb => .inr (by have h1 := mem_toList.1 hb; have := HMB.out; injection h1; omega))).trans HF4.out)).step HF5.out (fun b hb => .inr (by have h1 := (HO3.out.block b (mem_toList.1 hb)).1; have := HS2.out; have := HMB.out; omega)),
        fun b hb => by
          rcases List.mem_append.1 hb with hb | hb
          · exact HBS.out b hb
          · exact HYB.out b hb,
        by have := HL3.out; have := HF5.out.size; omega⟩, by simp [intOf]; omega⟩
    · obtain rfl : k = xs.length := by omega
      rw [List.take_length] at HP
      have HE : Hid (someR ls xs = mkP (pick ls xs)) := Lib.hid (by unfold someR; rw [if_pos HP.out])
      have HB3 : Hid (BRows wr (.slice as_ (pick ls (xs.take xs.length)).length cs) (pick ls xs)) := Lib.hid (by have h1 := HO.out.sl.rows; rw [List.take_length] at h1 ⊢; exact h1)
      have HRW := Lib.hid (HR.out.keep HFQ.out)
      generalize List.length (pick ls (xs.take xs.length)) = pn at *
      go_wp2_with fail
      refine (pMake_any HB3.out).mono ?_
      rintro e w3 ⟨hF, ⟨r, v', hm, rfl, hv⟩ | ⟨kk, hm, hk0, rfl⟩⟩
      · obtain ⟨vb, rfl, hb, hd⟩ := hv
        obtain ⟨ab, nb, cb, rfl⟩ := Sl.isSlice hb
        have HE2 : Hid (someR ls xs = .ok r) := Lib.hid (by rw [HE.out, hm])
        have HB := Lib.hid hb; have HD := Lib.hid hd; have HRR := Lib.hid (HRW.out.keep hF); have HFR := Lib.hid (HFQ.out.trans hF); have HZR := Lib.hid HFQ.out.size
        clear hm hb hd hF
        go_wp2_with (refine wpList_store_row rfl 58 (.tmp 4) (.tmp 43) rfl w.heap.size rfl _ _ rfl 58 HRR.out (by kernel_rfl) rfl (by simp [Value.oneCell']) ?_; intro w9 hY hG; have HY := Lib.hid hY; have HGn := Lib.hid hG; clear hY hG)
        have HPO : Hid (RpO w9 w.heap.size (.agg (rpc r (.slice ab nb cb))) r) := Lib.hid ⟨_, rfl, Sl.frL HB.out HGn.out (fun b hb hm => by have := HD.out b hb; have := HG2.out; have := HMB.out; have := HZR.out; simp at hm; omega), fun b hb => by have := HD.out b hb; have := HG2.out; have := HMB.out; have := HZR.out; omega⟩
        refine bodyPost_ret (results_row_1 rfl _ _ w.heap.size 58 _ _ rfl HY.out Try.underlying58 rfl (by kernel_rfl)) rfl ⟨(HF.out.trans HFR.out).step HGn.out (by simp), .inl ⟨_, _, HE2.out, rfl, HPO.out⟩⟩
      · have HE2 : Hid (someR ls xs = .error kk) := Lib.hid (by rw [HE.out, hm])
        have HK0 := Lib.hid hk0; have HRR := Lib.hid (HRW.out.keep hF); have HFR := Lib.hid (HFQ.out.trans hF)
        clear hm hk0 hF
        go_wp2_with (refine wpList_store_row rfl 58 (.tmp 4) (.tmp 43) rfl w.heap.size rfl _ _ rfl 58 HRR.out (by kernel_rfl) rfl (by simp [Value.oneCell']) ?_; intro w9 hY hG; have HY := Lib.hid hY; have HGn := Lib.hid hG; clear hY hG)
        refine bodyPost_ret (results_row_1 rfl _ _ w.heap.size 58 _ _ rfl HY.out Try.underlying58 rfl (by kernel_rfl)) rfl ⟨(HF.out.trans HFR.out).step HGn.out (by simp), .inr ⟨kk, HE2.out, HK0.out, rfl⟩⟩
end Go.Proofs.Ytchbgiindfoepaa

/- The walk of confluxref14.Find (printed by gen_find.py). -/
namespace Go.Proofs.Ytchbgiindfoepaa
open Go.RowKit

def isNo (n : UInt16) (l : List UInt8) : Bool := match parseR l with | .ok p => p.seq == n | .error _ => false
def findL (ls : List (List UInt8)) (n : UInt16) : Option (List UInt8) := ls.find? (isNo n)
theorem u16_beq (a b : UInt16) : (((a.toNat : Nat) : Int) == ((b.toNat : Nat) : Int)) = (a == b) := by
  rw [Bool.eq_iff_iff]
  simp [← UInt16.toNat_inj]
  omega
theorem find_none {ls : List (List UInt8)} {n : UInt16} (h : ∀ l ∈ ls, isNo n l = false) : findL ls n = none := by
  unfold findL
  rw [List.find?_eq_none]
  intro l hl
  simp [h l hl]
theorem find_at {ls : List (List UInt8)} {n : UInt16} {k : Nat} (hk : k < ls.length) (h : ∀ l ∈ ls.take k, isNo n l = false) (hy : isNo n ls[k] = true) : findL ls n = some ls[k] := by
  unfold findL
  rw [List.find?_eq_some_iff_append]
  exact ⟨hy, ls.take k, ls.drop (k + 1), by rw [List.getElem_cons_drop, List.take_append_drop], fun l hl => by simp [h l hl]⟩
theorem take_no {ls : List (List UInt8)} {n : UInt16} {k : Nat} (hk : k < ls.length) (h : ∀ l ∈ ls.take k, isNo n l = false) (hy : isNo n ls[k] = false) : ∀ l ∈ ls.take (k + 1), isNo n l = false := by
  rw [List.take_succ_eq_append_getElem hk]
  intro l hl
  rcases List.mem_append.1 hl with hl | hl
  · exact h l hl
  · rw [List.mem_singleton] at hl; subst hl; exact hy
set_option maxRecDepth 100000 in
set_option maxHeartbeats 8000000 in
theorem r14Find_any {w : World} {v : Value} {ls : List (List UInt8)} (hl : BRows w v ls) (n : UInt16) :
    Calls Try.prog 47 #[v, .int .u16 (n.toNat : Nat)] w fun e w' => ∃ v', e = .returned (.tuple #[v', .bool (findL ls n).isSome]) ∧ Bytes w' v' ((findL ls n).getD []) ∧ Fr [] w w' := by
  obtain ⟨av, cv, rfl⟩ := hl.shape
  have hlen := hl.len.2
  unfold maxLen at hlen
  have HL := Lib.hid hl
  clear hl
  go_enter Try.func47, Try.ntmps47
  go_wp2_with fail
  go_loopw [6] (fun iv wr => ∃ k : Nat, k ≤ ls.length ∧ iv = .int .i64 k ∧ (∀ l ∈ ls.take k, isNo n l = false) ∧ Fr [] w wr) (fun iv _ => ls.length - (intOf iv).toNat)
  case atStart => exact ⟨0, Nat.zero_le _, rfl, by simp, Fr.refl _ _⟩
  case round =>
    obtain ⟨k, hk, rfl, hno, hF⟩ := hrel
    have HNO := Lib.hid hno; have HF := Lib.hid hF
    clear hno hF
    by_cases hlt : k < ls.length
    · obtain ⟨b, o, al, cl, ea, -, hc, hx⟩ := (HL.out.keep HF.out).at_ k hlt
      subst ea
      have HX := Lib.hid hx; have HC := Lib.hid hc
      have d0 := hc
      clear hx hc
      go_wp2_with fail
      refine (R5Parse_any HX.out).mono ?_
      rintro e w2 (⟨vp, p, hp, rfl, hVp, hF⟩ | ⟨k2, hp, rfl, hF⟩)
      rotate_left
      · have hk2 : (k2 == 0) = false := by simpa using parseR_err hp
        have HNO := Lib.hid (take_no hlt HNO.out (by unfold isNo; rw [hp]))
        have HF := Lib.hid (HF.out.trans hF)
        clear hp hF d0
        unfold pz
        go_wp2_with (refine wpList_store_row rfl 88 (.tmp 7) (.tmp 21) rfl w2.heap.size rfl _ _ rfl 88 (Box.new w2 88 #[.bool false, .int .i64 0, .int .u16 0, .int .u32 0, .int .u32 0, .slice none 0 0, .bool false, .int .u16 0, .slice none 0 0, .slice none 0 0, .slice none 0 0]) (by kernel_rfl) rfl (oneCell_pz) ?_; intro w3 hY hG; have hFn := ((Fr.refl [] w2).alloc _).step hG (by simp); have HFn := Lib.hid hFn; have HY := Lib.hid hY; clear hG hFn hY)
        have HF := Lib.hid (HF.out.trans HFn.out)
        go_roundw
        case rel => exact ⟨k + 1, by omega, by go_num, HNO.out, HF.out⟩
        case measure => simp [intOf]; omega
      obtain ⟨q1, k1, q2, k2, q3, k3, q4, k4, rfl, -, -, -, -⟩ := hVp.open_
      have HP := Lib.hid hp
      have HX := Lib.hid (Sl.keep HX.out hF); have HC := Lib.hid (hF.cellSome HC.out (by simp)); have HF := Lib.hid (HF.out.trans hF)
      clear hp hF hVp d0
      go_upto_region 5 with (refine wpList_store_row rfl 88 (.tmp 7) (.tmp 21) rfl w2.heap.size rfl _ _ rfl 88 (Box.new w2 88 #[.bool false, .int .i64 0, .int .u16 0, .int .u32 0, .int .u32 0, .slice none 0 0, .bool false, .int .u16 0, .slice none 0 0, .slice none 0 0, .slice none 0 0]) (by kernel_rfl) rfl (oneCell_pc _ _ _ _ _ _ _ _ _ _ _ ⟨_, _, _, rfl⟩ ⟨_, _, _, rfl⟩ ⟨_, _, _, rfl⟩ ⟨_, _, _, rfl⟩) ?_; intro w3 hY hG; have hFn := ((Fr.refl [] w2).alloc _).step hG (by simp); have HFn := Lib.hid hFn; have HY := Lib.hid hY; clear hG hFn hY)
      have HX := Lib.hid (Sl.keep HX.out HFn.out); have HC := Lib.hid (HFn.out.cellSome HC.out (by simp)); have HF := Lib.hid (HF.out.trans HFn.out)
      have HPB := HY
      clear HFn HY
      generalize hgp : w2.heap.size = gp at *
      clear hgp
      obtain ⟨p0, p1, p2, p3, p4, p5, p6, p7, p8, p9, p10⟩ := HPB.out.pcells
      have d0 := HC.out
      by_cases hq : p.seq = n
      · have t1 : (((p.seq.toNat : Nat) : Int) == ((n.toNat : Nat) : Int)) = true := by rw [u16_beq, hq]; simp
        have HFD := Lib.hid (find_at hlt HNO.out (by unfold isNo; rw [HP.out]; simpa using hq))
        clear hq
        go_wp2_with fail
        go_ret2
        exact ⟨_, by rw [HFD.out]; rfl, by rw [HFD.out]; exact HX.out, HF.out⟩
      · have t1 : (((p.seq.toNat : Nat) : Int) == ((n.toNat : Nat) : Int)) = false := by rw [u16_beq]; simpa using hq
        have HNO := Lib.hid (take_no hlt HNO.out (by unfold isNo; rw [HP.out]; simpa using hq))
        clear hq
        go_wp2_with fail
        go_roundw
        case rel => exact ⟨k + 1, by omega, by go_num, HNO.out, HF.out⟩
        case measure => simp [intOf]; omega
    · obtain rfl : k = ls.length := by omega
      rw [List.take_length] at HNO
      have HFD := Lib.hid (find_none HNO.out)
      go_wp2_with fail
      go_ret2
      exact ⟨_, by rw [HFD.out]; rfl, by rw [HFD.out]; exact Sl.nil _, HF.out⟩
/-- What is known, as a function value: whatever the world has come to. -/
structure Knows (w : World) (gf : Nat) (lb : Array Value) (K : UInt16 → Option (List UInt8)) : Prop where
  eg : ∀ args W, (callFunc gf args).run Try.prog W = .ok (.enter gf args) W
  ask : ∀ (W : World) (n : UInt16), Fr [] w W → Calls Try.prog gf (#[.int .u16 (n.toNat : Nat)] ++ lb) W fun e w' => ∃ v', e = .returned (.tuple #[v', .bool (K n).isSome]) ∧ Bytes w' v' ((K n).getD []) ∧ Fr [] W w'
theorem Knows.keep {w w' : World} {gf : Nat} {lb : Array Value} {K : UInt16 → Option (List UInt8)} (h : Knows w gf lb K) (hf : Fr [] w w') : Knows w' gf lb K := ⟨h.eg, fun W n hW => h.ask W n (hf.trans hW)⟩
set_option maxRecDepth 100000 in
theorem l14by1_any {w : World} {g : Nat} {v : Value} {ls : List (List UInt8)} (hb : Box w g 22 #[v]) (hl : BRows w v ls) (n : UInt16) :
    Calls Try.prog 78 #[.int .u16 (n.toNat : Nat), .pointer (some ⟨g, 0, none⟩)] w fun e w' => ∃ v', e = .returned (.tuple #[v', .bool (findL ls n).isSome]) ∧ Bytes w' v' ((findL ls n).getD []) ∧ Fr [] w w' := by
  have HL := Lib.hid hl
  obtain ⟨av, cv, rfl⟩ := hl.shape
  have x0 := hb.cell 0
  simp only [List.getElem?_toArray, List.getElem?_cons_zero] at x0
  clear hl
  go_enter Try.func78, Try.ntmps78
  go_wp2_with fail
  refine (r14Find_any HL.out n).mono ?_
  rintro e w2 ⟨v', rfl, hb, hF⟩
  obtain ⟨a2, n2, c2, rfl⟩ := Sl.isSlice hb
  have HB := Lib.hid hb; have HF := Lib.hid hF
  clear hb hF x0
  go_wp2_with fail
  go_ret2
  exact ⟨_, rfl, HB.out, HF.out⟩
set_option maxRecDepth 100000 in
theorem l14by_any {w : World} {v : Value} {ls : List (List UInt8)} (hl : BRows w v ls) :
    Calls Try.prog 44 #[v] w fun e w' => ∃ g, e = .returned (.func (.func 78) #[] #[.pointer (some ⟨g, 0, none⟩)]) ∧ Knows w' 78 #[.pointer (some ⟨g, 0, none⟩)] (findL ls) ∧ Fr [] w w' := by
  obtain ⟨av, cv, rfl⟩ := hl.shape
  obtain ⟨w1, e1, hF, hB, hs⟩ := one_new w #[.slice av ls.length cv] 22
  have HL := Lib.hid (hl.keep hF); have HB := Lib.hid hB; have HF := Lib.hid hF
  have E1 := Lib.hid e1
  clear hl hB hF hs e1
  go_enter Try.func44, Try.ntmps44
  go_upto_region 1 with fail
  rw [E1.out]
  clear E1
  go_wp2_with fail
  go_ret
  exact ⟨_, rfl, ⟨enters_of Try.func78 (by kernel_rfl) rfl, fun W n hW => l14by1_any (HB.out.keep hW) (HL.out.keep hW) n⟩, HF.out⟩
end Go.Proofs.Ytchbgiindfoepaa

/- The walk of solve.look (printed by gen_look.py). -/
namespace Go.Proofs.Ytchbgiindfoepaa
open Go.RowKit

def lookB (K : UInt16 → Option (List UInt8)) (ss : UInt32) (n : UInt16) : Option Bt := match K n with
  | none => none
  | some l => match parseR l with
    | .ok p => if p.seq = n ∧ p.ssrc = ss then some (imp l) else none
    | .error _ => none
theorem u32_bne (a b : UInt32) : (((a.toNat : Nat) : Int) != ((b.toNat : Nat) : Int)) = !(a == b) := by
  rw [Bool.eq_iff_iff]
  simp [← UInt32.toNat_inj]
  omega
set_option maxRecDepth 100000 in
set_option maxHeartbeats 8000000 in
theorem svLook_any {w : World} {gf : Nat} {lb : Array Value} {K : UInt16 → Option (List UInt8)} (hK : Knows w gf lb K) (n : UInt16) (ss : UInt32) :
    Calls Try.prog 98 #[.int .u16 (n.toNat : Nat), .int .u32 (ss.toNat : Nat), .func (.func gf) #[] lb] w fun e w' => ∃ v', e = .returned (.tuple #[v', .bool (lookB K ss n).isSome]) ∧ BtV w' v' ((lookB K ss n).getD Bt.zero) ∧ Fr [] w w' := by
  obtain ⟨w1, e1, hF1, hB1, hs1⟩ := one_new w (bc Bt.zero (.slice none 0 0)) 28
  have HF := Lib.hid hF1; have HR := Lib.hid hB1; have E1 := Lib.hid e1; have HK := Lib.hid hK
  clear hF1 hB1 e1 hs1
  have eg := hK.eg
  clear hK
  go_enter Try.func98, Try.ntmps98
  go_upto_region 1 with fail
  first | rw [E1.out] | (have := E1.out; simp only [bc_zero] at this; rw [this]; clear this)
  clear E1
  go_wp2_with fail
  refine (HK.out.ask w1 n HF.out).mono ?_
  rintro e w2 ⟨v2, rfl, hb, hF⟩
  obtain ⟨a2, n2, c2, rfl⟩ := Sl.isSlice hb
  have HB := Lib.hid hb
  clear eg
  have HF := Lib.hid (HF.out.trans hF)
  have HR := Lib.hid (HR.out.keep hF)
  clear hF hb
  cases hkn : K n with
  | none =>
    have HL : Hid (lookB K ss n = none) := Lib.hid (by unfold lookB; rw [hkn])
    clear hkn
    go_wp2_with (refine wpList_store_row rfl 28 (.tmp 6) (.tmp 21) rfl w.heap.size rfl _ #[.int .u8 0, .int .u8 0, .int .u8 0, .int .u8 0, .int .u8 0, .int .u8 0, .int .u8 0, .int .u8 0, .slice none 0 0] rfl 28 HR.out (by kernel_rfl) rfl (by simp [bc, Value.oneCell']) ?_; intro w9 hY hG)
    refine bodyPost_ret (results_row_1 rfl _ _ w.heap.size 28 _ _ rfl hY Try.underlying28 rfl (by kernel_rfl)) rfl ⟨_, by rw [HL.out]; rfl, ?_, HF.out.step hG (by simp)⟩
    rw [HL.out]
    exact ⟨_, rfl, Sl.nil _⟩
  | some l =>
    have HKN := Lib.hid hkn
    rw [hkn] at HB
    clear hkn
    have HB : Hid (Bytes w2 (.slice a2 n2 c2) l) := HB
    go_wp2_with fail
    refine (Parse_any HB.out).mono ?_
    rintro e w3 (⟨vp, p, hp, rfl, hVp, hF⟩ | ⟨k2, hp, rfl, hF⟩)
    rotate_left
    · have hk2 : (k2 != 0) = true := by simpa using parseR_err hp
      have HL : Hid (lookB K ss n = none) := Lib.hid (by unfold lookB; rw [HKN.out]; simp only [hp])
      have HF := Lib.hid (HF.out.trans hF)
      have HR := Lib.hid (HR.out.keep hF)
      clear hF hp
      unfold pz
      go_upto_region 5 with (refine wpList_store_row rfl 88 (.tmp 10) (.tmp 25) rfl w3.heap.size rfl _ _ rfl 88 (Box.new w3 88 #[.bool false, .int .i64 0, .int .u16 0, .int .u32 0, .int .u32 0, .slice none 0 0, .bool false, .int .u16 0, .slice none 0 0, .slice none 0 0, .slice none 0 0]) (by kernel_rfl) rfl (oneCell_pz) ?_; intro w4 hY hG; have hFn := ((Fr.refl [] w3).alloc _).step hG (by simp); have HFn := Lib.hid hFn; have HY := Lib.hid hY; clear hG hFn hY)
      have HF := Lib.hid (HF.out.trans HFn.out); have HR := Lib.hid (HR.out.keep HFn.out)
      clear HFn HY
      go_wp2_with (refine wpList_store_row rfl 28 (.tmp 6) (.tmp 41) rfl w.heap.size rfl _ #[.int .u8 0, .int .u8 0, .int .u8 0, .int .u8 0, .int .u8 0, .int .u8 0, .int .u8 0, .int .u8 0, .slice none 0 0] rfl 28 HR.out (by kernel_rfl) rfl (by simp [bc, Value.oneCell']) ?_; intro w9 hY hG)
      refine bodyPost_ret (results_row_1 rfl _ _ w.heap.size 28 _ _ rfl hY Try.underlying28 rfl (by kernel_rfl)) rfl ⟨_, by rw [HL.out]; rfl, ?_, HF.out.step hG (by simp)⟩
      rw [HL.out]
      exact ⟨_, rfl, Sl.nil _⟩
    obtain ⟨q1, k1, q2, k2, q3, k3, q4, k4, rfl, -, -, -, -⟩ := hVp.open_
    have HP := Lib.hid hp
    have HF := Lib.hid (HF.out.trans hF)
    have HR := Lib.hid (HR.out.keep hF)
    have HB := Lib.hid (Sl.keep HB.out hF)
    clear hF hp hVp
    go_upto_region 5 with (refine wpList_store_row rfl 88 (.tmp 10) (.tmp 25) rfl w3.heap.size rfl _ _ rfl 88 (Box.new w3 88 #[.bool false, .int .i64 0, .int .u16 0, .int .u32 0, .int .u32 0, .slice none 0 0, .bool false, .int .u16 0, .slice none 0 0, .slice none 0 0, .slice none 0 0]) (by kernel_rfl) rfl (oneCell_pc _ _ _ _ _ _ _ _ _ _ _ ⟨_, _, _, rfl⟩ ⟨_, _, _, rfl⟩ ⟨_, _, _, rfl⟩ ⟨_, _, _, rfl⟩) ?_; intro w4 hY hG; have hFn := ((Fr.refl [] w3).alloc _).step hG (by simp); have HFn := Lib.hid hFn; have HY := Lib.hid hY; clear hG hFn hY)
    have hF := HFn.out
    have HF := Lib.hid (HF.out.trans hF)
    have HR := Lib.hid (HR.out.keep hF)
    have HB := Lib.hid (Sl.keep HB.out hF)
    have HPB := HY
    clear hF HFn HY
    generalize hgp : w3.heap.size = gp at *
    clear hgp
    obtain ⟨p0, p1, p2, p3, p4, p5, p6, p7, p8, p9, p10⟩ := HPB.out.pcells
    by_cases hq : p.seq = n ∧ p.ssrc = ss
    · have t1 : (((p.seq.toNat : Nat) : Int) != ((n.toNat : Nat) : Int)) = false := by rw [u16_bne, hq.1]; simp
      have t2 : (((p.ssrc.toNat : Nat) : Int) != ((ss.toNat : Nat) : Int)) = false := by rw [u32_bne, hq.2]; simp
      have HL : Hid (lookB K ss n = some (imp l)) := Lib.hid (by unfold lookB; rw [HKN.out]; simp only [HP.out]; rw [if_pos hq])
      clear hq
      go_upto_region 7 with fail
      clear t1 t2 p0 p1 p2 p3 p4 p5 p6 p7 p8 p9 p10
      go_wp2_with fail
      refine (impOf_any HB.out).mono ?_
      rintro e w5 (⟨v', p', hp', rfl, ⟨vi, rfl, hO⟩, hF⟩ | ⟨k, hp', -, -⟩)
      rotate_left
      · exact absurd (HP.out.symm.trans hp') (by simp)
      obtain ⟨ax, nx, cx, rfl⟩ := hO.isSlice
      have HO := Lib.hid hO
      have HRL0 : Hid (w.heap.size < w4.heap.size) := Lib.hid HR.out.lt
      have HF := Lib.hid (HF.out.trans hF); have HR := Lib.hid (HR.out.keep hF)
      clear hO hp' hF
      go_upto_region 8 with (refine wpList_store_row rfl 28 (.tmp 12) (.tmp 45) rfl w5.heap.size rfl _ _ rfl 28 (Box.new w5 28 (bc Bt.zero (.slice none 0 0))) (by kernel_rfl) rfl (by simp [bc, Value.oneCell']) ?_; intro w6 hY hG; have hFn := ((Fr.refl [] w5).alloc _).step hG (by simp); have HFn := Lib.hid hFn; have HY := Lib.hid hY; clear hG hFn hY)
      have HF := Lib.hid (HF.out.trans HFn.out); have HR := Lib.hid (HR.out.keep HFn.out); have HO := Lib.hid (HO.out.keep HFn.out)
      have HXB := HY
      clear HFn HY
      generalize hgx : w5.heap.size = gx at *
      have HGX := Lib.hid hgx
      clear hgx
      go_wp2_with (first | (refine wpList_load_row_w rfl 28 (.tmp 12) rfl gx rfl 28 _ _ HXB.out Try.underlying28 rfl (by kernel_rfl) ?_) | (refine wpList_store_row rfl 28 (.tmp 6) (.tmp 47) rfl w.heap.size rfl _ (bc (imp l) (.slice ax nx cx)) rfl 28 HR.out (by kernel_rfl) rfl (by simp [bc, Value.oneCell']) ?_; intro w9 hY hG))
      refine bodyPost_ret (results_row_1 rfl _ _ w.heap.size 28 _ _ rfl hY Try.underlying28 rfl (by kernel_rfl)) rfl ⟨_, by rw [HL.out]; rfl, ?_, HF.out.step hG (by simp)⟩
      rw [HL.out]
      exact ⟨_, rfl, (HO.out.fr hG (fun b hb hm => by have h1 := (HO.out.block b hb).1; have h2 := HRL0.out; simp at hm; omega)).bytes⟩
    · have HL : Hid (lookB K ss n = none) := Lib.hid (by unfold lookB; rw [HKN.out]; simp only [HP.out]; rw [if_neg hq])
      have hor : (((p.seq.toNat : Nat) : Int) != ((n.toNat : Nat) : Int)) = true ∨ (((p.seq.toNat : Nat) : Int) != ((n.toNat : Nat) : Int)) = false ∧ (((p.ssrc.toNat : Nat) : Int) != ((ss.toNat : Nat) : Int)) = true := by
        by_cases h1 : p.seq = n
        · right
          refine ⟨by rw [u16_bne, h1]; simp, ?_⟩
          rw [u32_bne]
          simpa using fun h2 => hq ⟨h1, h2⟩
        · left
          rw [u16_bne]
          simpa using h1
      clear hq
      rcases hor with t1 | ⟨t1, t2⟩
      · go_upto_region 6 with fail
        clear t1 p0 p1 p2 p3 p4 p5 p6 p7 p8 p9 p10
        go_wp2_with (refine wpList_store_row rfl 28 (.tmp 6) (.tmp 41) rfl w.heap.size rfl _ #[.int .u8 0, .int .u8 0, .int .u8 0, .int .u8 0, .int .u8 0, .int .u8 0, .int .u8 0, .int .u8 0, .slice none 0 0] rfl 28 HR.out (by kernel_rfl) rfl (by simp [bc, Value.oneCell']) ?_; intro w9 hY hG)
        refine bodyPost_ret (results_row_1 rfl _ _ w.heap.size 28 _ _ rfl hY Try.underlying28 rfl (by kernel_rfl)) rfl ⟨_, by rw [HL.out]; rfl, ?_, HF.out.step hG (by simp)⟩
        rw [HL.out]
        exact ⟨_, rfl, Sl.nil _⟩
      · go_upto_region 6 with fail
        clear t1 t2 p0 p1 p2 p3 p4 p5 p6 p7 p8 p9 p10
        go_wp2_with (refine wpList_store_row rfl 28 (.tmp 6) (.tmp 41) rfl w.heap.size rfl _ #[.int .u8 0, .int .u8 0, .int .u8 0, .int .u8 0, .int .u8 0, .int .u8 0, .int .u8 0, .int .u8 0, .slice none 0 0] rfl 28 HR.out (by kernel_rfl) rfl (by simp [bc, Value.oneCell']) ?_; intro w9 hY hG)
        refine bodyPost_ret (results_row_1 rfl _ _ w.heap.size 28 _ _ rfl hY Try.underlying28 rfl (by kernel_rfl)) rfl ⟨_, by rw [HL.out]; rfl, ?_, HF.out.step hG (by simp)⟩
        rw [HL.out]
        exact ⟨_, rfl, Sl.nil _⟩
end Go.Proofs.Ytchbgiindfoepaa

/- Plain laws on repairs of packets: what a repair is, the order of the packets, parts of them. No program in sight. -/
namespace Go.Proofs.Ytchbgiindfoepaa
open Go.RowKit

theorem Bt.ext_byte {x y : Bt} (hl : x.body.length = y.body.length) (h : ∀ i, x.byte i = y.byte i) : x = y := by
  obtain ⟨h1, h2⟩ := (Bt.same_iff x y).1 ((Bt.same_byte x y).2 h)
  obtain ⟨a0, a1, a2, a3, a4, a5, a6, a7, a⟩ := x
  obtain ⟨b0, b1, b2, b3, b4, b5, b6, b7, b⟩ := y
  unfold Bt.head at h1
  simp only [List.cons.injEq, and_true] at h1
  obtain ⟨rfl, rfl, rfl, rfl, rfl, rfl, rfl, rfl⟩ := h1
  have : a = b := ext_getD hl h2
  rw [this]
theorem Bt.add_comm (x y : Bt) : x.add y = y.add x := Bt.ext_byte (by rw [Bt.add_body_len, Bt.add_body_len, Nat.max_comm]) fun i => by rw [Bt.byte_add, Bt.byte_add, UInt8.xor_comm]
theorem Bt.add_assoc (x y z : Bt) : (x.add y).add z = x.add (y.add z) := Bt.ext_byte (by simp only [Bt.add_body_len, Nat.max_assoc]) fun i => by simp only [Bt.byte_add, UInt8.xor_assoc]
theorem Bt.zero_add (x : Bt) : Bt.zero.add x = x := by rw [Bt.add_comm, Bt.add_zero]
theorem Bt.fold_add : ∀ (xs : List Bt) (z : Bt), xs.foldl Bt.add z = z.add (Bt.all xs)
  | [], z => by simp [Bt.all, Bt.add_zero]
  | x :: xs, z => by
    unfold Bt.all
    rw [List.foldl_cons, List.foldl_cons, Bt.fold_add xs, Bt.fold_add xs (Bt.zero.add x), Bt.zero_add, Bt.add_assoc]
theorem Bt.all_append (xs ys : List Bt) : Bt.all (xs ++ ys) = (Bt.all xs).add (Bt.all ys) := by
  conv => lhs; unfold Bt.all
  rw [List.foldl_append, Bt.fold_add ys]
  rfl
theorem Bt.all_one (x : Bt) : Bt.all [x] = x := by simp [Bt.all, Bt.zero_add]
theorem Bt.all_perm {xs ys : List Bt} (h : xs.Perm ys) : Bt.all xs = Bt.all ys := by
  induction h with
  | nil => rfl
  | @cons x l₁ l₂ _ ih =>
    have e : ∀ l : List Bt, Bt.all (x :: l) = (Bt.all [x]).add (Bt.all l) := fun l => Bt.all_append [x] l
    rw [e l₁, e l₂, ih]
  | swap x y l => rw [show y :: x :: l = [y] ++ ([x] ++ l) from rfl, show x :: y :: l = [x] ++ ([y] ++ l) from rfl, Bt.all_append, Bt.all_append, Bt.all_append, Bt.all_append, ← Bt.add_assoc, ← Bt.add_assoc, Bt.add_comm (Bt.all [y])]
  | trans _ _ h1 h2 => rw [h1, h2]

def okF (l : List UInt8) : Prop := ∃ p, parseR l = .ok p
def seqF (l : List UInt8) : UInt16 := match parseR l with | .ok p => p.seq | .error _ => 0
def ssF (l : List UInt8) : UInt32 := match parseR l with | .ok p => p.ssrc | .error _ => 0
theorem add_sum (s : Sheet) (l : List UInt8) (p : Pkt) : (s.add l p).sum = s.sum.add (imp l) := by unfold Sheet.add Sheet.begun; split <;> rfl
theorem add_seqs (s : Sheet) (l : List UInt8) (p : Pkt) : (s.add l p).seqs = s.seqs ++ [p.seq] := by unfold Sheet.add Sheet.begun; split <;> rfl
theorem add_next {s : Sheet} (h : s.seqs ≠ []) (l : List UInt8) (p : Pkt) : (s.add l p).ssrc = s.ssrc ∧ (s.add l p).alike = (s.alike && p.ssrc == s.ssrc) := by unfold Sheet.add Sheet.begun; rw [if_neg h]; exact ⟨rfl, rfl⟩
theorem add_first (l : List UInt8) (p : Pkt) : (Sheet.zero.add l p).ssrc = p.ssrc ∧ (Sheet.zero.add l p).alike = true := by
  unfold Sheet.add Sheet.begun
  rw [if_pos (show Sheet.zero.seqs = [] from rfl)]
  exact ⟨rfl, by simp [Sheet.summed, Sheet.noted, Sheet.held]⟩
theorem runL_sum : ∀ {ls : List (List UInt8)} {s s' : Sheet}, runL ls s = .ok s' → s'.sum = (ls.map imp).foldl Bt.add s.sum ∧ s'.seqs = s.seqs ++ ls.map seqF ∧ ∀ l ∈ ls, okF l
  | [], s, s', h => by cases h; simp
  | l :: ls, s, s', h => by
    unfold runL at h
    cases hp : parseR l with
    | error k => rw [hp] at h; cases h
    | ok p =>
      rw [hp] at h
      obtain ⟨h1, h2, h3⟩ := runL_sum h
      refine ⟨by rw [h1, add_sum]; rfl, by rw [h2, add_seqs, List.map_cons]; simp [seqF, hp], fun k hk => ?_⟩
      rcases List.mem_cons.1 hk with rfl | hk
      · exact ⟨p, hp⟩
      · exact h3 k hk
theorem runL_total : ∀ {ls : List (List UInt8)} (s : Sheet), (∀ l ∈ ls, okF l) → ∃ s', runL ls s = .ok s'
  | [], s, _ => ⟨s, rfl⟩
  | l :: ls, s, h => by
    obtain ⟨p, hp⟩ := h l (by simp)
    unfold runL
    rw [hp]
    exact runL_total _ (fun k hk => h k (by simp [hk]))
theorem runL_next : ∀ {ls : List (List UInt8)} {s s' : Sheet}, runL ls s = .ok s' → s.seqs ≠ [] → (s'.alike = true ↔ s.alike = true ∧ ∀ l ∈ ls, ssF l = s.ssrc)
  | [], s, s', h, _ => by cases h; simp
  | l :: ls, s, s', h, hs => by
    unfold runL at h
    cases hp : parseR l with
    | error k => rw [hp] at h; cases h
    | ok p =>
      rw [hp] at h
      have hq := add_next hs l p
      rw [runL_next h (by rw [add_seqs]; simp), hq.1, hq.2]
      simp [ssF, hp, and_assoc]
theorem runL_alike {ls : List (List UInt8)} {s' : Sheet} (hne : ls ≠ []) (h : runL ls Sheet.zero = .ok s') : s'.alike = true ↔ ∀ l ∈ ls, ∀ k ∈ ls, ssF l = ssF k := by
  obtain ⟨l, ls, rfl⟩ := List.exists_cons_of_ne_nil hne
  unfold runL at h
  cases hp : parseR l with
  | error k => rw [hp] at h; cases h
  | ok p =>
    rw [hp] at h
    have hq := add_first l p
    rw [runL_next h (by rw [add_seqs]; simp), hq.1, hq.2]
    have e : ssF l = p.ssrc := by simp [ssF, hp]
    constructor
    · rintro ⟨-, h2⟩ a ha b hb
      have h3 : ∀ c ∈ l :: ls, ssF c = p.ssrc := fun c hc => by
        rcases List.mem_cons.1 hc with rfl | hc
        · exact e
        · exact h2 c hc
      rw [h3 a ha, h3 b hb]
    · intro h2
      exact ⟨rfl, fun k hk => by rw [h2 k (by simp [hk]) l (by simp), e]⟩
/-- A repair is that of packets. -/
structure IsRep (ls : List (List UInt8)) (r : Rep_) : Prop where
  ne : ls ≠ []
  few : ls.length ≤ 48
  ok : ∀ l ∈ ls, okF l
  alike : ∀ l ∈ ls, ∀ k ∈ ls, ssF l = ssF k
  sum : r.bt = Bt.all (ls.map imp)
  near : Near (ls.map seqF) r.base r.m
theorem mkP_iff {ls : List (List UInt8)} {r : Rep_} : mkP ls = .ok r ↔ IsRep ls r := by
  constructor
  · intro h
    obtain ⟨h1, h2, s, hs, ha, hb, hc⟩ := mkP_ok h
    obtain ⟨g1, g2, g3⟩ := runL_sum hs
    refine ⟨h1, h2, g3, (runL_alike h1 hs).1 ha, by rw [hb, g1]; rfl, ?_⟩
    rw [g2] at hc
    exact cvOf_ok.1 hc
  · intro h
    obtain ⟨s, hs⟩ := runL_total Sheet.zero h.ok
    obtain ⟨g1, g2, g3⟩ := runL_sum hs
    have ha := (runL_alike h.ne hs).2 h.alike
    have hc := cvOf_ok.2 h.near
    unfold mkP
    rw [if_neg h.ne, if_neg (by have := h.few; omega), hs]
    simp only [ha, Bool.true_eq_false, if_false]
    rw [g2]
    simp only [Sheet.zero, List.nil_append, hc]
    rw [g1]
    have := h.sum
    obtain ⟨bt, b, m⟩ := r
    simp only at this
    subst this
    rfl
theorem mkP_perm {ls ls' : List (List UInt8)} {r : Rep_} (h : mkP ls = .ok r) (hp : ls.Perm ls') : mkP ls' = .ok r := by
  rw [mkP_iff] at h ⊢
  refine ⟨fun e => h.ne (by rw [e] at hp; exact List.perm_nil.1 hp), by rw [← hp.length_eq]; exact h.few, fun l hl => h.ok l (hp.mem_iff.2 hl), fun l hl k hk => h.alike l (hp.mem_iff.2 hl) k (hp.mem_iff.2 hk), ?_, ?_⟩
  · rw [h.sum]; exact Bt.all_perm (hp.map imp)
  · exact cvOf_ok.1 (cvOf_perm (cvOf_ok.2 h.near) (hp.map seqF))
theorem mkP_sub {ls ls' : List (List UInt8)} {r : Rep_} (h : mkP ls = .ok r) (hs : ls'.Sublist ls) (hne : ls' ≠ []) : ∃ r', mkP ls' = .ok r' := by
  rw [mkP_iff] at h
  obtain ⟨b, m, hc⟩ := cvOf_sub (cvOf_ok.2 h.near) (hs.map seqF) (by simpa using hne)
  exact ⟨⟨Bt.all (ls'.map imp), b, m⟩, mkP_iff.2 ⟨hne, Nat.le_trans hs.length_le h.few, fun l hl => h.ok l (hs.subset hl), fun l hl k hk => h.alike l (hs.subset hl) k (hs.subset hk), rfl, cvOf_ok.1 hc⟩⟩
theorem mkP_count {ls : List (List UInt8)} {r : Rep_} (h : mkP ls = .ok r) : (seqsOf r.base r.m).length = ls.length := by
  have := (cvOf_count (cvOf_ok.2 (mkP_iff.1 h).near)).1
  rw [List.length_map] at this
  rw [← this]
  simp [seqsOf]
theorem and63_xor : ∀ a < 256, ∀ b < 4, (UInt8.ofNat a ^^^ (UInt8.ofNat b <<< 6)) &&& 63 = UInt8.ofNat a &&& 63 := by decide +kernel
theorem and63_and63 (a : UInt8) : a &&& 63 &&& 63 = a &&& 63 := by
  rw [UInt8.and_assoc]
  rfl
theorem and63_add (a b : UInt8) (h1 : a &&& 63 = a) (h2 : b &&& 63 = b) : (a ^^^ b) &&& 63 = a ^^^ b := by
  apply UInt8.toNat_inj.1
  have e1 := congrArg UInt8.toNat h1
  have e2 := congrArg UInt8.toNat h2
  simp only [UInt8.toNat_and, UInt8.toNat_xor] at e1 e2 ⊢
  apply Nat.eq_of_testBit_eq
  intro i
  have g1 := congrArg (·.testBit i) e1
  have g2 := congrArg (·.testBit i) e2
  simp only [Nat.testBit_and, Nat.testBit_xor] at g1 g2 ⊢
  revert g1 g2
  cases (a.toNat.testBit i) <;> cases (b.toNat.testBit i) <;> cases (UInt8.toNat 63).testBit i <;> simp
theorem Bt.cut_fold : ∀ (xs : List Bt) (z : Bt), z.cut = z → (∀ x ∈ xs, x.cut = x) → (xs.foldl Bt.add z).cut = xs.foldl Bt.add z
  | [], z, h, _ => h
  | x :: xs, z, h, hx => by
    rw [List.foldl_cons]
    refine Bt.cut_fold xs _ ?_ (fun y hy => hx y (by simp [hy]))
    have h1 : z.h0 &&& 63 = z.h0 := congrArg Bt.h0 h
    have h2 : x.h0 &&& 63 = x.h0 := congrArg Bt.h0 (hx x (by simp))
    show ({ z.add x with h0 := (z.h0 ^^^ x.h0) &&& 63 } : Bt) = z.add x
    rw [and63_add _ _ h1 h2]
    rfl
theorem imp_cut (l : List UInt8) : (imp l).cut = imp l := by
  show ({ imp l with h0 := l.getD 0 0 &&& 63 &&& 63 } : Bt) = imp l
  rw [and63_and63]
  rfl
theorem mkP_cut {ls : List (List UInt8)} {r : Rep_} (h : mkP ls = .ok r) : r.bt.cut = r.bt := by
  rw [(mkP_iff.1 h).sum]
  exact Bt.cut_fold _ _ rfl (fun x hx => by obtain ⟨l, -, rfl⟩ := List.mem_map.1 hx; exact imp_cut l)
theorem holdsB_iff {ls : List (List UInt8)} {r : Rep_} : holdsB r ls = true ↔ ∃ q, mkP ls = .ok q ∧ q.base = r.base ∧ q.m = r.m ∧ q.bt.body.length = r.bt.body.length ∧ q.bt.cut.same r.bt.cut = true := by
  unfold holdsB
  cases h : mkP ls with
  | error k => simp
  | ok q =>
    simp only [Bool.and_eq_true, beq_iff_eq, Except.ok.injEq, exists_eq_left']
    constructor
    · rintro ⟨⟨⟨⟨h1, h2⟩, h3⟩, h4⟩, h5⟩
      refine ⟨h1, ?_, h4, h5⟩
      obtain ⟨qb, qs, ⟨a, b⟩⟩ := q
      obtain ⟨rb, rs, ⟨c, d⟩⟩ := r
      simp only at h2 h3
      rw [h2, h3]
    · rintro ⟨h1, h2, h4, h5⟩
      exact ⟨⟨⟨⟨h1, by rw [h2]⟩, by rw [h2]⟩, h4⟩, h5⟩
theorem holds_self {ls : List (List UInt8)} {r : Rep_} (h : mkP ls = .ok r) : holdsB r ls = true := holdsB_iff.2 ⟨r, h, rfl, rfl, rfl, Bt.same_refl _⟩
theorem holds_err {ls : List (List UInt8)} {k : Int} (h : mkP ls = .error k) (r : Rep_) : holdsB r ls = false := by unfold holdsB; rw [h]
theorem holds_count {ls ls' : List (List UInt8)} {r : Rep_} (h : mkP ls = .ok r) (hl : ls'.length ≠ ls.length) : holdsB r ls' = false := by
  rw [Bool.eq_false_iff]
  intro h2
  obtain ⟨q, hq, e1, e2, -⟩ := holdsB_iff.1 h2
  have g1 := mkP_count h
  have g2 := mkP_count hq
  rw [e1, e2] at g2
  omega
/-- One packet left out. -/
theorem rest_perm (ls : List (List UInt8)) {k : Nat} (hk : k < ls.length) : ls.Perm (ls.take k ++ ls.drop (k + 1) ++ [ls[k]]) := by
  have e : ls = ls.take k ++ (ls[k] :: ls.drop (k + 1)) := by rw [List.getElem_cons_drop, List.take_append_drop]
  conv => lhs; rw [e]
  rw [List.append_assoc]
  exact List.Perm.append_left _ (List.perm_append_singleton _ _).symm
theorem rest_ok {ls : List (List UInt8)} {r : Rep_} (h : mkP ls = .ok r) {k : Nat} (hk : k < ls.length) (hne : ls.take k ++ ls.drop (k + 1) ≠ []) :
    ∃ o, mkP (ls.take k ++ ls.drop (k + 1)) = .ok o ∧ o.bt.cut.add (imp ls[k]) = r.bt.cut ∧ holdsB r (ls.take k ++ ls.drop (k + 1)) = false := by
  have hp := rest_perm ls hk
  have h2 := mkP_perm h hp
  obtain ⟨o, ho⟩ := mkP_sub h2 (List.sublist_append_left _ _) hne
  refine ⟨o, ho, ?_, holds_count h ?_⟩
  · rw [mkP_cut ho, mkP_cut h, (mkP_iff.1 ho).sum, (mkP_iff.1 h2).sum, List.map_append (l₂ := [ls[k]]), Bt.all_append, List.map_cons, List.map_nil, Bt.all_one]
  · have := hp.length_eq
    rw [List.length_append, List.length_singleton] at this
    omega
theorem one_ok {ls : List (List UInt8)} {r : Rep_} (h : mkP ls = .ok r) (h1 : ls.length = 1) (hk : 0 < ls.length) : imp ls[0] = r.bt.cut ∧ r.m = Msk.bit 0 := by
  obtain ⟨l, rfl⟩ := List.length_eq_one_iff.1 h1
  refine ⟨by rw [mkP_cut h, (mkP_iff.1 h).sum, List.map_cons, List.map_nil, Bt.all_one]; rfl, ?_⟩
  have hn := (mkP_iff.1 h).near
  have hb : r.base = seqF l := by have := hn.mem; simpa using this
  refine Msk.ext_has fun i hi => ?_
  rw [Bool.eq_iff_iff, hn.has i hi, Msk.has_bit (by omega)]
  simp [hb, ahd_self]
  omega
theorem parts_ok {ls : List (List UInt8)} {r : Rep_} (h : mkP ls = .ok r) {k : Nat} (h0 : 0 < k) (hk : k < ls.length) :
    ∃ a b, mkP (ls.take k) = .ok a ∧ mkP (ls.drop k) = .ok b ∧ a.bt.cut.add b.bt.cut = r.bt.cut ∧ r.bt.body.length = max a.bt.body.length b.bt.body.length := by
  have n1 : ls.take k ≠ [] := fun e => by have h9 := congrArg List.length e; rw [List.length_take, List.length_nil] at h9; omega
  have n2 : ls.drop k ≠ [] := fun e => by have h9 := congrArg List.length e; rw [List.length_drop, List.length_nil] at h9; omega
  obtain ⟨a, ha⟩ := mkP_sub h (List.take_sublist k ls) n1
  obtain ⟨b, hb⟩ := mkP_sub h (List.drop_sublist k ls) n2
  have e : a.bt.add b.bt = r.bt := by
    rw [(mkP_iff.1 ha).sum, (mkP_iff.1 hb).sum, (mkP_iff.1 h).sum, ← Bt.all_append, ← List.map_append, List.take_append_drop]
  exact ⟨a, b, ha, hb, by rw [mkP_cut ha, mkP_cut hb, mkP_cut h, e], by rw [← e, Bt.add_body_len]⟩
theorem turn_holds {ls : List (List UInt8)} {r : Rep_} (h : mkP ls = .ok r) : holdsB { r with bt := { r.bt with h0 := r.bt.h0 ^^^ 192 } } ls = true := by
  refine holdsB_iff.2 ⟨r, h, rfl, rfl, rfl, ?_⟩
  have e : (r.bt.h0 ^^^ 192) &&& 63 = r.bt.h0 &&& 63 := by
    have := and63_xor r.bt.h0.toNat r.bt.h0.toNat_lt 3 (by omega)
    rw [UInt8.ofNat_toNat] at this
    exact this
  show r.bt.cut.same ({ r.bt with h0 := (r.bt.h0 ^^^ 192) &&& 63 } : Bt) = true
  rw [e]
  exact Bt.same_refl _
theorem turn_not {ls : List (List UInt8)} {r t : Rep_} (h : mkP ls = .ok r) (ht : t.bt.h1 ≠ r.bt.h1 ∨ t.bt.h2 ≠ r.bt.h2 ∨ t.bt.h3 ≠ r.bt.h3 ∨ t.bt.h4 ≠ r.bt.h4) : holdsB t ls = false := by
  rw [Bool.eq_false_iff]
  intro h2
  obtain ⟨q, hq, -, -, -, e⟩ := holdsB_iff.1 h2
  rw [h] at hq
  cases hq
  have e1 := ((Bt.same_iff _ _).1 e).1
  unfold Bt.head Bt.cut at e1
  simp only [List.cons.injEq, and_true] at e1
  obtain ⟨-, e1, e2, e3, e4, -⟩ := e1
  rcases ht with ht | ht | ht | ht
  · exact ht e1.symm
  · exact ht e2.symm
  · exact ht e3.symm
  · exact ht e4.symm
end Go.Proofs.Ytchbgiindfoepaa

/- Slices of rows put behind each other; a part of a slice's rows as elements. -/
namespace Go.Proofs.Ytchbgiindfoepaa
open Go.RowKit

section
variable {α : Type} {k : Nat} {R : World → List Value → α → List Nat → Prop}
theorem Els.append : ∀ {ys zs : List α} {w : World} {c1 c2 : List Value} {B1 B2 : List Nat}, Els R ys w c1 B1 → Els R zs w c2 B2 → Els R (ys ++ zs) w (c1 ++ c2) (B1 ++ B2)
  | [], zs, w, c1, c2, B1, B2, h, h2 => by obtain ⟨rfl, rfl⟩ := h; exact h2
  | y :: ys, zs, w, c1, c2, B1, B2, h, h2 => by
    obtain ⟨c, rest, D1, D2, rfl, rfl, h3, h4⟩ := h
    exact ⟨c, rest ++ c2, D1, D2 ++ B2, by simp, by simp, h3, Els.append h4 h2⟩
/-- 'append(s, part...)' in a region that draws. -/
theorem step_append_els {P : Program} {ops : Array Oper} {o : Oper} {a : Act} {w : World} {K : Act → World → Prop} {Q : Exit → Act → World → Prop} {E : Prop} (hR : Rep k R) (hk : 0 < k)
    (hgd : o.guard = none) (s x : Operand) (t : TypeId) (ho : o.op = .call { callee := .builtin .append, args := #[s, x], argTypes := #[t, t] })
    (base : Nat) (e : TypeId) (z : Value) (bytes : Nat) (ht : P.underlying t = some (.slice e)) (hi : (P.info? e).map (fun i => (i.zero, i.size, i.bytes)) = some (some z, k, bytes)) (hz : z.cells.size = k)
    (v : Value) (ys : List α) (B : List Nat) (hs : a.eval s = v) (hown : OwnEls k R w base e v ys B)
    (ad : Addr) (m c : Nat) (hx : a.eval x = .slice (some ad) m c) (zs : List α) (hm : zs.length = m) (cells : List Value) (B2 : List Nat) (hc : Els R zs w cells B2) (hnews : ∀ j u, cells[j]? = some u → w.cell? (ad.add j) = some u) (hdis : ∀ b, blockOf v = some b → b ∉ B2)
    (h63 : ys.length + m ≤ maxLen) (hbytes : (ys.length + m) * bytes ≤ 140737488355328) (hbase : base ≤ w.heap.size)
    (h : ∀ v' w', OwnEls k R w' base e v' (ys ++ zs) (B ++ B2) → Fr (blockOf v).toList w w' → (∀ b, blockOf v' = some b → blockOf v = some b ∨ w.heap.size ≤ b) → K (a.put o.dst v') w') :
    if Region.wanted o (yielded ops a.tmps) = true then Oper.wp P o a w K Q else E := by
  subst hm
  obtain ⟨own, h1, h2, h3⟩ := hown
  refine step_append_fr hgd s x t ho base e z k bytes ht hi hz hk v ys.length own hs h1 ad zs.length c cells hx (hc.len hR) hnews (hc.one hR) h63 hbytes hbase ?_
  intro v' w' q1 q2 q3 q4
  refine h v' w' ⟨own ++ cells, by simpa using q1, Els.append (h2.fr hR q2 (fun b hb hm => h3 b (by simpa using hm) hb)) (hc.fr hR q2 (fun b hb hm => hdis b (by simpa using hm) hb)), ?_⟩ q2 q3
  intro b hb hm
  rcases q3 b hb with hv | hn
  · rcases List.mem_append.1 hm with hm | hm
    · exact h3 b hv hm
    · exact hdis b hv hm
  · rcases List.mem_append.1 hm with hm | hm
    · have := h2.lt hR b hm; omega
    · have := hc.lt hR b hm; omega
end
theorem els_rows {w : World} : ∀ {vs : List Value} {ls : List (List UInt8)}, vs.length = ls.length → (∀ (i : Nat) (x : Value) (a : List UInt8), vs[i]? = some x → ls[i]? = some a → Bytes w x a) → ∃ B, Els BytesR ls w vs B
  | [], [], _, _ => ⟨[], rfl, rfl⟩
  | v :: vs, l :: ls, hl, h => by
    obtain ⟨B, hB⟩ := els_rows (vs := vs) (ls := ls) (by simpa using hl) (fun i x a hx ha => h (i + 1) x a (by simpa using hx) (by simpa using ha))
    exact ⟨(liveOf v).toList ++ B, [v], vs, (liveOf v).toList, B, rfl, rfl, ⟨v, rfl, h 0 v l rfl rfl, rfl⟩, hB⟩
theorem BRows.nil (w : World) : BRows w (.slice none 0 0) [] := ⟨[], Sl.nil w, rfl, fun i x a hx => by simp at hx⟩
theorem BRows.pre {w : World} {a : Option Addr} {n c : Nat} {ls : List (List UInt8)} (h : BRows w (.slice a n c) ls) (k : Nat) (hk : k ≤ n) (c' : Nat) (h1 : k ≤ c') (h2 : c' ≤ c) : BRows w (.slice a k c') (ls.take k) := by
  obtain ⟨vs, g1, g2, g3⟩ := h
  have hn := (g1.len).1
  refine ⟨vs.take k, g1.pre k c' hk h1 h2, by rw [List.length_take, List.length_take, g2], fun i x y hx hy => ?_⟩
  rw [List.getElem?_take] at hx hy
  split at hx
  · rename_i hi
    rw [if_pos hi] at hy
    exact g3 i x y hx hy
  · cases hx
/-- Rows from a place on. -/
theorem BRows.from_ {w : World} {b o n c : Nat} {ls : List (List UInt8)} (h : BRows w (.slice (some ⟨b, o, none⟩) n c) ls) (k m : Nat) (hk : k + m = n) : BRows w (.slice (if c = k then some ⟨b, o, none⟩ else some ⟨b, o + k, none⟩) m (c - k)) (ls.drop k) := by
  obtain ⟨vs, g1, g2, g3⟩ := h
  have hn := (g1.len).1
  have h2 := g1.sub' k m (by omega)
  rw [List.take_of_length_le (by rw [List.length_drop]; omega)] at h2
  refine ⟨vs.drop k, h2, by rw [List.length_drop, List.length_drop, g2], fun i x y hx hy => ?_⟩
  rw [List.getElem?_drop] at hx hy
  exact g3 (k + i) x y hx hy
/-- A part of rows, as elements: where it lies. -/
theorem rows_ad {w : World} {b o n c : Nat} {ls : List (List UInt8)} (h : BRows w (.slice (some ⟨b, o, none⟩) n c) ls) (k m : Nat) (hk : k + m ≤ n) :
    ∃ ad cells B, (if c = k then some (⟨b, o, none⟩ : Addr) else some ⟨b, o + k, none⟩) = some ad ∧ Els BytesR ((ls.drop k).take m) w cells B ∧ (∀ x ∈ B, x < w.heap.size) ∧ ∀ j u, cells[j]? = some u → w.cell? (ad.add j) = some u := by
  obtain ⟨vs, g1, g2, g3⟩ := h
  obtain ⟨hn, hnc, -, -⟩ := g1.len
  obtain ⟨B, hB⟩ := els_rows (w := w) (vs := (vs.drop k).take m) (ls := (ls.drop k).take m) (by simp [g2]) (fun i x y hx hy => by
    rw [List.getElem?_take] at hx hy
    split at hx
    · rename_i hi
      rw [if_pos hi, List.getElem?_drop] at hy
      rw [List.getElem?_drop] at hx
      exact g3 (k + i) x y hx hy
    · cases hx)
  by_cases hc : c = k
  · refine ⟨⟨b, o, none⟩, _, B, by rw [if_pos hc], hB, hB.lt Rep.bytes, fun j u hj => ?_⟩
    have := (List.getElem?_eq_some_iff.1 hj).1
    rw [List.length_take] at this
    omega
  · refine ⟨⟨b, o + k, none⟩, _, B, by rw [if_neg hc], hB, hB.lt Rep.bytes, fun j u hj => ?_⟩
    have hj' := hj
    rw [List.getElem?_take] at hj
    split at hj
    · rename_i hi
      rw [List.getElem?_drop] at hj
      obtain ⟨b', o', e, -, hc2⟩ := g1.at_ (k := k + j) (by omega)
      cases e
      rw [Addr.add_mid]
      have := hc2 (k + j) u hj
      simpa [Nat.add_assoc] using this
    · cases hj
end Go.Proofs.Ytchbgiindfoepaa

/- The walk of parity.Block (printed by gen_block.py). -/
namespace Go.Proofs.Ytchbgiindfoepaa
open Go.RowKit

/-- A repair as cells of a slice. -/
def RpR (w : World) (c : List Value) (r : Rep_) (B : List Nat) : Prop := ∃ vb, c = (rpc r vb).toList ∧ Bytes w vb r.bt.body ∧ B = (liveOf vb).toList
theorem Rep.rp : Rep 12 RpR where
  len := by rintro w c y B ⟨vb, rfl, -, -⟩; rfl
  one := by
    rintro w c y B ⟨vb, rfl, h, -⟩ u hu
    obtain ⟨a, n, cp, rfl⟩ := Sl.isSlice h
    simp at hu
    rcases hu with rfl | rfl | rfl | rfl | rfl | rfl | rfl | rfl | rfl | rfl | rfl | rfl <;> rfl
  lt := by
    rintro w c y B ⟨vb, rfl, h, rfl⟩ b hb
    exact Sl.lt h b (mem_toList.1 hb)
  fr := by
    rintro w w' c y B S ⟨vb, rfl, h, rfl⟩ hf hS
    exact ⟨vb, rfl, Sl.frL h hf (fun b hb => hS b (mem_toList.2 hb)), rfl⟩
def blockL (ls : List (List UInt8)) : List (List Int) → List Rep_ → Except Int (List Rep_)
  | [], acc => .ok acc
  | xs :: rest, acc => match someR ls xs with
    | .error k => .error k
    | .ok r => blockL ls rest (acc ++ [r])
theorem blockL_append (ls : List (List UInt8)) : ∀ (a b : List (List Int)) (acc : List Rep_), blockL ls (a ++ b) acc = match blockL ls a acc with | .error k => .error k | .ok s' => blockL ls b s'
  | [], _, _ => rfl
  | l :: a, b, s => by
    show (match someR ls l with | .error k => .error k | .ok r => blockL ls (a ++ b) (s ++ [r]) : Except Int (List Rep_)) = match (match someR ls l with | .error k => .error k | .ok r => blockL ls a (s ++ [r]) : Except Int (List Rep_)) with | .error k => .error k | .ok s' => blockL ls b s'
    cases someR ls l with
    | error k => rfl
    | ok p => exact blockL_append ls a b _
theorem blockL_ok {ls : List (List UInt8)} {y : List Int} {r : Rep_} (s : List Rep_) (h : someR ls y = .ok r) : blockL ls [y] s = .ok (s ++ [r]) := by
  unfold blockL
  rw [h]
  rfl
theorem blockL_err {ls : List (List UInt8)} {y : List Int} {k : Int} (r : List (List Int)) (s : List Rep_) (h : someR ls y = .error k) : blockL ls (y :: r) s = .error k := by
  unfold blockL
  rw [h]
theorem SlOf.keepI {w w' : World} {v : Value} {ls : List (List Int)} (h : SlOf Ints w v ls) (hf : Fr [] w w') : SlOf Ints w' v ls := by
  obtain ⟨vs, h1, h2, h3⟩ := h
  exact ⟨vs, h1.keep hf, h2, fun i x a hx ha => Sl.keep (h3 i x a hx ha) hf⟩
set_option maxRecDepth 100000 in
theorem info_rp : (Try.prog.info? 58).map (fun i => (i.zero, i.size, i.bytes)) = some (some (.agg rpz), 12, 56) := by kernel_rfl
theorem someR_1500 {ls : List (List UInt8)} {xs : List Int} {q : Rep_} (h : someR ls xs = .ok q) : q.bt.body.length ≤ 1500 := by
  unfold someR at h
  split at h
  · exact mkP_1500 h
  · cases h
/-- What a call that makes a block hands back. -/
def MadeB (x : Except Int (List Rep_)) (n : Nat) (e : Ending) (w' : World) : Prop := (∃ rs v' B, x = .ok rs ∧ e = .returned (.tuple #[v', .int .i64 0]) ∧ OwnEls 12 RpR w' n 58 v' rs B ∧ ∀ b ∈ B, n ≤ b) ∨ (∃ k, x = .error k ∧ k ≠ 0 ∧ e = .returned (.tuple #[.slice none 0 0, .int .i64 k]))
set_option maxRecDepth 100000 in
set_option maxHeartbeats 8000000 in
theorem pBlock_any {w : World} {v1 v2 : Value} {ls : List (List UInt8)} {sh : List (List Int)} (hl : BRows w v1 ls) (hx : SlOf Ints w v2 sh) (hsz : ls.length ≤ 1000) (hsh : sh.length ≤ 1000) (hsx : ∀ xs ∈ sh, xs.length ≤ 1000) :
    Calls Try.prog 35 #[v1, v2] w fun e w' => Fr [] w w' ∧ MadeB (blockL ls sh []) w.heap.size e w' := by
  obtain ⟨av, cv, rfl⟩ := hl.shape
  obtain ⟨ax, cx, rfl⟩ := hx.shape
  have HL := Lib.hid hl; have HX := Lib.hid hx; have HSX := Lib.hid hsx
  clear hl hx hsx
  go_enter Try.func35, Try.ntmps35
  go_wp2_with fail
  go_loopw [6, 13] (fun sv iv wr => ∃ (k : Nat) (rs : List Rep_) (Bs : List Nat), k ≤ sh.length ∧ iv = .int .i64 k ∧ blockL ls (sh.take k) [] = .ok rs ∧ rs.length = k ∧ OwnEls 12 RpR wr w.heap.size 58 sv rs Bs ∧ Fr [] w wr ∧ (∀ b ∈ Bs, w.heap.size ≤ b)) (fun _ iv _ => sh.length - (intOf iv).toNat)
  case atStart => exact ⟨0, [], [], Nat.zero_le _, rfl, rfl, rfl, OwnEls.nil _ _ _, Fr.refl _ _, by simp⟩
  case round =>
    obtain ⟨k, rs, Bs, hk, rfl, hR, hq, hO, hF, hBs⟩ := hrel
    obtain ⟨as_, cs, rfl⟩ := hO.shape
    have HRL := Lib.hid hR; have HQ := Lib.hid hq; have HO := Lib.hid hO; have HFQ := Lib.hid hF; have HBS := Lib.hid hBs
    clear hR hq hO hF hBs
    by_cases hlt : k < sh.length
    · obtain ⟨b, o, x, y, ea, hb, hy, hc, hx⟩ := HX.out.at_ hlt
      subst ea
      have hsy : y.length ≤ 1000 := HSX.out y (List.mem_of_getElem? hy)
      have HTF : Hid (sh = sh.take k ++ y :: sh.drop (k + 1)) := Lib.hid (by
        have h1 : sh[k] = y := by rw [List.getElem?_eq_getElem hlt] at hy; simpa using hy
        rw [← h1, List.getElem_cons_drop, List.take_append_drop])
      have HT : Hid (sh.take (k + 1) = sh.take k ++ [y]) := Lib.hid (by rw [List.take_add_one, hy]; rfl)
      obtain ⟨al, cl, rfl⟩ := Sl.shape hx
      rw [List.length_map] at hx hc
      have HXY := Lib.hid (Sl.keep hx HFQ.out)
      have HLR := Lib.hid (HL.out.keep HFQ.out)
      have d0 := HFQ.out.cellSome hc (by simp)
      clear hb hy hc hx
      go_wp2_with fail
      refine (pSome_any HLR.out HXY.out hsz hsy).mono ?_
      rintro e w3 ⟨hF, ⟨r, v', hm, rfl, hv⟩ | ⟨kk, hm, hk0, rfl⟩⟩
      · obtain ⟨vb, rfl, hb, hd⟩ := hv
        have hs := Sl.shape hb
        rw [List.length_map] at hs
        obtain ⟨ab, cb, rfl⟩ := hs
        have HRL := Lib.hid (show blockL ls (sh.take (k + 1)) [] = .ok (rs ++ [r]) by rw [HT.out, blockL_append, HRL.out]; exact blockL_ok rs hm)
        have HB := Lib.hid hb; have HD := Lib.hid hd; have HF3 := Lib.hid hF; have HSR := Lib.hid HFQ.out.size
        have HBL : Hid (r.bt.body.length ≤ 1500) := Lib.hid (someR_1500 hm)
        clear hm hb hd hF
        generalize hbn : r.bt.body.length = bn at *
        have HBN := Lib.hid hbn
        clear hbn
        go_upto_region 8 with (refine wpList_store_row rfl 58 (.tmp 9) (.tmp 21) rfl w3.heap.size rfl _ _ rfl 58 (Box.new w3 58 rpz) (by kernel_rfl) rfl (by simp [Value.oneCell']) ?_; intro w4 hY hG; have hFn := ((Fr.refl [] w3).alloc _).step hG (by simp); have HFn := Lib.hid hFn; have HMB := Lib.hid hY; clear hG hFn hY)
        have hS4 : w3.heap.size < w4.heap.size := HMB.out.lt
        have HS4 := Lib.hid hS4
        clear hS4
        generalize w3.heap.size = g at *
        obtain ⟨w5, e5, hF5, hB5, hs5⟩ := one_new w4 (rpc r (.slice ab bn cb)) 58
        have HB5 := Lib.hid hB5; have HF5 := Lib.hid hF5; have HS5 := Lib.hid hs5
        unfold rpc at e5
        have E5 := Lib.hid e5
        clear e5 hB5 hF5 hs5
        have HOS : Hid (OwnEls 12 RpR w5 w.heap.size 58 (.slice as_ rs.length cs) rs Bs) := Lib.hid (HO.out.keep Rep.rp ((HF3.out.trans HFn.out).trans HF5.out))
        have HBB : Hid (Bytes w5 (.slice ab bn cb) r.bt.body) := Lib.hid (Sl.keep HB.out (HFn.out.trans HF5.out))
        have HDJ : Hid (∀ b, blockOf (.slice as_ rs.length cs) = some b → b ∉ (liveOf (.slice ab bn cb)).toList) := Lib.hid (fun b hb hm => by have h1 := HD.out b (mem_toList.1 hm); have h2 := (HO.out.block b hb).2; omega)
        have HL1 : Hid (rs.length + 1 ≤ maxLen) := Lib.hid (by have := HQ.out; unfold maxLen; omega)
        have HL2 : Hid ((rs.length + 1) * 56 ≤ 140737488355328) := Lib.hid (by have := HQ.out; omega)
        have HL3 : Hid (w.heap.size ≤ w5.heap.size) := Lib.hid (by have := HSR.out; have := HF3.out.size; have := HFn.out.size; have := HF5.out.size; omega)
        go_wp2_with (first | (refine wpList_load_row_w rfl 58 (.tmp 9) rfl g rfl 58 _ _ HMB.out Try.underlying58 rfl (by kernel_rfl) ?_) | (at_builtin; (rw [E5.out]); refine wpList_append_el Rep.rp (by decide) rfl (.tmp 26) (.tmp 28) 69 rfl w.heap.size 58 (.agg rpz) 56 Try.underlying69 info_rp rfl (.slice as_ rs.length cs) rs Bs rfl HOS.out w4.heap.size 0 1 rfl (rpc r (.slice ab bn cb)).toList r (liveOf (.slice ab bn cb)).toList (box_range HB5.out) ⟨_, rfl, HBB.out, rfl⟩ HDJ.out HL1.out HL2.out HL3.out ?_; intro vs1 w6 hown1 hfr1 hbl1; have HV1 := Lib.hid hown1; have HF6 := Lib.hid hfr1; obtain ⟨as1, cs1, rfl⟩ := hown1.shape; clear hown1 hfr1 hbl1))
        exact ⟨⟨k + 1, _, _, by omega, by go_num, HRL.out, by rw [List.length_append, HQ.out]; rfl, by have h1 := HV1.out; rw [List.length_append] at h1; exact h1,
          ((((HFQ.out.trans HF3.out).trans HFn.out)).trans HF5.out).step HF6.out (fun b hb => .inr (HO.out.block b (mem_toList.1 hb)).1),
          fun b hb => by
            rcases List.mem_append.1 hb with hb | hb
            · exact HBS.out b hb
            · have := HD.out b (mem_toList.1 hb); have := HSR.out; omega⟩, by simp [intOf]; omega⟩
      · have hkb : (kk != 0) = true := bne_iff_ne.2 hk0
        have HK0 := Lib.hid hk0
        have HME : Hid (blockL ls sh [] = .error kk) := Lib.hid (by rw [HTF.out, blockL_append, HRL.out]; exact blockL_err _ rs hm)
        have HFQ := Lib.hid (HFQ.out.trans hF)
        clear hm hF hk0
        go_wp2_with (refine wpList_store_row rfl 58 (.tmp 9) (.tmp 21) rfl w3.heap.size rfl _ _ rfl 58 (Box.new w3 58 rpz) (by kernel_rfl) rfl (by simp [Value.oneCell']) ?_; intro w4 hY hG; have hFn := ((Fr.refl [] w3).alloc _).step hG (by simp); have HFn := Lib.hid hFn; clear hG hFn hY)
        go_ret2
        exact ⟨HFQ.out.trans HFn.out, .inr ⟨kk, HME.out, HK0.out, rfl⟩⟩
    · obtain rfl : k = sh.length := by omega
      rw [List.take_length] at HRL
      go_wp2_with fail
      go_ret2
      exact ⟨HFQ.out, .inl ⟨rs, _, _, HRL.out, rfl, HO.out, HBS.out⟩⟩
end Go.Proofs.Ytchbgiindfoepaa
