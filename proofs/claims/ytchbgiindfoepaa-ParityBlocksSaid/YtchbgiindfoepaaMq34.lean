import Derived.Maps.Own
import Derived.Maps.Views
import Derived.Test.YtchbgiindfoepaaMq33
import Derived.Test.YtchbgiindfoepaaMq10
import Derived.Test.YtchbgiindfoepaaMq1
import Derived.Test.YtchbgiindfoepaaMq20
/- The walk of parity.Some (printed by gen_some.py). -/
namespace Go.Proofs.Ytchbgiindfoepaa
open Go.RowKit Go.Maps

def Ints (w : World) (v : Value) (xs : List Int) : Prop := Sl w v (xs.map (Value.int .i64))
/-- Are places in range, each once? -/
def pickOk (n : Nat) (xs : List Int) : Prop := (∀ x ∈ xs, 0 ≤ x ∧ x < n) ∧ xs.Nodup
instance (n : Nat) (xs : List Int) : Decidable (pickOk n xs) := by unfold pickOk; infer_instance
def pick (ls : List (List UInt8)) (xs : List Int) : List (List UInt8) := xs.map fun x => ls.getD x.toNat []
def someR (ls : List (List UInt8)) (xs : List Int) : Except Int Rep_ := if pickOk ls.length xs then mkP (pick ls xs) else .error 1
def seenD (xs : List Int) : DataW Unit := xs.foldl (fun D x => D.put (.int .i64 x) (.lit (.bool true))) (.map [])
theorem seen_fold (y : Int) : ∀ (xs : List Int) (D : DataW Unit), IsMap D → (xs.foldl (fun D x => D.put (.int .i64 x) (.lit (.bool true))) D).atKey (.int .i64 y) (.lit (.bool false)) = if y ∈ xs then .lit (.bool true) else D.atKey (.int .i64 y) (.lit (.bool false))
  | [], D, _ => by simp
  | x :: xs, D, hD => by
    rw [List.foldl_cons, seen_fold y xs _ (hD.put _ _)]
    by_cases h : y ∈ xs
    · simp [h]
    · by_cases hx : y = x
      · subst hx
        simp [h, atKey_put_same hD (k := .int .i64 y) trivial]
      · have : ¬ y ∈ x :: xs := by simp [h, hx]
        rw [if_neg h, if_neg this, atKey_put_other (by simpa using hx)]
theorem seen_at (xs : List Int) (y : Int) : (seenD xs).atKey (.int .i64 y) (.lit (.bool false)) = .lit (.bool (decide (y ∈ xs))) := by
  unfold seenD
  rw [seen_fold y xs _ isMap_empty]
  by_cases h : y ∈ xs
  · simp [h]
  · simp [h, DataW.atKey]
theorem plainElem_bool_inv {P : Program} {e : TypeId} (he : P.underlying e = some .bool) {v : Value} {z : DataW Unit × List MemPlace} (h : plainElem P e v = some z) : ∃ a, v = .bool a ∧ z = (.lit (.bool a), []) := by
  unfold plainElem at h
  rw [he] at h
  cases v <;> simp at h
  exact ⟨_, rfl, h.symm⟩
theorem zeroBool (w : World) : (zeroValue 4).run Try.prog w = .ok (.bool false) w := by kernel_rfl
theorem keyInt : Keyed Try.prog 3 := int_keyed Try.underlying3
/-- 'seen[x]'. -/
theorem seen_run {w : World} {b n : Nat} {xs : List Int} (h : w.ownsMap Try.prog 3 (plainElem Try.prog 4) b n (seenD xs)) {y : Int} (hy : (Lit.int .i64 y).wf = true) :
    (Instr.lookup 133 (.map (some b)) (.int .i64 y) false).run Try.prog w = .ok (.bool (decide (y ∈ xs))) w := by
  obtain ⟨v, ps, hrun, hv⟩ := h.lookup keyInt Try.underlying133 (zeroBool w) (plainElem_bool Try.underlying4 false) (keyOf_int_mk Try.underlying3 hy)
  obtain ⟨c, rfl, hc⟩ := plainElem_bool_inv Try.underlying4 hv
  simp only [Prod.mk.injEq, seen_at] at hc
  rw [hrun]
  have : decide (y ∈ xs) = c := by
    have := hc.1
    simpa using this
  rw [this]
theorem Ints.at_ {w : World} {b o n c : Nat} {xs : List Int} (h : Ints w (.slice (some ⟨b, o, none⟩) n c) xs) (i : Nat) (hi : i < xs.length) : w.cell? ⟨b, o + i, none⟩ = some (.int .i64 xs[i]) := by
  have hlen : n = xs.length := by have := Sl.len h; simpa using this.1
  obtain ⟨b', o', e, _, hc⟩ := Sl.at_ h (k := i) (by omega)
  cases e
  exact hc i (.int .i64 xs[i]) (by rw [List.getElem?_map, List.getElem?_eq_getElem hi]; rfl)
theorem Els.bytes {w : World} : ∀ {ys : List (List UInt8)} {cells : List Value} {B : List Nat}, Els BytesR ys w cells B → cells.length = ys.length ∧ ∀ (i : Nat) (x : Value) (a : List UInt8), cells[i]? = some x → ys[i]? = some a → Bytes w x a
  | [], cells, B, h => by obtain ⟨rfl, rfl⟩ := h; exact ⟨rfl, fun i x a hx => by simp at hx⟩
  | y :: ys, cells, B, h => by
    obtain ⟨c, rest, B1, B2, rfl, rfl, ⟨v, rfl, hv, -⟩, h2⟩ := h
    obtain ⟨g1, g2⟩ := Els.bytes h2
    refine ⟨by simp [g1], fun i x a hx ha => ?_⟩
    cases i with
    | zero => simp at hx ha; subst hx ha; exact hv
    | succ i => exact g2 i x a (by simpa using hx) (by simpa using ha)
theorem SlEls.rows {w : World} {v : Value} {ys : List (List UInt8)} {B : List Nat} (h : SlEls 1 BytesR w v ys B) : BRows w v ys := by
  obtain ⟨cells, a, cap, rfl, h1, h2, h3, h4, h5⟩ := h
  obtain ⟨g1, g2⟩ := h4.bytes
  exact ⟨cells, ⟨a, cap, by rw [g1], by omega, h2, h3, h5⟩, g1, g2⟩
theorem BRows.at_ {w : World} {av : Option Addr} {n c : Nat} {ls : List (List UInt8)} (h : BRows w (.slice av n c) ls) (i : Nat) (hi : i < ls.length) :
    ∃ b o al cl, av = some ⟨b, o, none⟩ ∧ b < w.heap.size ∧ w.cell? ⟨b, o + i, none⟩ = some (.slice al ls[i].length cl) ∧ Bytes w (.slice al ls[i].length cl) ls[i] := by
  obtain ⟨cells, h1, h2, h3⟩ := h
  have hn := Sl.len h1
  have hic : i < cells.length := by omega
  obtain ⟨b, o, e, hb, hc⟩ := Sl.at_ h1 (k := i) (by omega)
  have hy := h3 i cells[i] ls[i] (List.getElem?_eq_getElem hic) (List.getElem?_eq_getElem hi)
  obtain ⟨al, cl, e2⟩ := hy.shape
  rw [List.length_map] at e2
  rw [e2] at hy
  exact ⟨b, o, al, cl, e, hb, by rw [hc i cells[i] (List.getElem?_eq_getElem hic), e2], hy⟩
theorem Fr.ownsMap {H : Type} {P : Program} {k : TypeId} {R : Value → Option (DataW H × List MemPlace)} {w w' : World} {S : List Nat} {b n : Nat} {D : DataW H} (hf : Fr S w w') (h : w.ownsMap P k R b n D) (hb : b ∉ S) : w'.ownsMap P k R b n D := by
  have hlt := h.lt
  obtain ⟨es, clock, h1, F, hs, hD⟩ := h
  exact ⟨es, clock, (hf.block b hlt hb).trans h1, F, hs, hD⟩
theorem seenD_snoc (xs : List Int) (x : Int) : (seenD xs).put (.int .i64 x) (.lit (.bool true)) = seenD (xs ++ [x]) := by unfold seenD; rw [List.foldl_append]; rfl
theorem pick_snoc (ls : List (List UInt8)) (xs : List Int) (x : Int) : pick ls (xs ++ [x]) = pick ls xs ++ [ls.getD x.toNat []] := by simp [pick]
theorem pickOk_snoc {n : Nat} {xs : List Int} {x : Int} (h : pickOk n xs) (h0 : 0 ≤ x) (h1 : x < n) (h2 : ¬ x ∈ xs) : pickOk n (xs ++ [x]) := by
  refine ⟨fun y hy => ?_, ?_⟩
  · rcases List.mem_append.1 hy with hy | hy
    · exact h.1 y hy
    · simp at hy; subst hy; exact ⟨h0, h1⟩
  · rw [List.nodup_append]
    refine ⟨h.2, by simp, fun a ha b hb => ?_⟩
    simp at hb
    subst hb
    exact fun e => h2 (by rw [← e]; exact ha)
theorem pickOk_bad {n : Nat} {a b : List Int} {x : Int} (h : ¬ (0 ≤ x ∧ x < n) ∨ x ∈ a) : ¬ pickOk n (a ++ x :: b) := by
  rintro ⟨h1, h2⟩
  rcases h with h | h
  · exact h (h1 x (by simp))
  · rw [List.nodup_append] at h2
    exact h2.2.2 x h x (by simp) rfl
set_option maxRecDepth 100000 in
theorem info_bs : (Try.prog.info? 25).map (fun i => (i.zero, i.size, i.bytes)) = some (some (.slice none 0 0), 1, 24) := by kernel_rfl
set_option maxRecDepth 100000 in
set_option maxHeartbeats 8000000 in
theorem pSome_any {w : World} {v1 v2 : Value} {ls : List (List UInt8)} {xs : List Int} (hl : BRows w v1 ls) (hx : Ints w v2 xs) (hsz : ls.length ≤ 1000) (hsx : xs.length ≤ 1000) :
    Calls Try.prog 31 #[v1, v2] w fun e w' => Fr [] w w' ∧ Made (someR ls xs) w.heap.size e w' := by
  obtain ⟨av, cv, rfl⟩ := hl.shape
  obtain ⟨ax, cx, rfl⟩ := Sl.shape hx
  rw [List.length_map] at hx ⊢
  obtain ⟨w1, e1, hF1, hB1, hs1⟩ := one_new w rpz 58
  obtain ⟨w2, hw2⟩ : ∃ w2, w1.alloc (.map #[] 0) = w2 := ⟨_, rfl⟩
  have hF2 : Fr [] w1 w2 := by rw [← hw2]; exact (Fr.refl _ _).alloc _
  have hM2 : w2.ownsMap Try.prog 3 (plainElem (H := Unit) Try.prog 4) w1.heap.size 0 (seenD []) := by rw [← hw2]; exact World.ownsMap_made _ _ _ _
  have hs2 : w2.heap.size = w1.heap.size + 1 := by rw [← hw2]; simp
  have HL0 := Lib.hid hl; have HX0 := Lib.hid hx; have HL := Lib.hid (hl.keep hF1); have HX := Lib.hid (Sl.keep hx hF1); have HF := Lib.hid hF1; have HR := Lib.hid hB1; have E1 := Lib.hid e1; have E2 := Lib.hid hw2
  have HM := Lib.hid hM2; have HF2 := Lib.hid hF2; have HS2 := Lib.hid hs2
  have HG2 : Hid (w.heap.size < w1.heap.size) := Lib.hid hB1.lt
  have hmm := @run_makeMap Try.prog
  clear hl hx hF1 hB1 e1 hs1 hw2 hF2 hM2 hs2
  go_enter Try.func31, Try.ntmps31
  go_upto_region 1 with fail
  rw [E1.out]
  clear E1
  go_upto_region 2 with fail
  rw [E2.out]
  clear E2 hmm
  generalize hmb : w1.heap.size = mb at *
  have HMB := Lib.hid hmb
  clear hmb
  go_wp2_with fail
  go_loopw [7, 13] (fun sv iv wr => ∃ (k : Nat) (Bs : List Nat), k ≤ xs.length ∧ iv = .int .i64 k ∧ pickOk ls.length (xs.take k) ∧ OwnEls 1 BytesR wr w2.heap.size 25 sv (pick ls (xs.take k)) Bs ∧ wr.ownsMap Try.prog 3 (plainElem (H := Unit) Try.prog 4) mb k (seenD (xs.take k)) ∧ Fr [] w1 wr ∧ (∀ b ∈ Bs, b < w1.heap.size) ∧ w2.heap.size ≤ wr.heap.size) (fun _ iv _ => xs.length - (intOf iv).toNat)
  case atStart => exact ⟨0, [], Nat.zero_le _, rfl, ⟨by simp, by simp⟩, OwnEls.nil _ _ _, HM.out, HF2.out, by simp, Nat.le_refl _⟩
  case round =>
    clear HM HF2
    obtain ⟨k, Bs, hk, rfl, hP, hO, hM, hF, hBs, hz⟩ := hrel
    obtain ⟨as_, cs, rfl⟩ := hO.shape
    have HP := Lib.hid hP; have HO := Lib.hid hO; have HM := Lib.hid hM; have HFQ := Lib.hid hF; have HBS := Lib.hid hBs; have HZ := Lib.hid hz
    clear hP hO hM hF hBs hz
    by_cases hlt : k < xs.length
    · obtain ⟨b, o, ea, hb, -⟩ := Sl.at_ HX.out hlt
      subst ea
      have d0 := HFQ.out.cellSome (Ints.at_ HX.out k hlt) (by simp)
      have HT : Hid (xs.take (k + 1) = xs.take k ++ [xs[k]]) := Lib.hid (List.take_succ_eq_append_getElem hlt)
      have HTF : Hid (xs = xs.take k ++ xs[k] :: xs.drop (k + 1)) := Lib.hid (by rw [List.getElem_cons_drop, List.take_append_drop])
      generalize xs[k] = x at *
      have HRW := Lib.hid (HR.out.keep HFQ.out)
      by_cases h0 : x < 0
      · have HE : Hid (someR ls xs = .error 1) := Lib.hid (by unfold someR; rw [HTF.out, if_neg (pickOk_bad (.inl (by omega)))])
        go_wp2_with (refine wpList_store_row rfl 58 (.tmp 4) (.tmp 30) rfl w.heap.size rfl _ _ rfl 58 HRW.out (by kernel_rfl) rfl (by simp [Value.oneCell']) ?_; intro w9 hY hG; have HY := Lib.hid hY; have HGn := Lib.hid hG; clear hY hG)
        refine bodyPost_ret (results_row_1 rfl _ _ w.heap.size 58 _ _ rfl HY.out Try.underlying58 rfl (by kernel_rfl)) rfl ⟨(HF.out.trans HFQ.out).step HGn.out (by simp), .inr ⟨1, HE.out, by omega, rfl⟩⟩
      by_cases h1 : (ls.length : Int) ≤ x
      · have HE : Hid (someR ls xs = .error 1) := Lib.hid (by unfold someR; rw [HTF.out, if_neg (pickOk_bad (.inl (by omega)))])
        go_wp2_with (refine wpList_store_row rfl 58 (.tmp 4) (.tmp 30) rfl w.heap.size rfl _ _ rfl 58 HRW.out (by kernel_rfl) rfl (by simp [Value.oneCell']) ?_; intro w9 hY hG; have HY := Lib.hid hY; have HGn := Lib.hid hG; clear hY hG)
        refine bodyPost_ret (results_row_1 rfl _ _ w.heap.size 58 _ _ rfl HY.out Try.underlying58 rfl (by kernel_rfl)) rfl ⟨(HF.out.trans HFQ.out).step HGn.out (by simp), .inr ⟨1, HE.out, by omega, rfl⟩⟩
      have hrun := seen_run HM.out (y := x) (WalkArith.wf_i64 (by omega))
      by_cases h2 : x ∈ xs.take k
      · have HE : Hid (someR ls xs = .error 1) := Lib.hid (by unfold someR; rw [HTF.out, if_neg (pickOk_bad (.inr h2))])
        rw [decide_eq_true h2] at hrun
        clear h2
        go_wp2_with (refine wpList_store_row rfl 58 (.tmp 4) (.tmp 30) rfl w.heap.size rfl _ _ rfl 58 HRW.out (by kernel_rfl) rfl (by simp [Value.oneCell']) ?_; intro w9 hY hG; have HY := Lib.hid hY; have HGn := Lib.hid hG; clear hY hG)
        refine bodyPost_ret (results_row_1 rfl _ _ w.heap.size 58 _ _ rfl HY.out Try.underlying58 rfl (by kernel_rfl)) rfl ⟨(HF.out.trans HFQ.out).step HGn.out (by simp), .inr ⟨1, HE.out, by omega, rfl⟩⟩
      rw [decide_eq_false h2] at hrun
      have HN2 := Lib.hid h2
      clear h2
      obtain ⟨i, rfl⟩ := Int.eq_ofNat_of_zero_le (by omega : 0 ≤ x)
      have hil : i < ls.length := by omega
      have HPK : Hid (pick ls (xs.take (k + 1)) = pick ls (xs.take k) ++ [ls[i]]) := Lib.hid (by rw [HT.out, pick_snoc]; congr 2; simp [List.getD_eq_getElem?_getD, List.getElem?_eq_getElem hil])
      have HSD : Hid (seenD (xs.take (k + 1)) = (seenD (xs.take k)).put (.int .i64 (i : Int)) (.lit (.bool true))) := Lib.hid (by rw [HT.out, seenD_snoc])
      have HPO : Hid (pickOk ls.length (xs.take (k + 1))) := Lib.hid (by rw [HT.out]; exact pickOk_snoc HP.out (by omega) (by omega) HN2.out)
      obtain ⟨bl, ol, al, cl, ea, hbl, hcl, hyl⟩ := BRows.at_ HL.out i hil
      subst ea
      have HYL := Lib.hid hyl
      clear hyl
      have HKL : Hid (List.length (pick ls (xs.take k)) = k) := Lib.hid (by unfold pick; rw [List.length_map, List.length_take]; omega)
      generalize ls[i] = y at *
      generalize hps : pick ls (xs.take k) = ps at *
      have HPS := Lib.hid hps
      clear hps
      have HWX : Hid ((Lit.int .i64 (i : Int)).wf = true) := Lib.hid (WalkArith.wf_i64 (by omega))
      have HKM : Hid (k < maxLen) := Lib.hid (by unfold maxLen; omega)
      go_upto_region 9 with (at_mapUpdate; refine wpList_mapUpdate_own _ rfl _ _ _ 133 rfl 3 4 keyInt Try.underlying133 _ mb k (seenD (xs.take k)) rfl HM.out HKM.out (.int .i64 (i : Int)) (.bool true) (.int .i64 (i : Int)) rfl rfl (keyOf_int_mk Try.underlying3 HWX.out) (.lit (.bool true)) [] (plainElem_bool Try.underlying4 true) ?_; intro w3 hm3 hg3; have HM3 := Lib.hid hm3; have HF3 := Lib.hid (Fr.ofGrown hg3); clear hm3 hg3)
      clear hrun
      have HBM : Hid (∀ b, b < w1.heap.size → b ∉ (some mb).toList) := Lib.hid (fun b hb hm => by have h1 := mem_toList.1 hm; have := HMB.out; injection h1; omega)
      have d1 := HF3.out.cellSome (HFQ.out.cellSome hcl (by simp)) (HBM.out _ hbl)
      clear hcl
      have HY3 : Hid (Bytes w3 (.slice al y.length cl) y) := Lib.hid (Sl.frL (Sl.keep HYL.out HFQ.out) HF3.out (fun b hb => HBM.out b (by have := Sl.lt HYL.out b hb; exact this)))
      have HYB : Hid (∀ b ∈ (liveOf (.slice al y.length cl)).toList, b < w1.heap.size) := Lib.hid (fun b hb => Sl.lt HYL.out b (mem_toList.1 hb))
      have HO3 : Hid (OwnEls 1 BytesR w3 w2.heap.size 25 (.slice as_ ps.length cs) ps Bs) := Lib.hid (HO.out.fr Rep.bytes HF3.out (fun b hb => HBM.out b (HBS.out b hb)) (fun b hb hm => by have h1 := (HO.out.block b hb).1; have h2 := mem_toList.1 hm; have := HS2.out; injection h2; omega))
      obtain ⟨w4, e4, hF4, hB4, hs4⟩ := one_new w3 #[.slice al y.length cl] 25
      have E4 := Lib.hid e4; have HF4 := Lib.hid hF4; have HB4 := Lib.hid hB4; have HS4 := Lib.hid hs4
      clear e4 hF4 hB4 hs4
      have HD : Hid (∀ b, blockOf (.slice as_ ps.length cs) = some b → b ∉ (liveOf (.slice al y.length cl)).toList) := Lib.hid (fun b hb hm => by have h1 := HYB.out b hm; have h2 := (HO.out.block b hb).1; have := HS2.out; have := HMB.out; omega)
      have HL1 : Hid (ps.length + 1 ≤ maxLen) := Lib.hid (by have := HKL.out; unfold maxLen; omega)
      have HL2 : Hid ((ps.length + 1) * 24 ≤ 140737488355328) := Lib.hid (by have := HKL.out; omega)
      have HL3 : Hid (w2.heap.size ≤ w4.heap.size) := Lib.hid (by have := HZ.out; have := HF3.out.size; have := HF4.out.size; omega)
      have HKL' := HKL
      go_wp2_with (at_builtin; (rw [E4.out]); refine wpList_append_el Rep.bytes (by decide) rfl (.tmp 33) (.tmp 38) 22 rfl w2.heap.size 25 (.slice none 0 0) 24 Try.underlying22 info_bs rfl (.slice as_ ps.length cs) ps Bs rfl (HO3.out.keep Rep.bytes HF4.out) w3.heap.size 0 1 rfl [.slice al y.length cl] y (liveOf (.slice al y.length cl)).toList (box_range HB4.out) ⟨_, rfl, Sl.keep HY3.out HF4.out, rfl⟩ HD.out HL1.out HL2.out HL3.out ?_; intro vs1 w5 hown1 hfr1 hbl1; have HV1 := Lib.hid hown1; have HF5 := Lib.hid hfr1; obtain ⟨as1, cs1, rfl⟩ := hown1.shape; clear hown1 hfr1 hbl1)
      exact ⟨⟨k + 1, _, by omega, by go_num, HPO.out, by rw [HPK.out]; have h1 := HV1.out; rw [List.length_append] at h1; exact h1, by rw [HSD.out]; exact Fr.ownsMap HF5.out (Fr.ownsMap HF4.out HM3.out (by simp)) (fun hm => by have h1 := (HO3.out.block mb (mem_toList.1 hm)).1; have := HS2.out; omega),
        (((HFQ.out.step HF3.out (fun b hb => .inr (by have h1 := mem_toList.1 hb; have := HMB.out; injection h1; omega))).trans HF4.out)).step HF5.out (fun b hb => .inr (by have h1 := (HO3.out.block b (mem_toList.1 hb)).1; have := HS2.out; have := HMB.out; omega)),
        fun b hb => by
          rcases List.mem_append.1 hb with hb | hb
          · exact HBS.out b hb
          · exact HYB.out b hb,
        by have := HL3.out; have := HF5.out.size; omega⟩, by simp [intOf]; omega⟩
    · obtain rfl : k = xs.length := by omega
      rw [List.take_length] at HP
      have HE : Hid (someR ls xs = mkP (pick ls xs)) := Lib.hid (by unfold someR; rw [if_pos HP.out])
      have HB3 : Hid (BRows wr (.slice as_ (pick ls (xs.take xs.length)).length cs) (pick ls xs)) := Lib.hid (by have h1 := HO.out.sl.rows; rw [List.take_length] at h1 ⊢; exact h1)
      have HRW := Lib.hid (HR.out.keep HFQ.out)
      generalize List.length (pick ls (xs.take xs.length)) = pn at *
      go_wp2_with fail
      refine (pMake_any HB3.out).mono ?_
      rintro e w3 ⟨hF, ⟨r, v', hm, rfl, hv⟩ | ⟨kk, hm, hk0, rfl⟩⟩
      · obtain ⟨vb, rfl, hb, hd⟩ := hv
        obtain ⟨ab, nb, cb, rfl⟩ := Sl.isSlice hb
        have HE2 : Hid (someR ls xs = .ok r) := Lib.hid (by rw [HE.out, hm])
        have HB := Lib.hid hb; have HD := Lib.hid hd; have HRR := Lib.hid (HRW.out.keep hF); have HFR := Lib.hid (HFQ.out.trans hF); have HZR := Lib.hid HFQ.out.size
        clear hm hb hd hF
        go_wp2_with (refine wpList_store_row rfl 58 (.tmp 4) (.tmp 43) rfl w.heap.size rfl _ _ rfl 58 HRR.out (by kernel_rfl) rfl (by simp [Value.oneCell']) ?_; intro w9 hY hG; have HY := Lib.hid hY; have HGn := Lib.hid hG; clear hY hG)
        have HPO : Hid (RpO w9 w.heap.size (.agg (rpc r (.slice ab nb cb))) r) := Lib.hid ⟨_, rfl, Sl.frL HB.out HGn.out (fun b hb hm => by have := HD.out b hb; have := HG2.out; have := HMB.out; have := HZR.out; simp at hm; omega), fun b hb => by have := HD.out b hb; have := HG2.out; have := HMB.out; have := HZR.out; omega⟩
        refine bodyPost_ret (results_row_1 rfl _ _ w.heap.size 58 _ _ rfl HY.out Try.underlying58 rfl (by kernel_rfl)) rfl ⟨(HF.out.trans HFR.out).step HGn.out (by simp), .inl ⟨_, _, HE2.out, rfl, HPO.out⟩⟩
      · have HE2 : Hid (someR ls xs = .error kk) := Lib.hid (by rw [HE.out, hm])
        have HK0 := Lib.hid hk0; have HRR := Lib.hid (HRW.out.keep hF); have HFR := Lib.hid (HFQ.out.trans hF)
        clear hm hk0 hF
        go_wp2_with (refine wpList_store_row rfl 58 (.tmp 4) (.tmp 43) rfl w.heap.size rfl _ _ rfl 58 HRR.out (by kernel_rfl) rfl (by simp [Value.oneCell']) ?_; intro w9 hY hG; have HY := Lib.hid hY; have HGn := Lib.hid hG; clear hY hG)
        refine bodyPost_ret (results_row_1 rfl _ _ w.heap.size 58 _ _ rfl HY.out Try.underlying58 rfl (by kernel_rfl)) rfl ⟨(HF.out.trans HFR.out).step HGn.out (by simp), .inr ⟨kk, HE2.out, HK0.out, rfl⟩⟩
end Go.Proofs.Ytchbgiindfoepaa

/- The walks of confluxref02.Of and List (printed by gen_ref02.py). -/
namespace Go.Proofs.Ytchbgiindfoepaa
open Go.RowKit

def bitsL (m : Msk) (n : Nat) : List Bool := (List.range n).map m.has
theorem bitsL_succ (m : Msk) (n : Nat) : bitsL m (n + 1) = bitsL m n ++ [m.has n] := by unfold bitsL; rw [List.range_succ, List.map_append]; rfl
theorem bitsL_len (m : Msk) (n : Nat) : (bitsL m n).length = n := by unfold bitsL; simp
set_option maxRecDepth 100000 in
theorem info_bool : (Try.prog.info? 4).map (fun i => (i.zero, i.size, i.bytes)) = some (some (.bool false), 1, 1) := by kernel_rfl
set_option maxRecDepth 100000 in
theorem info_int : (Try.prog.info? 3).map (fun i => (i.zero, i.size, i.bytes)) = some (some (.int .i64 0), 1, 8) := by kernel_rfl
theorem shr_bit (x : BitVec 64) (k : Nat) : ((((x.toNat : Nat) : Int) / 2 ^ k).tmod 2 == 1) = x.getLsbD k := by
  have h : ((x.toNat : Nat) : Int) / 2 ^ k = ((x.toNat / 2 ^ k : Nat) : Int) := by simp
  rw [h]
  have h2 : (((x.toNat / 2 ^ k : Nat) : Int)).tmod 2 = ((x.toNat / 2 ^ k % 2 : Nat) : Int) := by
    rw [Int.tmod_eq_emod_of_nonneg (Int.natCast_nonneg _)]
    rfl
  rw [h2, BitVec.getLsbD, Nat.testBit_eq_decide_div_mod_eq, Bool.eq_iff_iff]
  simp
  omega
set_option maxRecDepth 100000 in
set_option maxHeartbeats 4000000 in
theorem r02Of_any (m : Msk) {w : World} :
    Calls Try.prog 95 #[.int .u64 (m.hi.toNat : Nat), .int .u64 (m.lo.toNat : Nat)] w fun e w' => ∃ v, e = .returned v ∧ OwnV w' w.heap.size 4 Value.bool v (bitsL m 128) ∧ Fr [] w w' := by
  obtain ⟨w1, e1, hF, hB1, hs1⟩ := one_new w #[] 4
  have HO : Hid (OwnV w1 w.heap.size 4 Value.bool (.slice (some ⟨w.heap.size, 0, none⟩) 0 0) (bitsL m 0)) := Lib.hid (by subst e1; exact OwnV.made w w.heap.size _ _ (Nat.le_refl _))
  have E1 := Lib.hid e1; have HF := Lib.hid hF
  clear e1 hF hB1 hs1
  go_enter Try.func95, Try.ntmps95
  go_upto_region 3 with fail
  try rw [E1.out]
  clear E1
  go_loopw [5, 6] (fun ov iv wr => ∃ j : Nat, j ≤ 64 ∧ iv = .int .i64 (63 - (j : Int)) ∧ OwnV wr w.heap.size 4 Value.bool ov (bitsL m (j)) ∧ Fr [] w wr) (fun _ iv _ => ((intOf iv) + 1).toNat)
  case atStart => exact ⟨0, by omega, rfl, HO.out, HF.out⟩
  case round =>
    clear HO HF
    obtain ⟨j, hj, rfl, hO, hF⟩ := hrel
    obtain ⟨ao, no, co, rfl⟩ := hO.isSlice
    have HO := Lib.hid hO; have HFQ := Lib.hid hF
    clear hO hF
    by_cases hlt : j < 64
    · have HLO : Hid ((bitsL m (j)).length ≤ 1099511627776) := Lib.hid (by rw [bitsL_len]; omega)
      obtain ⟨k, hk⟩ : ∃ k : Nat, k + j = 63 := ⟨63 - j, by omega⟩
      have hkk : (63 : Int) - (j : Int) = (k : Int) := by omega
      rw [hkk]
      have hk64 : k < 64 := by omega
      have HH : Hid (m.hi.getLsbD k = m.has (j)) := Lib.hid (by unfold Msk.has; rw [if_pos hlt, show 63 - j = k by omega])
      have HSN := Lib.hid (bitsL_succ m (j))
      have HKK := Lib.hid hkk
      clear hkk
      have hsh := shr_bit m.hi k
      rw [HH.out] at hsh
      generalize m.has (j) = hb at *
      have A0 : Hid ((wr.alloc (.cells #[Value.bool hb] 4)).ownsRow w.heap.size 4 1 (.slice ao no co) (bitsL m (j)).length ((bitsL m (j)).map Value.bool)) := Lib.hid (Own.keep HO.out ((Fr.refl [] wr).alloc _))
      have A1 : Hid ((bitsL m (j)).length + [Value.bool hb].length ≤ maxLen) := Lib.hid (by have := HLO.out; unfold maxLen; simp only [List.length_singleton]; omega)
      have A2 : Hid (((bitsL m (j)).length + [Value.bool hb].length) * 1 ≤ 140737488355328) := Lib.hid (by have := HLO.out; simp only [List.length_singleton]; omega)
      have A3 : Hid (Sl (wr.alloc (.cells #[Value.bool hb] 4)) (.slice (some ⟨wr.heap.size, 0, none⟩) 1 1) [Value.bool hb]) := Lib.hid (Sl.one wr _ _)
      have A4 : Hid (w.heap.size ≤ (wr.alloc (.cells #[Value.bool hb] 4)).heap.size) := Lib.hid (by have := HFQ.out.size; simp; omega)
      go_wp2_with (at_builtin; refine wpList_append_slf rfl (.tmp 13) (.tmp 19) 155 rfl w.heap.size 4 (.bool false) 1 Try.underlying155 info_bool rfl (.slice ao no co) (bitsL m (j)).length ((bitsL m (j)).map Value.bool) rfl A0.out (.slice (some ⟨wr.heap.size, 0, none⟩) 1 1) [Value.bool hb] rfl A3.out (by simp [Value.oneCell']) A1.out A2.out A4.out ?_; intro v3 w3 ho hg hfr; have HO3 := Lib.hid ho; have HG := Lib.hid hg; have HBL := Lib.hid hfr; clear ho hg hfr)
      have HN : Hid (OwnV w3 w.heap.size 4 Value.bool v3 (bitsL m (j) ++ [hb])) := Lib.hid (by
        have := HO3.out
        unfold OwnV
        rw [List.map_append, List.length_append]
        exact this)
      have HF3 : Hid (Fr [] w w3) := Lib.hid ((HFQ.out.alloc _).step HG.out (fun x hx => .inr (HO.out.block x (by simpa using hx)).1))
      rw [← HSN.out] at HN
      have hk2 := HKK.out
      have hk3 : (k : Int) - 1 = 63 - ((j + 1 : Nat) : Int) := by omega
      go_wp2_with fail
      exact ⟨⟨j + 1, by omega, by rw [← hk3], HN.out, HF3.out⟩, by first | (simp [intOf]; done) | (simp [intOf]; omega)⟩
    · obtain rfl : j = 64 := by omega
      rw [show (63 : Int) - ((64 : Nat) : Int) = -1 from rfl]
      have HO0 := HO
      have HF := HFQ
      clear HFQ
      go_upto_region 7 with fail
      go_loopw [5, 7] (fun ov iv wr => ∃ j : Nat, j ≤ 64 ∧ iv = .int .i64 (63 - (j : Int)) ∧ OwnV wr w.heap.size 4 Value.bool ov (bitsL m (64 + j)) ∧ Fr [] w wr) (fun _ iv _ => ((intOf iv) + 1).toNat)
      case atStart => exact ⟨0, by omega, rfl, HO.out, HF.out⟩
      case round =>
        clear HO HF
        obtain ⟨j, hj, rfl, hO, hF⟩ := hrel
        obtain ⟨ao, no, co, rfl⟩ := hO.isSlice
        have HO := Lib.hid hO; have HFQ := Lib.hid hF
        clear hO hF
        by_cases hlt : j < 64
        · have HLO : Hid ((bitsL m (64 + j)).length ≤ 1099511627776) := Lib.hid (by rw [bitsL_len]; omega)
          obtain ⟨k, hk⟩ : ∃ k : Nat, k + j = 63 := ⟨63 - j, by omega⟩
          have hkk : (63 : Int) - (j : Int) = (k : Int) := by omega
          rw [hkk]
          have hk64 : k < 64 := by omega
          have HH : Hid (m.lo.getLsbD k = m.has (64 + j)) := Lib.hid (by unfold Msk.has; rw [if_neg (by omega), if_pos (by omega), show 127 - (64 + j) = k by omega])
          have HSN := Lib.hid (bitsL_succ m (64 + j))
          have HKK := Lib.hid hkk
          clear hkk
          have hsh := shr_bit m.lo k
          rw [HH.out] at hsh
          generalize m.has (64 + j) = hb at *
          have A0 : Hid ((wr.alloc (.cells #[Value.bool hb] 4)).ownsRow w.heap.size 4 1 (.slice ao no co) (bitsL m (64 + j)).length ((bitsL m (64 + j)).map Value.bool)) := Lib.hid (Own.keep HO.out ((Fr.refl [] wr).alloc _))
          have A1 : Hid ((bitsL m (64 + j)).length + [Value.bool hb].length ≤ maxLen) := Lib.hid (by have := HLO.out; unfold maxLen; simp only [List.length_singleton]; omega)
          have A2 : Hid (((bitsL m (64 + j)).length + [Value.bool hb].length) * 1 ≤ 140737488355328) := Lib.hid (by have := HLO.out; simp only [List.length_singleton]; omega)
          have A3 : Hid (Sl (wr.alloc (.cells #[Value.bool hb] 4)) (.slice (some ⟨wr.heap.size, 0, none⟩) 1 1) [Value.bool hb]) := Lib.hid (Sl.one wr _ _)
          have A4 : Hid (w.heap.size ≤ (wr.alloc (.cells #[Value.bool hb] 4)).heap.size) := Lib.hid (by have := HFQ.out.size; simp; omega)
          go_wp2_with (at_builtin; refine wpList_append_slf rfl (.tmp 25) (.tmp 31) 155 rfl w.heap.size 4 (.bool false) 1 Try.underlying155 info_bool rfl (.slice ao no co) (bitsL m (64 + j)).length ((bitsL m (64 + j)).map Value.bool) rfl A0.out (.slice (some ⟨wr.heap.size, 0, none⟩) 1 1) [Value.bool hb] rfl A3.out (by simp [Value.oneCell']) A1.out A2.out A4.out ?_; intro v3 w3 ho hg hfr; have HO3 := Lib.hid ho; have HG := Lib.hid hg; have HBL := Lib.hid hfr; clear ho hg hfr)
          have HN : Hid (OwnV w3 w.heap.size 4 Value.bool v3 (bitsL m (64 + j) ++ [hb])) := Lib.hid (by
            have := HO3.out
            unfold OwnV
            rw [List.map_append, List.length_append]
            exact this)
          have HF3 : Hid (Fr [] w w3) := Lib.hid ((HFQ.out.alloc _).step HG.out (fun x hx => .inr (HO.out.block x (by simpa using hx)).1))
          rw [← HSN.out] at HN
          have hk2 := HKK.out
          have hk3 : (k : Int) - 1 = 63 - ((j + 1 : Nat) : Int) := by omega
          go_wp2_with fail
          exact ⟨⟨j + 1, by omega, by rw [← hk3], HN.out, HF3.out⟩, by first | (simp [intOf]; done) | (simp [intOf]; omega)⟩
        · obtain rfl : j = 64 := by omega
          rw [show (63 : Int) - ((64 : Nat) : Int) = -1 from rfl]
          go_wp2_with fail
          go_ret
          exact ⟨_, rfl, HO.out, HFQ.out⟩
theorem Fr.refl' (w : World) : Fr [] w w := Fr.refl _ _
def idxL (bs : List Bool) (j : Nat) : List Nat := (List.range j).filter fun i => bs.getD i false
theorem idxL_len (bs : List Bool) (j : Nat) : (idxL bs j).length ≤ j := by
  unfold idxL
  have := List.length_filter_le (fun i => bs.getD i false) (List.range j)
  rwa [List.length_range] at this
theorem idxL_yes {bs : List Bool} {j : Nat} (hj : j < bs.length) (h : bs[j] = true) : idxL bs (j + 1) = idxL bs j ++ [j] := by
  unfold idxL
  rw [List.range_succ, List.filter_append, List.filter_cons_of_pos (by rw [List.getD_eq_getElem?_getD, List.getElem?_eq_getElem hj, h]; rfl)]
  rfl
theorem idxL_no {bs : List Bool} {j : Nat} (hj : j < bs.length) (h : bs[j] = false) : idxL bs (j + 1) = idxL bs j := by
  unfold idxL
  rw [List.range_succ, List.filter_append, List.filter_cons_of_neg (by rw [List.getD_eq_getElem?_getD, List.getElem?_eq_getElem hj, h]; simp)]
  simp
theorem idx_bits (m : Msk) : idxL (bitsL m 128) 128 = m.list := by
  unfold idxL Msk.list
  rw [List.range_eq_range']
  refine List.filter_congr fun i hi => ?_
  have h : i < 128 := by simpa [List.mem_range'_1] using hi
  rw [List.getD_eq_getElem?_getD, List.getElem?_eq_getElem (by rw [bitsL_len]; exact h)]
  unfold bitsL
  simp
abbrev NI (i : Nat) : Value := .int .i64 (i : Int)
set_option maxRecDepth 100000 in
set_option maxHeartbeats 4000000 in
theorem r02List_any {w : World} {v : Value} {bs : List Bool} (hb : Sl w v (bs.map Value.bool)) (hs : bs.length ≤ 1000) :
    Calls Try.prog 94 #[v] w fun e w' => ∃ v', e = .returned v' ∧ OwnV w' w.heap.size 3 NI v' (idxL bs bs.length) ∧ Fr [] w w' := by
  obtain ⟨av, cv, rfl⟩ := hb.shape
  rw [List.length_map] at hb ⊢
  obtain ⟨w1, e1, hF, hB1, hs1⟩ := one_new w #[] 3
  have HO : Hid (OwnV w1 w.heap.size 3 NI (.slice (some ⟨w.heap.size, 0, none⟩) 0 0) (idxL bs 0)) := Lib.hid (by subst e1; exact OwnV.made w w.heap.size _ _ (Nat.le_refl _))
  have E1 := Lib.hid e1; have HF := Lib.hid hF; have HB := Lib.hid hb
  clear e1 hF hB1 hs1 hb
  go_enter Try.func94, Try.ntmps94
  go_upto_region 3 with fail
  try rw [E1.out]
  clear E1
  go_loopw [3, 4] (fun ov iv wr => ∃ j : Nat, j ≤ bs.length ∧ iv = .int .i64 j ∧ OwnV wr w.heap.size 3 NI ov (idxL bs j) ∧ Fr [] w wr) (fun _ iv _ => bs.length - (intOf iv).toNat)
  case atStart => exact ⟨0, by omega, rfl, HO.out, HF.out⟩
  case round =>
    clear HO HF
    obtain ⟨j, hj, rfl, hO, hF⟩ := hrel
    obtain ⟨ao, no, co, rfl⟩ := hO.isSlice
    have HO := Lib.hid hO; have HFQ := Lib.hid hF
    clear hO hF
    by_cases hlt : j < bs.length
    · have HLO : Hid ((idxL bs j).length ≤ 1099511627776) := Lib.hid (by have := idxL_len bs j; omega)
      obtain ⟨bp, op, ea, hbp, hcp⟩ := HB.out.at_ (k := j) hlt
      subst ea
      have e2 := HFQ.out.cellSome (hcp j (Value.bool bs[j]) (by rw [List.getElem?_map, List.getElem?_eq_getElem hlt]; rfl)) (by simp)
      clear hcp hbp
      cases hbj : bs[j] with
      | false =>
        have HSN := Lib.hid (idxL_no hlt hbj)
        rw [hbj] at e2
        clear hbj
        go_wp2_with fail
        exact ⟨⟨j + 1, by omega, by go_num, by rw [HSN.out]; exact HO.out, HFQ.out⟩, by simp [intOf]; omega⟩
      | true =>
        have HSN := Lib.hid (idxL_yes hlt hbj)
        rw [hbj] at e2
        clear hbj
        have A0 : Hid ((wr.alloc (.cells #[Value.int .i64 (j : Int)] 3)).ownsRow w.heap.size 3 1 (.slice ao no co) (idxL bs j).length ((idxL bs j).map NI)) := Lib.hid (Own.keep HO.out ((Fr.refl [] wr).alloc _))
        have A1 : Hid ((idxL bs j).length + [Value.int .i64 (j : Int)].length ≤ maxLen) := Lib.hid (by have := HLO.out; unfold maxLen; simp only [List.length_singleton]; omega)
        have A2 : Hid (((idxL bs j).length + [Value.int .i64 (j : Int)].length) * 8 ≤ 140737488355328) := Lib.hid (by have := HLO.out; simp only [List.length_singleton]; omega)
        have A3 : Hid (Sl (wr.alloc (.cells #[Value.int .i64 (j : Int)] 3)) (.slice (some ⟨wr.heap.size, 0, none⟩) 1 1) [Value.int .i64 (j : Int)]) := Lib.hid (Sl.one wr _ _)
        have A4 : Hid (w.heap.size ≤ (wr.alloc (.cells #[Value.int .i64 (j : Int)] 3)).heap.size) := Lib.hid (by have := HFQ.out.size; simp; omega)
        go_wp2_with (at_builtin; refine wpList_append_slf rfl (.tmp 16) (.tmp 18) 53 rfl w.heap.size 3 (.int .i64 0) 8 Try.underlying53 info_int rfl (.slice ao no co) (idxL bs j).length ((idxL bs j).map NI) rfl A0.out (.slice (some ⟨wr.heap.size, 0, none⟩) 1 1) [Value.int .i64 (j : Int)] rfl A3.out (by simp [Value.oneCell']) A1.out A2.out A4.out ?_; intro v3 w3 ho hg hfr; have HO3 := Lib.hid ho; have HG := Lib.hid hg; have HBL := Lib.hid hfr; clear ho hg hfr)
        have HN : Hid (OwnV w3 w.heap.size 3 NI v3 (idxL bs j ++ [j])) := Lib.hid (by
          have := HO3.out
          unfold OwnV
          rw [List.map_append, List.length_append]
          exact this)
        have HF3 : Hid (Fr [] w w3) := Lib.hid ((HFQ.out.alloc _).step HG.out (fun x hx => .inr (HO.out.block x (by simpa using hx)).1))
        rw [← HSN.out] at HN
        go_wp2_with fail
        exact ⟨⟨j + 1, by omega, by go_num, HN.out, HF3.out⟩, by simp [intOf]; omega⟩
    · obtain rfl : j = bs.length := by omega
      go_wp2_with fail
      go_ret
      exact ⟨_, rfl, HO.out, HFQ.out⟩
end Go.Proofs.Ytchbgiindfoepaa

/- The walks of confluxref02.From and Nums (printed by gen_ref02b.py). -/
namespace Go.Proofs.Ytchbgiindfoepaa
open Go.RowKit

def memL (xs : List Int) (n : Nat) : List Bool := (List.range n).map fun (i : Nat) => decide ((i : Int) ∈ xs)
theorem memL_succ (xs : List Int) (n : Nat) : memL xs (n + 1) = memL xs n ++ [decide ((n : Int) ∈ xs)] := by unfold memL; rw [List.range_succ, List.map_append]; rfl
theorem memL_len (xs : List Int) (n : Nat) : (memL xs n).length = n := by unfold memL; simp
set_option maxRecDepth 100000 in
set_option maxHeartbeats 8000000 in
theorem r02From_any {w : World} {v : Value} {xs : List Int} (hx : Ints w v xs) (hs : xs.length ≤ 1000) :
    Calls Try.prog 118 #[v] w fun e w' => ∃ v', e = .returned v' ∧ OwnV w' w.heap.size 4 Value.bool v' (memL xs 128) ∧ Fr [] w w' := by
  obtain ⟨av, cv, rfl⟩ := Sl.shape hx
  rw [List.length_map] at hx ⊢
  obtain ⟨w1, e1, hF, hB1, hs1⟩ := one_new w #[] 4
  have HO : Hid (OwnV w1 w.heap.size 4 Value.bool (.slice (some ⟨w.heap.size, 0, none⟩) 0 0) (memL xs 0)) := Lib.hid (by subst e1; exact OwnV.made w w.heap.size _ _ (Nat.le_refl _))
  have E1 := Lib.hid e1; have HF := Lib.hid hF; have HX0 := Lib.hid hx
  clear e1 hF hB1 hs1 hx
  go_enter Try.func118, Try.ntmps118
  go_upto_region 3 with fail
  try rw [E1.out]
  clear E1
  go_loopw [3, 4] (fun ov iv wr => ∃ j : Nat, j ≤ 128 ∧ iv = .int .i64 j ∧ OwnV wr w.heap.size 4 Value.bool ov (memL xs j) ∧ Fr [] w wr) (fun _ iv _ => 128 - (intOf iv).toNat)
  case atStart => exact ⟨0, by omega, rfl, HO.out, HF.out⟩
  case round =>
    clear HO HF
    obtain ⟨j, hj, rfl, hO, hF⟩ := hrel
    obtain ⟨ao, no, co, rfl⟩ := hO.isSlice
    have HO := Lib.hid hO; have HFQ := Lib.hid hF
    clear hO hF
    by_cases hlt : j < 128
    · have HX := Lib.hid (Sl.keep HX0.out HFQ.out)
      go_wp2_with fail
      go_loopw [5, 6] (fun bv iv wz => ∃ k : Nat, k ≤ xs.length ∧ iv = .int .i64 k ∧ bv = .bool (decide ((j : Int) ∈ xs.take k)) ∧ wz = wr) (fun _ iv _ => xs.length - (intOf iv).toNat)
      case atStart => exact ⟨0, Nat.zero_le _, rfl, by simp, rfl⟩
      case round =>
        obtain ⟨k, hk, rfl, rfl, rfl⟩ := hrel
        by_cases hkl : k < xs.length
        · obtain ⟨by_, oy, ea, -, -⟩ := Sl.at_ HX.out hkl
          subst ea
          have d0 := Ints.at_ HX.out k hkl
          have HT : Hid (xs.take (k + 1) = xs.take k ++ [xs[k]]) := Lib.hid (List.take_succ_eq_append_getElem hkl)
          generalize xs[k] = y at *
          by_cases hm : (j : Int) ∈ xs.take k
          · have HD : Hid (decide ((j : Int) ∈ xs.take (k + 1)) = true) := Lib.hid (by rw [HT.out]; simp [hm])
            rw [decide_eq_true hm]
            clear hm
            go_wp2_with fail
            exact ⟨⟨k + 1, by omega, by go_num, by rw [HD.out], by first | rfl | trivial⟩, by simp [intOf]; omega⟩
          rw [decide_eq_false hm]
          by_cases hy : y = (j : Int)
          · subst hy
            have HD : Hid (decide ((j : Int) ∈ xs.take (k + 1)) = true) := Lib.hid (by rw [HT.out]; simp)
            clear hm
            go_wp2_with fail
            exact ⟨⟨k + 1, by omega, by go_num, by rw [HD.out], by first | rfl | trivial⟩, by simp [intOf]; omega⟩
          · have HD : Hid (decide ((j : Int) ∈ xs.take (k + 1)) = false) := Lib.hid (by rw [HT.out]; simp only [List.mem_append, List.mem_singleton, hm, false_or, decide_eq_false_iff_not]; exact fun e => hy e.symm)
            have hyb : (y == (j : Int)) = false := by simpa using hy
            clear hm hy
            go_wp2_with fail
            exact ⟨⟨k + 1, by omega, by go_num, by rw [HD.out], by first | rfl | trivial⟩, by simp [intOf]; omega⟩
        · obtain rfl : k = xs.length := by omega
          rw [List.take_length]
          have HSN := Lib.hid (memL_succ xs j)
          have HLO : Hid ((memL xs j).length ≤ 1099511627776) := Lib.hid (by rw [memL_len]; omega)
          generalize decide ((j : Int) ∈ xs) = hb at *
          have A0 : Hid ((wr.alloc (.cells #[Value.bool hb] 4)).ownsRow w.heap.size 4 1 (.slice ao no co) (memL xs j).length ((memL xs j).map Value.bool)) := Lib.hid (Own.keep HO.out ((Fr.refl [] wr).alloc _))
          have A1 : Hid ((memL xs j).length + [Value.bool hb].length ≤ maxLen) := Lib.hid (by have := HLO.out; unfold maxLen; simp only [List.length_singleton]; omega)
          have A2 : Hid (((memL xs j).length + [Value.bool hb].length) * 1 ≤ 140737488355328) := Lib.hid (by have := HLO.out; simp only [List.length_singleton]; omega)
          have A3 : Hid (Sl (wr.alloc (.cells #[Value.bool hb] 4)) (.slice (some ⟨wr.heap.size, 0, none⟩) 1 1) [Value.bool hb]) := Lib.hid (Sl.one wr _ _)
          have A4 : Hid (w.heap.size ≤ (wr.alloc (.cells #[Value.bool hb] 4)).heap.size) := Lib.hid (by have := HFQ.out.size; simp; omega)
          go_wp2_with (at_builtin; refine wpList_append_slf rfl (.tmp 27) (.tmp 29) 155 rfl w.heap.size 4 (.bool false) 1 Try.underlying155 info_bool rfl (.slice ao no co) (memL xs j).length ((memL xs j).map Value.bool) rfl A0.out (.slice (some ⟨wr.heap.size, 0, none⟩) 1 1) [Value.bool hb] rfl A3.out (by simp [Value.oneCell']) A1.out A2.out A4.out ?_; intro v3 w3 ho hg hfr; have HO3 := Lib.hid ho; have HG := Lib.hid hg; have HBL := Lib.hid hfr; clear ho hg hfr)
          have HN : Hid (OwnV w3 w.heap.size 4 Value.bool v3 (memL xs j ++ [hb])) := Lib.hid (by
            have := HO3.out
            unfold OwnV
            rw [List.map_append, List.length_append]
            exact this)
          have HF3 : Hid (Fr [] w w3) := Lib.hid ((HFQ.out.alloc _).step HG.out (fun x hx => .inr (HO.out.block x (by simpa using hx)).1))
          rw [← HSN.out] at HN
          go_wp2_with fail
          exact ⟨⟨j + 1, by omega, by go_num, HN.out, HF3.out⟩, by simp [intOf]; omega⟩
    · obtain rfl : j = 128 := by omega
      go_wp2_with fail
      go_ret
      exact ⟨_, rfl, HO.out, HFQ.out⟩
theorem nums_step (x : BitVec 64) {j : Nat} (hj : j < 64) : x.toNat / 2 ^ (64 - (j + 1)) = 2 * (x.toNat / 2 ^ (64 - j)) + (if x.getLsbD (63 - j) then 1 else 0) := by
  obtain ⟨k, hk⟩ : ∃ k, k + j = 63 := ⟨63 - j, by omega⟩
  rw [show 64 - (j + 1) = k by omega, show 64 - j = k + 1 by omega, show 63 - j = k by omega, Nat.pow_succ, ← Nat.div_div_eq_div_mul, BitVec.getLsbD, Nat.testBit_eq_decide_div_mod_eq]
  have := Nat.div_add_mod (x.toNat / 2 ^ k) 2
  by_cases h : x.toNat / 2 ^ k % 2 = 1
  · simp only [h, decide_true, if_true]
    omega
  · have h0 : x.toNat / 2 ^ k % 2 = 0 := by omega
    simp only [h0]
    simp
    omega
set_option maxRecDepth 100000 in
set_option maxHeartbeats 8000000 in
theorem r02Nums_any {w : World} {v : Value} {m : Msk} (hb : Sl w v ((bitsL m 128).map Value.bool)) :
    Calls Try.prog 117 #[v] w fun e w' => e = .returned (.tuple #[.int .u64 (m.hi.toNat : Nat), .int .u64 (m.lo.toNat : Nat)]) ∧ Fr [] w w' := by
  obtain ⟨av, cv, rfl⟩ := hb.shape
  rw [List.length_map, bitsL_len] at hb ⊢
  have HB := Lib.hid hb
  have HC : Hid (∀ i, i < 128 → ∀ b o, av = some ⟨b, o, none⟩ → w.cell? ⟨b, o + i, none⟩ = some (.bool (m.has i))) := Lib.hid (fun i hi b o e => by
    obtain ⟨b', o', e2, -, hc⟩ := Sl.at_ hb (k := i) hi
    rw [e] at e2
    cases e2
    exact hc i (.bool (m.has i)) (by rw [List.getElem?_map, List.getElem?_eq_getElem (by rw [bitsL_len]; exact hi)]; unfold bitsL; simp))
  obtain ⟨b, o, ea, -, -⟩ := Sl.at_ hb (k := 0) (by omega)
  subst ea
  clear hb
  have hm1 := m.hi.isLt; have hm2 := m.lo.isLt
  have HM : Hid (m.hi.toNat < 18446744073709551616 ∧ m.lo.toNat < 18446744073709551616) := Lib.hid ⟨hm1, hm2⟩
  clear hm1 hm2
  go_enter Try.func117, Try.ntmps117
  go_wp2_with fail
  go_loopw [4, 5, 6] (fun hv lv iv wr => ∃ j : Nat, j ≤ 64 ∧ iv = .int .i64 j ∧ hv = .int .u64 ((m.hi.toNat / 2 ^ (64 - j) : Nat) : Int) ∧ lv = .int .u64 ((m.lo.toNat / 2 ^ (64 - j) : Nat) : Int) ∧ wr = w) (fun _ _ iv _ => 64 - (intOf iv).toNat)
  case atStart => exact ⟨0, by omega, rfl, by rw [show 64 - 0 = 64 from rfl, Nat.div_eq_of_lt HM.out.1]; rfl, by rw [show 64 - 0 = 64 from rfl, Nat.div_eq_of_lt HM.out.2]; rfl, rfl⟩
  case round =>
    obtain ⟨j, hj, rfl, rfl, rfl, rfl⟩ := hrel
    by_cases hlt : j < 64
    · have d1 := HC.out j (by omega) b o rfl
      have d2 := HC.out (64 + j) (by omega) b o rfl
      have H1 : Hid (m.hi.toNat / 2 ^ (64 - (j + 1)) = 2 * (m.hi.toNat / 2 ^ (64 - j)) + if m.has j then 1 else 0) := Lib.hid (by rw [nums_step _ hlt, show m.hi.getLsbD (63 - j) = m.has j by unfold Msk.has; rw [if_pos hlt]])
      have H2 : Hid (m.lo.toNat / 2 ^ (64 - (j + 1)) = 2 * (m.lo.toNat / 2 ^ (64 - j)) + if m.has (64 + j) then 1 else 0) := Lib.hid (by rw [nums_step _ hlt, show m.lo.getLsbD (63 - j) = m.has (64 + j) by unfold Msk.has; rw [if_neg (by omega), if_pos (by omega), show 127 - (64 + j) = 63 - j by omega]])
      have H3 : Hid (m.hi.toNat / 2 ^ (64 - (j + 1)) < 18446744073709551616 ∧ m.lo.toNat / 2 ^ (64 - (j + 1)) < 18446744073709551616) := Lib.hid ⟨Nat.lt_of_le_of_lt (Nat.div_le_self _ _) HM.out.1, Nat.lt_of_le_of_lt (Nat.div_le_self _ _) HM.out.2⟩
      generalize m.hi.toNat / 2 ^ (64 - j) = h at *
      generalize m.lo.toNat / 2 ^ (64 - j) = l at *
      cases hbh : m.has j <;> cases hbl : m.has (64 + j) <;> (rw [hbh] at d1 H1; rw [hbl] at d2 H2; clear hbh hbl)
      all_goals
        have q1 := H1.out; have q2 := H2.out; have q3 := H3.out
        simp only [if_true, if_false, Bool.false_eq_true] at q1 q2
        have w1 : IntKind.u64.wrap ((h : Int) * 2) = ((2 * h : Nat) : Int) := by rw [show (h : Int) * 2 = ((2 * h : Nat) : Int) by omega]; exact wrap_u64_nat _ (by omega)
        have w2 : IntKind.u64.wrap ((l : Int) * 2) = ((2 * l : Nat) : Int) := by rw [show (l : Int) * 2 = ((2 * l : Nat) : Int) by omega]; exact wrap_u64_nat _ (by omega)
        go_wp2_with fail
        exact ⟨⟨j + 1, by omega, by go_num, by rw [q1]; congr 1 <;> omega, by rw [q2]; congr 1 <;> omega, by first | rfl | trivial⟩, by simp [intOf]; omega⟩
    · obtain rfl : j = 64 := by omega
      simp only [show 64 - 64 = 0 from rfl, Nat.pow_zero, Nat.div_one]
      go_wp2_with fail
      go_ret2
      exact ⟨rfl, Fr.refl _ _⟩
end Go.Proofs.Ytchbgiindfoepaa

/- Slices of rows put behind each other; a part of a slice's rows as elements. -/
namespace Go.Proofs.Ytchbgiindfoepaa
open Go.RowKit

section
variable {α : Type} {k : Nat} {R : World → List Value → α → List Nat → Prop}
theorem Els.append : ∀ {ys zs : List α} {w : World} {c1 c2 : List Value} {B1 B2 : List Nat}, Els R ys w c1 B1 → Els R zs w c2 B2 → Els R (ys ++ zs) w (c1 ++ c2) (B1 ++ B2)
  | [], zs, w, c1, c2, B1, B2, h, h2 => by obtain ⟨rfl, rfl⟩ := h; exact h2
  | y :: ys, zs, w, c1, c2, B1, B2, h, h2 => by
    obtain ⟨c, rest, D1, D2, rfl, rfl, h3, h4⟩ := h
    exact ⟨c, rest ++ c2, D1, D2 ++ B2, by simp, by simp, h3, Els.append h4 h2⟩
/-- 'append(s, part...)' in a region that draws. -/
theorem step_append_els {P : Program} {ops : Array Oper} {o : Oper} {a : Act} {w : World} {K : Act → World → Prop} {Q : Exit → Act → World → Prop} {E : Prop} (hR : Rep k R) (hk : 0 < k)
    (hgd : o.guard = none) (s x : Operand) (t : TypeId) (ho : o.op = .call { callee := .builtin .append, args := #[s, x], argTypes := #[t, t] })
    (base : Nat) (e : TypeId) (z : Value) (bytes : Nat) (ht : P.underlying t = some (.slice e)) (hi : (P.info? e).map (fun i => (i.zero, i.size, i.bytes)) = some (some z, k, bytes)) (hz : z.cells.size = k)
    (v : Value) (ys : List α) (B : List Nat) (hs : a.eval s = v) (hown : OwnEls k R w base e v ys B)
    (ad : Addr) (m c : Nat) (hx : a.eval x = .slice (some ad) m c) (zs : List α) (hm : zs.length = m) (cells : List Value) (B2 : List Nat) (hc : Els R zs w cells B2) (hnews : ∀ j u, cells[j]? = some u → w.cell? (ad.add j) = some u) (hdis : ∀ b, blockOf v = some b → b ∉ B2)
    (h63 : ys.length + m ≤ maxLen) (hbytes : (ys.length + m) * bytes ≤ 140737488355328) (hbase : base ≤ w.heap.size)
    (h : ∀ v' w', OwnEls k R w' base e v' (ys ++ zs) (B ++ B2) → Fr (blockOf v).toList w w' → (∀ b, blockOf v' = some b → blockOf v = some b ∨ w.heap.size ≤ b) → K (a.put o.dst v') w') :
    if Region.wanted o (yielded ops a.tmps) = true then Oper.wp P o a w K Q else E := by
  subst hm
  obtain ⟨own, h1, h2, h3⟩ := hown
  refine step_append_fr hgd s x t ho base e z k bytes ht hi hz hk v ys.length own hs h1 ad zs.length c cells hx (hc.len hR) hnews (hc.one hR) h63 hbytes hbase ?_
  intro v' w' q1 q2 q3 q4
  refine h v' w' ⟨own ++ cells, by simpa using q1, Els.append (h2.fr hR q2 (fun b hb hm => h3 b (by simpa using hm) hb)) (hc.fr hR q2 (fun b hb hm => hdis b (by simpa using hm) hb)), ?_⟩ q2 q3
  intro b hb hm
  rcases q3 b hb with hv | hn
  · rcases List.mem_append.1 hm with hm | hm
    · exact h3 b hv hm
    · exact hdis b hv hm
  · rcases List.mem_append.1 hm with hm | hm
    · have := h2.lt hR b hm; omega
    · have := hc.lt hR b hm; omega
end
theorem els_rows {w : World} : ∀ {vs : List Value} {ls : List (List UInt8)}, vs.length = ls.length → (∀ (i : Nat) (x : Value) (a : List UInt8), vs[i]? = some x → ls[i]? = some a → Bytes w x a) → ∃ B, Els BytesR ls w vs B
  | [], [], _, _ => ⟨[], rfl, rfl⟩
  | v :: vs, l :: ls, hl, h => by
    obtain ⟨B, hB⟩ := els_rows (vs := vs) (ls := ls) (by simpa using hl) (fun i x a hx ha => h (i + 1) x a (by simpa using hx) (by simpa using ha))
    exact ⟨(liveOf v).toList ++ B, [v], vs, (liveOf v).toList, B, rfl, rfl, ⟨v, rfl, h 0 v l rfl rfl, rfl⟩, hB⟩
theorem BRows.nil (w : World) : BRows w (.slice none 0 0) [] := ⟨[], Sl.nil w, rfl, fun i x a hx => by simp at hx⟩
theorem BRows.pre {w : World} {a : Option Addr} {n c : Nat} {ls : List (List UInt8)} (h : BRows w (.slice a n c) ls) (k : Nat) (hk : k ≤ n) (c' : Nat) (h1 : k ≤ c') (h2 : c' ≤ c) : BRows w (.slice a k c') (ls.take k) := by
  obtain ⟨vs, g1, g2, g3⟩ := h
  have hn := (g1.len).1
  refine ⟨vs.take k, g1.pre k c' hk h1 h2, by rw [List.length_take, List.length_take, g2], fun i x y hx hy => ?_⟩
  rw [List.getElem?_take] at hx hy
  split at hx
  · rename_i hi
    rw [if_pos hi] at hy
    exact g3 i x y hx hy
  · cases hx
/-- Rows from a place on. -/
theorem BRows.from_ {w : World} {b o n c : Nat} {ls : List (List UInt8)} (h : BRows w (.slice (some ⟨b, o, none⟩) n c) ls) (k m : Nat) (hk : k + m = n) : BRows w (.slice (if c = k then some ⟨b, o, none⟩ else some ⟨b, o + k, none⟩) m (c - k)) (ls.drop k) := by
  obtain ⟨vs, g1, g2, g3⟩ := h
  have hn := (g1.len).1
  have h2 := g1.sub' k m (by omega)
  rw [List.take_of_length_le (by rw [List.length_drop]; omega)] at h2
  refine ⟨vs.drop k, h2, by rw [List.length_drop, List.length_drop, g2], fun i x y hx hy => ?_⟩
  rw [List.getElem?_drop] at hx hy
  exact g3 (k + i) x y hx hy
/-- A part of rows, as elements: where it lies. -/
theorem rows_ad {w : World} {b o n c : Nat} {ls : List (List UInt8)} (h : BRows w (.slice (some ⟨b, o, none⟩) n c) ls) (k m : Nat) (hk : k + m ≤ n) :
    ∃ ad cells B, (if c = k then some (⟨b, o, none⟩ : Addr) else some ⟨b, o + k, none⟩) = some ad ∧ Els BytesR ((ls.drop k).take m) w cells B ∧ (∀ x ∈ B, x < w.heap.size) ∧ ∀ j u, cells[j]? = some u → w.cell? (ad.add j) = some u := by
  obtain ⟨vs, g1, g2, g3⟩ := h
  obtain ⟨hn, hnc, -, -⟩ := g1.len
  obtain ⟨B, hB⟩ := els_rows (w := w) (vs := (vs.drop k).take m) (ls := (ls.drop k).take m) (by simp [g2]) (fun i x y hx hy => by
    rw [List.getElem?_take] at hx hy
    split at hx
    · rename_i hi
      rw [if_pos hi, List.getElem?_drop] at hy
      rw [List.getElem?_drop] at hx
      exact g3 (k + i) x y hx hy
    · cases hx)
  by_cases hc : c = k
  · refine ⟨⟨b, o, none⟩, _, B, by rw [if_pos hc], hB, hB.lt Rep.bytes, fun j u hj => ?_⟩
    have := (List.getElem?_eq_some_iff.1 hj).1
    rw [List.length_take] at this
    omega
  · refine ⟨⟨b, o + k, none⟩, _, B, by rw [if_neg hc], hB, hB.lt Rep.bytes, fun j u hj => ?_⟩
    have hj' := hj
    rw [List.getElem?_take] at hj
    split at hj
    · rename_i hi
      rw [List.getElem?_drop] at hj
      obtain ⟨b', o', e, -, hc2⟩ := g1.at_ (k := k + j) (by omega)
      cases e
      rw [Addr.add_mid]
      have := hc2 (k + j) u hj
      simpa [Nat.add_assoc] using this
    · cases hj
end Go.Proofs.Ytchbgiindfoepaa

/- The walk of confluxref01.Ahead. -/
namespace Go.Proofs.Ytchbgiindfoepaa
open Go.RowKit

set_option maxRecDepth 100000 in
set_option maxHeartbeats 1000000 in
theorem r01Ahead_any (a b : UInt16) {w : World} :
    Calls Try.prog 116 #[.int .u16 (a.toNat : Nat), .int .u16 (b.toNat : Nat)] w fun e w' => e = .returned (.int .i64 (ahd a b)) ∧ Fr [] w w' := by
  have ha : a.toNat < 65536 := a.toNat_lt
  have hb : b.toNat < 65536 := b.toNat_lt
  have hF := Lib.hid (Fr.refl [] w)
  have h1 : (((a.toNat : Nat) : Int) - ((b.toNat : Nat) : Int) + 65536).tmod 65536 = (((a - b).toNat : Nat) : Int) := by
    rw [Int.tmod_eq_emod_of_nonneg (by omega), UInt16.toNat_sub]
    omega
  have h2 : (a - b).toNat < 65536 := (a - b).toNat_lt
  have HA : Hid (ahd a b = if (a - b).toNat < 32768 then ((a - b).toNat : Int) else ((a - b).toNat : Int) - 65536) := Lib.hid rfl
  generalize (a - b).toNat = d at *
  generalize a.toNat = x at *
  generalize b.toNat = y at *
  have HX := Lib.hid ha; have HY := Lib.hid hb; have H1 := Lib.hid h1; have H2 := Lib.hid h2
  clear ha hb h1 h2
  have X : Hid (∀ q : Int, q = (wrap64 (wrap64 (wrap64 (x : Int) - wrap64 (y : Int)) + 65536)).tmod 65536 → q = (d : Int)) := Lib.hid (by
    intro q hq
    have hx := HX.out; have hy := HY.out; have h1 := H1.out
    rw [IntWalk.wrap64_in (x : Int) (by omega), IntWalk.wrap64_in (y : Int) (by omega), IntWalk.wrap64_in ((x : Int) - (y : Int)) (by omega), IntWalk.wrap64_in ((x : Int) - (y : Int) + 65536) (by omega), h1] at hq
    exact hq)
  go_enter Try.func116, Try.ntmps116
  go_wp2
  all_goals
    go_ret
    refine ⟨ret_int ?_, hF.out⟩
    rename_i hq
    have h2 := H2.out
    have e := X.out _ rfl
    rw [e] at hq ⊢
    rw [HA.out]
    split
    · first | omega | (rw [IntWalk.wrap64_in _ (by omega)])
    · first | omega | (rw [IntWalk.wrap64_in _ (by omega)])
end Go.Proofs.Ytchbgiindfoepaa
