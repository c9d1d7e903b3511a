import Derived.Maps.Own
import Derived.Maps.Views
import Derived.Test.YtchbgiindfoepaaGreatMz34
import Derived.Test.YtchbgiindfoepaaGreatMz10
import Derived.Test.YtchbgiindfoepaaGreatMz1
import Derived.Test.YtchbgiindfoepaaGreatMz33
import Derived.Test.YtchbgiindfoepaaGreatMz21
import Derived.Test.YtchbgiindfoepaaGreatMz25
/- The walk of parity.Some (printed by gen_some.py). -/
namespace Go.Proofs.YtchbgiindfoepaaGreat
open Go.RowKit Go.Maps

def Ints (w : World) (v : Value) (xs : List Int) : Prop := Sl w v (xs.map (Value.int .i64))
/-- Are places in range, each once? -/
def pickOk (n : Nat) (xs : List Int) : Prop := (∀ x ∈ xs, 0 ≤ x ∧ x < n) ∧ xs.Nodup
instance (n : Nat) (xs : List Int) : Decidable (pickOk n xs) := by unfold pickOk; infer_instance
def pick (ls : List (List UInt8)) (xs : List Int) : List (List UInt8) := xs.map fun x => ls.getD x.toNat []
def someR (ls : List (List UInt8)) (xs : List Int) : Except Int Rep_ := if pickOk ls.length xs then mkP (pick ls xs) else .error 1
def seenD (xs : List Int) : DataW Unit := xs.foldl (fun D x => D.put (.int .i64 x) (.lit (.bool true))) (.map [])
theorem seen_fold (y : Int) : ∀ (xs : List Int) (D : DataW Unit), IsMap D → (xs.foldl (fun D x => D.put (.int .i64 x) (.lit (.bool true))) D).atKey (.int .i64 y) (.lit (.bool false)) = if y ∈ xs then .lit (.bool true) else D.atKey (.int .i64 y) (.lit (.bool false))
  | [], D, _ => by simp
  | x :: xs, D, hD => by
    rw [List.foldl_cons, seen_fold y xs _ (hD.put _ _)]
    by_cases h : y ∈ xs
    · simp [h]
    · by_cases hx : y = x
      · subst hx
        simp [h, atKey_put_same hD (k := .int .i64 y) trivial]
      · have : ¬ y ∈ x :: xs := by simp [h, hx]
        rw [if_neg h, if_neg this, atKey_put_other (by simpa using hx)]
theorem seen_at (xs : List Int) (y : Int) : (seenD xs).atKey (.int .i64 y) (.lit (.bool false)) = .lit (.bool (decide (y ∈ xs))) := by
  unfold seenD
  rw [seen_fold y xs _ isMap_empty]
  by_cases h : y ∈ xs
  · simp [h]
  · simp [h, DataW.atKey]
theorem plainElem_bool_inv {P : Program} {e : TypeId} (he : P.underlying e = some .bool) {v : Value} {z : DataW Unit × List MemPlace} (h : plainElem P e v = some z) : ∃ a, v = .bool a ∧ z = (.lit (.bool a), []) := by
  unfold plainElem at h
  rw [he] at h
  cases v <;> simp at h
  exact ⟨_, rfl, h.symm⟩
theorem zeroBool (w : World) : (zeroValue 4).run Tryz.prog w = .ok (.bool false) w := by kernel_rfl
theorem keyInt : Keyed Tryz.prog 3 := int_keyed Tryz.underlying3
theorem Ints.at_ {w : World} {b o n c : Nat} {xs : List Int} (h : Ints w (.slice (some ⟨b, o, none⟩) n c) xs) (i : Nat) (hi : i < xs.length) : w.cell? ⟨b, o + i, none⟩ = some (.int .i64 xs[i]) := by
  have hlen : n = xs.length := by have := Sl.len h; simpa using this.1
  obtain ⟨b', o', e, _, hc⟩ := Sl.at_ h (k := i) (by omega)
  cases e
  exact hc i (.int .i64 xs[i]) (by rw [List.getElem?_map, List.getElem?_eq_getElem hi]; rfl)
theorem Els.bytes {w : World} : ∀ {ys : List (List UInt8)} {cells : List Value} {B : List Nat}, Els BytesR ys w cells B → cells.length = ys.length ∧ ∀ (i : Nat) (x : Value) (a : List UInt8), cells[i]? = some x → ys[i]? = some a → Bytes w x a
  | [], cells, B, h => by obtain ⟨rfl, rfl⟩ := h; exact ⟨rfl, fun i x a hx => by simp at hx⟩
  | y :: ys, cells, B, h => by
    obtain ⟨c, rest, B1, B2, rfl, rfl, ⟨v, rfl, hv, -⟩, h2⟩ := h
    obtain ⟨g1, g2⟩ := Els.bytes h2
    refine ⟨by simp [g1], fun i x a hx ha => ?_⟩
    cases i with
    | zero => simp at hx ha; subst hx ha; exact hv
    | succ i => exact g2 i x a (by simpa using hx) (by simpa using ha)
theorem SlEls.rows {w : World} {v : Value} {ys : List (List UInt8)} {B : List Nat} (h : SlEls 1 BytesR w v ys B) : BRows w v ys := by
  obtain ⟨cells, a, cap, rfl, h1, h2, h3, h4, h5⟩ := h
  obtain ⟨g1, g2⟩ := h4.bytes
  exact ⟨cells, ⟨a, cap, by rw [g1], by omega, h2, h3, h5⟩, g1, g2⟩
theorem BRows.at_ {w : World} {av : Option Addr} {n c : Nat} {ls : List (List UInt8)} (h : BRows w (.slice av n c) ls) (i : Nat) (hi : i < ls.length) :
    ∃ b o al cl, av = some ⟨b, o, none⟩ ∧ b < w.heap.size ∧ w.cell? ⟨b, o + i, none⟩ = some (.slice al ls[i].length cl) ∧ Bytes w (.slice al ls[i].length cl) ls[i] := by
  obtain ⟨cells, h1, h2, h3⟩ := h
  have hn := Sl.len h1
  have hic : i < cells.length := by omega
  obtain ⟨b, o, e, hb, hc⟩ := Sl.at_ h1 (k := i) (by omega)
  have hy := h3 i cells[i] ls[i] (List.getElem?_eq_getElem hic) (List.getElem?_eq_getElem hi)
  obtain ⟨al, cl, e2⟩ := hy.shape
  rw [List.length_map] at e2
  rw [e2] at hy
  exact ⟨b, o, al, cl, e, hb, by rw [hc i cells[i] (List.getElem?_eq_getElem hic), e2], hy⟩
theorem Fr.ownsMap {H : Type} {P : Program} {k : TypeId} {R : Value → Option (DataW H × List MemPlace)} {w w' : World} {S : List Nat} {b n : Nat} {D : DataW H} (hf : Fr S w w') (h : w.ownsMap P k R b n D) (hb : b ∉ S) : w'.ownsMap P k R b n D := by
  have hlt := h.lt
  obtain ⟨es, clock, h1, F, hs, hD⟩ := h
  exact ⟨es, clock, (hf.block b hlt hb).trans h1, F, hs, hD⟩
theorem seenD_snoc (xs : List Int) (x : Int) : (seenD xs).put (.int .i64 x) (.lit (.bool true)) = seenD (xs ++ [x]) := by unfold seenD; rw [List.foldl_append]; rfl
theorem pick_snoc (ls : List (List UInt8)) (xs : List Int) (x : Int) : pick ls (xs ++ [x]) = pick ls xs ++ [ls.getD x.toNat []] := by simp [pick]
theorem pickOk_snoc {n : Nat} {xs : List Int} {x : Int} (h : pickOk n xs) (h0 : 0 ≤ x) (h1 : x < n) (h2 : ¬ x ∈ xs) : pickOk n (xs ++ [x]) := by
  refine ⟨fun y hy => ?_, ?_⟩
  · rcases List.mem_append.1 hy with hy | hy
    · exact h.1 y hy
    · simp at hy; subst hy; exact ⟨h0, h1⟩
  · rw [List.nodup_append]
    refine ⟨h.2, by simp, fun a ha b hb => ?_⟩
    simp at hb
    subst hb
    exact fun e => h2 (by rw [← e]; exact ha)
theorem pickOk_bad {n : Nat} {a b : List Int} {x : Int} (h : ¬ (0 ≤ x ∧ x < n) ∨ x ∈ a) : ¬ pickOk n (a ++ x :: b) := by
  rintro ⟨h1, h2⟩
  rcases h with h | h
  · exact h (h1 x (by simp))
  · rw [List.nodup_append] at h2
    exact h2.2.2 x h x (by simp) rfl
set_option maxRecDepth 100000 in
theorem info_bs : (Tryz.prog.info? 25).map (fun i => (i.zero, i.size, i.bytes)) = some (some (.slice none 0 0), 1, 24) := by kernel_rfl
end Go.Proofs.YtchbgiindfoepaaGreat

/- The walks of confluxref02.Of and List (printed by gen_ref02.py). -/
namespace Go.Proofs.YtchbgiindfoepaaGreat
open Go.RowKit

def bitsL (m : Msk) (n : Nat) : List Bool := (List.range n).map m.has
theorem bitsL_succ (m : Msk) (n : Nat) : bitsL m (n + 1) = bitsL m n ++ [m.has n] := by unfold bitsL; rw [List.range_succ, List.map_append]; rfl
theorem bitsL_len (m : Msk) (n : Nat) : (bitsL m n).length = n := by unfold bitsL; simp
set_option maxRecDepth 100000 in
theorem info_bool : (Tryz.prog.info? 4).map (fun i => (i.zero, i.size, i.bytes)) = some (some (.bool false), 1, 1) := by kernel_rfl
set_option maxRecDepth 100000 in
theorem info_int : (Tryz.prog.info? 3).map (fun i => (i.zero, i.size, i.bytes)) = some (some (.int .i64 0), 1, 8) := by kernel_rfl
theorem shr_bit (x : BitVec 64) (k : Nat) : ((((x.toNat : Nat) : Int) / 2 ^ k).tmod 2 == 1) = x.getLsbD k := by
  have h : ((x.toNat : Nat) : Int) / 2 ^ k = ((x.toNat / 2 ^ k : Nat) : Int) := by simp
  rw [h]
  have h2 : (((x.toNat / 2 ^ k : Nat) : Int)).tmod 2 = ((x.toNat / 2 ^ k % 2 : Nat) : Int) := by
    rw [Int.tmod_eq_emod_of_nonneg (Int.natCast_nonneg _)]
    rfl
  rw [h2, BitVec.getLsbD, Nat.testBit_eq_decide_div_mod_eq, Bool.eq_iff_iff]
  simp
  omega
set_option maxRecDepth 100000 in
set_option maxHeartbeats 4000000 in
theorem r02Of_any (m : Msk) {w : World} :
    Calls Tryz.prog 64 #[.int .u64 (m.hi.toNat : Nat), .int .u64 (m.lo.toNat : Nat)] w fun e w' => ∃ v, e = .returned v ∧ OwnV w' w.heap.size 4 Value.bool v (bitsL m 128) ∧ Fr [] w w' := by
  obtain ⟨w1, e1, hF, hB1, hs1⟩ := one_new w #[] 4
  have HO : Hid (OwnV w1 w.heap.size 4 Value.bool (.slice (some ⟨w.heap.size, 0, none⟩) 0 0) (bitsL m 0)) := Lib.hid (by subst e1; exact OwnV.made w w.heap.size _ _ (Nat.le_refl _))
  have E1 := Lib.hid e1; have HF := Lib.hid hF
  clear e1 hF hB1 hs1
  go_enter Tryz.func64, Tryz.ntmps64
  go_upto_region 3 with fail
  try rw [E1.out]
  clear E1
  go_loopw [5, 6] (fun ov iv wr => ∃ j : Nat, j ≤ 64 ∧ iv = .int .i64 (63 - (j : Int)) ∧ OwnV wr w.heap.size 4 Value.bool ov (bitsL m (j)) ∧ Fr [] w wr) (fun _ iv _ => ((intOf iv) + 1).toNat)
  case atStart => exact ⟨0, by omega, rfl, HO.out, HF.out⟩
  case round =>
    clear HO HF
    obtain ⟨j, hj, rfl, hO, hF⟩ := hrel
    obtain ⟨ao, no, co, rfl⟩ := hO.isSlice
    have HO := Lib.hid hO; have HFQ := Lib.hid hF
    clear hO hF
    by_cases hlt : j < 64
    · have HLO : Hid ((bitsL m (j)).length ≤ 1099511627776) := Lib.hid (by rw [bitsL_len]; omega)
      obtain ⟨k, hk⟩ : ∃ k : Nat, k + j = 63 := ⟨63 - j, by omega⟩
      have hkk : (63 : Int) - (j : Int) = (k : Int) := by omega
      rw [hkk]
      have hk64 : k < 64 := by omega
      have HH : Hid (m.hi.getLsbD k = m.has (j)) := Lib.hid (by unfold Msk.has; rw [if_pos hlt, show 63 - j = k by omega])
      have HSN := Lib.hid (bitsL_succ m (j))
      have HKK := Lib.hid hkk
      clear hkk
      have hsh := shr_bit m.hi k
      rw [HH.out] at hsh
      generalize m.has (j) = hb at *
      have A0 : Hid ((wr.alloc (.cells #[Value.bool hb] 4)).ownsRow w.heap.size 4 1 (.slice ao no co) (bitsL m (j)).length ((bitsL m (j)).map Value.bool)) := Lib.hid (Own.keep HO.out ((Fr.refl [] wr).alloc _))
      have A1 : Hid ((bitsL m (j)).length + [Value.bool hb].length ≤ maxLen) := Lib.hid (by have := HLO.out; unfold maxLen; simp only [List.length_singleton]; omega)
      have A2 : Hid (((bitsL m (j)).length + [Value.bool hb].length) * 1 ≤ 140737488355328) := Lib.hid (by have := HLO.out; simp only [List.length_singleton]; omega)
      have A3 : Hid (Sl (wr.alloc (.cells #[Value.bool hb] 4)) (.slice (some ⟨wr.heap.size, 0, none⟩) 1 1) [Value.bool hb]) := Lib.hid (Sl.one wr _ _)
      have A4 : Hid (w.heap.size ≤ (wr.alloc (.cells #[Value.bool hb] 4)).heap.size) := Lib.hid (by have := HFQ.out.size; simp; omega)
      go_wp2_with (at_builtin; refine wpList_append_slf rfl (.tmp 13) (.tmp 19) 129 rfl w.heap.size 4 (.bool false) 1 Tryz.underlying129 info_bool rfl (.slice ao no co) (bitsL m (j)).length ((bitsL m (j)).map Value.bool) rfl A0.out (.slice (some ⟨wr.heap.size, 0, none⟩) 1 1) [Value.bool hb] rfl A3.out (by simp [Value.oneCell']) A1.out A2.out A4.out ?_; intro v3 w3 ho hg hfr; have HO3 := Lib.hid ho; have HG := Lib.hid hg; have HBL := Lib.hid hfr; clear ho hg hfr)
      have HN : Hid (OwnV w3 w.heap.size 4 Value.bool v3 (bitsL m (j) ++ [hb])) := Lib.hid (by
        have := HO3.out
        unfold OwnV
        rw [List.map_append, List.length_append]
        exact this)
      have HF3 : Hid (Fr [] w w3) := Lib.hid ((HFQ.out.alloc _).step HG.out (fun x hx => .inr (HO.out.block x (by simpa using hx)).1))
      rw [← HSN.out] at HN
      have hk2 := HKK.out
      have hk3 : (k : Int) - 1 = 63 - ((j + 1 : Nat) : Int) := by omega
      go_wp2_with fail
      exact ⟨⟨j + 1, by omega, by rw [← hk3], HN.out, HF3.out⟩, by first | (simp [intOf]; done) | (simp [intOf]; omega)⟩
    · obtain rfl : j = 64 := by omega
      rw [show (63 : Int) - ((64 : Nat) : Int) = -1 from rfl]
      have HO0 := HO
      have HF := HFQ
      clear HFQ
      go_upto_region 7 with fail
      go_loopw [5, 7] (fun ov iv wr => ∃ j : Nat, j ≤ 64 ∧ iv = .int .i64 (63 - (j : Int)) ∧ OwnV wr w.heap.size 4 Value.bool ov (bitsL m (64 + j)) ∧ Fr [] w wr) (fun _ iv _ => ((intOf iv) + 1).toNat)
      case atStart => exact ⟨0, by omega, rfl, HO.out, HF.out⟩
      case round =>
        clear HO HF
        obtain ⟨j, hj, rfl, hO, hF⟩ := hrel
        obtain ⟨ao, no, co, rfl⟩ := hO.isSlice
        have HO := Lib.hid hO; have HFQ := Lib.hid hF
        clear hO hF
        by_cases hlt : j < 64
        · have HLO : Hid ((bitsL m (64 + j)).length ≤ 1099511627776) := Lib.hid (by rw [bitsL_len]; omega)
          obtain ⟨k, hk⟩ : ∃ k : Nat, k + j = 63 := ⟨63 - j, by omega⟩
          have hkk : (63 : Int) - (j : Int) = (k : Int) := by omega
          rw [hkk]
          have hk64 : k < 64 := by omega
          have HH : Hid (m.lo.getLsbD k = m.has (64 + j)) := Lib.hid (by unfold Msk.has; rw [if_neg (by omega), if_pos (by omega), show 127 - (64 + j) = k by omega])
          have HSN := Lib.hid (bitsL_succ m (64 + j))
          have HKK := Lib.hid hkk
          clear hkk
          have hsh := shr_bit m.lo k
          rw [HH.out] at hsh
          generalize m.has (64 + j) = hb at *
          have A0 : Hid ((wr.alloc (.cells #[Value.bool hb] 4)).ownsRow w.heap.size 4 1 (.slice ao no co) (bitsL m (64 + j)).length ((bitsL m (64 + j)).map Value.bool)) := Lib.hid (Own.keep HO.out ((Fr.refl [] wr).alloc _))
          have A1 : Hid ((bitsL m (64 + j)).length + [Value.bool hb].length ≤ maxLen) := Lib.hid (by have := HLO.out; unfold maxLen; simp only [List.length_singleton]; omega)
          have A2 : Hid (((bitsL m (64 + j)).length + [Value.bool hb].length) * 1 ≤ 140737488355328) := Lib.hid (by have := HLO.out; simp only [List.length_singleton]; omega)
          have A3 : Hid (Sl (wr.alloc (.cells #[Value.bool hb] 4)) (.slice (some ⟨wr.heap.size, 0, none⟩) 1 1) [Value.bool hb]) := Lib.hid (Sl.one wr _ _)
          have A4 : Hid (w.heap.size ≤ (wr.alloc (.cells #[Value.bool hb] 4)).heap.size) := Lib.hid (by have := HFQ.out.size; simp; omega)
          go_wp2_with (at_builtin; refine wpList_append_slf rfl (.tmp 25) (.tmp 31) 129 rfl w.heap.size 4 (.bool false) 1 Tryz.underlying129 info_bool rfl (.slice ao no co) (bitsL m (64 + j)).length ((bitsL m (64 + j)).map Value.bool) rfl A0.out (.slice (some ⟨wr.heap.size, 0, none⟩) 1 1) [Value.bool hb] rfl A3.out (by simp [Value.oneCell']) A1.out A2.out A4.out ?_; intro v3 w3 ho hg hfr; have HO3 := Lib.hid ho; have HG := Lib.hid hg; have HBL := Lib.hid hfr; clear ho hg hfr)
          have HN : Hid (OwnV w3 w.heap.size 4 Value.bool v3 (bitsL m (64 + j) ++ [hb])) := Lib.hid (by
            have := HO3.out
            unfold OwnV
            rw [List.map_append, List.length_append]
            exact this)
          have HF3 : Hid (Fr [] w w3) := Lib.hid ((HFQ.out.alloc _).step HG.out (fun x hx => .inr (HO.out.block x (by simpa using hx)).1))
          rw [← HSN.out] at HN
          have hk2 := HKK.out
          have hk3 : (k : Int) - 1 = 63 - ((j + 1 : Nat) : Int) := by omega
          go_wp2_with fail
          exact ⟨⟨j + 1, by omega, by rw [← hk3], HN.out, HF3.out⟩, by first | (simp [intOf]; done) | (simp [intOf]; omega)⟩
        · obtain rfl : j = 64 := by omega
          rw [show (63 : Int) - ((64 : Nat) : Int) = -1 from rfl]
          go_wp2_with fail
          go_ret
          exact ⟨_, rfl, HO.out, HFQ.out⟩
theorem Fr.refl' (w : World) : Fr [] w w := Fr.refl _ _
def idxL (bs : List Bool) (j : Nat) : List Nat := (List.range j).filter fun i => bs.getD i false
theorem idxL_len (bs : List Bool) (j : Nat) : (idxL bs j).length ≤ j := by
  unfold idxL
  have := List.length_filter_le (fun i => bs.getD i false) (List.range j)
  rwa [List.length_range] at this
theorem idxL_yes {bs : List Bool} {j : Nat} (hj : j < bs.length) (h : bs[j] = true) : idxL bs (j + 1) = idxL bs j ++ [j] := by
  unfold idxL
  rw [List.range_succ, List.filter_append, List.filter_cons_of_pos (by rw [List.getD_eq_getElem?_getD, List.getElem?_eq_getElem hj, h]; rfl)]
  rfl
theorem idxL_no {bs : List Bool} {j : Nat} (hj : j < bs.length) (h : bs[j] = false) : idxL bs (j + 1) = idxL bs j := by
  unfold idxL
  rw [List.range_succ, List.filter_append, List.filter_cons_of_neg (by rw [List.getD_eq_getElem?_getD, List.getElem?_eq_getElem hj, h]; simp)]
  simp
theorem idx_bits (m : Msk) : idxL (bitsL m 128) 128 = m.list := by
  unfold idxL Msk.list
  rw [List.range_eq_range']
  refine List.filter_congr fun i hi => ?_
  have h : i < 128 := by simpa [List.mem_range'_1] using hi
  rw [List.getD_eq_getElem?_getD, List.getElem?_eq_getElem (by rw [bitsL_len]; exact h)]
  unfold bitsL
  simp
abbrev NI (i : Nat) : Value := .int .i64 (i : Int)
set_option maxRecDepth 100000 in
set_option maxHeartbeats 4000000 in
theorem r02List_any {w : World} {v : Value} {bs : List Bool} (hb : Sl w v (bs.map Value.bool)) (hs : bs.length ≤ 1000) :
    Calls Tryz.prog 63 #[v] w fun e w' => ∃ v', e = .returned v' ∧ OwnV w' w.heap.size 3 NI v' (idxL bs bs.length) ∧ Fr [] w w' := by
  obtain ⟨av, cv, rfl⟩ := hb.shape
  rw [List.length_map] at hb ⊢
  obtain ⟨w1, e1, hF, hB1, hs1⟩ := one_new w #[] 3
  have HO : Hid (OwnV w1 w.heap.size 3 NI (.slice (some ⟨w.heap.size, 0, none⟩) 0 0) (idxL bs 0)) := Lib.hid (by subst e1; exact OwnV.made w w.heap.size _ _ (Nat.le_refl _))
  have E1 := Lib.hid e1; have HF := Lib.hid hF; have HB := Lib.hid hb
  clear e1 hF hB1 hs1 hb
  go_enter Tryz.func63, Tryz.ntmps63
  go_upto_region 3 with fail
  try rw [E1.out]
  clear E1
  go_loopw [3, 4] (fun ov iv wr => ∃ j : Nat, j ≤ bs.length ∧ iv = .int .i64 j ∧ OwnV wr w.heap.size 3 NI ov (idxL bs j) ∧ Fr [] w wr) (fun _ iv _ => bs.length - (intOf iv).toNat)
  case atStart => exact ⟨0, by omega, rfl, HO.out, HF.out⟩
  case round =>
    clear HO HF
    obtain ⟨j, hj, rfl, hO, hF⟩ := hrel
    obtain ⟨ao, no, co, rfl⟩ := hO.isSlice
    have HO := Lib.hid hO; have HFQ := Lib.hid hF
    clear hO hF
    by_cases hlt : j < bs.length
    · have HLO : Hid ((idxL bs j).length ≤ 1099511627776) := Lib.hid (by have := idxL_len bs j; omega)
      obtain ⟨bp, op, ea, hbp, hcp⟩ := HB.out.at_ (k := j) hlt
      subst ea
      have e2 := HFQ.out.cellSome (hcp j (Value.bool bs[j]) (by rw [List.getElem?_map, List.getElem?_eq_getElem hlt]; rfl)) (by simp)
      clear hcp hbp
      cases hbj : bs[j] with
      | false =>
        have HSN := Lib.hid (idxL_no hlt hbj)
        rw [hbj] at e2
        clear hbj
        go_wp2_with fail
        exact ⟨⟨j + 1, by omega, by go_num, by rw [HSN.out]; exact HO.out, HFQ.out⟩, by simp [intOf]; omega⟩
      | true =>
        have HSN := Lib.hid (idxL_yes hlt hbj)
        rw [hbj] at e2
        clear hbj
        have A0 : Hid ((wr.alloc (.cells #[Value.int .i64 (j : Int)] 3)).ownsRow w.heap.size 3 1 (.slice ao no co) (idxL bs j).length ((idxL bs j).map NI)) := Lib.hid (Own.keep HO.out ((Fr.refl [] wr).alloc _))
        have A1 : Hid ((idxL bs j).length + [Value.int .i64 (j : Int)].length ≤ maxLen) := Lib.hid (by have := HLO.out; unfold maxLen; simp only [List.length_singleton]; omega)
        have A2 : Hid (((idxL bs j).length + [Value.int .i64 (j : Int)].length) * 8 ≤ 140737488355328) := Lib.hid (by have := HLO.out; simp only [List.length_singleton]; omega)
        have A3 : Hid (Sl (wr.alloc (.cells #[Value.int .i64 (j : Int)] 3)) (.slice (some ⟨wr.heap.size, 0, none⟩) 1 1) [Value.int .i64 (j : Int)]) := Lib.hid (Sl.one wr _ _)
        have A4 : Hid (w.heap.size ≤ (wr.alloc (.cells #[Value.int .i64 (j : Int)] 3)).heap.size) := Lib.hid (by have := HFQ.out.size; simp; omega)
        go_wp2_with (at_builtin; refine wpList_append_slf rfl (.tmp 16) (.tmp 18) 127 rfl w.heap.size 3 (.int .i64 0) 8 Tryz.underlying127 info_int rfl (.slice ao no co) (idxL bs j).length ((idxL bs j).map NI) rfl A0.out (.slice (some ⟨wr.heap.size, 0, none⟩) 1 1) [Value.int .i64 (j : Int)] rfl A3.out (by simp [Value.oneCell']) A1.out A2.out A4.out ?_; intro v3 w3 ho hg hfr; have HO3 := Lib.hid ho; have HG := Lib.hid hg; have HBL := Lib.hid hfr; clear ho hg hfr)
        have HN : Hid (OwnV w3 w.heap.size 3 NI v3 (idxL bs j ++ [j])) := Lib.hid (by
          have := HO3.out
          unfold OwnV
          rw [List.map_append, List.length_append]
          exact this)
        have HF3 : Hid (Fr [] w w3) := Lib.hid ((HFQ.out.alloc _).step HG.out (fun x hx => .inr (HO.out.block x (by simpa using hx)).1))
        rw [← HSN.out] at HN
        go_wp2_with fail
        exact ⟨⟨j + 1, by omega, by go_num, HN.out, HF3.out⟩, by simp [intOf]; omega⟩
    · obtain rfl : j = bs.length := by omega
      go_wp2_with fail
      go_ret
      exact ⟨_, rfl, HO.out, HFQ.out⟩
end Go.Proofs.YtchbgiindfoepaaGreat

/- The walks of confluxref01.Add, confluxref11.Seqs and Repair (printed by gen_ref11.py). -/
namespace Go.Proofs.YtchbgiindfoepaaGreat
open Go.RowKit

set_option maxHeartbeats 1000000 in
theorem r01Add_any (a : UInt16) {n : Nat} (hn : n < 65536) {w : World} :
    Calls Tryz.prog 65 #[.int .u16 (a.toNat : Nat), .int .i64 (n : Int)] w fun e w' => e = .returned (.int .u16 ((add16 a (n : Int)).toNat : Nat)) ∧ Fr [] w w' := by
  have ha := a.toNat_lt
  have hF := Lib.hid (Fr.refl [] w)
  have h1 : ((n : Int)).tmod 65536 = (n : Int) := by rw [Int.tmod_eq_emod_of_nonneg (by omega)]; omega
  have h2 : (((a.toNat : Nat) : Int) + (n : Int)).tmod 65536 = ((((a.toNat + n) % 65536 : Nat)) : Int) := by rw [Int.tmod_eq_emod_of_nonneg (by omega)]; omega
  have h3 : (add16 a (n : Int)).toNat = (a.toNat + n) % 65536 := by unfold add16; rw [UInt16.toNat_ofNat']; omega
  rw [h3]
  generalize a.toNat = x at *
  go_enter Tryz.func65, Tryz.ntmps65
  go_wp2
  go_ret
  refine ⟨ret_int ?_, hF.out⟩
  first | rfl | omega | (simp; omega)
set_option maxRecDepth 100000 in
set_option maxHeartbeats 4000000 in
theorem r11Seqs_any (base : UInt16) (m : Msk) {w : World} :
    Calls Tryz.prog 45 #[.int .u16 (base.toNat : Nat), .int .u64 (m.hi.toNat : Nat), .int .u64 (m.lo.toNat : Nat)] w fun e w' => ∃ v, e = .returned v ∧ OwnV w' w.heap.size 23 W16 v (seqsOf base m) ∧ Fr [] w w' := by
  obtain ⟨w1, e1, hF, hB1, hs1⟩ := one_new w #[] 23
  have HO : Hid (OwnV w1 w.heap.size 23 W16 (.slice (some ⟨w.heap.size, 0, none⟩) 0 0) []) := Lib.hid (by subst e1; exact OwnV.made w w.heap.size _ _ (Nat.le_refl _))
  have E1 := Lib.hid e1; have HF := Lib.hid hF
  clear e1 hF hB1 hs1
  go_enter Tryz.func45, Tryz.ntmps45
  go_upto_region 2 with fail
  try rw [E1.out]
  clear E1
  go_wp2_with fail
  refine (r02Of_any m).mono ?_
  rintro e w2 ⟨v2, rfl, hV, hF⟩
  have HO := Lib.hid (HO.out.keep hF)
  have HF := Lib.hid (HF.out.trans hF)
  have HV := Lib.hid hV.sl
  have HWS : Hid (w.heap.size < w2.heap.size) := Lib.hid (by have h1 := (HO.out.block w.heap.size rfl).2; exact h1)
  obtain ⟨a2, c2, rfl⟩ := hV.shape
  clear hV hF
  go_wp2_with fail
  refine (r02List_any HV.out (by rw [bitsL_len]; omega)).mono ?_
  rintro e w3 ⟨v3, rfl, hV, hF⟩
  have HO := Lib.hid (HO.out.keep hF)
  have HF := Lib.hid (HF.out.trans hF)
  rw [bitsL_len, idx_bits] at hV
  have HV := Lib.hid hV.sl
  obtain ⟨a3, c3, rfl⟩ := hV.shape
  have HVB : Hid (∀ b, blockOf (.slice a3 m.list.length c3) = some b → w.heap.size < b ∧ b < w3.heap.size) := Lib.hid (fun b hb => by have h1 := hV.block b hb; have h2 := HWS.out; omega)
  clear hV hF
  have hml := m.list_len
  have HML : Hid (∀ i ∈ m.list, i < 128) := Lib.hid (fun i hi => Msk.list_lt hi)
  have HSQ : Hid (seqsOf base m = m.list.map fun i => add16 base (i : Nat)) := Lib.hid rfl
  generalize m.list = is at *
  have HV0 := HV
  go_upto_region 4 with fail
  go_loopw [7, 9] (fun ov iv wr => ∃ j : Nat, j ≤ is.length ∧ iv = .int .i64 j ∧ OwnV wr w.heap.size 23 W16 ov ((is.take j).map fun (i : Nat) => add16 base i) ∧ Fr [] w wr ∧ Sl wr (.slice a3 is.length c3) (is.map NI) ∧ (∀ b, blockOf ov = some b → b = w.heap.size ∨ w3.heap.size ≤ b) ∧ w3.heap.size ≤ wr.heap.size) (fun _ iv _ => is.length - (intOf iv).toNat)
  case atStart => exact ⟨0, by omega, rfl, HO.out, HF.out, HV0.out, fun b hb => .inl (by simpa [blockOf] using hb.symm), Nat.le_refl _⟩
  case round =>
    clear HO HF
    obtain ⟨j, hj, rfl, hO, hF, hV, hob, hsz⟩ := hrel
    obtain ⟨ao, no, co, rfl⟩ := hO.isSlice
    have HO := Lib.hid hO; have HFQ := Lib.hid hF; have HV := Lib.hid hV; have HOB := Lib.hid hob; have HSZ := Lib.hid hsz
    clear hO hF hV hob hsz
    by_cases hlt : j < is.length
    · obtain ⟨bp, op, ea, hbp, hcp⟩ := HV.out.at_ (k := j) hlt
      subst ea
      have e2 := hcp j (NI is[j]) (by rw [List.getElem?_map, List.getElem?_eq_getElem hlt]; rfl)
      clear hcp hbp
      have hi := HML.out is[j] (List.getElem_mem hlt)
      have HSN : Hid ((is.take (j + 1)).map (fun (i : Nat) => add16 base i) = (is.take j).map (fun (i : Nat) => add16 base i) ++ [add16 base (is[j] : Nat)]) := Lib.hid (by rw [List.take_succ_eq_append_getElem hlt, List.map_append]; rfl)
      generalize is[j] = i at *
      go_wp2_with fail
      refine (r01Add_any base (by omega)).mono ?_
      rintro e w4 ⟨rfl, hF⟩
      have HO := Lib.hid (HO.out.keep hF); have HFQ := Lib.hid (HFQ.out.trans hF); have HV := Lib.hid (Sl.keep HV.out hF); have HSZ : Hid (w3.heap.size ≤ w4.heap.size) := Lib.hid (Nat.le_trans HSZ.out hF.size)
      clear hF e2
      have HLO : Hid (((is.take j).map fun (i : Nat) => add16 base i).length ≤ 1099511627776) := Lib.hid (by rw [List.length_map, List.length_take]; omega)
      have HIY := Lib.hid hi
      clear hi
      generalize add16 base (i : Nat) = y at *
      have A0 : Hid ((w4.alloc (.cells #[Value.int .u16 (y.toNat : Nat)] 23)).ownsRow w.heap.size 23 1 (.slice ao no co) (((is.take j).map fun (i : Nat) => add16 base i)).length ((((is.take j).map fun (i : Nat) => add16 base i)).map W16)) := Lib.hid (Own.keep HO.out ((Fr.refl [] w4).alloc _))
      have A1 : Hid ((((is.take j).map fun (i : Nat) => add16 base i)).length + [Value.int .u16 (y.toNat : Nat)].length ≤ maxLen) := Lib.hid (by have := HLO.out; unfold maxLen; simp only [List.length_singleton]; omega)
      have A2 : Hid (((((is.take j).map fun (i : Nat) => add16 base i)).length + [Value.int .u16 (y.toNat : Nat)].length) * 2 ≤ 140737488355328) := Lib.hid (by have := HLO.out; simp only [List.length_singleton]; omega)
      have A3 : Hid (Sl (w4.alloc (.cells #[Value.int .u16 (y.toNat : Nat)] 23)) (.slice (some ⟨w4.heap.size, 0, none⟩) 1 1) [Value.int .u16 (y.toNat : Nat)]) := Lib.hid (Sl.one w4 _ _)
      have A4 : Hid (w.heap.size ≤ (w4.alloc (.cells #[Value.int .u16 (y.toNat : Nat)] 23)).heap.size) := Lib.hid (by have := HFQ.out.size; simp; omega)
      go_wp2_with (at_builtin; refine wpList_append_slf rfl (.tmp 21) (.tmp 28) 41 rfl w.heap.size 23 (.int .u16 0) 2 Tryz.underlying41 info_u16 rfl (.slice ao no co) (((is.take j).map fun (i : Nat) => add16 base i)).length ((((is.take j).map fun (i : Nat) => add16 base i)).map W16) rfl A0.out (.slice (some ⟨w4.heap.size, 0, none⟩) 1 1) [Value.int .u16 (y.toNat : Nat)] rfl A3.out (by simp [Value.oneCell']) A1.out A2.out A4.out ?_; intro v3 w5 ho hg hfr; have HO3 := Lib.hid ho; have HG := Lib.hid hg; have HBL := Lib.hid hfr; clear ho hg hfr)
      have HN : Hid (OwnV w5 w.heap.size 23 W16 v3 (((is.take j).map fun (i : Nat) => add16 base i) ++ [y])) := Lib.hid (by
        have := HO3.out
        unfold OwnV
        rw [List.map_append, List.length_append]
        exact this)
      have HF3 : Hid (Fr [] w w5) := Lib.hid ((HFQ.out.alloc _).step HG.out (fun x hx => .inr (HO.out.block x (by simpa using hx)).1))
      rw [← HSN.out] at HN
      have hvn : Sl w5 (.slice (some ⟨bp, op, none⟩) is.length c3) (is.map NI) := Sl.frL (Sl.keep HV.out ((Fr.refl [] w4).alloc _)) HG.out (fun x hx hm => by have h1 := HVB.out x (live_block hx); have h2 := HOB.out x (by simpa using hm); omega)
      have hbn : ∀ b, blockOf v3 = some b → b = w.heap.size ∨ w3.heap.size ≤ b := fun b hb => by
        rcases HBL.out b hb with h | h
        · exact HOB.out b h
        · right
          have := HSZ.out
          simp at h
          omega
      have hsn : w3.heap.size ≤ w5.heap.size := by have := HSZ.out; have := HG.out.size; simp at this; omega
      have HVN := Lib.hid hvn; have HBN := Lib.hid hbn; have HSN2 := Lib.hid hsn
      clear hvn hbn hsn
      go_wp2_with fail
      exact ⟨⟨j + 1, by omega, by go_num, HN.out, HF3.out, HVN.out, HBN.out, HSN2.out⟩, by simp [intOf]; omega⟩
    · obtain rfl : j = is.length := by omega
      rw [List.take_length] at HO
      go_wp2_with fail
      go_ret
      exact ⟨_, rfl, by rw [HSQ.out]; exact HO.out, HFQ.out⟩
set_option maxRecDepth 100000 in
set_option maxHeartbeats 4000000 in
theorem r11Repair_any {w : World} {v : Value} {r : Rep_} (h : RpV w v r) :
    Calls Tryz.prog 22 #[v] w fun e w' => ∃ v', e = .returned v' ∧ OwnV w' w.heap.size 23 W16 v' (seqsOf r.base r.m) ∧ Fr [] w w' := by
  obtain ⟨vb, rfl, hb⟩ := h
  obtain ⟨a, n, c, rfl⟩ := Sl.isSlice hb
  obtain ⟨w1, e1, hF1, hB1, hs1⟩ := one_new w (rpc r (.slice a n c)) 27
  have HF := Lib.hid hF1; have HR := Lib.hid hB1; have E1 := Lib.hid e1
  clear hF1 hB1 e1 hs1 hb
  have x8 := HR.out.cell 8; have x9 := HR.out.cell 9; have x10 := HR.out.cell 10
  simp only [rpc, List.getElem?_toArray, List.getElem?_cons_succ, List.getElem?_cons_zero] at x8 x9 x10
  go_enter Tryz.func22, Tryz.ntmps22
  go_upto_region 1 with fail
  rw [E1.out]
  clear E1
  go_wp2_with fail
  refine (r11Seqs_any r.base r.m).mono ?_
  rintro e w2 ⟨v2, rfl, hV, hF⟩
  have HV : Hid (OwnV w2 w.heap.size 23 W16 v2 (seqsOf r.base r.m)) := Lib.hid (hV.mono HF.out.size)
  have HF := Lib.hid (HF.out.trans hF)
  obtain ⟨a2, c2, rfl⟩ := hV.shape
  clear hV hF x8 x9 x10
  go_wp2_with fail
  go_ret
  exact ⟨_, rfl, HV.out, HF.out⟩
end Go.Proofs.YtchbgiindfoepaaGreat

/- The walk of confluxref14.Find (printed by gen_find.py). -/
namespace Go.Proofs.YtchbgiindfoepaaGreat
open Go.RowKit

def isNo (n : UInt16) (l : List UInt8) : Bool := match parseR l with | .ok p => p.seq == n | .error _ => false
def findL (ls : List (List UInt8)) (n : UInt16) : Option (List UInt8) := ls.find? (isNo n)
theorem u16_beq (a b : UInt16) : (((a.toNat : Nat) : Int) == ((b.toNat : Nat) : Int)) = (a == b) := by
  rw [Bool.eq_iff_iff]
  simp [← UInt16.toNat_inj]
  omega
theorem find_none {ls : List (List UInt8)} {n : UInt16} (h : ∀ l ∈ ls, isNo n l = false) : findL ls n = none := by
  unfold findL
  rw [List.find?_eq_none]
  intro l hl
  simp [h l hl]
theorem find_at {ls : List (List UInt8)} {n : UInt16} {k : Nat} (hk : k < ls.length) (h : ∀ l ∈ ls.take k, isNo n l = false) (hy : isNo n ls[k] = true) : findL ls n = some ls[k] := by
  unfold findL
  rw [List.find?_eq_some_iff_append]
  exact ⟨hy, ls.take k, ls.drop (k + 1), by rw [List.getElem_cons_drop, List.take_append_drop], fun l hl => by simp [h l hl]⟩
theorem take_no {ls : List (List UInt8)} {n : UInt16} {k : Nat} (hk : k < ls.length) (h : ∀ l ∈ ls.take k, isNo n l = false) (hy : isNo n ls[k] = false) : ∀ l ∈ ls.take (k + 1), isNo n l = false := by
  rw [List.take_succ_eq_append_getElem hk]
  intro l hl
  rcases List.mem_append.1 hl with hl | hl
  · exact h l hl
  · rw [List.mem_singleton] at hl; subst hl; exact hy
set_option maxRecDepth 100000 in
set_option maxHeartbeats 8000000 in
theorem r14Find_any {w : World} {v : Value} {ls : List (List UInt8)} (hl : BRows w v ls) (n : UInt16) :
    Calls Tryz.prog 20 #[v, .int .u16 (n.toNat : Nat)] w fun e w' => ∃ v', e = .returned (.tuple #[v', .bool (findL ls n).isSome]) ∧ Bytes w' v' ((findL ls n).getD []) ∧ Fr [] w w' := by
  obtain ⟨av, cv, rfl⟩ := hl.shape
  have hlen := hl.len.2
  unfold maxLen at hlen
  have HL := Lib.hid hl
  clear hl
  go_enter Tryz.func20, Tryz.ntmps20
  go_wp2_with fail
  go_loopw [6] (fun iv wr => ∃ k : Nat, k ≤ ls.length ∧ iv = .int .i64 k ∧ (∀ l ∈ ls.take k, isNo n l = false) ∧ Fr [] w wr) (fun iv _ => ls.length - (intOf iv).toNat)
  case atStart => exact ⟨0, Nat.zero_le _, rfl, by simp, Fr.refl _ _⟩
  case round =>
    obtain ⟨k, hk, rfl, hno, hF⟩ := hrel
    have HNO := Lib.hid hno; have HF := Lib.hid hF
    clear hno hF
    by_cases hlt : k < ls.length
    · obtain ⟨b, o, al, cl, ea, -, hc, hx⟩ := (HL.out.keep HF.out).at_ k hlt
      subst ea
      have HX := Lib.hid hx; have HC := Lib.hid hc
      have d0 := hc
      clear hx hc
      go_wp2_with fail
      refine (R5Parse_any HX.out).mono ?_
      rintro e w2 (⟨vp, p, hp, rfl, hVp, hF⟩ | ⟨k2, hp, rfl, hF⟩)
      rotate_left
      · have hk2 : (k2 == 0) = false := by simpa using parseR_err hp
        have HNO := Lib.hid (take_no hlt HNO.out (by unfold isNo; rw [hp]))
        have HF := Lib.hid (HF.out.trans hF)
        clear hp hF d0
        unfold pz
        go_wp2_with (refine wpList_store_row rfl 66 (.tmp 7) (.tmp 21) rfl w2.heap.size rfl _ _ rfl 66 (Box.new w2 66 #[.bool false, .int .i64 0, .int .u16 0, .int .u32 0, .int .u32 0, .slice none 0 0, .bool false, .int .u16 0, .slice none 0 0, .slice none 0 0, .slice none 0 0]) (by kernel_rfl) rfl (oneCell_pz) ?_; intro w3 hY hG; have hFn := ((Fr.refl [] w2).alloc _).step hG (by simp); have HFn := Lib.hid hFn; have HY := Lib.hid hY; clear hG hFn hY)
        have HF := Lib.hid (HF.out.trans HFn.out)
        go_roundw
        case rel => exact ⟨k + 1, by omega, by go_num, HNO.out, HF.out⟩
        case measure => simp [intOf]; omega
      obtain ⟨q1, k1, q2, k2, q3, k3, q4, k4, rfl, -, -, -, -⟩ := hVp.open_
      have HP := Lib.hid hp
      have HX := Lib.hid (Sl.keep HX.out hF); have HC := Lib.hid (hF.cellSome HC.out (by simp)); have HF := Lib.hid (HF.out.trans hF)
      clear hp hF hVp d0
      go_upto_region 5 with (refine wpList_store_row rfl 66 (.tmp 7) (.tmp 21) rfl w2.heap.size rfl _ _ rfl 66 (Box.new w2 66 #[.bool false, .int .i64 0, .int .u16 0, .int .u32 0, .int .u32 0, .slice none 0 0, .bool false, .int .u16 0, .slice none 0 0, .slice none 0 0, .slice none 0 0]) (by kernel_rfl) rfl (oneCell_pc _ _ _ _ _ _ _ _ _ _ _ ⟨_, _, _, rfl⟩ ⟨_, _, _, rfl⟩ ⟨_, _, _, rfl⟩ ⟨_, _, _, rfl⟩) ?_; intro w3 hY hG; have hFn := ((Fr.refl [] w2).alloc _).step hG (by simp); have HFn := Lib.hid hFn; have HY := Lib.hid hY; clear hG hFn hY)
      have HX := Lib.hid (Sl.keep HX.out HFn.out); have HC := Lib.hid (HFn.out.cellSome HC.out (by simp)); have HF := Lib.hid (HF.out.trans HFn.out)
      have HPB := HY
      clear HFn HY
      generalize hgp : w2.heap.size = gp at *
      clear hgp
      obtain ⟨p0, p1, p2, p3, p4, p5, p6, p7, p8, p9, p10⟩ := HPB.out.pcells
      have d0 := HC.out
      by_cases hq : p.seq = n
      · have t1 : (((p.seq.toNat : Nat) : Int) == ((n.toNat : Nat) : Int)) = true := by rw [u16_beq, hq]; simp
        have HFD := Lib.hid (find_at hlt HNO.out (by unfold isNo; rw [HP.out]; simpa using hq))
        clear hq
        go_wp2_with fail
        go_ret2
        exact ⟨_, by rw [HFD.out]; rfl, by rw [HFD.out]; exact HX.out, HF.out⟩
      · have t1 : (((p.seq.toNat : Nat) : Int) == ((n.toNat : Nat) : Int)) = false := by rw [u16_beq]; simpa using hq
        have HNO := Lib.hid (take_no hlt HNO.out (by unfold isNo; rw [HP.out]; simpa using hq))
        clear hq
        go_wp2_with fail
        go_roundw
        case rel => exact ⟨k + 1, by omega, by go_num, HNO.out, HF.out⟩
        case measure => simp [intOf]; omega
    · obtain rfl : k = ls.length := by omega
      rw [List.take_length] at HNO
      have HFD := Lib.hid (find_none HNO.out)
      go_wp2_with fail
      go_ret2
      exact ⟨_, by rw [HFD.out]; rfl, by rw [HFD.out]; exact Sl.nil _, HF.out⟩
/-- What is known, as a function value: whatever the world has come to. -/
structure Knows (w : World) (gf : Nat) (lb : Array Value) (K : UInt16 → Option (List UInt8)) : Prop where
  eg : ∀ args W, (callFunc gf args).run Tryz.prog W = .ok (.enter gf args) W
  ask : ∀ (W : World) (n : UInt16), Fr [] w W → Calls Tryz.prog gf (#[.int .u16 (n.toNat : Nat)] ++ lb) W fun e w' => ∃ v', e = .returned (.tuple #[v', .bool (K n).isSome]) ∧ Bytes w' v' ((K n).getD []) ∧ Fr [] W w'
theorem Knows.keep {w w' : World} {gf : Nat} {lb : Array Value} {K : UInt16 → Option (List UInt8)} (h : Knows w gf lb K) (hf : Fr [] w w') : Knows w' gf lb K := ⟨h.eg, fun W n hW => h.ask W n (hf.trans hW)⟩
set_option maxRecDepth 100000 in
theorem l14by1_any {w : World} {g : Nat} {v : Value} {ls : List (List UInt8)} (hb : Box w g 29 #[v]) (hl : BRows w v ls) (n : UInt16) :
    Calls Tryz.prog 19 #[.int .u16 (n.toNat : Nat), .pointer (some ⟨g, 0, none⟩)] w fun e w' => ∃ v', e = .returned (.tuple #[v', .bool (findL ls n).isSome]) ∧ Bytes w' v' ((findL ls n).getD []) ∧ Fr [] w w' := by
  have HL := Lib.hid hl
  obtain ⟨av, cv, rfl⟩ := hl.shape
  have x0 := hb.cell 0
  simp only [List.getElem?_toArray, List.getElem?_cons_zero] at x0
  clear hl
  go_enter Tryz.func19, Tryz.ntmps19
  go_wp2_with fail
  refine (r14Find_any HL.out n).mono ?_
  rintro e w2 ⟨v', rfl, hb, hF⟩
  obtain ⟨a2, n2, c2, rfl⟩ := Sl.isSlice hb
  have HB := Lib.hid hb; have HF := Lib.hid hF
  clear hb hF x0
  go_wp2_with fail
  go_ret2
  exact ⟨_, rfl, HB.out, HF.out⟩
set_option maxRecDepth 100000 in
theorem l14by_any {w : World} {v : Value} {ls : List (List UInt8)} (hl : BRows w v ls) :
    Calls Tryz.prog 7 #[v] w fun e w' => ∃ g, e = .returned (.func (.func 19) #[] #[.pointer (some ⟨g, 0, none⟩)]) ∧ Knows w' 19 #[.pointer (some ⟨g, 0, none⟩)] (findL ls) ∧ Fr [] w w' := by
  obtain ⟨av, cv, rfl⟩ := hl.shape
  obtain ⟨w1, e1, hF, hB, hs⟩ := one_new w #[.slice av ls.length cv] 29
  have HL := Lib.hid (hl.keep hF); have HB := Lib.hid hB; have HF := Lib.hid hF
  have E1 := Lib.hid e1
  clear hl hB hF hs e1
  go_enter Tryz.func7, Tryz.ntmps7
  go_upto_region 1 with fail
  rw [E1.out]
  clear E1
  go_wp2_with fail
  go_ret
  exact ⟨_, rfl, ⟨enters_of Tryz.func19 (by kernel_rfl) rfl, fun W n hW => l14by1_any (HB.out.keep hW) (HL.out.keep hW) n⟩, HF.out⟩
end Go.Proofs.YtchbgiindfoepaaGreat

/- The walk of solve.look (printed by gen_look.py). -/
namespace Go.Proofs.YtchbgiindfoepaaGreat
open Go.RowKit

def lookB (K : UInt16 → Option (List UInt8)) (ss : UInt32) (n : UInt16) : Option Bt := match K n with
  | none => none
  | some l => match parseR l with
    | .ok p => if p.seq = n ∧ p.ssrc = ss then some (imp l) else none
    | .error _ => none
theorem u32_bne (a b : UInt32) : (((a.toNat : Nat) : Int) != ((b.toNat : Nat) : Int)) = !(a == b) := by
  rw [Bool.eq_iff_iff]
  simp [← UInt32.toNat_inj]
  omega
set_option maxRecDepth 100000 in
set_option maxHeartbeats 8000000 in
theorem svLook_any {w : World} {gf : Nat} {lb : Array Value} {K : UInt16 → Option (List UInt8)} (hK : Knows w gf lb K) (n : UInt16) (ss : UInt32) :
    Calls Tryz.prog 34 #[.int .u16 (n.toNat : Nat), .int .u32 (ss.toNat : Nat), .func (.func gf) #[] lb] w fun e w' => ∃ v', e = .returned (.tuple #[v', .bool (lookB K ss n).isSome]) ∧ BtV w' v' ((lookB K ss n).getD Bt.zero) ∧ Fr [] w w' := by
  obtain ⟨w1, e1, hF1, hB1, hs1⟩ := one_new w (bc Bt.zero (.slice none 0 0)) 54
  have HF := Lib.hid hF1; have HR := Lib.hid hB1; have E1 := Lib.hid e1; have HK := Lib.hid hK
  clear hF1 hB1 e1 hs1
  have eg := hK.eg
  clear hK
  go_enter Tryz.func34, Tryz.ntmps34
  go_upto_region 1 with fail
  first | rw [E1.out] | (have := E1.out; simp only [bc_zero] at this; rw [this]; clear this)
  clear E1
  go_wp2_with fail
  refine (HK.out.ask w1 n HF.out).mono ?_
  rintro e w2 ⟨v2, rfl, hb, hF⟩
  obtain ⟨a2, n2, c2, rfl⟩ := Sl.isSlice hb
  have HB := Lib.hid hb
  clear eg
  have HF := Lib.hid (HF.out.trans hF)
  have HR := Lib.hid (HR.out.keep hF)
  clear hF hb
  cases hkn : K n with
  | none =>
    have HL : Hid (lookB K ss n = none) := Lib.hid (by unfold lookB; rw [hkn])
    clear hkn
    go_wp2_with (refine wpList_store_row rfl 54 (.tmp 6) (.tmp 21) rfl w.heap.size rfl _ #[.int .u8 0, .int .u8 0, .int .u8 0, .int .u8 0, .int .u8 0, .int .u8 0, .int .u8 0, .int .u8 0, .slice none 0 0] rfl 54 HR.out (by kernel_rfl) rfl (by simp [bc, Value.oneCell']) ?_; intro w9 hY hG)
    refine bodyPost_ret (results_row_1 rfl _ _ w.heap.size 54 _ _ rfl hY Tryz.underlying54 rfl (by kernel_rfl)) rfl ⟨_, by rw [HL.out]; rfl, ?_, HF.out.step hG (by simp)⟩
    rw [HL.out]
    exact ⟨_, rfl, Sl.nil _⟩
  | some l =>
    have HKN := Lib.hid hkn
    rw [hkn] at HB
    clear hkn
    have HB : Hid (Bytes w2 (.slice a2 n2 c2) l) := HB
    go_wp2_with fail
    refine (Parse_any HB.out).mono ?_
    rintro e w3 (⟨vp, p, hp, rfl, hVp, hF⟩ | ⟨k2, hp, rfl, hF⟩)
    rotate_left
    · have hk2 : (k2 != 0) = true := by simpa using parseR_err hp
      have HL : Hid (lookB K ss n = none) := Lib.hid (by unfold lookB; rw [HKN.out]; simp only [hp])
      have HF := Lib.hid (HF.out.trans hF)
      have HR := Lib.hid (HR.out.keep hF)
      clear hF hp
      unfold pz
      go_upto_region 5 with (refine wpList_store_row rfl 66 (.tmp 10) (.tmp 25) rfl w3.heap.size rfl _ _ rfl 66 (Box.new w3 66 #[.bool false, .int .i64 0, .int .u16 0, .int .u32 0, .int .u32 0, .slice none 0 0, .bool false, .int .u16 0, .slice none 0 0, .slice none 0 0, .slice none 0 0]) (by kernel_rfl) rfl (oneCell_pz) ?_; intro w4 hY hG; have hFn := ((Fr.refl [] w3).alloc _).step hG (by simp); have HFn := Lib.hid hFn; have HY := Lib.hid hY; clear hG hFn hY)
      have HF := Lib.hid (HF.out.trans HFn.out); have HR := Lib.hid (HR.out.keep HFn.out)
      clear HFn HY
      go_wp2_with (refine wpList_store_row rfl 54 (.tmp 6) (.tmp 41) rfl w.heap.size rfl _ #[.int .u8 0, .int .u8 0, .int .u8 0, .int .u8 0, .int .u8 0, .int .u8 0, .int .u8 0, .int .u8 0, .slice none 0 0] rfl 54 HR.out (by kernel_rfl) rfl (by simp [bc, Value.oneCell']) ?_; intro w9 hY hG)
      refine bodyPost_ret (results_row_1 rfl _ _ w.heap.size 54 _ _ rfl hY Tryz.underlying54 rfl (by kernel_rfl)) rfl ⟨_, by rw [HL.out]; rfl, ?_, HF.out.step hG (by simp)⟩
      rw [HL.out]
      exact ⟨_, rfl, Sl.nil _⟩
    obtain ⟨q1, k1, q2, k2, q3, k3, q4, k4, rfl, -, -, -, -⟩ := hVp.open_
    have HP := Lib.hid hp
    have HF := Lib.hid (HF.out.trans hF)
    have HR := Lib.hid (HR.out.keep hF)
    have HB := Lib.hid (Sl.keep HB.out hF)
    clear hF hp hVp
    go_upto_region 5 with (refine wpList_store_row rfl 66 (.tmp 10) (.tmp 25) rfl w3.heap.size rfl _ _ rfl 66 (Box.new w3 66 #[.bool false, .int .i64 0, .int .u16 0, .int .u32 0, .int .u32 0, .slice none 0 0, .bool false, .int .u16 0, .slice none 0 0, .slice none 0 0, .slice none 0 0]) (by kernel_rfl) rfl (oneCell_pc _ _ _ _ _ _ _ _ _ _ _ ⟨_, _, _, rfl⟩ ⟨_, _, _, rfl⟩ ⟨_, _, _, rfl⟩ ⟨_, _, _, rfl⟩) ?_; intro w4 hY hG; have hFn := ((Fr.refl [] w3).alloc _).step hG (by simp); have HFn := Lib.hid hFn; have HY := Lib.hid hY; clear hG hFn hY)
    have hF := HFn.out
    have HF := Lib.hid (HF.out.trans hF)
    have HR := Lib.hid (HR.out.keep hF)
    have HB := Lib.hid (Sl.keep HB.out hF)
    have HPB := HY
    clear hF HFn HY
    generalize hgp : w3.heap.size = gp at *
    clear hgp
    obtain ⟨p0, p1, p2, p3, p4, p5, p6, p7, p8, p9, p10⟩ := HPB.out.pcells
    by_cases hq : p.seq = n ∧ p.ssrc = ss
    · have t1 : (((p.seq.toNat : Nat) : Int) != ((n.toNat : Nat) : Int)) = false := by rw [u16_bne, hq.1]; simp
      have t2 : (((p.ssrc.toNat : Nat) : Int) != ((ss.toNat : Nat) : Int)) = false := by rw [u32_bne, hq.2]; simp
      have HL : Hid (lookB K ss n = some (imp l)) := Lib.hid (by unfold lookB; rw [HKN.out]; simp only [HP.out]; rw [if_pos hq])
      clear hq
      go_upto_region 7 with fail
      clear t1 t2 p0 p1 p2 p3 p4 p5 p6 p7 p8 p9 p10
      go_wp2_with fail
      refine (impOf_any HB.out).mono ?_
      rintro e w5 (⟨v', p', hp', rfl, ⟨vi, rfl, hO⟩, hF⟩ | ⟨k, hp', -, -⟩)
      rotate_left
      · exact absurd (HP.out.symm.trans hp') (by simp)
      obtain ⟨ax, nx, cx, rfl⟩ := hO.isSlice
      have HO := Lib.hid hO
      have HRL0 : Hid (w.heap.size < w4.heap.size) := Lib.hid HR.out.lt
      have HF := Lib.hid (HF.out.trans hF); have HR := Lib.hid (HR.out.keep hF)
      clear hO hp' hF
      go_upto_region 8 with (refine wpList_store_row rfl 54 (.tmp 12) (.tmp 45) rfl w5.heap.size rfl _ _ rfl 54 (Box.new w5 54 (bc Bt.zero (.slice none 0 0))) (by kernel_rfl) rfl (by simp [bc, Value.oneCell']) ?_; intro w6 hY hG; have hFn := ((Fr.refl [] w5).alloc _).step hG (by simp); have HFn := Lib.hid hFn; have HY := Lib.hid hY; clear hG hFn hY)
      have HF := Lib.hid (HF.out.trans HFn.out); have HR := Lib.hid (HR.out.keep HFn.out); have HO := Lib.hid (HO.out.keep HFn.out)
      have HXB := HY
      clear HFn HY
      generalize hgx : w5.heap.size = gx at *
      have HGX := Lib.hid hgx
      clear hgx
      go_wp2_with (first | (refine wpList_load_row_w rfl 54 (.tmp 12) rfl gx rfl 54 _ _ HXB.out Tryz.underlying54 rfl (by kernel_rfl) ?_) | (refine wpList_store_row rfl 54 (.tmp 6) (.tmp 47) rfl w.heap.size rfl _ (bc (imp l) (.slice ax nx cx)) rfl 54 HR.out (by kernel_rfl) rfl (by simp [bc, Value.oneCell']) ?_; intro w9 hY hG))
      refine bodyPost_ret (results_row_1 rfl _ _ w.heap.size 54 _ _ rfl hY Tryz.underlying54 rfl (by kernel_rfl)) rfl ⟨_, by rw [HL.out]; rfl, ?_, HF.out.step hG (by simp)⟩
      rw [HL.out]
      exact ⟨_, rfl, (HO.out.fr hG (fun b hb hm => by have h1 := (HO.out.block b hb).1; have h2 := HRL0.out; simp at hm; omega)).bytes⟩
    · have HL : Hid (lookB K ss n = none) := Lib.hid (by unfold lookB; rw [HKN.out]; simp only [HP.out]; rw [if_neg hq])
      have hor : (((p.seq.toNat : Nat) : Int) != ((n.toNat : Nat) : Int)) = true ∨ (((p.seq.toNat : Nat) : Int) != ((n.toNat : Nat) : Int)) = false ∧ (((p.ssrc.toNat : Nat) : Int) != ((ss.toNat : Nat) : Int)) = true := by
        by_cases h1 : p.seq = n
        · right
          refine ⟨by rw [u16_bne, h1]; simp, ?_⟩
          rw [u32_bne]
          simpa using fun h2 => hq ⟨h1, h2⟩
        · left
          rw [u16_bne]
          simpa using h1
      clear hq
      rcases hor with t1 | ⟨t1, t2⟩
      · go_upto_region 6 with fail
        clear t1 p0 p1 p2 p3 p4 p5 p6 p7 p8 p9 p10
        go_wp2_with (refine wpList_store_row rfl 54 (.tmp 6) (.tmp 41) rfl w.heap.size rfl _ #[.int .u8 0, .int .u8 0, .int .u8 0, .int .u8 0, .int .u8 0, .int .u8 0, .int .u8 0, .int .u8 0, .slice none 0 0] rfl 54 HR.out (by kernel_rfl) rfl (by simp [bc, Value.oneCell']) ?_; intro w9 hY hG)
        refine bodyPost_ret (results_row_1 rfl _ _ w.heap.size 54 _ _ rfl hY Tryz.underlying54 rfl (by kernel_rfl)) rfl ⟨_, by rw [HL.out]; rfl, ?_, HF.out.step hG (by simp)⟩
        rw [HL.out]
        exact ⟨_, rfl, Sl.nil _⟩
      · go_upto_region 6 with fail
        clear t1 t2 p0 p1 p2 p3 p4 p5 p6 p7 p8 p9 p10
        go_wp2_with (refine wpList_store_row rfl 54 (.tmp 6) (.tmp 41) rfl w.heap.size rfl _ #[.int .u8 0, .int .u8 0, .int .u8 0, .int .u8 0, .int .u8 0, .int .u8 0, .int .u8 0, .int .u8 0, .slice none 0 0] rfl 54 HR.out (by kernel_rfl) rfl (by simp [bc, Value.oneCell']) ?_; intro w9 hY hG)
        refine bodyPost_ret (results_row_1 rfl _ _ w.heap.size 54 _ _ rfl hY Tryz.underlying54 rfl (by kernel_rfl)) rfl ⟨_, by rw [HL.out]; rfl, ?_, HF.out.step hG (by simp)⟩
        rw [HL.out]
        exact ⟨_, rfl, Sl.nil _⟩
end Go.Proofs.YtchbgiindfoepaaGreat

/- Plain laws on repairs of packets: what a repair is, the order of the packets, parts of them. No program in sight. -/
namespace Go.Proofs.YtchbgiindfoepaaGreat
open Go.RowKit

theorem Bt.ext_byte {x y : Bt} (hl : x.body.length = y.body.length) (h : ∀ i, x.byte i = y.byte i) : x = y := by
  obtain ⟨h1, h2⟩ := (Bt.same_iff x y).1 ((Bt.same_byte x y).2 h)
  obtain ⟨a0, a1, a2, a3, a4, a5, a6, a7, a⟩ := x
  obtain ⟨b0, b1, b2, b3, b4, b5, b6, b7, b⟩ := y
  unfold Bt.head at h1
  simp only [List.cons.injEq, and_true] at h1
  obtain ⟨rfl, rfl, rfl, rfl, rfl, rfl, rfl, rfl⟩ := h1
  have : a = b := ext_getD hl h2
  rw [this]
theorem Bt.add_comm (x y : Bt) : x.add y = y.add x := Bt.ext_byte (by rw [Bt.add_body_len, Bt.add_body_len, Nat.max_comm]) fun i => by rw [Bt.byte_add, Bt.byte_add, UInt8.xor_comm]
theorem Bt.add_assoc (x y z : Bt) : (x.add y).add z = x.add (y.add z) := Bt.ext_byte (by simp only [Bt.add_body_len, Nat.max_assoc]) fun i => by simp only [Bt.byte_add, UInt8.xor_assoc]
theorem Bt.zero_add (x : Bt) : Bt.zero.add x = x := by rw [Bt.add_comm, Bt.add_zero]
theorem Bt.fold_add : ∀ (xs : List Bt) (z : Bt), xs.foldl Bt.add z = z.add (Bt.all xs)
  | [], z => by simp [Bt.all, Bt.add_zero]
  | x :: xs, z => by
    unfold Bt.all
    rw [List.foldl_cons, List.foldl_cons, Bt.fold_add xs, Bt.fold_add xs (Bt.zero.add x), Bt.zero_add, Bt.add_assoc]
theorem Bt.all_append (xs ys : List Bt) : Bt.all (xs ++ ys) = (Bt.all xs).add (Bt.all ys) := by
  conv => lhs; unfold Bt.all
  rw [List.foldl_append, Bt.fold_add ys]
  rfl
theorem Bt.all_one (x : Bt) : Bt.all [x] = x := by simp [Bt.all, Bt.zero_add]
theorem Bt.all_perm {xs ys : List Bt} (h : xs.Perm ys) : Bt.all xs = Bt.all ys := by
  induction h with
  | nil => rfl
  | @cons x l₁ l₂ _ ih =>
    have e : ∀ l : List Bt, Bt.all (x :: l) = (Bt.all [x]).add (Bt.all l) := fun l => Bt.all_append [x] l
    rw [e l₁, e l₂, ih]
  | swap x y l => rw [show y :: x :: l = [y] ++ ([x] ++ l) from rfl, show x :: y :: l = [x] ++ ([y] ++ l) from rfl, Bt.all_append, Bt.all_append, Bt.all_append, Bt.all_append, ← Bt.add_assoc, ← Bt.add_assoc, Bt.add_comm (Bt.all [y])]
  | trans _ _ h1 h2 => rw [h1, h2]

def okF (l : List UInt8) : Prop := ∃ p, parseR l = .ok p
def seqF (l : List UInt8) : UInt16 := match parseR l with | .ok p => p.seq | .error _ => 0
def ssF (l : List UInt8) : UInt32 := match parseR l with | .ok p => p.ssrc | .error _ => 0
theorem add_sum (s : Sheet) (l : List UInt8) (p : Pkt) : (s.add l p).sum = s.sum.add (imp l) := by unfold Sheet.add Sheet.begun; split <;> rfl
theorem add_seqs (s : Sheet) (l : List UInt8) (p : Pkt) : (s.add l p).seqs = s.seqs ++ [p.seq] := by unfold Sheet.add Sheet.begun; split <;> rfl
theorem add_next {s : Sheet} (h : s.seqs ≠ []) (l : List UInt8) (p : Pkt) : (s.add l p).ssrc = s.ssrc ∧ (s.add l p).alike = (s.alike && p.ssrc == s.ssrc) := by unfold Sheet.add Sheet.begun; rw [if_neg h]; exact ⟨rfl, rfl⟩
theorem add_first (l : List UInt8) (p : Pkt) : (Sheet.zero.add l p).ssrc = p.ssrc ∧ (Sheet.zero.add l p).alike = true := by
  unfold Sheet.add Sheet.begun
  rw [if_pos (show Sheet.zero.seqs = [] from rfl)]
  exact ⟨rfl, by simp [Sheet.summed, Sheet.noted, Sheet.held]⟩
theorem runL_sum : ∀ {ls : List (List UInt8)} {s s' : Sheet}, runL ls s = .ok s' → s'.sum = (ls.map imp).foldl Bt.add s.sum ∧ s'.seqs = s.seqs ++ ls.map seqF ∧ ∀ l ∈ ls, okF l
  | [], s, s', h => by cases h; simp
  | l :: ls, s, s', h => by
    unfold runL at h
    cases hp : parseR l with
    | error k => rw [hp] at h; cases h
    | ok p =>
      rw [hp] at h
      obtain ⟨h1, h2, h3⟩ := runL_sum h
      refine ⟨by rw [h1, add_sum]; rfl, by rw [h2, add_seqs, List.map_cons]; simp [seqF, hp], fun k hk => ?_⟩
      rcases List.mem_cons.1 hk with rfl | hk
      · exact ⟨p, hp⟩
      · exact h3 k hk
theorem runL_total : ∀ {ls : List (List UInt8)} (s : Sheet), (∀ l ∈ ls, okF l) → ∃ s', runL ls s = .ok s'
  | [], s, _ => ⟨s, rfl⟩
  | l :: ls, s, h => by
    obtain ⟨p, hp⟩ := h l (by simp)
    unfold runL
    rw [hp]
    exact runL_total _ (fun k hk => h k (by simp [hk]))
theorem runL_next : ∀ {ls : List (List UInt8)} {s s' : Sheet}, runL ls s = .ok s' → s.seqs ≠ [] → (s'.alike = true ↔ s.alike = true ∧ ∀ l ∈ ls, ssF l = s.ssrc)
  | [], s, s', h, _ => by cases h; simp
  | l :: ls, s, s', h, hs => by
    unfold runL at h
    cases hp : parseR l with
    | error k => rw [hp] at h; cases h
    | ok p =>
      rw [hp] at h
      have hq := add_next hs l p
      rw [runL_next h (by rw [add_seqs]; simp), hq.1, hq.2]
      simp [ssF, hp, and_assoc]
theorem runL_alike {ls : List (List UInt8)} {s' : Sheet} (hne : ls ≠ []) (h : runL ls Sheet.zero = .ok s') : s'.alike = true ↔ ∀ l ∈ ls, ∀ k ∈ ls, ssF l = ssF k := by
  obtain ⟨l, ls, rfl⟩ := List.exists_cons_of_ne_nil hne
  unfold runL at h
  cases hp : parseR l with
  | error k => rw [hp] at h; cases h
  | ok p =>
    rw [hp] at h
    have hq := add_first l p
    rw [runL_next h (by rw [add_seqs]; simp), hq.1, hq.2]
    have e : ssF l = p.ssrc := by simp [ssF, hp]
    constructor
    · rintro ⟨-, h2⟩ a ha b hb
      have h3 : ∀ c ∈ l :: ls, ssF c = p.ssrc := fun c hc => by
        rcases List.mem_cons.1 hc with rfl | hc
        · exact e
        · exact h2 c hc
      rw [h3 a ha, h3 b hb]
    · intro h2
      exact ⟨rfl, fun k hk => by rw [h2 k (by simp [hk]) l (by simp), e]⟩
/-- A repair is that of packets. -/
structure IsRep (ls : List (List UInt8)) (r : Rep_) : Prop where
  ne : ls ≠ []
  few : ls.length ≤ 48
  ok : ∀ l ∈ ls, okF l
  alike : ∀ l ∈ ls, ∀ k ∈ ls, ssF l = ssF k
  sum : r.bt = Bt.all (ls.map imp)
  near : Near (ls.map seqF) r.base r.m
theorem mkP_iff {ls : List (List UInt8)} {r : Rep_} : mkP ls = .ok r ↔ IsRep ls r := by
  constructor
  · intro h
    obtain ⟨h1, h2, s, hs, ha, hb, hc⟩ := mkP_ok h
    obtain ⟨g1, g2, g3⟩ := runL_sum hs
    refine ⟨h1, h2, g3, (runL_alike h1 hs).1 ha, by rw [hb, g1]; rfl, ?_⟩
    rw [g2] at hc
    exact cvOf_ok.1 hc
  · intro h
    obtain ⟨s, hs⟩ := runL_total Sheet.zero h.ok
    obtain ⟨g1, g2, g3⟩ := runL_sum hs
    have ha := (runL_alike h.ne hs).2 h.alike
    have hc := cvOf_ok.2 h.near
    unfold mkP
    rw [if_neg h.ne, if_neg (by have := h.few; omega), hs]
    simp only [ha, Bool.true_eq_false, if_false]
    rw [g2]
    simp only [Sheet.zero, List.nil_append, hc]
    rw [g1]
    have := h.sum
    obtain ⟨bt, b, m⟩ := r
    simp only at this
    subst this
    rfl
theorem mkP_perm {ls ls' : List (List UInt8)} {r : Rep_} (h : mkP ls = .ok r) (hp : ls.Perm ls') : mkP ls' = .ok r := by
  rw [mkP_iff] at h ⊢
  refine ⟨fun e => h.ne (by rw [e] at hp; exact List.perm_nil.1 hp), by rw [← hp.length_eq]; exact h.few, fun l hl => h.ok l (hp.mem_iff.2 hl), fun l hl k hk => h.alike l (hp.mem_iff.2 hl) k (hp.mem_iff.2 hk), ?_, ?_⟩
  · rw [h.sum]; exact Bt.all_perm (hp.map imp)
  · exact cvOf_ok.1 (cvOf_perm (cvOf_ok.2 h.near) (hp.map seqF))
theorem mkP_sub {ls ls' : List (List UInt8)} {r : Rep_} (h : mkP ls = .ok r) (hs : ls'.Sublist ls) (hne : ls' ≠ []) : ∃ r', mkP ls' = .ok r' := by
  rw [mkP_iff] at h
  obtain ⟨b, m, hc⟩ := cvOf_sub (cvOf_ok.2 h.near) (hs.map seqF) (by simpa using hne)
  exact ⟨⟨Bt.all (ls'.map imp), b, m⟩, mkP_iff.2 ⟨hne, Nat.le_trans hs.length_le h.few, fun l hl => h.ok l (hs.subset hl), fun l hl k hk => h.alike l (hs.subset hl) k (hs.subset hk), rfl, cvOf_ok.1 hc⟩⟩
theorem mkP_count {ls : List (List UInt8)} {r : Rep_} (h : mkP ls = .ok r) : (seqsOf r.base r.m).length = ls.length := by
  have := (cvOf_count (cvOf_ok.2 (mkP_iff.1 h).near)).1
  rw [List.length_map] at this
  rw [← this]
  simp [seqsOf]
theorem and63_xor : ∀ a < 256, ∀ b < 4, (UInt8.ofNat a ^^^ (UInt8.ofNat b <<< 6)) &&& 63 = UInt8.ofNat a &&& 63 := by decide +kernel
theorem and63_and63 (a : UInt8) : a &&& 63 &&& 63 = a &&& 63 := by
  rw [UInt8.and_assoc]
  rfl
theorem and63_add (a b : UInt8) (h1 : a &&& 63 = a) (h2 : b &&& 63 = b) : (a ^^^ b) &&& 63 = a ^^^ b := by
  apply UInt8.toNat_inj.1
  have e1 := congrArg UInt8.toNat h1
  have e2 := congrArg UInt8.toNat h2
  simp only [UInt8.toNat_and, UInt8.toNat_xor] at e1 e2 ⊢
  apply Nat.eq_of_testBit_eq
  intro i
  have g1 := congrArg (·.testBit i) e1
  have g2 := congrArg (·.testBit i) e2
  simp only [Nat.testBit_and, Nat.testBit_xor] at g1 g2 ⊢
  revert g1 g2
  cases (a.toNat.testBit i) <;> cases (b.toNat.testBit i) <;> cases (UInt8.toNat 63).testBit i <;> simp
theorem Bt.cut_fold : ∀ (xs : List Bt) (z : Bt), z.cut = z → (∀ x ∈ xs, x.cut = x) → (xs.foldl Bt.add z).cut = xs.foldl Bt.add z
  | [], z, h, _ => h
  | x :: xs, z, h, hx => by
    rw [List.foldl_cons]
    refine Bt.cut_fold xs _ ?_ (fun y hy => hx y (by simp [hy]))
    have h1 : z.h0 &&& 63 = z.h0 := congrArg Bt.h0 h
    have h2 : x.h0 &&& 63 = x.h0 := congrArg Bt.h0 (hx x (by simp))
    show ({ z.add x with h0 := (z.h0 ^^^ x.h0) &&& 63 } : Bt) = z.add x
    rw [and63_add _ _ h1 h2]
    rfl
theorem imp_cut (l : List UInt8) : (imp l).cut = imp l := by
  show ({ imp l with h0 := l.getD 0 0 &&& 63 &&& 63 } : Bt) = imp l
  rw [and63_and63]
  rfl
theorem mkP_cut {ls : List (List UInt8)} {r : Rep_} (h : mkP ls = .ok r) : r.bt.cut = r.bt := by
  rw [(mkP_iff.1 h).sum]
  exact Bt.cut_fold _ _ rfl (fun x hx => by obtain ⟨l, -, rfl⟩ := List.mem_map.1 hx; exact imp_cut l)
theorem holdsB_iff {ls : List (List UInt8)} {r : Rep_} : holdsB r ls = true ↔ ∃ q, mkP ls = .ok q ∧ q.base = r.base ∧ q.m = r.m ∧ q.bt.body.length = r.bt.body.length ∧ q.bt.cut.same r.bt.cut = true := by
  unfold holdsB
  cases h : mkP ls with
  | error k => simp
  | ok q =>
    simp only [Bool.and_eq_true, beq_iff_eq, Except.ok.injEq, exists_eq_left']
    constructor
    · rintro ⟨⟨⟨⟨h1, h2⟩, h3⟩, h4⟩, h5⟩
      refine ⟨h1, ?_, h4, h5⟩
      obtain ⟨qb, qs, ⟨a, b⟩⟩ := q
      obtain ⟨rb, rs, ⟨c, d⟩⟩ := r
      simp only at h2 h3
      rw [h2, h3]
    · rintro ⟨h1, h2, h4, h5⟩
      exact ⟨⟨⟨⟨h1, by rw [h2]⟩, by rw [h2]⟩, h4⟩, h5⟩
theorem holds_self {ls : List (List UInt8)} {r : Rep_} (h : mkP ls = .ok r) : holdsB r ls = true := holdsB_iff.2 ⟨r, h, rfl, rfl, rfl, Bt.same_refl _⟩
theorem holds_err {ls : List (List UInt8)} {k : Int} (h : mkP ls = .error k) (r : Rep_) : holdsB r ls = false := by unfold holdsB; rw [h]
theorem holds_count {ls ls' : List (List UInt8)} {r : Rep_} (h : mkP ls = .ok r) (hl : ls'.length ≠ ls.length) : holdsB r ls' = false := by
  rw [Bool.eq_false_iff]
  intro h2
  obtain ⟨q, hq, e1, e2, -⟩ := holdsB_iff.1 h2
  have g1 := mkP_count h
  have g2 := mkP_count hq
  rw [e1, e2] at g2
  omega
/-- One packet left out. -/
theorem rest_perm (ls : List (List UInt8)) {k : Nat} (hk : k < ls.length) : ls.Perm (ls.take k ++ ls.drop (k + 1) ++ [ls[k]]) := by
  have e : ls = ls.take k ++ (ls[k] :: ls.drop (k + 1)) := by rw [List.getElem_cons_drop, List.take_append_drop]
  conv => lhs; rw [e]
  rw [List.append_assoc]
  exact List.Perm.append_left _ (List.perm_append_singleton _ _).symm
theorem rest_ok {ls : List (List UInt8)} {r : Rep_} (h : mkP ls = .ok r) {k : Nat} (hk : k < ls.length) (hne : ls.take k ++ ls.drop (k + 1) ≠ []) :
    ∃ o, mkP (ls.take k ++ ls.drop (k + 1)) = .ok o ∧ o.bt.cut.add (imp ls[k]) = r.bt.cut ∧ holdsB r (ls.take k ++ ls.drop (k + 1)) = false := by
  have hp := rest_perm ls hk
  have h2 := mkP_perm h hp
  obtain ⟨o, ho⟩ := mkP_sub h2 (List.sublist_append_left _ _) hne
  refine ⟨o, ho, ?_, holds_count h ?_⟩
  · rw [mkP_cut ho, mkP_cut h, (mkP_iff.1 ho).sum, (mkP_iff.1 h2).sum, List.map_append (l₂ := [ls[k]]), Bt.all_append, List.map_cons, List.map_nil, Bt.all_one]
  · have := hp.length_eq
    rw [List.length_append, List.length_singleton] at this
    omega
theorem one_ok {ls : List (List UInt8)} {r : Rep_} (h : mkP ls = .ok r) (h1 : ls.length = 1) (hk : 0 < ls.length) : imp ls[0] = r.bt.cut ∧ r.m = Msk.bit 0 := by
  obtain ⟨l, rfl⟩ := List.length_eq_one_iff.1 h1
  refine ⟨by rw [mkP_cut h, (mkP_iff.1 h).sum, List.map_cons, List.map_nil, Bt.all_one]; rfl, ?_⟩
  have hn := (mkP_iff.1 h).near
  have hb : r.base = seqF l := by have := hn.mem; simpa using this
  refine Msk.ext_has fun i hi => ?_
  rw [Bool.eq_iff_iff, hn.has i hi, Msk.has_bit (by omega)]
  simp [hb, ahd_self]
  omega
theorem parts_ok {ls : List (List UInt8)} {r : Rep_} (h : mkP ls = .ok r) {k : Nat} (h0 : 0 < k) (hk : k < ls.length) :
    ∃ a b, mkP (ls.take k) = .ok a ∧ mkP (ls.drop k) = .ok b ∧ a.bt.cut.add b.bt.cut = r.bt.cut ∧ r.bt.body.length = max a.bt.body.length b.bt.body.length := by
  have n1 : ls.take k ≠ [] := fun e => by have h9 := congrArg List.length e; rw [List.length_take, List.length_nil] at h9; omega
  have n2 : ls.drop k ≠ [] := fun e => by have h9 := congrArg List.length e; rw [List.length_drop, List.length_nil] at h9; omega
  obtain ⟨a, ha⟩ := mkP_sub h (List.take_sublist k ls) n1
  obtain ⟨b, hb⟩ := mkP_sub h (List.drop_sublist k ls) n2
  have e : a.bt.add b.bt = r.bt := by
    rw [(mkP_iff.1 ha).sum, (mkP_iff.1 hb).sum, (mkP_iff.1 h).sum, ← Bt.all_append, ← List.map_append, List.take_append_drop]
  exact ⟨a, b, ha, hb, by rw [mkP_cut ha, mkP_cut hb, mkP_cut h, e], by rw [← e, Bt.add_body_len]⟩
theorem turn_holds {ls : List (List UInt8)} {r : Rep_} (h : mkP ls = .ok r) : holdsB { r with bt := { r.bt with h0 := r.bt.h0 ^^^ 192 } } ls = true := by
  refine holdsB_iff.2 ⟨r, h, rfl, rfl, rfl, ?_⟩
  have e : (r.bt.h0 ^^^ 192) &&& 63 = r.bt.h0 &&& 63 := by
    have := and63_xor r.bt.h0.toNat r.bt.h0.toNat_lt 3 (by omega)
    rw [UInt8.ofNat_toNat] at this
    exact this
  show r.bt.cut.same ({ r.bt with h0 := (r.bt.h0 ^^^ 192) &&& 63 } : Bt) = true
  rw [e]
  exact Bt.same_refl _
theorem turn_not {ls : List (List UInt8)} {r t : Rep_} (h : mkP ls = .ok r) (ht : t.bt.h1 ≠ r.bt.h1 ∨ t.bt.h2 ≠ r.bt.h2 ∨ t.bt.h3 ≠ r.bt.h3 ∨ t.bt.h4 ≠ r.bt.h4) : holdsB t ls = false := by
  rw [Bool.eq_false_iff]
  intro h2
  obtain ⟨q, hq, -, -, -, e⟩ := holdsB_iff.1 h2
  rw [h] at hq
  cases hq
  have e1 := ((Bt.same_iff _ _).1 e).1
  unfold Bt.head Bt.cut at e1
  simp only [List.cons.injEq, and_true] at e1
  obtain ⟨-, e1, e2, e3, e4, -⟩ := e1
  rcases ht with ht | ht | ht | ht
  · exact ht e1.symm
  · exact ht e2.symm
  · exact ht e3.symm
  · exact ht e4.symm
end Go.Proofs.YtchbgiindfoepaaGreat

/- Slices of rows put behind each other; a part of a slice's rows as elements. -/
namespace Go.Proofs.YtchbgiindfoepaaGreat
open Go.RowKit

section
variable {α : Type} {k : Nat} {R : World → List Value → α → List Nat → Prop}
theorem Els.append : ∀ {ys zs : List α} {w : World} {c1 c2 : List Value} {B1 B2 : List Nat}, Els R ys w c1 B1 → Els R zs w c2 B2 → Els R (ys ++ zs) w (c1 ++ c2) (B1 ++ B2)
  | [], zs, w, c1, c2, B1, B2, h, h2 => by obtain ⟨rfl, rfl⟩ := h; exact h2
  | y :: ys, zs, w, c1, c2, B1, B2, h, h2 => by
    obtain ⟨c, rest, D1, D2, rfl, rfl, h3, h4⟩ := h
    exact ⟨c, rest ++ c2, D1, D2 ++ B2, by simp, by simp, h3, Els.append h4 h2⟩
/-- 'append(s, part...)' in a region that draws. -/
theorem step_append_els {P : Program} {ops : Array Oper} {o : Oper} {a : Act} {w : World} {K : Act → World → Prop} {Q : Exit → Act → World → Prop} {E : Prop} (hR : Rep k R) (hk : 0 < k)
    (hgd : o.guard = none) (s x : Operand) (t : TypeId) (ho : o.op = .call { callee := .builtin .append, args := #[s, x], argTypes := #[t, t] })
    (base : Nat) (e : TypeId) (z : Value) (bytes : Nat) (ht : P.underlying t = some (.slice e)) (hi : (P.info? e).map (fun i => (i.zero, i.size, i.bytes)) = some (some z, k, bytes)) (hz : z.cells.size = k)
    (v : Value) (ys : List α) (B : List Nat) (hs : a.eval s = v) (hown : OwnEls k R w base e v ys B)
    (ad : Addr) (m c : Nat) (hx : a.eval x = .slice (some ad) m c) (zs : List α) (hm : zs.length = m) (cells : List Value) (B2 : List Nat) (hc : Els R zs w cells B2) (hnews : ∀ j u, cells[j]? = some u → w.cell? (ad.add j) = some u) (hdis : ∀ b, blockOf v = some b → b ∉ B2)
    (h63 : ys.length + m ≤ maxLen) (hbytes : (ys.length + m) * bytes ≤ 140737488355328) (hbase : base ≤ w.heap.size)
    (h : ∀ v' w', OwnEls k R w' base e v' (ys ++ zs) (B ++ B2) → Fr (blockOf v).toList w w' → (∀ b, blockOf v' = some b → blockOf v = some b ∨ w.heap.size ≤ b) → K (a.put o.dst v') w') :
    if Region.wanted o (yielded ops a.tmps) = true then Oper.wp P o a w K Q else E := by
  subst hm
  obtain ⟨own, h1, h2, h3⟩ := hown
  refine step_append_fr hgd s x t ho base e z k bytes ht hi hz hk v ys.length own hs h1 ad zs.length c cells hx (hc.len hR) hnews (hc.one hR) h63 hbytes hbase ?_
  intro v' w' q1 q2 q3 q4
  refine h v' w' ⟨own ++ cells, by simpa using q1, Els.append (h2.fr hR q2 (fun b hb hm => h3 b (by simpa using hm) hb)) (hc.fr hR q2 (fun b hb hm => hdis b (by simpa using hm) hb)), ?_⟩ q2 q3
  intro b hb hm
  rcases q3 b hb with hv | hn
  · rcases List.mem_append.1 hm with hm | hm
    · exact h3 b hv hm
    · exact hdis b hv hm
  · rcases List.mem_append.1 hm with hm | hm
    · have := h2.lt hR b hm; omega
    · have := hc.lt hR b hm; omega
end
theorem els_rows {w : World} : ∀ {vs : List Value} {ls : List (List UInt8)}, vs.length = ls.length → (∀ (i : Nat) (x : Value) (a : List UInt8), vs[i]? = some x → ls[i]? = some a → Bytes w x a) → ∃ B, Els BytesR ls w vs B
  | [], [], _, _ => ⟨[], rfl, rfl⟩
  | v :: vs, l :: ls, hl, h => by
    obtain ⟨B, hB⟩ := els_rows (vs := vs) (ls := ls) (by simpa using hl) (fun i x a hx ha => h (i + 1) x a (by simpa using hx) (by simpa using ha))
    exact ⟨(liveOf v).toList ++ B, [v], vs, (liveOf v).toList, B, rfl, rfl, ⟨v, rfl, h 0 v l rfl rfl, rfl⟩, hB⟩
theorem BRows.nil (w : World) : BRows w (.slice none 0 0) [] := ⟨[], Sl.nil w, rfl, fun i x a hx => by simp at hx⟩
theorem BRows.pre {w : World} {a : Option Addr} {n c : Nat} {ls : List (List UInt8)} (h : BRows w (.slice a n c) ls) (k : Nat) (hk : k ≤ n) (c' : Nat) (h1 : k ≤ c') (h2 : c' ≤ c) : BRows w (.slice a k c') (ls.take k) := by
  obtain ⟨vs, g1, g2, g3⟩ := h
  have hn := (g1.len).1
  refine ⟨vs.take k, g1.pre k c' hk h1 h2, by rw [List.length_take, List.length_take, g2], fun i x y hx hy => ?_⟩
  rw [List.getElem?_take] at hx hy
  split at hx
  · rename_i hi
    rw [if_pos hi] at hy
    exact g3 i x y hx hy
  · cases hx
/-- Rows from a place on. -/
theorem BRows.from_ {w : World} {b o n c : Nat} {ls : List (List UInt8)} (h : BRows w (.slice (some ⟨b, o, none⟩) n c) ls) (k m : Nat) (hk : k + m = n) : BRows w (.slice (if c = k then some ⟨b, o, none⟩ else some ⟨b, o + k, none⟩) m (c - k)) (ls.drop k) := by
  obtain ⟨vs, g1, g2, g3⟩ := h
  have hn := (g1.len).1
  have h2 := g1.sub' k m (by omega)
  rw [List.take_of_length_le (by rw [List.length_drop]; omega)] at h2
  refine ⟨vs.drop k, h2, by rw [List.length_drop, List.length_drop, g2], fun i x y hx hy => ?_⟩
  rw [List.getElem?_drop] at hx hy
  exact g3 (k + i) x y hx hy
/-- A part of rows, as elements: where it lies. -/
theorem rows_ad {w : World} {b o n c : Nat} {ls : List (List UInt8)} (h : BRows w (.slice (some ⟨b, o, none⟩) n c) ls) (k m : Nat) (hk : k + m ≤ n) :
    ∃ ad cells B, (if c = k then some (⟨b, o, none⟩ : Addr) else some ⟨b, o + k, none⟩) = some ad ∧ Els BytesR ((ls.drop k).take m) w cells B ∧ (∀ x ∈ B, x < w.heap.size) ∧ ∀ j u, cells[j]? = some u → w.cell? (ad.add j) = some u := by
  obtain ⟨vs, g1, g2, g3⟩ := h
  obtain ⟨hn, hnc, -, -⟩ := g1.len
  obtain ⟨B, hB⟩ := els_rows (w := w) (vs := (vs.drop k).take m) (ls := (ls.drop k).take m) (by simp [g2]) (fun i x y hx hy => by
    rw [List.getElem?_take] at hx hy
    split at hx
    · rename_i hi
      rw [if_pos hi, List.getElem?_drop] at hy
      rw [List.getElem?_drop] at hx
      exact g3 (k + i) x y hx hy
    · cases hx)
  by_cases hc : c = k
  · refine ⟨⟨b, o, none⟩, _, B, by rw [if_pos hc], hB, hB.lt Rep.bytes, fun j u hj => ?_⟩
    have := (List.getElem?_eq_some_iff.1 hj).1
    rw [List.length_take] at this
    omega
  · refine ⟨⟨b, o + k, none⟩, _, B, by rw [if_neg hc], hB, hB.lt Rep.bytes, fun j u hj => ?_⟩
    have hj' := hj
    rw [List.getElem?_take] at hj
    split at hj
    · rename_i hi
      rw [List.getElem?_drop] at hj
      obtain ⟨b', o', e, -, hc2⟩ := g1.at_ (k := k + j) (by omega)
      cases e
      rw [Addr.add_mid]
      have := hc2 (k + j) u hj
      simpa [Nat.add_assoc] using this
    · cases hj
end Go.Proofs.YtchbgiindfoepaaGreat
