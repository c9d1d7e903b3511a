import Derived.Test.YtngfenjekgdfbaaProg
import Derived.Maps.Own
import Derived.Maps.Views
import Derived.Test.YtngfenjekgdfbaaMu10
import Derived.Test.YtngfenjekgdfbaaMu8
import Derived.Test.YtngfenjekgdfbaaMu5
import Derived.Test.YtngfenjekgdfbaaMu1
/- Slices of ints, sets of ints as maps. -/
namespace Go.Proofs.Ytngfenjekgdfbaa
open Go.RowKit Go.Maps

def Ints (w : World) (v : Value) (xs : List Int) : Prop := Sl w v (xs.map (Value.int .i64))
def seenD (xs : List Int) : DataW Unit := xs.foldl (fun D x => D.put (.int .i64 x) (.lit (.bool true))) (.map [])
theorem seen_fold (y : Int) : ∀ (xs : List Int) (D : DataW Unit), IsMap D → (xs.foldl (fun D x => D.put (.int .i64 x) (.lit (.bool true))) D).atKey (.int .i64 y) (.lit (.bool false)) = if y ∈ xs then .lit (.bool true) else D.atKey (.int .i64 y) (.lit (.bool false))
  | [], D, _ => by simp
  | x :: xs, D, hD => by
    rw [List.foldl_cons, seen_fold y xs _ (hD.put _ _)]
    by_cases h : y ∈ xs
    · simp [h]
    · by_cases hx : y = x
      · subst hx
        simp [h, atKey_put_same hD (k := .int .i64 y) trivial]
      · have : ¬ y ∈ x :: xs := by simp [h, hx]
        rw [if_neg h, if_neg this, atKey_put_other (by simpa using hx)]
theorem seen_at (xs : List Int) (y : Int) : (seenD xs).atKey (.int .i64 y) (.lit (.bool false)) = .lit (.bool (decide (y ∈ xs))) := by
  unfold seenD
  rw [seen_fold y xs _ isMap_empty]
  by_cases h : y ∈ xs
  · simp [h]
  · simp [h, DataW.atKey]
theorem plainElem_bool_inv {P : Program} {e : TypeId} (he : P.underlying e = some .bool) {v : Value} {z : DataW Unit × List MemPlace} (h : plainElem P e v = some z) : ∃ a, v = .bool a ∧ z = (.lit (.bool a), []) := by
  unfold plainElem at h
  rw [he] at h
  cases v <;> simp at h
  exact ⟨_, rfl, h.symm⟩
theorem zeroBool (w : World) : (zeroValue 4).run Try.prog w = .ok (.bool false) w := by kernel_rfl
theorem keyInt : Keyed Try.prog 3 := int_keyed Try.underlying3
/-- 'seen[x]'. -/
theorem seen_run {w : World} {b n : Nat} {xs : List Int} (h : w.ownsMap Try.prog 3 (plainElem Try.prog 4) b n (seenD xs)) {y : Int} (hy : (Lit.int .i64 y).wf = true) :
    (Instr.lookup 67 (.map (some b)) (.int .i64 y) false).run Try.prog w = .ok (.bool (decide (y ∈ xs))) w := by
  obtain ⟨v, ps, hrun, hv⟩ := h.lookup keyInt Try.underlying67 (zeroBool w) (plainElem_bool Try.underlying4 false) (keyOf_int_mk Try.underlying3 hy)
  obtain ⟨c, rfl, hc⟩ := plainElem_bool_inv Try.underlying4 hv
  simp only [Prod.mk.injEq, seen_at] at hc
  rw [hrun]
  have : decide (y ∈ xs) = c := by
    have := hc.1
    simpa using this
  rw [this]
theorem Ints.at_ {w : World} {b o n c : Nat} {xs : List Int} (h : Ints w (.slice (some ⟨b, o, none⟩) n c) xs) (i : Nat) (hi : i < xs.length) : w.cell? ⟨b, o + i, none⟩ = some (.int .i64 xs[i]) := by
  have hlen : n = xs.length := by have := Sl.len h; simpa using this.1
  obtain ⟨b', o', e, _, hc⟩ := Sl.at_ h (k := i) (by omega)
  cases e
  exact hc i (.int .i64 xs[i]) (by rw [List.getElem?_map, List.getElem?_eq_getElem hi]; rfl)
theorem Fr.ownsMap {H : Type} {P : Program} {k : TypeId} {R : Value → Option (DataW H × List MemPlace)} {w w' : World} {S : List Nat} {b n : Nat} {D : DataW H} (hf : Fr S w w') (h : w.ownsMap P k R b n D) (hb : b ∉ S) : w'.ownsMap P k R b n D := by
  have hlt := h.lt
  obtain ⟨es, clock, h1, F, hs, hD⟩ := h
  exact ⟨es, clock, (hf.block b hlt hb).trans h1, F, hs, hD⟩
theorem seenD_snoc (xs : List Int) (x : Int) : (seenD xs).put (.int .i64 x) (.lit (.bool true)) = seenD (xs ++ [x]) := by unfold seenD; rw [List.foldl_append]; rfl
set_option maxRecDepth 100000 in
theorem info_int : (Try.prog.info? 3).map (fun i => (i.zero, i.size, i.bytes)) = some (some (.int .i64 0), 1, 8) := by kernel_rfl
end Go.Proofs.Ytngfenjekgdfbaa

/- The walks of confluxref15.In, Open, Few; confluxref01.SameInts; confluxref18.Has, Next; shape.Next (printed by gen_sh1.py). -/
namespace Go.Proofs.Ytngfenjekgdfbaa
open Go.RowKit

/-- A slice of slices of ints. -/
abbrev IRows (w : World) (v : Value) (s : List (List Int)) : Prop := SlOf Ints w v s
theorem IRows.keep {w w' : World} {v : Value} {s : List (List Int)} (h : IRows w v s) (hf : Fr [] w w') : IRows w' v s := SlOf.keep (fun _ _ h => Sl.keep h hf) h hf
theorem Ints.keep {w w' : World} {v : Value} {s : List Int} (h : Ints w v s) (hf : Fr [] w w') : Ints w' v s := Sl.keep h hf
theorem Ints.shape {w : World} {v : Value} {s : List Int} (h : Ints w v s) : ∃ a c, v = .slice a s.length c := by
  obtain ⟨a, c, e⟩ := Sl.shape h
  rw [List.length_map] at e
  exact ⟨a, c, e⟩
theorem Ints.len {w : World} {a : Option Addr} {n c : Nat} {s : List Int} (h : Ints w (.slice a n c) s) : s.length ≤ 9223372036854775807 := by
  have := Sl.len h
  unfold maxLen at this
  rw [List.length_map] at this
  omega
theorem IRows.len {w : World} {a : Option Addr} {n c : Nat} {s : List (List Int)} (h : IRows w (.slice a n c) s) : s.length ≤ 9223372036854775807 := by
  have := SlOf.len h
  unfold maxLen at this
  omega
theorem open_snoc (known l : List Int) (x : Int) : openI known (l ++ [x]) = if known.contains x || (openI known l).contains x then openI known l else openI known l ++ [x] := by
  unfold openI
  rw [List.foldl_append]
  rfl
theorem open_len (known : List Int) : ∀ l : List Int, (openI known l).length ≤ l.length := by
  intro l
  unfold openI
  have h : ∀ (l out : List Int), (l.foldl (fun out x => if known.contains x || out.contains x then out else out ++ [x]) out).length ≤ out.length + l.length := by
    intro l
    induction l with
    | nil => intro out; simp
    | cons x l ih =>
      intro out
      rw [List.foldl_cons]
      refine Nat.le_trans (ih _) ?_
      split <;> simp <;> omega
  simpa using h l []
/-- Numbers that an int can be. -/
def In64 (x : Int) : Prop := -9223372036854775808 ≤ x ∧ x < 9223372036854775808

set_option maxRecDepth 100000 in
set_option maxHeartbeats 4000000 in
theorem eIn_any {w : World} {v : Value} {xs : List Int} (h : Ints w v xs) (x : Int) :
    Calls Try.prog 40 #[v, .int .i64 x] w fun e w' => e = .returned (.bool (xs.contains x)) ∧ Fr [] w w' := by
  obtain ⟨a, c, rfl⟩ := h.shape
  have hlen := h.len
  have HL := Lib.hid h
  clear h
  go_enter Try.func40, Try.ntmps40
  go_wp2_with fail
  go_loopw [5] (fun i wr => ∃ j : Nat, j ≤ xs.length ∧ i = .int .i64 j ∧ x ∉ xs.take j ∧ Fr [] w wr) (fun i _ => xs.length - (intOf i).toNat)
  case atStart => exact ⟨0, Nat.zero_le _, rfl, by simp, Fr.refl _ _⟩
  case round =>
    obtain ⟨j, hj, rfl, hno, hF⟩ := hrel
    have HN := Lib.hid hno; have HF := Lib.hid hF
    clear hno hF
    by_cases hlt : j < xs.length
    · obtain ⟨b, o, ea, hb, -⟩ := Sl.at_ HL.out hlt
      subst ea
      have d := HF.out.cellSome (Ints.at_ HL.out j hlt) (by simp)
      have HT : Hid (xs.take (j + 1) = xs.take j ++ [xs[j]]) := Lib.hid (List.take_succ_eq_append_getElem hlt)
      have HM : Hid (xs[j] ∈ xs) := Lib.hid (List.getElem_mem hlt)
      generalize xs[j] = y at *
      by_cases hy : y = x
      · have HE : Hid (xs.contains x = true) := Lib.hid (by rw [List.contains_iff_mem, ← hy]; exact HM.out)
        subst hy
        go_wp2_with fail
        go_ret
        exact ⟨by rw [HE.out]; rfl, HF.out⟩
      · have HY := Lib.hid hy
        have hyb : (y == x) = false := beq_eq_false_iff_ne.2 hy
        clear hy
        go_wp2_with fail
        go_roundw
        case rel =>
          refine ⟨j + 1, by omega, by go_num, ?_, HF.out⟩
          rw [HT.out]
          intro hm
          rcases List.mem_append.1 hm with hm | hm
          · exact HN.out hm
          · simp at hm; exact HY.out hm.symm
        case measure => simp [intOf]; omega
    · have HE : Hid (xs.contains x = false) := Lib.hid (by
        have := HN.out
        rw [List.take_of_length_le (by omega)] at this
        rw [← Bool.not_eq_true, List.contains_iff_mem]
        exact this)
      go_wp2_with fail
      go_ret
      exact ⟨by rw [HE.out]; rfl, HF.out⟩
set_option maxRecDepth 100000 in
set_option maxHeartbeats 4000000 in
theorem r01SameInts_any {w : World} {v1 v2 : Value} {xs ys : List Int} (h1 : Ints w v1 xs) (h2 : Ints w v2 ys) :
    Calls Try.prog 22 #[v1, v2] w fun e w' => e = .returned (.bool (xs == ys)) ∧ Fr [] w w' := by
  obtain ⟨a, c, rfl⟩ := h1.shape
  obtain ⟨a2, c2, rfl⟩ := h2.shape
  have hlen := h1.len; have hlen2 := h2.len
  have HL := Lib.hid h1; have HL2 := Lib.hid h2
  clear h1 h2
  by_cases hn : xs.length = ys.length
  · have HN := Lib.hid hn
    have hnb : (xs.length == ys.length) = true := by rw [hn]; simp
    generalize hk : ys.length = n at *
    have HK := Lib.hid hk
    generalize hm : xs.length = m at *
    have HM := Lib.hid hm
    clear hk hm hnb
    subst hn
    go_enter Try.func22, Try.ntmps22
    go_wp2_with fail
    go_loopw [5] (fun i wr => ∃ j : Nat, j ≤ m ∧ i = .int .i64 j ∧ xs.take j = ys.take j ∧ Fr [] w wr) (fun i _ => m - (intOf i).toNat)
    case atStart => exact ⟨0, Nat.zero_le _, rfl, by simp, Fr.refl _ _⟩
    case round =>
      obtain ⟨j, hj, rfl, hno, hF⟩ := hrel
      have HNO := Lib.hid hno; have HF := Lib.hid hF
      clear hno hF
      by_cases hlt : j < m
      · obtain ⟨b, o, ea, hb, -⟩ := Sl.at_ HL.out hlt
        obtain ⟨b2, o2, ea2, hb2, -⟩ := Sl.at_ HL2.out hlt
        subst ea ea2
        have k1 : j < xs.length := by have := HM.out; omega
        have k2 : j < ys.length := by have := HK.out; omega
        have d := HF.out.cellSome (Ints.at_ HL.out j k1) (by simp)
        have d2 := HF.out.cellSome (Ints.at_ HL2.out j k2) (by simp)
        have HT : Hid (xs.take (j + 1) = xs.take j ++ [xs[j]]) := Lib.hid (List.take_succ_eq_append_getElem k1)
        have HT2 : Hid (ys.take (j + 1) = ys.take j ++ [ys[j]]) := Lib.hid (List.take_succ_eq_append_getElem k2)
        have HG : Hid (xs[j]? = some xs[j]) := Lib.hid (List.getElem?_eq_getElem k1)
        have HG2 : Hid (ys[j]? = some ys[j]) := Lib.hid (List.getElem?_eq_getElem k2)
        generalize xs[j] = x at *
        generalize ys[j] = y at *
        clear k1 k2
        by_cases hy : x = y
        · have HY := Lib.hid hy
          have hyb : (x == y) = true := by rw [hy]; simp
          clear hy
          go_upto_region 6 with fail
          go_quiet (fail)
          go_wp2_with fail
          go_roundw
          case rel =>
            refine ⟨j + 1, by omega, by go_num, ?_, HF.out.drewN _⟩
            rw [HT.out, HT2.out, HNO.out, HY.out]
          case measure => simp [intOf]; omega
        · have HE : Hid ((xs == ys) = false) := Lib.hid (beq_eq_false_iff_ne.2 (fun e => by
            subst e
            have := HG.out.symm.trans HG2.out
            exact hy (Option.some.inj this)))
          have hyb : (x == y) = false := beq_eq_false_iff_ne.2 hy
          clear hy
          go_upto_region 6 with fail
          go_quiet (fail)
          go_wp2_with fail
          go_ret
          exact ⟨by rw [HE.out]; rfl, HF.out.drewN _⟩
      · have HE : Hid ((xs == ys) = true) := Lib.hid (by
          have := HNO.out
          rw [List.take_of_length_le (by have := HM.out; omega), List.take_of_length_le (by have := HK.out; omega)] at this
          rw [this]; simp)
        go_wp2_with fail
        go_ret
        exact ⟨by rw [HE.out]; rfl, HF.out⟩
  · have HE : Hid ((xs == ys) = false) := Lib.hid (beq_eq_false_iff_ne.2 (fun e => hn (by rw [e])))
    have hnb : (xs.length == ys.length) = false := beq_eq_false_iff_ne.2 hn
    have hnn : ¬ (xs.length : Int) = (ys.length : Int) := by omega
    clear hn
    go_enter Try.func22, Try.ntmps22
    go_wp2_with fail
    go_ret
    exact ⟨by rw [HE.out]; rfl, Fr.refl _ _⟩
set_option maxRecDepth 100000 in
set_option maxHeartbeats 4000000 in
theorem eOpen_any {w : World} {v1 v2 : Value} {known eq : List Int} (h1 : Ints w v1 known) (h2 : Ints w v2 eq) (hsz : eq.length ≤ 1099511627776) :
    Calls Try.prog 65 #[v1, v2] w fun e w' => ∃ v, e = .returned v ∧ OwnV w' w.heap.size 3 (Value.int .i64) v (openI known eq) ∧ Fr [] w w' := by
  obtain ⟨a, c, rfl⟩ := h1.shape
  obtain ⟨a2, c2, rfl⟩ := h2.shape
  obtain ⟨w1, e1, hF, hB1, hs1⟩ := one_new w #[] 3
  have HO : Hid (OwnV w1 w.heap.size 3 (Value.int .i64) (.slice (some ⟨w.heap.size, 0, none⟩) 0 0) (openI known (eq.take 0))) := Lib.hid (by subst e1; exact OwnV.made w w.heap.size _ _ (Nat.le_refl _))
  have E1 := Lib.hid e1; have HF := Lib.hid hF
  have HL := Lib.hid h1; have HL2 := Lib.hid h2
  clear e1 hF hB1 hs1 h1 h2
  go_enter Try.func65, Try.ntmps65
  go_upto_region 2 with fail
  rw [E1.out]
  clear E1
  go_wp2_with fail
  go_loopw [5, 6] (fun ov iv wr => ∃ j : Nat, j ≤ eq.length ∧ iv = .int .i64 j ∧ OwnV wr w.heap.size 3 (Value.int .i64) ov (openI known (eq.take j)) ∧ Fr [] w wr) (fun _ iv _ => eq.length - (intOf iv).toNat)
  case atStart => exact ⟨0, by omega, rfl, HO.out, HF.out⟩
  case round =>
    clear HO HF
    obtain ⟨j, hj, rfl, hO, hF⟩ := hrel
    obtain ⟨ao, co, rfl⟩ := hO.shape
    have HLO : Hid ((openI known (eq.take j)).length ≤ 1099511627776) := Lib.hid (by have := open_len known (eq.take j); rw [List.length_take] at this; omega)
    have HOS : Hid (Ints wr _ _) := Lib.hid hO.sl
    have HO := Lib.hid hO; have HFQ := Lib.hid hF
    clear hO hF
    by_cases hlt : j < eq.length
    · obtain ⟨b, o, ea, hb, -⟩ := Sl.at_ HL2.out hlt
      subst ea
      have d := HFQ.out.cellSome (Ints.at_ HL2.out j hlt) (by simp)
      have HT : Hid (eq.take (j + 1) = eq.take j ++ [eq[j]]) := Lib.hid (List.take_succ_eq_append_getElem hlt)
      generalize eq[j] = y at *
      have HSN := Lib.hid (open_snoc known (eq.take j) y)
      rw [← HT.out] at HSN
      generalize openI known (eq.take j) = ys at *
      have HD := Lib.hid d
      cases hc : known.contains y with
      | true =>
        have HC := Lib.hid hc
        rw [hc, Bool.true_or, if_pos rfl] at HSN
        clear hc
        go_wp2_with fail
        refine (eIn_any (HL.out.keep HFQ.out) y).mono ?_
        rintro e w3 ⟨rfl, hF3⟩
        rw [HC.out]
        have HF3 := Lib.hid hF3
        clear hF3 d
        go_wp2_with fail
        exact ⟨⟨j + 1, by omega, by go_num, by rw [HSN.out]; exact HO.out.keep HF3.out, HFQ.out.trans HF3.out⟩, by simp [intOf]; omega⟩
      | false =>
        have HC := Lib.hid hc
        rw [hc, Bool.false_or] at HSN
        clear hc
        go_wp2_with fail
        refine (eIn_any (HL.out.keep HFQ.out) y).mono ?_
        rintro e w3 ⟨rfl, hF3⟩
        rw [HC.out]
        have HF3 := Lib.hid hF3
        have d := HF3.out.cellSome HD.out (by simp)
        clear hF3
        go_wp2_with fail
        refine (eIn_any (Ints.keep HOS.out HF3.out) y).mono ?_
        rintro e w4 ⟨rfl, hF4⟩
        have HD := Lib.hid (hF4.cellSome d (by simp))
        clear d
        have d := HD.out
        have HF4 := Lib.hid (HFQ.out.trans (HF3.out.trans hF4))
        have HO := Lib.hid (HO.out.keep (HF3.out.trans hF4))
        clear hF4 HF3 HFQ HOS
        cases hc2 : ys.contains y with
        | true =>
          have HC2 := Lib.hid hc2
          rw [hc2, if_pos rfl] at HSN
          clear hc2
          go_wp2_with fail
          exact ⟨⟨j + 1, by omega, by go_num, by rw [HSN.out]; exact HO.out, HF4.out⟩, by simp [intOf]; omega⟩
        | false =>
          have HC2 := Lib.hid hc2
          rw [hc2, if_neg (by simp)] at HSN
          clear hc2
          go_upto_region 6 with fail
          have A0 : Hid ((w4.alloc (.cells #[Value.int .i64 y] 3)).ownsRow w.heap.size 3 1 (.slice ao ys.length co) (ys).length ((ys).map (Value.int .i64))) := Lib.hid (Own.keep HO.out ((Fr.refl [] w4).alloc _))
          have A1 : Hid ((ys).length + [Value.int .i64 y].length ≤ maxLen) := Lib.hid (by have := HLO.out; unfold maxLen; simp only [List.length_singleton]; omega)
          have A2 : Hid (((ys).length + [Value.int .i64 y].length) * 8 ≤ 140737488355328) := Lib.hid (by have := HLO.out; simp only [List.length_singleton]; omega)
          have A3 : Hid (Sl (w4.alloc (.cells #[Value.int .i64 y] 3)) (.slice (some ⟨w4.heap.size, 0, none⟩) 1 1) [Value.int .i64 y]) := Lib.hid (Sl.one w4 _ _)
          have A4 : Hid (w.heap.size ≤ (w4.alloc (.cells #[Value.int .i64 y] 3)).heap.size) := Lib.hid (by have := HF4.out.size; simp; omega)
          go_wp2_with (at_builtin; refine wpList_append_slf rfl (.tmp 30) (.tmp 35) 33 rfl w.heap.size 3 (.int .i64 0) 8 Try.underlying33 info_int rfl (.slice ao ys.length co) (ys).length ((ys).map (Value.int .i64)) rfl A0.out (.slice (some ⟨w4.heap.size, 0, none⟩) 1 1) [Value.int .i64 y] rfl A3.out (by simp [Value.oneCell']) A1.out A2.out A4.out ?_; intro v3 w3 ho hg hfr; have HO3 := Lib.hid ho; have HG := Lib.hid hg; have HBL := Lib.hid hfr; clear ho hg hfr)
          have HN : Hid (OwnV w3 w.heap.size 3 (Value.int .i64) v3 (ys ++ [y])) := Lib.hid (by
            have := HO3.out
            unfold OwnV
            rw [List.map_append, List.length_append]
            exact this)
          have HF3 : Hid (Fr [] w w3) := Lib.hid ((HF4.out.alloc _).step HG.out (fun x hx => .inr (HO.out.block x (by simpa using hx)).1))
          go_wp2_with fail
          exact ⟨⟨j + 1, by omega, by go_num, by rw [HSN.out]; exact HN.out, HF3.out⟩, by simp [intOf]; omega⟩
    · have HE : Hid (openI known (eq.take j) = openI known eq) := Lib.hid (by rw [List.take_of_length_le (by omega)])
      go_wp2_with fail
      go_ret
      exact ⟨_, rfl, by rw [← HE.out]; exact HO.out, HFQ.out⟩
end Go.Proofs.Ytngfenjekgdfbaa

/- The walks of confluxref15.Few; confluxref18.Has, insert (printed by gen_sh2.py). -/
namespace Go.Proofs.Ytngfenjekgdfbaa
open Go.RowKit

theorem IRows.at_ {w : World} {av : Option Addr} {n c : Nat} {s : List (List Int)} (h : IRows w (.slice av n c) s) (i : Nat) (hi : i < s.length) :
    ∃ b o al cl, av = some ⟨b, o, none⟩ ∧ b < w.heap.size ∧ w.cell? ⟨b, o + i, none⟩ = some (.slice al s[i].length cl) ∧ Ints w (.slice al s[i].length cl) s[i] := by
  have hn := SlOf.len h
  obtain ⟨b, o, x, y, e, hb, hy, hc, hx⟩ := SlOf.at_ h (k := i) (by omega)
  rw [List.getElem?_eq_getElem hi] at hy
  cases hy
  obtain ⟨al, cl, rfl⟩ := hx.shape
  exact ⟨b, o, al, cl, e, hb, hc, hx⟩
/-- What Few tells. -/
def FewR (s : List (List Int)) (e : Ending) : Prop := ∃ bb, e = .returned (.bool bb) ∧ (bb = true → s.length ≤ 30 ∧ (s.map List.length).sum ≤ 300)
def sumLen (s : List (List Int)) : Nat := (s.map List.length).sum
theorem sumLen_snoc (s : List (List Int)) (r : List Int) : sumLen (s ++ [r]) = sumLen s + r.length := by simp [sumLen]
theorem hasS_mem {s : List (List Int)} {x : Int} {r : List Int} (hr : r ∈ s) (h : r.contains x = true) : hasS s x = true := by
  unfold hasS
  rw [List.any_eq_true]
  exact ⟨r, hr, h⟩
/-- How far insert has come: what is out, whether the number is. -/
def InsAt (x : Int) (l out : List Int) (done : Bool) : Prop := (done = false ∧ out = l ∧ ∀ y ∈ l, y ≤ x) ∨ (done = true ∧ out = insI l x ∧ ∃ y ∈ l, x < y)
theorem takeWhile_all {p : Int → Bool} : ∀ {l : List Int}, (∀ y ∈ l, p y = true) → l.takeWhile p = l
  | [], _ => rfl
  | y :: l, h => by rw [List.takeWhile_cons, if_pos (h y (by simp)), takeWhile_all (fun z hz => h z (by simp [hz]))]
theorem dropWhile_all {p : Int → Bool} : ∀ {l : List Int}, (∀ y ∈ l, p y = true) → l.dropWhile p = []
  | [], _ => rfl
  | y :: l, h => by rw [List.dropWhile_cons, if_pos (h y (by simp)), dropWhile_all (fun z hz => h z (by simp [hz]))]
theorem insI_cons (z : Int) (l : List Int) (x : Int) : insI (z :: l) x = if z ≤ x then z :: insI l x else x :: z :: l := by
  unfold insI
  by_cases h : z ≤ x <;> simp [h]
theorem ins_all {l : List Int} {x : Int} (h : ∀ y ∈ l, y ≤ x) : insI l x = l ++ [x] := by
  induction l with
  | nil => rfl
  | cons z l ih => rw [insI_cons, if_pos (h z (by simp)), ih (fun y hy => h y (by simp [hy])), List.cons_append]
theorem ins_snoc_gt {l : List Int} {x y : Int} (h : ∀ z ∈ l, z ≤ x) (hy : x < y) : insI (l ++ [y]) x = l ++ [x] ++ [y] := by
  induction l with
  | nil => rw [List.nil_append, insI_cons, if_neg (by omega)]; rfl
  | cons z l ih => rw [List.cons_append, insI_cons, if_pos (h z (by simp)), ih (fun y hy => h y (by simp [hy]))]; rfl
theorem ins_snoc {l : List Int} {x y : Int} (h : ∃ z ∈ l, x < z) : insI (l ++ [y]) x = insI l x ++ [y] := by
  induction l with
  | nil => obtain ⟨z, hz, -⟩ := h; simp at hz
  | cons z l ih =>
    rw [List.cons_append, insI_cons, insI_cons]
    by_cases hz : z ≤ x
    · rw [if_pos hz, if_pos hz, ih]
      · rfl
      · obtain ⟨u, hu, hxu⟩ := h
        rcases List.mem_cons.1 hu with rfl | hu
        · omega
        · exact ⟨u, hu, hxu⟩
    · rw [if_neg hz, if_neg hz]; rfl
theorem InsAt.gt {x y : Int} {l out : List Int} (h : InsAt x l out false) (hy : x < y) : InsAt x (l ++ [y]) (out ++ [x] ++ [y]) true := by
  rcases h with ⟨-, rfl, h⟩ | ⟨h, -⟩
  · exact .inr ⟨rfl, (ins_snoc_gt h hy).symm, y, by simp, hy⟩
  · cases h
theorem InsAt.le {x y : Int} {l out : List Int} (h : InsAt x l out false) (hy : y ≤ x) : InsAt x (l ++ [y]) (out ++ [y]) false := by
  rcases h with ⟨-, rfl, h⟩ | ⟨h, -⟩
  · refine .inl ⟨rfl, rfl, fun z hz => ?_⟩
    rcases List.mem_append.1 hz with hz | hz
    · exact h z hz
    · simp at hz; omega
  · cases h
theorem InsAt.done {x y : Int} {l out : List Int} (h : InsAt x l out true) : InsAt x (l ++ [y]) (out ++ [y]) true := by
  rcases h with ⟨h, -⟩ | ⟨-, rfl, h⟩
  · cases h
  · refine .inr ⟨rfl, (ins_snoc h).symm, ?_⟩
    obtain ⟨z, hz, hx⟩ := h
    exact ⟨z, by simp [hz], hx⟩
theorem InsAt.len {x : Int} {l out : List Int} {d : Bool} (h : InsAt x l out d) : out.length ≤ l.length + 1 := by
  rcases h with ⟨-, rfl, h⟩ | ⟨-, rfl, h⟩
  · omega
  · have := (ins_perm l x).length_eq
    simp at this
    omega
theorem InsAt.fin {x : Int} {l out : List Int} (h : InsAt x l out true) : out = insI l x := by
  rcases h with ⟨h, -⟩ | ⟨-, h, -⟩
  · cases h
  · exact h
theorem InsAt.fin2 {x : Int} {l out : List Int} (h : InsAt x l out false) : out ++ [x] = insI l x := by
  rcases h with ⟨-, rfl, h⟩ | ⟨h, -⟩
  · exact (ins_all h).symm
  · cases h

set_option maxRecDepth 100000 in
set_option maxHeartbeats 4000000 in
theorem eFew_any {w : World} {v1 v2 : Value} {xs : List Int} {s : List (List Int)} (h1 : Ints w v1 xs) (h2 : IRows w v2 s) :
    Calls Try.prog 16 #[v1, v2] w fun e w' => FewR s e ∧ Fr [] w w' := by
  obtain ⟨a, c, rfl⟩ := h1.shape
  obtain ⟨a2, c2, rfl⟩ := SlOf.shape h2
  have hlen := h1.len; have hlen2 := h2.len
  have HL2 := Lib.hid h2
  clear h1 h2
  generalize xs.length = nx at *
  go_enter Try.func16, Try.ntmps16
  go_wp2_with fail
  go_loopw [5, 6] (fun nv iv wr => ∃ j m : Nat, j ≤ s.length ∧ j ≤ 41 ∧ iv = .int .i64 j ∧ nv = .int .i64 m ∧ m = sumLen (s.take j) ∧ m ≤ 60 * j ∧ Fr [] w wr) (fun _ iv _ => 41 - (intOf iv).toNat)
  case atStart => exact ⟨0, 0, Nat.zero_le _, by omega, rfl, rfl, rfl, by omega, Fr.refl _ _⟩
  case round =>
    obtain ⟨j, m, hj, hj41, rfl, rfl, hm, hm60, hF⟩ := hrel
    have HM := Lib.hid hm; have HF := Lib.hid hF
    clear hm hF
    by_cases hlt : j < s.length
    · by_cases h40 : j ≤ 40
      · obtain ⟨b, o, al, cl, ea, hb, hcell, hR⟩ := IRows.at_ HL2.out j hlt
        subst ea
        have d := HF.out.cellSome hcell (by simp)
        have hll := hR.len
        have HT : Hid (s.take (j + 1) = s.take j ++ [s[j]]) := Lib.hid (List.take_succ_eq_append_getElem hlt)
        have HS : Hid (sumLen (s.take (j + 1)) = m + s[j].length) := Lib.hid (by rw [HT.out, sumLen_snoc, HM.out])
        clear hcell hR
        generalize s[j].length = nr at *
        by_cases hbig : 60 < nr
        · go_wp2_with fail
          go_ret
          exact ⟨⟨false, rfl, by simp⟩, HF.out⟩
        · have hb2 : ¬ (60 : Int) < (nr : Int) := by omega
          go_wp2_with fail
          go_roundw
          case rel => exact ⟨j + 1, m + nr, by omega, by omega, by go_num, by go_num, HS.out.symm, by omega, HF.out⟩
          case measure => simp [intOf]; omega
      · obtain rfl : j = 41 := by omega
        have hs1 : ¬ s.length ≤ 30 := by omega
        have hs2 : ¬ (s.length : Int) ≤ 30 := by omega
        by_cases hx : nx ≤ 60
        · go_wp2_with fail
          go_ret
          exact ⟨⟨false, rfl, by simp⟩, HF.out⟩
        · go_wp2_with fail
          go_ret
          exact ⟨⟨false, rfl, by simp⟩, HF.out⟩
    · have HE : Hid (sumLen s = m) := Lib.hid (by rw [HM.out, List.take_of_length_le (by omega)])
      by_cases hx : nx ≤ 60
      · by_cases hs : s.length ≤ 30
        · go_wp2_with fail
          go_ret
          exact ⟨⟨_, rfl, fun hh => ⟨hs, by have h := HE.out; unfold sumLen at h; rw [h]; have := of_decide_eq_true hh; omega⟩⟩, HF.out⟩
        · go_wp2_with fail
          go_ret
          exact ⟨⟨false, rfl, by simp⟩, HF.out⟩
      · go_wp2_with fail
        go_ret
        exact ⟨⟨false, rfl, by simp⟩, HF.out⟩
set_option maxRecDepth 100000 in
set_option maxHeartbeats 4000000 in
theorem r18Has_any {w : World} {v : Value} {s : List (List Int)} (h : IRows w v s) (x : Int) :
    Calls Try.prog 23 #[v, .int .i64 x] w fun e w' => e = .returned (.bool (hasS s x)) ∧ Fr [] w w' := by
  obtain ⟨a, c, rfl⟩ := SlOf.shape h
  have hlen := h.len
  have HL := Lib.hid h
  clear h
  go_enter Try.func23, Try.ntmps23
  go_wp2_with fail
  go_loopw [5] (fun i wr => ∃ j : Nat, j ≤ s.length ∧ i = .int .i64 j ∧ (∀ r ∈ s.take j, r.contains x = false) ∧ Fr [] w wr) (fun i _ => s.length - (intOf i).toNat)
  case atStart => exact ⟨0, Nat.zero_le _, rfl, by simp, Fr.refl _ _⟩
  case round =>
    obtain ⟨j, hj, rfl, hno, hF⟩ := hrel
    have HN := Lib.hid hno; have HF := Lib.hid hF
    clear hno hF
    by_cases hlt : j < s.length
    · obtain ⟨b, o, al, cl, ea, hb, hcell, hR⟩ := IRows.at_ HL.out j hlt
      subst ea
      have d := HF.out.cellSome hcell (by simp)
      have HR := Lib.hid (hR.keep HF.out)
      have HT : Hid (s.take (j + 1) = s.take j ++ [s[j]]) := Lib.hid (List.take_succ_eq_append_getElem hlt)
      have HM : Hid (s[j] ∈ s) := Lib.hid (List.getElem_mem hlt)
      clear hcell hR
      generalize s[j] = r at *
      go_wp2_with fail
      refine (eIn_any HR.out x).mono ?_
      rintro e w3 ⟨rfl, hF3⟩
      have HF := Lib.hid (HF.out.trans hF3)
      clear hF3 d
      cases hc : r.contains x with
      | true =>
        have HE := Lib.hid (hasS_mem HM.out hc)
        clear hc
        go_wp2_with fail
        go_ret
        exact ⟨by rw [HE.out]; rfl, HF.out⟩
      | false =>
        have HC := Lib.hid hc
        clear hc
        go_wp2_with fail
        go_roundw
        case rel =>
          refine ⟨j + 1, by omega, by go_num, ?_, HF.out⟩
          intro q hq
          rw [HT.out] at hq
          rcases List.mem_append.1 hq with hq | hq
          · exact HN.out q hq
          · simp at hq; rw [hq]; exact HC.out
        case measure => simp [intOf]; omega
    · have HE : Hid (hasS s x = false) := Lib.hid (by
        have := HN.out
        rw [List.take_of_length_le (by omega)] at this
        unfold hasS
        rw [List.any_eq_false]
        intro r hr
        rw [this r hr]; simp)
      go_wp2_with fail
      go_ret
      exact ⟨by rw [HE.out]; rfl, HF.out⟩
set_option maxRecDepth 100000 in
set_option maxHeartbeats 4000000 in
theorem r18insert_any {w : World} {v : Value} {xs : List Int} (h : Ints w v xs) (x : Int) (hsz : xs.length ≤ 1099511627775) :
    Calls Try.prog 24 #[v, .int .i64 x] w fun e w' => ∃ v', e = .returned v' ∧ OwnV w' w.heap.size 3 (Value.int .i64) v' (insI xs x) ∧ Fr [] w w' := by
  obtain ⟨a, c, rfl⟩ := h.shape
  obtain ⟨w1, e1, hF, hB1, hs1⟩ := one_new w #[] 3
  have HO : Hid (OwnV w1 w.heap.size 3 (Value.int .i64) (.slice (some ⟨w.heap.size, 0, none⟩) 0 0) []) := Lib.hid (by subst e1; exact OwnV.made w w.heap.size _ _ (Nat.le_refl _))
  have E1 := Lib.hid e1; have HF := Lib.hid hF
  have HL := Lib.hid h
  clear e1 hF hB1 hs1 h
  go_enter Try.func24, Try.ntmps24
  go_upto_region 2 with fail
  rw [E1.out]
  clear E1
  go_wp2_with fail
  go_loopw [5, 6, 7] (fun ov dv iv wr => ∃ (j : Nat) (dn : Bool) (ys : List Int), j ≤ xs.length ∧ iv = .int .i64 j ∧ dv = .bool dn ∧ InsAt x (xs.take j) ys dn ∧ OwnV wr w.heap.size 3 (Value.int .i64) ov ys ∧ Fr [] w wr) (fun _ _ iv _ => xs.length - (intOf iv).toNat)
  case atStart => exact ⟨0, false, [], by omega, rfl, rfl, .inl ⟨rfl, rfl, by simp⟩, HO.out, HF.out⟩
  case round =>
    clear HO HF
    obtain ⟨j, dn, ys, hj, rfl, rfl, hI, hO, hF⟩ := hrel
    obtain ⟨ao, co, rfl⟩ := hO.shape
    have HLO : Hid (ys.length ≤ 1099511627776) := Lib.hid (by have := hI.len; rw [List.length_take] at this; omega)
    have HI := Lib.hid hI; have HO := Lib.hid hO; have HFQ := Lib.hid hF
    clear hI hO hF
    by_cases hlt : j < xs.length
    · obtain ⟨b, o, ea, hb, -⟩ := Sl.at_ HL.out hlt
      subst ea
      have d := HFQ.out.cellSome (Ints.at_ HL.out j hlt) (by simp)
      have HD := Lib.hid d
      have HT : Hid (xs.take (j + 1) = xs.take j ++ [xs[j]]) := Lib.hid (List.take_succ_eq_append_getElem hlt)
      have HNB : Hid (b < w.heap.size) := Lib.hid hb
      generalize xs[j] = y at *
      cases dn with
      | true =>
        have HI2 := Lib.hid (InsAt.done (y := y) HI.out)
        rw [← HT.out] at HI2
        have A0 : Hid ((wr.alloc (.cells #[Value.int .i64 y] 3)).ownsRow w.heap.size 3 1 (.slice ao ys.length co) (ys).length ((ys).map (Value.int .i64))) := Lib.hid (Own.keep HO.out ((Fr.refl [] wr).alloc _))
        have A1 : Hid ((ys).length + [Value.int .i64 y].length ≤ maxLen) := Lib.hid (by have := HLO.out; unfold maxLen; simp only [List.length_singleton]; omega)
        have A2 : Hid (((ys).length + [Value.int .i64 y].length) * 8 ≤ 140737488355328) := Lib.hid (by have := HLO.out; simp only [List.length_singleton]; omega)
        have A3 : Hid (Sl (wr.alloc (.cells #[Value.int .i64 y] 3)) (.slice (some ⟨wr.heap.size, 0, none⟩) 1 1) [Value.int .i64 y]) := Lib.hid (Sl.one wr _ _)
        have A4 : Hid (w.heap.size ≤ (wr.alloc (.cells #[Value.int .i64 y] 3)).heap.size) := Lib.hid (by have := HFQ.out.size; simp; omega)
        go_wp2_with (at_builtin; refine wpList_append_slf rfl (.tmp 29) (.tmp 34) 33 rfl w.heap.size 3 (.int .i64 0) 8 Try.underlying33 info_int rfl (.slice ao ys.length co) (ys).length ((ys).map (Value.int .i64)) rfl A0.out (.slice (some ⟨wr.heap.size, 0, none⟩) 1 1) [Value.int .i64 y] rfl A3.out (by simp [Value.oneCell']) A1.out A2.out A4.out ?_; intro v3 w3 ho hg hfr; have HO3 := Lib.hid ho; have HG := Lib.hid hg; have HBL := Lib.hid hfr; clear ho hg hfr)
        have HN : Hid (OwnV w3 w.heap.size 3 (Value.int .i64) v3 (ys ++ [y])) := Lib.hid (by
          have := HO3.out
          unfold OwnV
          rw [List.map_append, List.length_append]
          exact this)
        have HF3 : Hid (Fr [] w w3) := Lib.hid ((HFQ.out.alloc _).step HG.out (fun x hx => .inr (HO.out.block x (by simpa using hx)).1))
        go_wp2_with fail
        exact ⟨⟨j + 1, true, ys ++ [y], by omega, by go_num, rfl, HI2.out, HN.out, HF3.out⟩, by simp [intOf]; omega⟩
      | false =>
        by_cases hy : x < y
        · have HI2 := Lib.hid (InsAt.gt HI.out hy)
          rw [← HT.out] at HI2
          have A0 : Hid ((wr.alloc (.cells #[Value.int .i64 x] 3)).ownsRow w.heap.size 3 1 (.slice ao ys.length co) (ys).length ((ys).map (Value.int .i64))) := Lib.hid (Own.keep HO.out ((Fr.refl [] wr).alloc _))
          have A1 : Hid ((ys).length + [Value.int .i64 x].length ≤ maxLen) := Lib.hid (by have := HLO.out; unfold maxLen; simp only [List.length_singleton]; omega)
          have A2 : Hid (((ys).length + [Value.int .i64 x].length) * 8 ≤ 140737488355328) := Lib.hid (by have := HLO.out; simp only [List.length_singleton]; omega)
          have A3 : Hid (Sl (wr.alloc (.cells #[Value.int .i64 x] 3)) (.slice (some ⟨wr.heap.size, 0, none⟩) 1 1) [Value.int .i64 x]) := Lib.hid (Sl.one wr _ _)
          have A4 : Hid (w.heap.size ≤ (wr.alloc (.cells #[Value.int .i64 x] 3)).heap.size) := Lib.hid (by have := HFQ.out.size; simp; omega)
          go_upto_region 9 with (at_builtin; refine wpList_append_slf rfl (.tmp 25) (.tmp 27) 33 rfl w.heap.size 3 (.int .i64 0) 8 Try.underlying33 info_int rfl (.slice ao ys.length co) (ys).length ((ys).map (Value.int .i64)) rfl A0.out (.slice (some ⟨wr.heap.size, 0, none⟩) 1 1) [Value.int .i64 x] rfl A3.out (by simp [Value.oneCell']) A1.out A2.out A4.out ?_; intro v3 w3 ho hg hfr; have HO3 := Lib.hid ho; have HG := Lib.hid hg; have HBL := Lib.hid hfr; clear ho hg hfr)
          have HN : Hid (OwnV w3 w.heap.size 3 (Value.int .i64) v3 (ys ++ [x])) := Lib.hid (by
            have := HO3.out
            unfold OwnV
            rw [List.map_append, List.length_append]
            exact this)
          have HF3 : Hid (Fr [] w w3) := Lib.hid ((HFQ.out.alloc _).step HG.out (fun x hx => .inr (HO.out.block x (by simpa using hx)).1))
          obtain ⟨ao3, co3, rfl⟩ := HN.out.shape
          have HFQ3 := HF3
          have HLO : Hid ((ys ++ [x]).length ≤ 1099511627776) := Lib.hid (by have := HI.out.len; rw [List.length_take] at this; simp; omega)
          have d3 : w3.cell? ⟨b, o + j, none⟩ = some (.int .i64 y) := by
            have h3 := HF3.out.cellSome (Ints.at_ HL.out j hlt) (by simp)
            exact h3.trans (by have h4 := HFQ.out.cellSome (Ints.at_ HL.out j hlt) (by simp); exact h4.symm.trans HD.out)
          have HO := HN
          clear HN HO3 HG A0 A1 A2 A3 A4 HF3 d
          generalize hys3 : ys ++ [x] = ys3 at *
          have A0 : Hid ((w3.alloc (.cells #[Value.int .i64 y] 3)).ownsRow w.heap.size 3 1 (.slice ao3 ys3.length co3) (ys3).length ((ys3).map (Value.int .i64))) := Lib.hid (Own.keep HO.out ((Fr.refl [] w3).alloc _))
          have A1 : Hid ((ys3).length + [Value.int .i64 y].length ≤ maxLen) := Lib.hid (by have := HLO.out; unfold maxLen; simp only [List.length_singleton]; omega)
          have A2 : Hid (((ys3).length + [Value.int .i64 y].length) * 8 ≤ 140737488355328) := Lib.hid (by have := HLO.out; simp only [List.length_singleton]; omega)
          have A3 : Hid (Sl (w3.alloc (.cells #[Value.int .i64 y] 3)) (.slice (some ⟨w3.heap.size, 0, none⟩) 1 1) [Value.int .i64 y]) := Lib.hid (Sl.one w3 _ _)
          have A4 : Hid (w.heap.size ≤ (w3.alloc (.cells #[Value.int .i64 y] 3)).heap.size) := Lib.hid (by have := HFQ3.out.size; simp; omega)
          go_wp2_with (at_builtin; refine wpList_append_slf rfl (.tmp 29) (.tmp 34) 33 rfl w.heap.size 3 (.int .i64 0) 8 Try.underlying33 info_int rfl (.slice ao3 ys3.length co3) (ys3).length ((ys3).map (Value.int .i64)) rfl A0.out (.slice (some ⟨w3.heap.size, 0, none⟩) 1 1) [Value.int .i64 y] rfl A3.out (by simp [Value.oneCell']) A1.out A2.out A4.out ?_; intro v5 w5 ho hg hfr; have HO3 := Lib.hid ho; have HG := Lib.hid hg; have HBL := Lib.hid hfr; clear ho hg hfr)
          have HN : Hid (OwnV w5 w.heap.size 3 (Value.int .i64) v5 (ys3 ++ [y])) := Lib.hid (by
            have := HO3.out
            unfold OwnV
            rw [List.map_append, List.length_append]
            exact this)
          have HF3 : Hid (Fr [] w w5) := Lib.hid ((HFQ3.out.alloc _).step HG.out (fun x hx => .inr (HO.out.block x (by simpa using hx)).1))
          go_wp2_with fail
          exact ⟨⟨j + 1, true, ys3 ++ [y], by omega, by go_num, rfl, HI2.out, HN.out, HF3.out⟩, by simp [intOf]; omega⟩
        · have HI2 := Lib.hid (InsAt.le HI.out (y := y) (by omega))
          rw [← HT.out] at HI2
          have hy2 : ¬ x < y := hy
          have A0 : Hid ((wr.alloc (.cells #[Value.int .i64 y] 3)).ownsRow w.heap.size 3 1 (.slice ao ys.length co) (ys).length ((ys).map (Value.int .i64))) := Lib.hid (Own.keep HO.out ((Fr.refl [] wr).alloc _))
          have A1 : Hid ((ys).length + [Value.int .i64 y].length ≤ maxLen) := Lib.hid (by have := HLO.out; unfold maxLen; simp only [List.length_singleton]; omega)
          have A2 : Hid (((ys).length + [Value.int .i64 y].length) * 8 ≤ 140737488355328) := Lib.hid (by have := HLO.out; simp only [List.length_singleton]; omega)
          have A3 : Hid (Sl (wr.alloc (.cells #[Value.int .i64 y] 3)) (.slice (some ⟨wr.heap.size, 0, none⟩) 1 1) [Value.int .i64 y]) := Lib.hid (Sl.one wr _ _)
          have A4 : Hid (w.heap.size ≤ (wr.alloc (.cells #[Value.int .i64 y] 3)).heap.size) := Lib.hid (by have := HFQ.out.size; simp; omega)
          go_wp2_with (at_builtin; refine wpList_append_slf rfl (.tmp 29) (.tmp 34) 33 rfl w.heap.size 3 (.int .i64 0) 8 Try.underlying33 info_int rfl (.slice ao ys.length co) (ys).length ((ys).map (Value.int .i64)) rfl A0.out (.slice (some ⟨wr.heap.size, 0, none⟩) 1 1) [Value.int .i64 y] rfl A3.out (by simp [Value.oneCell']) A1.out A2.out A4.out ?_; intro v3 w3 ho hg hfr; have HO3 := Lib.hid ho; have HG := Lib.hid hg; have HBL := Lib.hid hfr; clear ho hg hfr)
          have HN : Hid (OwnV w3 w.heap.size 3 (Value.int .i64) v3 (ys ++ [y])) := Lib.hid (by
            have := HO3.out
            unfold OwnV
            rw [List.map_append, List.length_append]
            exact this)
          have HF3 : Hid (Fr [] w w3) := Lib.hid ((HFQ.out.alloc _).step HG.out (fun x hx => .inr (HO.out.block x (by simpa using hx)).1))
          go_wp2_with fail
          exact ⟨⟨j + 1, false, ys ++ [y], by omega, by go_num, rfl, HI2.out, HN.out, HF3.out⟩, by simp [intOf]; omega⟩
    · have HE : Hid (xs.take j = xs) := Lib.hid (List.take_of_length_le (by omega))
      rw [HE.out] at HI
      cases dn with
      | true =>
        have HE2 := Lib.hid HI.out.fin
        go_wp2_with fail
        go_ret
        exact ⟨_, rfl, by rw [← HE2.out]; exact HO.out, HFQ.out⟩
      | false =>
        have HE2 := Lib.hid HI.out.fin2
        have A0 : Hid ((wr.alloc (.cells #[Value.int .i64 x] 3)).ownsRow w.heap.size 3 1 (.slice ao ys.length co) (ys).length ((ys).map (Value.int .i64))) := Lib.hid (Own.keep HO.out ((Fr.refl [] wr).alloc _))
        have A1 : Hid ((ys).length + [Value.int .i64 x].length ≤ maxLen) := Lib.hid (by have := HLO.out; unfold maxLen; simp only [List.length_singleton]; omega)
        have A2 : Hid (((ys).length + [Value.int .i64 x].length) * 8 ≤ 140737488355328) := Lib.hid (by have := HLO.out; simp only [List.length_singleton]; omega)
        have A3 : Hid (Sl (wr.alloc (.cells #[Value.int .i64 x] 3)) (.slice (some ⟨wr.heap.size, 0, none⟩) 1 1) [Value.int .i64 x]) := Lib.hid (Sl.one wr _ _)
        have A4 : Hid (w.heap.size ≤ (wr.alloc (.cells #[Value.int .i64 x] 3)).heap.size) := Lib.hid (by have := HFQ.out.size; simp; omega)
        go_wp2_with (at_builtin; refine wpList_append_slf rfl (.tmp 38) (.tmp 40) 33 rfl w.heap.size 3 (.int .i64 0) 8 Try.underlying33 info_int rfl (.slice ao ys.length co) (ys).length ((ys).map (Value.int .i64)) rfl A0.out (.slice (some ⟨wr.heap.size, 0, none⟩) 1 1) [Value.int .i64 x] rfl A3.out (by simp [Value.oneCell']) A1.out A2.out A4.out ?_; intro v3 w3 ho hg hfr; have HO3 := Lib.hid ho; have HG := Lib.hid hg; have HBL := Lib.hid hfr; clear ho hg hfr)
        have HN : Hid (OwnV w3 w.heap.size 3 (Value.int .i64) v3 (ys ++ [x])) := Lib.hid (by
          have := HO3.out
          unfold OwnV
          rw [List.map_append, List.length_append]
          exact this)
        have HF3 : Hid (Fr [] w w3) := Lib.hid ((HFQ.out.alloc _).step HG.out (fun x hx => .inr (HO.out.block x (by simpa using hx)).1))
        go_wp2_with fail
        go_ret
        exact ⟨_, rfl, by rw [← HE2.out]; exact HN.out, HF3.out⟩
end Go.Proofs.Ytngfenjekgdfbaa

/- The walks of confluxref15.Peel, Closure, Peelable (printed by gen_sh3.py). -/
namespace Go.Proofs.Ytngfenjekgdfbaa
open Go.RowKit

def ToldR (_ : World) (c : List Value) (p : Int × Nat) (B : List Nat) : Prop := c = [.int .i64 p.1, .int .i64 p.2] ∧ B = []
theorem Rep.told : Rep 2 ToldR where
  len := by rintro w c y B ⟨rfl, -⟩; rfl
  one := by rintro w c y B ⟨rfl, -⟩ u hu; simp at hu; rcases hu with rfl | rfl <;> rfl
  lt := by rintro w c y B ⟨-, rfl⟩ b hb; cases hb
  fr := by rintro w w' c y B S h _ _; exact h
/-- How far peeling has come: what was told before this round, in this round. -/
structure PeelSt (known : List Int) (eqs : List (List Int)) (all0 : List Int) (ts0 : List (Int × Nat)) (i : Nat) (all : List Int) (ts : List (Int × Nat)) : Prop where
  told : peelT known eqs = ts0 ++ peelT all0 eqs
  base : all0 = known ++ ts0.map Prod.fst
  now : ∃ done, ts = ts0 ++ done ∧ all = all0 ++ done.map Prod.fst ∧ roundI all0 0 eqs = done ++ roundI all i (eqs.drop i)
namespace PeelSt
variable {known : List Int} {eqs : List (List Int)} {all0 all : List Int} {ts0 ts : List (Int × Nat)} {i : Nat}
theorem all_eq (h : PeelSt known eqs all0 ts0 i all ts) : all = known ++ ts.map Prod.fst := by
  obtain ⟨d, rfl, rfl, -⟩ := h.now
  rw [h.base, List.map_append, List.append_assoc]
theorem bound (h : PeelSt known eqs all0 ts0 i all ts) : ts.length + (roundI all i (eqs.drop i)).length ≤ eqs.length := by
  obtain ⟨d, rfl, rfl, hr⟩ := h.now
  have h1 : (peelT known eqs).length ≤ eqs.length := Nat.le_trans (peel_count _ _ _) (opens_len _ _)
  have h2 := congrArg List.length h.told
  rw [List.length_append] at h2
  have h3 := congrArg List.length hr
  rw [List.length_append] at h3
  by_cases hn : roundI all0 0 eqs = []
  · rw [hn] at h3
    simp at h3
    simp
    omega
  · rw [peel_some hn, List.length_append] at h2
    rw [List.length_append]
    omega
theorem start (known : List Int) (eqs : List (List Int)) : PeelSt known eqs known [] 0 known [] := ⟨by simp, by simp, [], by simp, by simp, by simp⟩
theorem tell (h : PeelSt known eqs all0 ts0 i all ts) {e : List Int} (he : eqs[i]? = some e) {x : Int} (hx : openI all e = [x]) : PeelSt known eqs all0 ts0 (i + 1) (all ++ [x]) (ts ++ [(x, i)]) := by
  obtain ⟨d, rfl, rfl, hr⟩ := h.now
  refine ⟨h.told, h.base, d ++ [(x, i)], by simp, by simp, ?_⟩
  obtain ⟨hi, rfl⟩ := List.getElem?_eq_some_iff.1 he
  rw [hr, List.drop_eq_getElem_cons hi]
  conv => lhs; unfold roundI
  rw [hx]
  simp
theorem pass (h : PeelSt known eqs all0 ts0 i all ts) {e : List Int} (he : eqs[i]? = some e) (hx : (openI all e).length ≠ 1) : PeelSt known eqs all0 ts0 (i + 1) all ts := by
  obtain ⟨d, rfl, rfl, hr⟩ := h.now
  refine ⟨h.told, h.base, d, rfl, rfl, ?_⟩
  obtain ⟨hi, rfl⟩ := List.getElem?_eq_some_iff.1 he
  rw [hr, List.drop_eq_getElem_cons hi]
  conv => lhs; unfold roundI
  split
  · rename_i x hq; rw [hq] at hx; simp at hx
  · rfl
theorem same (h : PeelSt known eqs all0 ts0 eqs.length all ts) (hl : ts.length = ts0.length) : peelT known eqs = ts := by
  obtain ⟨d, rfl, rfl, hr⟩ := h.now
  rw [List.length_append] at hl
  have : d = [] := List.eq_nil_of_length_eq_zero (by omega)
  subst this
  rw [List.drop_length] at hr
  simp only [roundI, List.append_nil] at hr
  rw [h.told, peel_none hr]
theorem next (h : PeelSt known eqs all0 ts0 eqs.length all ts) (hl : ts.length ≠ ts0.length) : PeelSt known eqs all ts 0 all ts ∧ ts0.length < ts.length := by
  have hall := h.all_eq
  obtain ⟨d, rfl, rfl, hr⟩ := h.now
  rw [List.length_append] at hl ⊢
  rw [List.drop_length] at hr
  simp only [roundI, List.append_nil] at hr
  have hne : roundI all0 0 eqs ≠ [] := by
    intro h0
    rw [h0] at hr
    rw [← hr] at hl
    simp at hl
  refine ⟨⟨?_, hall, [], by simp, by simp, by simp⟩, by omega⟩
  rw [h.told, peel_some hne, hr, List.append_assoc]
end PeelSt
def lenOf : Value → Nat
  | .slice _ n _ => n
  | _ => 0
set_option maxRecDepth 100000 in
theorem info_told : (Try.prog.info? 73).map (fun i => (i.zero, i.size, i.bytes)) = some (some (.agg #[.int .i64 0, .int .i64 0]), 2, 16) := by kernel_rfl
/-- Few enough for whatever is appended. -/
structure SzS (xs : List Int) (s : List (List Int)) : Prop where
  lx : xs.length ≤ 1073741824
  ls : s.length ≤ 1073741824
  lr : ∀ r ∈ s, r.length ≤ 1073741824

set_option maxRecDepth 100000 in
set_option maxHeartbeats 4000000 in
theorem ePeel_any {w : World} {v1 v2 : Value} {known : List Int} {eqs : List (List Int)} (h1 : Ints w v1 known) (h2 : IRows w v2 eqs) (hz : SzS known eqs) :
    Calls Try.prog 52 #[v1, v2] w fun e w' => ∃ v, e = .returned v ∧ OwnEls 2 ToldR w' w.heap.size 73 v (peelT known eqs) [] ∧ Fr [] w w' := by
  obtain ⟨a, c, rfl⟩ := h1.shape
  obtain ⟨a2, c2, rfl⟩ := SlOf.shape h2
  obtain ⟨w1, e1, hF, hB1, hs1⟩ := one_new w #[] 3
  have A0 : Hid (w1.ownsRow w.heap.size 3 1 (.slice (some ⟨w.heap.size, 0, none⟩) 0 0) 0 []) := Lib.hid (by subst e1; exact OwnV.made (f := Value.int .i64) w w.heap.size 3 (Nat.le_refl _))
  have hlen2 := h2.len
  have E1 := Lib.hid e1; have HF := Lib.hid hF
  have HL := Lib.hid (h1.keep hF); have HL2 := Lib.hid h2; have HZ := Lib.hid hz
  have A1 : Hid (0 + (known.map (Value.int .i64)).length ≤ maxLen) := Lib.hid (by have := hz.lx; unfold maxLen; rw [List.length_map]; omega)
  have A2 : Hid ((0 + (known.map (Value.int .i64)).length) * 8 ≤ 140737488355328) := Lib.hid (by have := hz.lx; rw [List.length_map]; omega)
  have A4 : Hid (w.heap.size ≤ w1.heap.size) := Lib.hid (by omega)
  have hone : Hid (∀ u ∈ known.map (Value.int .i64), u.oneCell' = true) := Lib.hid (by intro u hu; obtain ⟨x, -, rfl⟩ := List.mem_map.1 hu; rfl)
  clear e1 hF hB1 hs1 h1 h2 hz
  go_enter Try.func52, Try.ntmps52
  go_upto_region 2 with fail
  rw [E1.out]
  clear E1
  go_upto_region 3 with (at_builtin; refine wpList_append_slf rfl (.tmp 11) (.tmp 12) 33 rfl w.heap.size 3 (.int .i64 0) 8 Try.underlying33 info_int rfl _ 0 [] rfl A0.out (.slice a known.length c) (known.map (Value.int .i64)) rfl HL.out hone.out A1.out A2.out A4.out ?_; intro v2 w2 ho hg hfr; have HO3 := Lib.hid ho; have HG := Lib.hid hg; have HBL := Lib.hid hfr; clear ho hg hfr)
  have HFA : Hid (Fr [] w w2) := Lib.hid (HF.out.step HG.out (fun x hx => .inr (by have h := mem_toList.1 hx; injection h with h; exact Nat.le_of_eq h)))
  have HAO : Hid (OwnV w2 w.heap.size 3 (Value.int .i64) v2 known) := Lib.hid (by have := HO3.out; simp only [List.nil_append, Nat.zero_add, List.length_map] at this; exact this)
  clear HO3 HG HBL A0 A1 A2 A4 HF HL hone
  obtain ⟨w3, e3, hF3, hB3, hs3⟩ := one_new w2 #[] 73
  have HTO : Hid (OwnEls 2 ToldR w3 w.heap.size 73 (.slice (some ⟨w2.heap.size, 0, none⟩) 0 0) [] []) := Lib.hid (by subst e3; exact OwnEls.made w2 w.heap.size _ HFA.out.size)
  have E3 := Lib.hid e3
  have HDJ : Hid (∀ b, blockOf v2 = some b → blockOf (.slice (some ⟨w2.heap.size, 0, none⟩) 0 0) ≠ some b) := Lib.hid (fun b hb h => by have := (HAO.out.block b hb).2; simp [blockOf] at h; omega)
  have HAO3 := Lib.hid (HAO.out.keep hF3)
  have HF3 := Lib.hid (HFA.out.trans hF3)
  clear e3 hF3 hB3 hs3 HFA HAO
  go_upto_region 4 with fail
  rw [E3.out]
  clear E3
  go_loopw [5, 6, 7, 8, 9] (fun av ov nv iv xv wr => ∃ (all : List Int) (ts : List (Int × Nat)), PeelSt known eqs all ts 0 all ts ∧ OwnV wr w.heap.size 3 (Value.int .i64) av all ∧ OwnEls 2 ToldR wr w.heap.size 73 ov ts [] ∧ (∀ b, blockOf av = some b → blockOf ov ≠ some b) ∧ Fr [] w wr) (fun _ ov _ _ _ _ => eqs.length - lenOf ov)
  case atStart => exact ⟨known, [], PeelSt.start known eqs, HAO3.out, HTO.out, HDJ.out, HF3.out⟩
  case round =>
    clear HAO3 HTO HDJ HF3
    obtain ⟨all0, ts0, hP, hA, hO, hD, hF⟩ := hrel
    obtain ⟨ao0, co0, rfl⟩ := hA.shape
    obtain ⟨at0, ct0, rfl⟩ := hO.shape
    have HP0 := Lib.hid hP; have HA := Lib.hid hA; have HO := Lib.hid hO; have HD := Lib.hid hD; have HF := Lib.hid hF
    clear hP hA hO hD hF
    go_upto_region 6 with fail
    go_loopw [5, 6, 8, 9] (fun av ov iv xv wr => ∃ (i : Nat) (all : List Int) (ts : List (Int × Nat)), i ≤ eqs.length ∧ iv = .int .i64 i ∧ PeelSt known eqs all0 ts0 i all ts ∧ OwnV wr w.heap.size 3 (Value.int .i64) av all ∧ OwnEls 2 ToldR wr w.heap.size 73 ov ts [] ∧ (∀ b, blockOf av = some b → blockOf ov ≠ some b) ∧ Fr [] w wr) (fun _ _ iv _ _ => eqs.length - (intOf iv).toNat)
    case atStart => exact ⟨0, all0, ts0, Nat.zero_le _, rfl, HP0.out, HA.out, HO.out, HD.out, HF.out⟩
    case round =>
      clear HA HO HD HF
      obtain ⟨i, all, ts, hi, rfl, hP, hA, hO, hD, hF⟩ := hrel
      obtain ⟨ao, co, rfl⟩ := hA.shape
      obtain ⟨at1, ct, rfl⟩ := hO.shape
      have HBD : Hid (ts.length + (roundI all i (eqs.drop i)).length ≤ eqs.length) := Lib.hid hP.bound
      have HAL : Hid (all.length ≤ 2147483648) := Lib.hid (by have h1 := hP.all_eq; have h2 := hP.bound; have := HZ.out.lx; have := HZ.out.ls; rw [h1, List.length_append, List.length_map]; omega)
      have HP := Lib.hid hP; have HA := Lib.hid hA; have HO := Lib.hid hO; have HD := Lib.hid hD; have HFQ := Lib.hid hF
      have HAS : Hid (Ints _ (.slice ao all.length co) all) := Lib.hid hA.sl
      clear hP hA hO hD hF
      by_cases hlt : i < eqs.length
      · obtain ⟨b, o, al, cl, ea, hb, hcell, hR⟩ := IRows.at_ HL2.out i hlt
        subst ea
        have d := HFQ.out.cellSome hcell (by simp)
        have HR := Lib.hid (hR.keep HFQ.out)
        have HE : Hid (eqs[i]? = some eqs[i]) := Lib.hid (List.getElem?_eq_getElem hlt)
        have HRS : Hid (eqs[i].length ≤ 1099511627776) := Lib.hid (by have := HZ.out.lr _ (List.getElem_mem hlt); omega)
        clear hcell hR
        generalize eqs[i] = e at *
        go_wp2_with fail
        refine (eOpen_any HAS.out HR.out HRS.out).mono ?_
        rintro e1 w4 ⟨v4, rfl, hO4, hF4⟩
        obtain ⟨a4, c4, rfl⟩ := hO4.shape
        have HB4 : Hid (∀ b, blockOf (.slice a4 (openI all e).length c4) = some b → wr.heap.size ≤ b) := Lib.hid (fun b hb => (hO4.block b hb).1)
        have HBO : Hid (∀ b, blockOf (.slice at1 ts.length ct) = some b → b < wr.heap.size) := Lib.hid (fun b hb => (HO.out.block b hb).2)
        have HO4 : Hid (Ints w4 _ _) := Lib.hid hO4.sl
        have HA := Lib.hid (HA.out.keep hF4); have HO := Lib.hid (HO.out.keep Rep.told hF4); have HFQ := Lib.hid (HFQ.out.trans hF4)
        clear hO4 hF4 d
        by_cases h1 : (openI all e).length = 1
        · obtain ⟨x, hx⟩ := List.length_eq_one_iff.1 h1
          have HX := Lib.hid (HP.out.tell HE.out hx)
          have HBX : Hid (ts.length < 1073741824 ∧ ts.length + 1 ≤ eqs.length) := Lib.hid (by have h1 := HX.out.bound; have := HZ.out.ls; simp at h1; omega)
          rw [hx] at HO4 HB4 ⊢
          clear h1 hx
          simp only [List.length_singleton] at HO4 HB4 ⊢
          obtain ⟨b4, o4, ea4, hb4, -⟩ := Sl.at_ HO4.out (k := 0) (by omega)
          subst ea4
          have d4 := Ints.at_ HO4.out 0 (by simp)
          simp only [List.getElem_cons_zero, Nat.add_zero] at d4
          have HD4 := Lib.hid d4
          obtain ⟨w5, e5, hF5, hB5, hs5⟩ := one_new w4 #[.int .i64 x, .int .i64 i] 73
          have E5 := Lib.hid e5; have HB5 := Lib.hid hB5
          have HO5 := Lib.hid (HO.out.keep Rep.told hF5)
          have HF5 := Lib.hid hF5
          have HL1 : Hid (ts.length + 1 ≤ maxLen) := Lib.hid (by have := HBX.out.1; unfold maxLen; omega)
          have HL2' : Hid ((ts.length + 1) * 16 ≤ 140737488355328) := Lib.hid (by have := HBX.out.1; omega)
          have HL3 : Hid (w.heap.size ≤ w5.heap.size) := Lib.hid (by have := HFQ.out.size; omega)
          clear e5 hF5 hB5 hs5
          go_upto_region 11 with (at_builtin; (rw [E5.out]); refine wpList_append_el Rep.told (by decide) rfl (.tmp 32) (.tmp 38) 70 rfl w.heap.size 73 (.agg #[.int .i64 0, .int .i64 0]) 16 Try.underlying70 info_told rfl (.slice at1 ts.length ct) ts [] rfl HO5.out w4.heap.size 0 1 rfl [.int .i64 x, .int .i64 i] (x, i) [] (box_range HB5.out) ⟨rfl, rfl⟩ (by simp) HL1.out HL2'.out HL3.out ?_; intro v6 w6 hown6 hfr6 hbl6; have HO6 := Lib.hid hown6; have HG6 := Lib.hid hfr6; have HBL6 := Lib.hid hbl6; clear hown6 hfr6 hbl6)
          have HDA : Hid (∀ b, blockOf (.slice ao all.length co) = some b → b ∉ (blockOf (.slice at1 ts.length ct)).toList) := Lib.hid (fun b hb hm => HD.out b hb (mem_toList.1 hm))
          have HA6 : Hid (OwnV w6 w.heap.size 3 (Value.int .i64) (.slice ao all.length co) all) := Lib.hid (Own.fr (Own.keep HA.out HF5.out) HG6.out HDA.out)
          have HF6 : Hid (Fr [] w w6) := Lib.hid ((HFQ.out.trans HF5.out).step HG6.out (fun x hx => .inr (HO5.out.block x (mem_toList.1 hx)).1))
          have HD6 : Hid (∀ b, blockOf (.slice ao all.length co) = some b → blockOf v6 ≠ some b) := Lib.hid (fun b hb h6 => by
            rcases HBL6.out b h6 with h | h
            · exact HD.out b hb h
            · have h1 := (HA.out.block b hb).2
              have h2 := HF5.out.size
              omega)
          have HDN : Hid (b4 ∉ (blockOf (.slice at1 ts.length ct)).toList) := Lib.hid (fun hm => by
            have h1 := HBO.out _ (mem_toList.1 hm)
            have h2 := HB4.out b4 rfl
            omega)
          have d6 : w6.cell? ⟨b4, o4, none⟩ = some (.int .i64 x) := HG6.out.cellSome (HF5.out.cellSome HD4.out (by simp)) HDN.out
          obtain ⟨a6, c6, rfl⟩ := HO6.out.shape
          have HBX2 : Hid (all.length ≤ 2147483648) := HAL
          have HLO : Hid (all.length ≤ 1099511627776) := Lib.hid (by have := HAL.out; omega)
          have HFQ6 := HF6
          have A0 : Hid ((w6.alloc (.cells #[Value.int .i64 x] 3)).ownsRow w.heap.size 3 1 (.slice ao (all).length co) (all).length ((all).map (Value.int .i64))) := Lib.hid (Own.keep HA6.out ((Fr.refl [] w6).alloc _))
          have A1 : Hid ((all).length + [Value.int .i64 x].length ≤ maxLen) := Lib.hid (by have := HLO.out; unfold maxLen; simp only [List.length_singleton]; omega)
          have A2 : Hid (((all).length + [Value.int .i64 x].length) * 8 ≤ 140737488355328) := Lib.hid (by have := HLO.out; simp only [List.length_singleton]; omega)
          have A3 : Hid (Sl (w6.alloc (.cells #[Value.int .i64 x] 3)) (.slice (some ⟨w6.heap.size, 0, none⟩) 1 1) [Value.int .i64 x]) := Lib.hid (Sl.one w6 _ _)
          have A4 : Hid (w.heap.size ≤ (w6.alloc (.cells #[Value.int .i64 x] 3)).heap.size) := Lib.hid (by have := HFQ6.out.size; simp; omega)
          go_upto_region 7 with (at_builtin; refine wpList_append_slf rfl (.tmp 40) (.tmp 44) 33 rfl w.heap.size 3 (.int .i64 0) 8 Try.underlying33 info_int rfl (.slice ao (all).length co) (all).length ((all).map (Value.int .i64)) rfl A0.out (.slice (some ⟨w6.heap.size, 0, none⟩) 1 1) [Value.int .i64 x] rfl A3.out (by simp [Value.oneCell']) A1.out A2.out A4.out ?_; intro v7 w7 ho hg hfr; have HO3 := Lib.hid ho; have HG := Lib.hid hg; have HBL := Lib.hid hfr; clear ho hg hfr)
          have HN : Hid (OwnV w7 w.heap.size 3 (Value.int .i64) v7 (all ++ [x])) := Lib.hid (by
            have := HO3.out
            unfold OwnV
            rw [List.map_append, List.length_append]
            exact this)
          have HF3 : Hid (Fr [] w w7) := Lib.hid ((HFQ6.out.alloc _).step HG.out (fun x hx => .inr (HA6.out.block x (by simpa using hx)).1))
          have HDT : Hid (∀ b, blockOf (.slice a6 (ts ++ [(x, i)]).length c6) = some b → b ∉ (blockOf (.slice ao all.length co)).toList) := Lib.hid (fun b hb hm => HD6.out b (mem_toList.1 hm) hb)
          have HT7 : Hid (OwnEls 2 ToldR w7 w.heap.size 73 (.slice a6 (ts ++ [(x, i)]).length c6) (ts ++ [(x, i)]) []) := Lib.hid ((HO6.out.keep Rep.told ((Fr.refl [] w6).alloc _)).fr Rep.told HG.out (by simp) HDT.out)
          have HD7 : Hid (∀ b, blockOf v7 = some b → blockOf (.slice a6 (ts ++ [(x, i)]).length c6) ≠ some b) := Lib.hid (fun b hb h6 => by
            rcases HBL.out b hb with h | h
            · exact HD6.out b h h6
            · have h1 := (HO6.out.block b h6).2
              simp at h
              omega)
          go_wp2_with fail
          exact ⟨⟨i + 1, all ++ [x], ts ++ [(x, i)], by omega, by go_num, HX.out, HN.out, (by have h := HT7.out; rw [List.length_append] at h; exact h), (by have h := HD7.out; rw [List.length_append] at h; exact h), HF3.out⟩, by simp [intOf]; omega⟩
        · have HX := Lib.hid (HP.out.pass HE.out h1)
          have h1i : ¬ ((openI all e).length : Int) = 1 := by omega
          have h1b : (((openI all e).length : Int) == 1) = false := beq_eq_false_iff_ne.2 h1i
          generalize (openI all e).length = n4 at *
          go_wp2_with fail
          exact ⟨⟨i + 1, all, ts, by omega, by go_num, HX.out, HA.out, HO.out, HD.out, HFQ.out⟩, by simp [intOf]; omega⟩
      · obtain rfl : i = eqs.length := by omega
        by_cases hl : ts.length = ts0.length
        · have HE := Lib.hid (HP.out.same hl)
          have hl2 : (ts0.length == ts.length) = true := by rw [hl]; simp
          have hl3 : ((ts0.length : Int) == (ts.length : Int)) = true := by rw [hl]; simp
          have HL := Lib.hid hl
          clear hl
          go_wp2_with fail
          go_ret
          exact ⟨_, rfl, by rw [HE.out]; exact HO.out, HFQ.out⟩
        · have HE := Lib.hid (HP.out.next hl)
          have hl3 : ((ts0.length : Int) == (ts.length : Int)) = false := beq_eq_false_iff_ne.2 (by omega)
          have hl2 : (ts0.length == ts.length) = false := beq_eq_false_iff_ne.2 (by omega)
          have HL := Lib.hid hl
          have hl4 : ¬ (ts0.length : Int) = (ts.length : Int) := by omega
          clear hl
          have HLT := Lib.hid HE.out.2
          go_wp2_with fail
          exact ⟨⟨all, ts, HE.out.1, HA.out, HO.out, HD.out, HFQ.out⟩, by have h1 := HLT.out; have h2 := HBD.out; simp [lenOf]; omega⟩

set_option maxRecDepth 100000 in
set_option maxHeartbeats 4000000 in
theorem eClosure_any {w : World} {v1 v2 : Value} {known : List Int} {eqs : List (List Int)} (h1 : Ints w v1 known) (h2 : IRows w v2 eqs) (hz : SzS known eqs) :
    Calls Try.prog 47 #[v1, v2] w fun e w' => ∃ v, e = .returned v ∧ OwnV w' w.heap.size 3 (Value.int .i64) v (closureI known eqs) ∧ Fr [] w w' := by
  obtain ⟨a, c, rfl⟩ := h1.shape
  obtain ⟨a2, c2, rfl⟩ := SlOf.shape h2
  obtain ⟨w1, e1, hF, hB1, hs1⟩ := one_new w #[] 3
  have A0 : Hid (w1.ownsRow w.heap.size 3 1 (.slice (some ⟨w.heap.size, 0, none⟩) 0 0) 0 []) := Lib.hid (by subst e1; exact OwnV.made (f := Value.int .i64) w w.heap.size 3 (Nat.le_refl _))
  have E1 := Lib.hid e1; have HF := Lib.hid hF
  have HL := Lib.hid (h1.keep hF); have HL2 := Lib.hid h2; have HZ := Lib.hid hz; have HL0 := Lib.hid h1
  have A1 : Hid (0 + (known.map (Value.int .i64)).length ≤ maxLen) := Lib.hid (by have := hz.lx; unfold maxLen; rw [List.length_map]; omega)
  have A2 : Hid ((0 + (known.map (Value.int .i64)).length) * 8 ≤ 140737488355328) := Lib.hid (by have := hz.lx; rw [List.length_map]; omega)
  have A4 : Hid (w.heap.size ≤ w1.heap.size) := Lib.hid (by omega)
  have hone : Hid (∀ u ∈ known.map (Value.int .i64), u.oneCell' = true) := Lib.hid (by intro u hu; obtain ⟨x, -, rfl⟩ := List.mem_map.1 hu; rfl)
  clear e1 hF hB1 hs1 h1 h2 hz
  go_enter Try.func47, Try.ntmps47
  go_upto_region 2 with fail
  rw [E1.out]
  clear E1
  go_upto_region 3 with (at_builtin; refine wpList_append_slf rfl (.tmp 9) (.tmp 10) 33 rfl w.heap.size 3 (.int .i64 0) 8 Try.underlying33 info_int rfl _ 0 [] rfl A0.out (.slice a known.length c) (known.map (Value.int .i64)) rfl HL.out hone.out A1.out A2.out A4.out ?_; intro v2 w2 ho hg hfr; have HO3 := Lib.hid ho; have HG := Lib.hid hg; have HBL := Lib.hid hfr; clear ho hg hfr)
  have HFA : Hid (Fr [] w w2) := Lib.hid (HF.out.step HG.out (fun x hx => .inr (by have h := mem_toList.1 hx; injection h with h; exact Nat.le_of_eq h)))
  have HAO : Hid (OwnV w2 w.heap.size 3 (Value.int .i64) v2 known) := Lib.hid (by have := HO3.out; simp only [List.nil_append, Nat.zero_add, List.length_map] at this; exact this)
  clear HO3 HG HBL A0 A1 A2 A4 HF HL hone
  go_wp2_with fail
  refine (ePeel_any (Ints.keep HL0.out HFA.out) (HL2.out.keep HFA.out) HZ.out).mono ?_
  rintro e w3 ⟨v3, rfl, hT, hF3⟩
  have hT0 := hT
  obtain ⟨a3, c3, rfl⟩ := hT.shape
  have HTL : Hid ((peelT known eqs).length ≤ 1073741824) := Lib.hid (by have := HZ.out.ls; exact Nat.le_trans (peel_count _ _ _) (Nat.le_trans (opens_len _ _) this))
  have HCL := Lib.hid (closure_eq known eqs)
  generalize peelT known eqs = ts at *
  have HT : Hid (SlEls 2 ToldR w3 (.slice a3 ts.length c3) ts []) := Lib.hid hT.sl
  have HO := Lib.hid (HAO.out.keep hF3)
  have HF := Lib.hid (HFA.out.trans hF3)
  have HTB : Hid (∀ b, blockOf (.slice a3 ts.length c3) = some b → b < w3.heap.size) := Lib.hid (fun b hb => (hT.block b hb).2)
  have HDJ : Hid (∀ b, blockOf v2 = some b → blockOf (.slice a3 ts.length c3) ≠ some b) := Lib.hid (fun b hb h => by have h1 := (HAO.out.block b hb).2; have h2 := (hT.block b h).1; omega)
  clear hT hT0 hF3 HAO HFA
  have htl := HTL.out
  go_upto_region 5 with fail
  go_loopw [5, 7] (fun ov iv wr => ∃ j : Nat, j ≤ ts.length ∧ iv = .int .i64 j ∧ OwnV wr w.heap.size 3 (Value.int .i64) ov (known ++ (ts.take j).map Prod.fst) ∧ SlEls 2 ToldR wr (.slice a3 ts.length c3) ts [] ∧ Fr [] w wr ∧ w3.heap.size ≤ wr.heap.size ∧ (∀ b, blockOf ov = some b → blockOf (.slice a3 ts.length c3) ≠ some b)) (fun _ iv _ => ts.length - (intOf iv).toNat)
  case atStart => exact ⟨0, by omega, rfl, by simpa using HO.out, HT.out, HF.out, Nat.le_refl _, HDJ.out⟩
  case round =>
    clear HO HT HF HDJ
    obtain ⟨j, hj, rfl, hO, hT, hF, hw, hD⟩ := hrel
    obtain ⟨ao, co, rfl⟩ := hO.shape
    have HLO : Hid ((known ++ (ts.take j).map Prod.fst).length ≤ 1099511627776) := Lib.hid (by have := HZ.out.lx; have := HTL.out; rw [List.length_append, List.length_map, List.length_take]; omega)
    have HO := Lib.hid hO; have HT := Lib.hid hT; have HFQ := Lib.hid hF; have HW := Lib.hid hw; have HD := Lib.hid hD
    clear hO hT hF hw hD
    by_cases hlt : j < ts.length
    · obtain ⟨b, o, cs, y, B1, ea, hb, hy, ⟨rfl, -⟩, -, hrg⟩ := SlEls.at_ Rep.told HT.out hlt
      subst ea
      have d := hrg 0 _ rfl
      simp only [Nat.add_zero] at d
      have HTK : Hid (known ++ (ts.take (j + 1)).map Prod.fst = known ++ (ts.take j).map Prod.fst ++ [y.1]) := Lib.hid (by rw [List.take_add_one, hy]; simp)
      generalize known ++ (ts.take j).map Prod.fst = ys at *
      clear hrg hy
      have A0 : Hid ((wr.alloc (.cells #[Value.int .i64 y.1] 3)).ownsRow w.heap.size 3 1 (.slice ao (ys).length co) (ys).length ((ys).map (Value.int .i64))) := Lib.hid (Own.keep HO.out ((Fr.refl [] wr).alloc _))
      have A1 : Hid ((ys).length + [Value.int .i64 y.1].length ≤ maxLen) := Lib.hid (by have := HLO.out; unfold maxLen; simp only [List.length_singleton]; omega)
      have A2 : Hid (((ys).length + [Value.int .i64 y.1].length) * 8 ≤ 140737488355328) := Lib.hid (by have := HLO.out; simp only [List.length_singleton]; omega)
      have A3 : Hid (Sl (wr.alloc (.cells #[Value.int .i64 y.1] 3)) (.slice (some ⟨wr.heap.size, 0, none⟩) 1 1) [Value.int .i64 y.1]) := Lib.hid (Sl.one wr _ _)
      have A4 : Hid (w.heap.size ≤ (wr.alloc (.cells #[Value.int .i64 y.1] 3)).heap.size) := Lib.hid (by have := HFQ.out.size; simp; omega)
      go_wp2_with (at_builtin; refine wpList_append_slf rfl (.tmp 21) (.tmp 27) 33 rfl w.heap.size 3 (.int .i64 0) 8 Try.underlying33 info_int rfl (.slice ao (ys).length co) (ys).length ((ys).map (Value.int .i64)) rfl A0.out (.slice (some ⟨wr.heap.size, 0, none⟩) 1 1) [Value.int .i64 y.1] rfl A3.out (by simp [Value.oneCell']) A1.out A2.out A4.out ?_; intro v3' w3' ho hg hfr; have HO3 := Lib.hid ho; have HG := Lib.hid hg; have HBL := Lib.hid hfr; clear ho hg hfr)
      have HN : Hid (OwnV w3' w.heap.size 3 (Value.int .i64) v3' (ys ++ [y.1])) := Lib.hid (by
        have := HO3.out
        unfold OwnV
        rw [List.map_append, List.length_append]
        exact this)
      have HF3 : Hid (Fr [] w w3') := Lib.hid ((HFQ.out.alloc _).step HG.out (fun x hx => .inr (HO.out.block x (by simpa using hx)).1))
      have HDT : Hid (∀ q, blockOf (.slice (some ⟨b, o, none⟩) ts.length c3) = some q → q ∉ (blockOf (.slice ao ys.length co)).toList) := Lib.hid (fun q hq hm => HD.out q (mem_toList.1 hm) hq)
      have HT7 : Hid (SlEls 2 ToldR w3' (.slice (some ⟨b, o, none⟩) ts.length c3) ts []) := Lib.hid ((HT.out.keep Rep.told ((Fr.refl [] wr).alloc _)).fr Rep.told HG.out (by simp) (fun q hq => HDT.out q (live_block hq)))
      have HD7 : Hid (∀ q, blockOf v3' = some q → blockOf (.slice (some ⟨b, o, none⟩) ts.length c3) ≠ some q) := Lib.hid (fun q hq h6 => by
        rcases HBL.out q hq with h | h
        · exact HD.out q h h6
        · have h1 := HTB.out q h6
          have := HW.out
          simp at h
          omega)
      have HW7 : Hid (w3.heap.size ≤ w3'.heap.size) := Lib.hid (by have h1 := HG.out.size; have := HW.out; simp at h1; omega)
      go_wp2_with fail
      exact ⟨⟨j + 1, by omega, by go_num, by rw [HTK.out]; exact HN.out, HT7.out, HF3.out, HW7.out, HD7.out⟩, by simp [intOf]; omega⟩
    · have HE : Hid (known ++ (ts.take j).map Prod.fst = closureI known eqs) := Lib.hid (by rw [List.take_of_length_le (by omega)]; exact HCL.out.symm)
      go_wp2_with fail
      go_ret
      exact ⟨_, rfl, by rw [← HE.out]; exact HO.out, HFQ.out⟩
end Go.Proofs.Ytngfenjekgdfbaa

/- The walks of confluxref15.Peelable; confluxref18.Covers, Burst (printed by gen_sh4.py). -/
namespace Go.Proofs.Ytngfenjekgdfbaa
open Go.RowKit

theorem peelable_no {lost known : List Int} {eqs : List (List Int)} {x : Int} (hx : x ∈ lost) (h : (closureI (known.filter fun y => !lost.contains y) eqs).contains x = false) : peelableI lost known eqs = false := by
  unfold peelableI
  rw [List.all_eq_false]
  exact ⟨x, hx, by rw [h]; simp⟩
theorem peelable_yes {lost known : List Int} {eqs : List (List Int)} (h : ∀ x ∈ lost, (closureI (known.filter fun y => !lost.contains y) eqs).contains x = true) : peelableI lost known eqs = true := by
  unfold peelableI
  rw [List.all_eq_true]
  exact h
theorem filter_snoc {α : Type} (p : α → Bool) (l : List α) (x : α) : (l ++ [x]).filter p = l.filter p ++ if p x then [x] else [] := by
  rw [List.filter_append]
  cases h : p x <;> simp [h]
set_option maxRecDepth 100000 in
set_option maxHeartbeats 4000000 in
theorem ePeelable_any {w : World} {v1 v2 v3 : Value} {lost known : List Int} {eqs : List (List Int)} (h1 : Ints w v1 lost) (h2 : Ints w v2 known) (h3 : IRows w v3 eqs) (hz : SzS known eqs) :
    Calls Try.prog 39 #[v1, v2, v3] w fun e w' => e = .returned (.bool (peelableI lost known eqs)) ∧ Fr [] w w' := by
  obtain ⟨a1, c1, rfl⟩ := h1.shape
  obtain ⟨a2, c2, rfl⟩ := h2.shape
  obtain ⟨a3, c3, rfl⟩ := SlOf.shape h3
  have hlen1 := h1.len
  have hlen2 := h2.len
  obtain ⟨w1, e1, hF, hB1, hs1⟩ := one_new w #[] 3
  have HO : Hid (OwnV w1 w.heap.size 3 (Value.int .i64) (.slice (some ⟨w.heap.size, 0, none⟩) 0 0) []) := Lib.hid (by subst e1; exact OwnV.made w w.heap.size _ _ (Nat.le_refl _))
  have E1 := Lib.hid e1; have HF := Lib.hid hF
  have HL1 := Lib.hid h1; have HL2 := Lib.hid h2; have HL3 := Lib.hid h3; have HZ := Lib.hid hz
  clear e1 hF hB1 hs1 h1 h2 h3 hz
  go_enter Try.func39, Try.ntmps39
  go_upto_region 2 with fail
  rw [E1.out]
  clear E1
  go_wp2_with fail
  go_loopw [7, 8] (fun ov iv wr => ∃ (j : Nat) (ys : List Int), j ≤ known.length ∧ iv = .int .i64 j ∧ ys = ((known.take j).filter fun y => !lost.contains y) ∧ OwnV wr w.heap.size 3 (Value.int .i64) ov ys ∧ Fr [] w wr) (fun _ iv _ => known.length - (intOf iv).toNat)
  case atStart => exact ⟨0, [], by omega, rfl, rfl, HO.out, HF.out⟩
  case round =>
    clear HO HF
    obtain ⟨j, ys, hj, rfl, hys, hO, hF⟩ := hrel
    obtain ⟨ao, co, rfl⟩ := hO.shape
    have HLO : Hid (ys.length ≤ 1073741824) := Lib.hid (by have := HZ.out.lx; have h := List.length_filter_le (fun y => !lost.contains y) (known.take j); rw [List.length_take, ← hys] at h; omega)
    have HYS := Lib.hid hys
    clear hys
    have HO := Lib.hid hO; have HFQ := Lib.hid hF
    clear hO hF
    by_cases hlt : j < known.length
    · obtain ⟨b, o, ea, hb, -⟩ := Sl.at_ HL2.out hlt
      subst ea
      have d := HFQ.out.cellSome (Ints.at_ HL2.out j hlt) (by simp)
      have HT : Hid (known.take (j + 1) = known.take j ++ [known[j]]) := Lib.hid (List.take_succ_eq_append_getElem hlt)
      generalize known[j] = y at *
      have HSN := Lib.hid (filter_snoc (fun y => !lost.contains y) (known.take j) y)
      rw [← HT.out, ← HYS.out] at HSN
      have HD := Lib.hid d
      go_wp2_with fail
      refine (eIn_any (HL1.out.keep HFQ.out) y).mono ?_
      rintro e w3 ⟨rfl, hF3⟩
      have HO := Lib.hid (HO.out.keep hF3)
      have HFQ := Lib.hid (HFQ.out.trans hF3)
      have HD := Lib.hid (hF3.cellSome HD.out (by simp))
      clear d
      have d := HD.out
      clear hF3
      cases hc : lost.contains y with
      | true =>
        have HC := Lib.hid hc
        rw [hc] at HSN
        simp only [Bool.not_true, Bool.false_eq_true, if_false, List.append_nil] at HSN
        clear hc
        go_wp2_with fail
        exact ⟨⟨j + 1, ys, by omega, by go_num, HSN.out.symm, HO.out, HFQ.out⟩, by simp [intOf]; omega⟩
      | false =>
        have HC := Lib.hid hc
        rw [hc] at HSN
        simp only [Bool.not_false, if_true] at HSN
        clear hc
        go_upto_region 6 with fail
        have A0 : Hid ((w3.alloc (.cells #[Value.int .i64 y] 3)).ownsRow w.heap.size 3 1 (.slice ao (ys).length co) (ys).length ((ys).map (Value.int .i64))) := Lib.hid (Own.keep HO.out ((Fr.refl [] w3).alloc _))
        have A1 : Hid ((ys).length + [Value.int .i64 y].length ≤ maxLen) := Lib.hid (by have := HLO.out; unfold maxLen; simp only [List.length_singleton]; omega)
        have A2 : Hid (((ys).length + [Value.int .i64 y].length) * 8 ≤ 140737488355328) := Lib.hid (by have := HLO.out; simp only [List.length_singleton]; omega)
        have A3 : Hid (Sl (w3.alloc (.cells #[Value.int .i64 y] 3)) (.slice (some ⟨w3.heap.size, 0, none⟩) 1 1) [Value.int .i64 y]) := Lib.hid (Sl.one w3 _ _)
        have A4 : Hid (w.heap.size ≤ (w3.alloc (.cells #[Value.int .i64 y] 3)).heap.size) := Lib.hid (by have := HFQ.out.size; simp; omega)
        go_wp2_with (at_builtin; refine wpList_append_slf rfl (.tmp 25) (.tmp 30) 33 rfl w.heap.size 3 (.int .i64 0) 8 Try.underlying33 info_int rfl (.slice ao (ys).length co) (ys).length ((ys).map (Value.int .i64)) rfl A0.out (.slice (some ⟨w3.heap.size, 0, none⟩) 1 1) [Value.int .i64 y] rfl A3.out (by simp [Value.oneCell']) A1.out A2.out A4.out ?_; intro v4 w4 ho hg hfr; have HO3 := Lib.hid ho; have HG := Lib.hid hg; have HBL := Lib.hid hfr; clear ho hg hfr)
        have HN : Hid (OwnV w4 w.heap.size 3 (Value.int .i64) v4 (ys ++ [y])) := Lib.hid (by
          have := HO3.out
          unfold OwnV
          rw [List.map_append, List.length_append]
          exact this)
        have HF3 : Hid (Fr [] w w4) := Lib.hid ((HFQ.out.alloc _).step HG.out (fun x hx => .inr (HO.out.block x (by simpa using hx)).1))
        go_wp2_with fail
        exact ⟨⟨j + 1, ys ++ [y], by omega, by go_num, HSN.out.symm, HN.out, HF3.out⟩, by simp [intOf]; omega⟩
    · have HE : Hid ((known.take j).filter (fun y => !lost.contains y) = known.filter (fun y => !lost.contains y)) := Lib.hid (by rw [List.take_of_length_le (by omega)])
      rw [← HYS.out] at HE
      have HZ2 : Hid (SzS ys eqs) := Lib.hid ⟨HLO.out, HZ.out.ls, HZ.out.lr⟩
      have HI : Hid (Ints wr _ ys) := Lib.hid HO.out.sl
      go_wp2_with fail
      refine (eClosure_any HI.out (HL3.out.keep HFQ.out) HZ2.out).mono ?_
      rintro e w3 ⟨v3, rfl, hC, hF3⟩
      have HC : Hid (Ints w3 v3 (closureI ys eqs)) := Lib.hid hC.sl
      have HF := Lib.hid (HFQ.out.trans hF3)
      have HL1 := Lib.hid (HL1.out.keep HF.out)
      have HNO := Lib.hid (fun x hx => peelable_no (lost := lost) (known := known) (eqs := eqs) (x := x) hx)
      have HYES := Lib.hid (peelable_yes (lost := lost) (known := known) (eqs := eqs))
      rw [← HE.out] at HNO HYES
      generalize closureI ys eqs = cl at *
      obtain ⟨ac, cc, rfl⟩ := HC.out.shape
      clear hC hF3 HO HFQ HLO HE HZ2 HI HZ hlt HYS
      go_upto_region 9 with fail
      go_loopw [10] (fun iv wr => ∃ j : Nat, j ≤ lost.length ∧ iv = .int .i64 j ∧ (∀ x ∈ lost.take j, cl.contains x = true) ∧ Fr [] w3 wr) (fun iv _ => lost.length - (intOf iv).toNat)
      case atStart => exact ⟨0, by omega, rfl, by simp, Fr.refl _ _⟩
      case round =>
        obtain ⟨j, hj, rfl, hA, hFQ⟩ := hrel
        have HA := Lib.hid hA; have HFQ := Lib.hid hFQ
        clear hA hFQ
        by_cases hlt : j < lost.length
        · obtain ⟨b, o, ea, hb, -⟩ := Sl.at_ HL1.out hlt
          subst ea
          have d := HFQ.out.cellSome (Ints.at_ HL1.out j hlt) (by simp)
          have HT : Hid (lost.take (j + 1) = lost.take j ++ [lost[j]]) := Lib.hid (List.take_succ_eq_append_getElem hlt)
          have HM : Hid (lost[j] ∈ lost) := Lib.hid (List.getElem_mem hlt)
          generalize lost[j] = y at *
          go_wp2_with fail
          refine (eIn_any (HC.out.keep HFQ.out) y).mono ?_
          rintro e w4 ⟨rfl, hF4⟩
          have HFQ := Lib.hid (HFQ.out.trans hF4)
          clear hF4 d
          cases hc : cl.contains y with
          | true =>
            have HCT := Lib.hid hc
            clear hc
            go_wp2_with fail
            go_roundw
            case rel =>
              refine ⟨j + 1, by omega, by go_num, ?_, HFQ.out⟩
              intro q hq
              rw [HT.out] at hq
              rcases List.mem_append.1 hq with hq | hq
              · exact HA.out q hq
              · simp at hq; rw [hq]; exact HCT.out
            case measure => simp [intOf]; omega
          | false =>
            have HE := Lib.hid (HNO.out y HM.out hc)
            clear hc
            go_wp2_with fail
            go_ret
            exact ⟨by rw [HE.out]; rfl, HF.out.trans HFQ.out⟩
        · have HE : Hid (peelableI lost known eqs = true) := Lib.hid (HYES.out (by have := HA.out; rw [List.take_of_length_le (by omega)] at this; exact this))
          go_wp2_with fail
          go_ret
          exact ⟨by rw [HE.out]; rfl, HF.out.trans HFQ.out⟩
/-- Has each of k places some repair? -/
def coversS (s : List (List Int)) (k : Int) : Bool := (List.range (min k 49).toNat).all fun p => hasS s ((p : Nat) : Int)
theorem covers_no {s : List (List Int)} {k : Int} {p : Nat} (h1 : (p : Int) < k) (h2 : p < 49) (h : hasS s (p : Int) = false) : coversS s k = false := by
  unfold coversS
  rw [List.all_eq_false]
  exact ⟨p, List.mem_range.2 (by omega), by rw [h]; simp⟩
theorem covers_yes {s : List (List Int)} {k : Int} {j : Nat} (hj : ¬ ((j : Int) < k ∧ j < 49)) (h : ∀ p : Nat, p < j → hasS s (p : Int) = true) : coversS s k = true := by
  unfold coversS
  rw [List.all_eq_true]
  intro p hp
  have := List.mem_range.1 hp
  exact h p (by omega)
set_option maxRecDepth 100000 in
set_option maxHeartbeats 4000000 in
theorem r18Covers_any {w : World} {v : Value} {s : List (List Int)} (h : IRows w v s) (k : Int) :
    Calls Try.prog 18 #[v, .int .i64 k] w fun e w' => e = .returned (.bool (coversS s k)) ∧ Fr [] w w' := by
  have HL := Lib.hid h
  clear h
  go_enter Try.func18, Try.ntmps18
  go_wp2_with fail
  go_loopw [5] (fun iv wr => ∃ j : Nat, j ≤ 49 ∧ iv = .int .i64 j ∧ (∀ p : Nat, p < j → hasS s (p : Int) = true) ∧ Fr [] w wr) (fun iv _ => 49 - (intOf iv).toNat)
  case atStart => exact ⟨0, by omega, rfl, by simp, Fr.refl _ _⟩
  case round =>
    obtain ⟨j, hj, rfl, hA, hF⟩ := hrel
    have HA := Lib.hid hA; have HF := Lib.hid hF
    clear hA hF
    by_cases hk : (j : Int) < k
    · by_cases hlt : j < 49
      · go_wp2_with fail
        refine (r18Has_any (HL.out.keep HF.out) _).mono ?_
        rintro e w3 ⟨rfl, hF3⟩
        have HF := Lib.hid (HF.out.trans hF3)
        clear hF3
        cases hc : hasS s (j : Int) with
        | true =>
          have HC := Lib.hid hc
          clear hc
          go_wp2_with fail
          go_roundw
          case rel =>
            refine ⟨j + 1, by omega, by go_num, ?_, HF.out⟩
            intro p hp
            by_cases e : p = j
            · rw [e]; exact HC.out
            · exact HA.out p (by omega)
          case measure => simp [intOf]; omega
        | false =>
          have HE := Lib.hid (covers_no hk hlt hc)
          clear hc
          go_wp2_with fail
          go_ret
          exact ⟨by rw [HE.out]; rfl, HF.out⟩
      · have HE := Lib.hid (covers_yes (s := s) (k := k) (j := j) (by omega) HA.out)
        obtain rfl : j = 49 := by omega
        go_wp2_with fail
        go_ret
        exact ⟨by rw [HE.out]; rfl, HF.out⟩
    · have HE := Lib.hid (covers_yes (s := s) (k := k) (j := j) (by omega) HA.out)
      go_wp2_with fail
      go_ret
      exact ⟨by rw [HE.out]; rfl, HF.out⟩
end Go.Proofs.Ytngfenjekgdfbaa
