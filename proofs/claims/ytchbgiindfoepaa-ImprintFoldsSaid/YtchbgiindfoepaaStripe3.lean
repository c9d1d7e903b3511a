/- The walks of stripe.Fit, Fold, All, Xor, Gap; the iterator slices.Values over rows. -/
import Derived.Test.YtchbgiindfoepaaStripe2
import Derived.Test.YtchbgiindfoepaaBase5
import Derived.RangeFuncNested
import Derived.RangeFuncBound
import Derived.RangeFuncCalls
import Derived.RangeFuncLeaves
import Derived.RangeFuncBox
import Derived.Shelf.Abstract
import Derived.Shelf.RegionOpen
import Derived.OwnWalkIn
import Derived.TacticsInMore
import Derived.LoopNIn
import Derived.LoopIn
namespace Go.Proofs.Ytchbgiindfoepaa
open Go.RowKit Go.Shelf

set_option maxHeartbeats 1000000 in
theorem Fit_any {w : World} {v : Value} {l : List UInt8} (h : Bytes w v l) (hl : l.length ≤ 65536) :
    Calls Try.prog 55 #[v, .int .i64 l.length] w fun e w' => ∃ v', e = .returned v' ∧ OwnB w' w.heap.size v' l ∧ Fr [] w w' := by
  obtain ⟨av, cv, rfl⟩ := h.shape
  simp only [List.length_map] at h ⊢
  have H := Lib.hid h
  clear h
  obtain ⟨iu8, hi1, hi2, hi3, hi4⟩ := info_parts info_u8
  go_enter Try.func55, Try.ntmps55
  obtain ⟨w1, e1, hF1, hB1, hs1⟩ := one_new w (madeCells #[.int .u8 0] l.length) 5
  rw [madeCells_one] at hB1
  have HB := Lib.hid hB1; have HF := Lib.hid hF1; have HI4 := Lib.hid hi4
  have H1 := Lib.hid (H.out.keep hF1)
  clear hB1 hF1 hs1
  go_upto_region 2 with (refine wpList_make_row _ rfl _ _ _ rfl 5 iu8 (.int .u8 0) Try.underlying25 hi1 hi2 hi3 rfl .i64 .i64 l.length (by go_num) (by go_num) (by rw [HI4.out]; omega) (by omega) ?_)
  try rw [e1]
  clear e1
  go_wp2_with (refine wpList_copy_fr rfl (.tmp 10) (.tmp 11) 25 25 rfl 5 Try.underlying25 (by rw [hi1]; simp [hi3]) (some ⟨w.heap.size, 0, none⟩) l.length l.length rfl (.slice av l.length cv) (l.map B8) rfl H1.out w.heap.size 0 (List.replicate l.length (.int .u8 0)) 5 HB.out (fun _ => rfl) (by simp) (by simp) (oneCell_B8 l) ?_; intro w2 hB2 hF2; have HB2 := Lib.hid hB2; have HF2 := Lib.hid hF2; clear hB2 hF2)
  go_ret
  refine ⟨_, rfl, ?_, HF.out.step HF2.out (by simp)⟩
  have := HB2.out
  rw [show splice (List.replicate l.length (Value.int .u8 0)) 0 (l.map B8) = l.map B8 by simp [splice]] at this
  have h2 := box_own this (Nat.le_refl _) (by unfold maxLen; simp; omega)
  simpa [OwnB] using h2

attribute [local go_sem] Oper.semAt_some

set_option maxRecDepth 100000 in
set_option maxHeartbeats 2000000 in
/-- slices.Values's closure, over slices of slices: for every loop body that keeps what lay below n₀. -/
theorem valuesBs1_in {α : Type} (enc : α → Value) (F : Fence) (n : Nat) (h7 : F.fn 127) (hro : F.round = none) (hn : 1 ≤ n) (l Bs n₀ cap : Nat) (av : Option Addr) (zs : List α) (hreach : zs.length ≤ 1099511627776) (J Jx : List α → World → Prop)
    (hY : ∀ pre x W, J pre W → pre.length < zs.length → YieldAt F (n - 1) Try.prog l #[enc x] W fun e W' =>
      (e = .returned (.bool true) ∧ J (pre ++ [x]) W' ∧ Below n₀ W W') ∨ (e = .returned (.bool false) ∧ Jx (pre ++ [x]) W'))
    (W : World) (hBs : W.cell? ⟨Bs, 0, none⟩ = some (.slice av zs.length cap)) (hc : Sl W (.slice av zs.length cap) (zs.map enc)) (hlow : ∀ b, liveOf (.slice av zs.length cap) = some b → b < n₀) (h0 : J [] W) :
    CallsIn F n Try.prog 127 #[.func (.yield l) #[] #[], .pointer (some ⟨Bs, 0, none⟩)] W fun e W' => (∃ v, e = .returned v) ∧
      ((∃ ys, ys = zs ∧ J ys W') ∨ (∃ pre, pre <+: zs ∧ Jx pre W')) := by
  have HC := Lib.hid hc; have HLOW := Lib.hid hlow
  clear hc hlow
  refine callsIn_of_wp Try.func127 rfl h7 ?_ hro
  simp only [Try.ntmps127, List.size_toArray, List.length_cons, List.length_nil, Nat.reduceAdd, Nat.reduceSub, Array.replicate_succ, Array.replicate_zero, List.push_toArray, List.append_toArray, List.nil_append, List.cons_append]
  gi_wp2
  gi_loopw [7] (fun i wr => ∃ k : Nat, k ≤ zs.length ∧ i = .int .i64 k ∧ J (zs.take k) wr ∧ Below n₀ W wr)
    (fun i _ => zs.length - (intOf i).toNat)
  case atStart => exact ⟨0, Nat.zero_le _, rfl, h0, Below.refl _ _⟩
  case round =>
    obtain ⟨k, hk, rfl, hJs, hnx⟩ := hrel
    by_cases hlt : k < zs.length
    · obtain ⟨b, o, ea, hb, hcc⟩ := HC.out.at_ hlt
      subst ea
      have hcx := hcc k (enc zs[k]) (by rw [List.getElem?_map, List.getElem?_eq_getElem hlt]; rfl)
      have hbn : b < n₀ := HLOW.out b (by simp only [liveOf]; rw [if_pos (by have := HC.out.len; omega)])
      have hcx' : wr.cell? ⟨b, o + k, none⟩ = some (enc zs[k]) := (hnx.cell (p := ⟨b, o + k, none⟩) hbn).trans hcx
      have hJ2 := hJs
      obtain ⟨fn, tmps, assign, body, hy, hR⟩ := hY _ zs[k] wr hJs (by rw [List.length_take]; omega)
      have HT : Hid (zs.take (k + 1) = zs.take k ++ [zs[k]]) := Lib.hid (List.take_succ_eq_append_getElem hlt)
      clear hcx hcc hb
      generalize zs[k] = x at *
      gi_wp2
      refine hR.mono ?_
      rintro e W3 (⟨rfl, hJ3, hk3⟩ | ⟨rfl, hJx3⟩)
      · gi_wp2
        go_roundw
        case rel => exact ⟨k + 1, by omega, by simp, by rw [HT.out]; exact hJ3, hnx.trans hk3⟩
        case measure => simp [intOf]; omega
      · gi_wp2
        refine bodyPost_ret (results_none rfl _ _ _) rfl ?_
        exact ⟨⟨_, rfl⟩, .inr ⟨_, by rw [← HT.out]; exact List.take_prefix _ _, hJx3⟩⟩
    · obtain rfl : k = zs.length := by omega
      gi_wp2
      go_end0
      exact ⟨⟨_, rfl⟩, .inl ⟨_, rfl, by rwa [List.take_of_length_le (Nat.le_refl _)] at hJs⟩⟩

set_option maxHeartbeats 1000000 in
theorem valuesBs_any (w : World) (a : Option Addr) (len cap : Nat) :
    Calls Try.prog 110 #[.slice a len cap] w fun e w' => e = .returned (.func (.func 127) #[] #[.pointer (some ⟨w.heap.size, 0, none⟩)]) ∧ w' = w.alloc (.cells #[.slice a len cap] 22) := by
  go_enter Try.func110, Try.ntmps110
  go_wp2_with fail
  go_ret
  exact ⟨rfl, rfl⟩

theorem valuesBs_stops {α : Type} (enc : α → Value) (F : Fence) (n : Nat) (h7 : F.fn 127) (hro : F.round = none) (hn : 1 ≤ n) (Bs n₀ : Nat) (sv : Value) (zs : List α) (hreach : zs.length ≤ 1099511627776) (w : World) (hBs : Bs < w.heap.size) (hn₀ : n₀ ≤ w.heap.size)
    (hc : w.cell? ⟨Bs, 0, none⟩ = some sv) (hS : Sl w sv (zs.map enc)) (hlow : ∀ b, liveOf sv = some b → b < n₀) :
    SeqStopsK F n Try.prog 127 #[.pointer (some ⟨Bs, 0, none⟩)] (fun x => #[enc x]) (Below n₀) (fun ys => ys = zs) (fun pre => pre <+: zs) zs.length w := fun l J Jx W hW _ _ hY h0 => by
  have hc' := (hW.cell (p := ⟨Bs, 0, none⟩) hBs).trans hc
  have hS' := hS.keep (Fr.ofBelow hW)
  obtain ⟨av, cv, rfl⟩ := hS.shape
  simp only [List.length_map] at hc' hS' hlow
  exact valuesBs1_in enc F n h7 hro hn l Bs n₀ cv av zs hreach J Jx hY W hc' hS' hlow h0

/-- A row that reads as bytes in w. -/
def RowAt (w : World) : Type := { x : Value × List UInt8 // Bytes w x.1 x.2 ∧ x.2.length ≤ 1099511627776 }
def foldX (zs : List (List UInt8)) : List UInt8 := zs.foldl xb []
theorem foldX_snoc (zs : List (List UInt8)) (x : List UInt8) : foldX (zs ++ [x]) = xb (foldX zs) x := by simp [foldX]
theorem foldX_len (zs : List (List UInt8)) (n : Nat) : ∀ z : List UInt8, z.length ≤ n → (∀ x ∈ zs, x.length ≤ n) → (zs.foldl xb z).length ≤ n := by
  induction zs with
  | nil => intro z h _; exact h
  | cons x zs ih =>
    intro z h hx
    rw [List.foldl_cons]
    refine ih _ ?_ (fun y hy => hx y (by simp [hy]))
    rw [xb_len]
    have := hx x (by simp)
    omega
theorem Fr.belowOf {S : List Nat} {W W' : World} {n : Nat} (h : Fr S W W') (hS : ∀ g ∈ S, n ≤ g) (hn : n ≤ W.heap.size) : Below n W W' :=
  ⟨h.os, h.tape, h.output, h.size, fun k hk => h.block k (by omega) (fun hm => by have := hS k hm; omega)⟩
theorem Fr.keepsOthers {S : List Nat} {w w' : World} (h : Fr S w w') (hS : ∀ g ∈ S, ∀ o, w.heap[g]? = some o → o.isCells = true) : KeepsOthers w w' :=
  ⟨h.size, fun k o ho hc => by
    refine (h.block k (Array.getElem?_eq_some_iff.1 ho).1 (fun hm => ?_)).trans ho
    have := hS k hm o ho
    rw [this] at hc
    cases hc⟩

theorem Fr.ofGrown {w w' : World} {row : Option Nat} (h : w.grownBy w' row) : Fr row.toList w w' := (Fr.refl row.toList w).grown h (fun k hk => .inl (by simp [hk]))
theorem OwnB.cells {w : World} {base : Nat} {v : Value} {l : List UInt8} (h : OwnB w base v l) : ∀ b, blockOf v = some b → ∃ c t, w.heap[b]? = some (.cells c t (0, 0)) := by
  intro b hb
  rcases h.2 with ⟨rfl, hn⟩ | ⟨g, cap, cur, rfl, hbg, hg, r⟩
  · cases hb
  · simp only [blockOf, Option.some.injEq] at hb
    subst hb
    exact ⟨_, _, hg⟩
theorem Sm.other {W W' : World} {row : Option Nat} {S base n : Nat} {v : Value} {l : List UInt8} (h : Sm W S base n v l) (hg : W.grownBy W' row) (hr : ∀ r, row = some r → ∃ o : Obj, W.heap[r]? = some o ∧ o.isCells = false) : Sm W' S base n v l := by
  have hf := Fr.ofGrown hg
  refine ⟨h.box.fr hf (fun hm => ?_), h.own.fr hf (fun b hb hm => ?_), h.low, Nat.le_trans h.size hf.size⟩
  · obtain ⟨o, ho, hc⟩ := hr S (by simpa using hm)
    have hb := h.box
    unfold Box at hb
    rw [hb] at ho
    cases ho
    cases hc
  · obtain ⟨o, ho, hc⟩ := hr b (by simpa using hm)
    obtain ⟨c, t, h2⟩ := h.own.cells b hb
    rw [h2] at ho
    cases ho
    cases hc

set_option maxRecDepth 100000 in
set_option maxHeartbeats 2000000 in
theorem Fold_any {w : World} {gf : Nat} {lb : Array Value} (zs : List (RowAt w)) (hz : zs.length ≤ 1099511627776) {Sp : List (RowAt w) → Prop}
    (hseq : ∀ w0, Below w.heap.size w w0 → SeqStopsK Fence.wide 5 Try.prog gf lb (fun x : RowAt w => #[x.1.1]) (Below w.heap.size) (fun ys => ys = zs) Sp zs.length w0) (eg : ∀ args w, (callFunc gf args).run Try.prog w = .ok (.enter gf args) w) :
    Calls Try.prog 109 #[.func (.func gf) #[] lb] w fun e w' => ∃ v', e = .returned v' ∧ OwnB w' w.heap.size v' (foldX (zs.map (·.1.2))) ∧ Fr [] w w' := by
  refine (callsIn_wide (n := 6)).1 ?_
  refine callsIn_of_wp_marks Try.func109 rfl trivial ?_ rfl
  simp only [Try.ntmps109, List.size_toArray, List.length_cons, List.length_nil, Nat.reduceAdd, Nat.reduceSub, Array.replicate_succ, Array.replicate_zero, List.push_toArray, List.append_toArray, List.nil_append, List.cons_append]
  obtain ⟨w1, e1, hF1, hB1, hs1⟩ := one_new w #[.slice none 0 0, .int .i64 0] 197
  have H1 : Hid (Sm w1 w.heap.size (w.heap.size + 1) 0 (.slice none 0 0) []) := Lib.hid ⟨hB1, World.ownsRow_nil _ _ _ _, by omega, by omega⟩
  have HF1 := Lib.hid hF1
  have hW1 := hs1
  clear hB1 hF1 hs1
  gi_wp2
  try rw [e1]
  refine wpIn_rangeFunc_ownG rfl (by omega) (gf := gf) (lb := lb) rfl trivial eg
    (hseq w1 HF1.out.below) belowK_t (belowK_b (by omega)) (Below.refl _ _) (fun _ => rfl)
    (fun pre W => (∃ v, Sm W w.heap.size (w.heap.size + 1) pre.length v (foldX (pre.map (·.1.2)))) ∧ Below w.heap.size w W)
    (fun _ _ _ => False)
    (OwnFrom.and (fun s A B row hs hg hr => by obtain ⟨v, h⟩ := hs; exact ⟨v, h.other hg (fun r e => (hr r e).2)⟩) (ownFrom_below (Nat.le_refl _) (by omega)))
    (fun _ _ _ _ _ hs _ _ => hs)
    ⟨⟨_, H1.out⟩, HF1.out.below⟩
    (fun x => { tmps := #[.func (.func gf) #[] lb, undef, .slice none 0 0, .pointer (some ⟨w.heap.size, 0, none⟩), x.1.1, .func (.func gf) #[] lb, x.1.1, undef, undef, undef], defers := [] }) ?assign ?body ?done ?stop
  case assign =>
    intro l x W K hK
    gi_wp2
    exact hK
  case body =>
    rintro l pre x W ⟨⟨v, hS⟩, hB⟩ hlt
    have hFB := Fr.ofBelow hB
    have hL : (foldX (pre.map (·.1.2))).length ≤ 1099511627776 := foldX_len _ _ _ (by simp) (by intro y hy; obtain ⟨z, _, rfl⟩ := List.mem_map.1 hy; exact z.2.2)
    have hcall := CallsIn.inRound l ((callsIn_wide (n := 3)).2 (sumAdd_any hS (x.2.1.keep hFB) x.2.2 hL (by omega) (fun k hk => x.2.1.lt k hk)))
    gi_wp2_with (refine ⟨trivial, ?_⟩; gi_at_call 125; refine hcall.mono ?_; rintro e W2 ⟨v', rfl, hS2, hF2, hN2⟩)
    have hcS : ∀ g ∈ w.heap.size :: (blockOf v).toList, ∀ o, W.heap[g]? = some o → o.isCells = true := fun g hg o ho => by
      simp only [List.mem_cons, Option.mem_toList] at hg
      rcases hg with rfl | hg
      · have hb := hS.box
        unfold Box at hb
        rw [hb] at ho; cases ho; rfl
      · obtain ⟨c, t, h2⟩ := hS.own.cells g hg
        rw [h2] at ho; cases ho; rfl
    have hB2 : Below w.heap.size W W2 := hF2.belowOf (fun g hg => by
      simp only [List.mem_cons, Option.mem_toList] at hg
      rcases hg with rfl | hg
      · exact Nat.le_refl _
      · have := hS.own.block g hg; omega) hB.size
    exact ⟨(hF2.keepsOthers hcS).from _, hB2, ⟨v', by simpa [foldX_snoc] using hS2⟩, hB.trans hB2⟩
  case done =>
    rintro D ys W hD rfl ⟨⟨v, hS⟩, hB⟩ hK
    have hL : (foldX (ys.map (·.1.2))).length ≤ 1099511627776 := foldX_len _ _ _ (by simp) (by intro y hy; obtain ⟨z, _, rfl⟩ := List.mem_map.1 hy; exact z.2.2)
    have hcall := (callsIn_wide (n := 5)).2 (sumBytes_any hS hL)
    gi_wp2_with (refine ⟨trivial, ?_⟩; gi_at_call 126; refine hcall.mono ?_; rintro e W2 ⟨v', rfl, hO2, hF2⟩)
    have hDl : D < W.heap.size := (Array.getElem?_eq_some_iff.1 hK).1
    have hK2 : W2.heap[D]? = some (.deferred (some [])) := (hF2.block D hDl (by simp)).trans hK
    refine ⟨by simp, .inl ⟨_, _, rfl, run_takeDeferred hK2, ?_⟩⟩
    have hFD : Fr [D] W2 (W2.putObj D (.deferred none)) := Fr.ofGrown (grownBy_putObj' W2 D _)
    refine ⟨_, results_tmp rfl _ _ _, _, rfl, ?_, ?_⟩
    · refine (hO2.mono hB.size).fr hFD (fun b hb hm => ?_)
      obtain ⟨c, t, h2⟩ := hO2.cells b hb
      simp at hm
      subst hm
      rw [h2] at hK2
      cases hK2
    · exact ((Fr.ofBelow hB).trans hF2).step hFD (fun g hg => .inr (by simp at hg; subst hg; omega))
  case stop =>
    rintro D c pre W _ _ h _
    exact h.elim

def rowAt {w : World} {v : Value} {l : List UInt8} (h : Bytes w v l) (hl : l.length ≤ 1099511627776) : RowAt w := ⟨(v, l), h, hl⟩
set_option maxHeartbeats 1000000 in
/-- stripe.All of two rows. -/
theorem All_two {w : World} {vs va vb : Value} {a b : List UInt8} (hs : Sl w vs [va, vb]) (ha : Bytes w va a) (hb : Bytes w vb b) (hla : a.length ≤ 1099511627776) (hlb : b.length ≤ 1099511627776) :
    Calls Try.prog 85 #[vs] w fun e w' => ∃ v', e = .returned v' ∧ OwnB w' w.heap.size v' (xb a b) ∧ Fr [] w w' := by
  have HS := Lib.hid hs; have HA := Lib.hid ha; have HB := Lib.hid hb
  obtain ⟨av, cv, rfl⟩ := hs.shape
  simp only [List.length_cons, List.length_nil, Nat.zero_add, Nat.reduceAdd] at HS ⊢
  clear hs ha hb
  obtain ⟨w1, e1, hF1, hB1, hs1⟩ := one_new w #[.slice av 2 cv] 22
  have HF1 := Lib.hid hF1; have HB1 := Lib.hid hB1
  have hs1' := hs1
  clear hF1 hB1 hs1
  go_enter Try.func85, Try.ntmps85
  go_upto_region 1 with (fail)
  go_wp2_with fail
  refine (valuesBs_any w av 2 cv).mono ?_
  rintro e w2 ⟨rfl, rfl⟩
  rw [e1]
  go_wp2_with fail
  have HA1 := HA.out.keep HF1.out; have HB2 := HB.out.keep HF1.out
  have h0 := HB1.out.cell 0
  simp only [List.getElem?_toArray, List.getElem?_cons_zero] at h0
  have HLT : ∀ k, liveOf (.slice av 2 cv) = some k → k < w1.heap.size := fun k hk => Nat.lt_of_lt_of_le (HS.out.lt k hk) HF1.out.size
  refine (Fold_any [rowAt HA1 hla, rowAt HB2 hlb] (by simp) (Sp := fun pre => pre <+: [rowAt HA1 hla, rowAt HB2 hlb])
    (fun w0 hw0 => valuesBs_stops (fun x : RowAt w1 => x.1.1) Fence.wide 5 trivial rfl (by omega) w.heap.size w1.heap.size (.slice av 2 cv) [rowAt HA1 hla, rowAt HB2 hlb] (by simp) w0 (by have := hw0.size; omega) hw0.size
      ((hw0.cell (p := ⟨w.heap.size, 0, none⟩) (by show w.heap.size < _; omega)).trans h0) ((HS.out.keep HF1.out).keep (Fr.ofBelow hw0)) HLT) (enters_of Try.func127 (by kernel_rfl) rfl)).mono ?_
  rintro e w3 ⟨v', rfl, hO, hF⟩
  have H3 : Hid (OwnB w3 w1.heap.size v' (xb a b)) := Lib.hid (by change OwnB w3 _ v' (xb (xb [] a) b) at hO; rwa [xb_nil_left] at hO)
  have HF3 := Lib.hid hF
  clear hO hF e1 h0 HLT
  clear HA1 HB2
  go_wp2_with fail
  go_ret
  refine ⟨_, rfl, ?_, HF1.out.trans HF3.out⟩
  exact H3.out.mono HF1.out.size
set_option maxHeartbeats 1000000 in
theorem Xor_any {w : World} {va vb : Value} {a b : List UInt8} (ha : Bytes w va a) (hb : Bytes w vb b) (hla : a.length ≤ 1099511627776) (hlb : b.length ≤ 1099511627776) :
    Calls Try.prog 58 #[va, vb] w fun e w' => ∃ v', e = .returned v' ∧ OwnB w' w.heap.size v' (xb a b) ∧ Fr [] w w' := by
  have HA := Lib.hid ha; have HB := Lib.hid hb
  obtain ⟨a1, c1, rfl⟩ := ha.shape
  obtain ⟨a2, c2, rfl⟩ := hb.shape
  simp only [List.length_map] at HA HB ⊢
  clear ha hb
  obtain ⟨w1, e1, hF1, hB1, hs1⟩ := one_new w #[.slice a1 a.length c1, .slice a2 b.length c2] 25
  have HF1 := Lib.hid hF1
  have HS : Hid (Sl w1 (.slice (some ⟨w.heap.size, 0, none⟩) 2 2) [.slice a1 a.length c1, .slice a2 b.length c2]) := Lib.hid (box_sl (off := 0) (cap := 2) hB1 [.slice a1 a.length c1, .slice a2 b.length c2] (by intro i x hx; simpa using hx) (by simp) (by unfold maxLen; omega))
  clear hF1 hB1 hs1
  go_enter Try.func58, Try.ntmps58
  go_wp2_with fail
  try rw [e1]
  refine (All_two HS.out (HA.out.keep HF1.out) (HB.out.keep HF1.out) hla hlb).mono ?_
  rintro e w3 ⟨v', rfl, hO, hF⟩
  have H3 := Lib.hid hO; have HF3 := Lib.hid hF
  clear hO hF e1
  go_wp2_with fail
  go_ret
  exact ⟨_, rfl, H3.out.mono HF1.out.size, HF1.out.trans HF3.out⟩
set_option maxHeartbeats 1000000 in
theorem Gap_any {w : World} {va vb : Value} {a b : List UInt8} (ha : Bytes w va a) (hb : Bytes w vb b) (hla : a.length ≤ 1099511627776) (hlb : b.length ≤ 1099511627776) :
    Calls Try.prog 68 #[va, vb] w fun e w' => ∃ n : Int, e = .returned (.int .i64 n) ∧ decide (n < 0) = gap0 a b ∧ Fr [] w w' := by
  have HA := Lib.hid ha; have HB := Lib.hid hb
  clear ha hb
  go_enter Try.func68, Try.ntmps68
  go_wp2_with fail
  refine (Xor_any HA.out HB.out hla hlb).mono ?_
  rintro e w1 ⟨v1, rfl, hO, hF⟩
  have H3 := Lib.hid hO; have HF3 := Lib.hid hF
  clear hO hF
  go_wp2_with fail
  refine (indexB_any H3.out.bytes (by rw [xb_len]; omega)).mono ?_
  rintro e w2 ⟨n, rfl, hn, hF⟩
  have HN := Lib.hid hn; have HF := Lib.hid (HF3.out.trans hF)
  clear hn hF
  go_wp2_with fail
  go_ret
  exact ⟨n, rfl, HN.out, HF.out⟩
end Go.Proofs.Ytchbgiindfoepaa
