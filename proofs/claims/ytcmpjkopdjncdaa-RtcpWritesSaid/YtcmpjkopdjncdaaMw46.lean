import Derived.Lib.SlBytesConst
import Derived.Test.YtcmpjkopdjncdaaMw35
import Derived.Test.YtcmpjkopdjncdaaMw38
import Derived.Test.YtcmpjkopdjncdaaMw28
import Derived.Test.YtcmpjkopdjncdaaMw22
import Derived.Test.YtcmpjkopdjncdaaMw41
import Derived.Test.YtcmpjkopdjncdaaMw17
/- The walk of confluxlaw07.alive (printed by gen_7alive.py). -/
namespace Go.Proofs.Ytcmpjkopdjncdaa
open Go.RowKit Go.Shelf

attribute [local go_sem] Oper.semAt_some
def ba7 : List UInt8 := [128, 201, 0, 1, 0, 0, 0, 5]
def ca7 : Array Value := #[.int .u8 128, .int .u8 201, .int .u8 0, .int .u8 1, .int .u8 0, .int .u8 0, .int .u8 0, .int .u8 5]
def x7a : Itm := { Itm.zero 201 with ssrc := 5 }
def r7 : Rpt := ⟨9, 3, -1, 0, 0, 0, 0⟩
def y7a : Itm := { Itm.zero 201 with ssrc := 5, reps := [r7] }
def y7b : Itm := { Itm.zero 203 with srcs := [5], reason := [120] }
def d7 : List UInt8 := [129, 201, 0, 7, 0, 0, 0, 5, 0, 0, 0, 9, 3, 255, 255, 255, 0, 0, 0, 0, 0, 0, 0, 0, 0, 0, 0, 0, 0, 0, 0, 0, 129, 203, 0, 2, 0, 0, 0, 5, 1, 120, 0, 0]
theorem parse_a7 : parse7 ba7 = .ok [x7a] := by rfl
theorem write_a7 : write7 [x7a] = .ok ba7 := by rfl
theorem parse_n7 : parse7 [] = .error 4 := by rfl
theorem write_b7 : write7 [Itm.zero 203] = .error 1 := by rfl
theorem write_c7 : write7 [y7a, y7b] = .ok d7 := by rfl
theorem tels_d7 : telsOf d7 = [(5, r7)] := by kernel_rfl
theorem Sz7.mk' {x : Itm} (h : x.reps.length ≤ 40 ∧ x.chks = [] ∧ x.srcs.length ≤ 40 ∧ (body3 x).length + x.reason.length ≤ 1099511000000 ∧ ∀ r ∈ x.reps, -2147483648 ≤ r.lost ∧ r.lost ≤ 2147483647) : Sz7 x :=
  ⟨⟨by omega, by rw [h.2.1]; simp, by omega⟩, by rw [h.2.1]; simp, h.2.2.2.1, h.2.2.2.2⟩
theorem hd7_le (x : Itm) : (hd7 x).length ≤ 24 := by
  unfold hd7
  by_cases h : x.kind = 200
  · rw [if_pos h]; simp [beN_len]
  · rw [if_neg h]
    by_cases h1 : x.kind = 201
    · rw [if_pos h1]; simp [beN_len]
    · rw [if_neg h1]; simp
theorem sz_x7a : Sz7 x7a := Sz7.mk' ⟨by decide, rfl, by decide, by have h : (body3 x7a).length = 4 := rfl; have h2 : x7a.reason.length = 0 := rfl; omega, by simp [x7a, Itm.zero]⟩
theorem sz_z7 (k : Int) : Sz7 (Itm.zero k) := Sz7.mk' ⟨by simp [Itm.zero], rfl, by simp [Itm.zero], by
  have h := hd7_le (Itm.zero k)
  have h2 : body3 (Itm.zero k) = hd7 (Itm.zero k) := by simp [body3, Itm.zero]
  have h3 : (Itm.zero k).reason.length = 0 := rfl
  rw [h2]
  omega, by simp [Itm.zero]⟩
theorem sz_y7a : Sz7 y7a := Sz7.mk' ⟨by decide, rfl, by decide, by have h : (body3 y7a).length = 28 := rfl; have h2 : y7a.reason.length = 0 := rfl; omega, by intro r hr; simp [y7a] at hr; subst hr; decide⟩
theorem sz_y7b : Sz7 y7b := Sz7.mk' ⟨by decide, rfl, by decide, by have h : (body3 y7b).length = 4 := rfl; have h2 : y7b.reason.length = 1 := rfl; omega, by simp [y7b, Itm.zero]⟩
/-- A literal's slice. -/
theorem SlEls.box {α : Type} {k : Nat} {R : World → List Value → α → List Nat → Prop} {w : World} {g : Nat} {t : TypeId} {cells : List Value} {ys : List α} {B : List Nat} (hb : Box w g t cells.toArray) (he : Els R ys w cells B) (hm : ys.length ≤ maxLen) : SlEls k R w (.slice (some ⟨g, 0, none⟩) ys.length ys.length) ys B := by
  refine ⟨cells, some ⟨g, 0, none⟩, ys.length, rfl, Nat.le_refl _, hm, (fun h => by cases h), he, ?_⟩
  rintro p hp -
  cases hp
  refine ⟨rfl, hb.lt, fun i x hx => ?_⟩
  rw [Nat.zero_add, hb.cell i]
  simpa using hx
theorem SlEls.one7 {w : World} {v : Value} {x : Itm} {B : List Nat} (h : SlEls 10 ItR w v [x] B) : ∃ b o c ar cr ac cc as_ cs Bc, v = .slice (some ⟨b, o, none⟩) 1 c ∧ b < w.heap.size ∧ w.rangeAt b o (itc x (.slice ar x.reps.length cr) (.slice ac x.chks.length cc) (.slice as_ x.srcs.length cs)).toList ∧ SlEls 7 RptR w (.slice ar x.reps.length cr) x.reps [] ∧ SlEls 2 ChkR w (.slice ac x.chks.length cc) x.chks Bc ∧ SlEls 1 SrcR w (.slice as_ x.srcs.length cs) x.srcs [] := by
  obtain ⟨a, c, rfl⟩ := h.shape
  obtain ⟨b, o, cc, y, B1, rfl, hl, hy, ⟨vr, vc, vs, Bc, rfl, hr, hc, hs, -⟩, -, hrg⟩ := h.at_ Rep.itm (i := 0) (by simp)
  simp only [List.getElem?_cons_zero, Option.some.injEq] at hy
  subst hy
  obtain ⟨ar, cr, rfl⟩ := hr.shape
  obtain ⟨ac, cc, rfl⟩ := hc.shape
  obtain ⟨as_, cs, rfl⟩ := hs.shape
  rw [Nat.zero_mul, Nat.add_zero] at hrg
  exact ⟨b, o, c, ar, cr, ac, cc, as_, cs, Bc, rfl, hl, hrg, hr, hc, hs⟩
set_option maxRecDepth 100000 in
theorem eq_func_nil (w : World) (gf : Nat) (lb : Array Value) : (binOp .eql 59 (.func (.func gf) #[] lb) .nilFunc).run Try.prog w = .ok (.bool false) w := by
  have h := Try.underlying59
  have h2 : ∀ d : Nat, (Op.equalIn (d + 1) 59 (.func (.func gf) #[] lb) .nilFunc).run Try.prog w = .ok false w := fun d => by
    simp [Op.equalIn, run_underlying h]
  simp only [binOp]
  simp [Op.equal, Op.maxDepth, h2 9999]
theorem wp_normal {P : Program} {c : Code} {Q : Exit → Act → World → Prop} {a : Act} {w : World} (h : c.wp P (fun e a w => match e with | .normal => Q .normal a w | _ => False) a w) : c.wp P Q a w :=
  Go.wp_mono h (fun e a w hq => by cases e <;> first | exact hq | exact hq.elim)
/-- What the round of alive sums. -/
structure Al7 (w : World) (B X : Nat) (n : Int) (W : World) : Prop where
  box : Box W X 3 #[.int .i64 n]
  fr : Fr [X] w W
  size : B ≤ W.heap.size
theorem Al7.abx {w : World} {B X : Nat} {n : List (UInt32 × Rpt) → Int} (hX : X < B) (hB : w.heap.size ≤ B) : AbX [(X, 0)] B (fun pre W => Al7 w B X (n pre) W) := by
  rintro pre A A' row ⟨h1, h2, h3⟩ hg hr
  have hb : A'.heap[X]? = A.heap[X]? := hg.block X h1.lt (fun e => by have := (hr X e.symm).1; omega)
  exact ⟨hb.trans h1, ⟨hg.os.trans h2.os, hg.tape.trans h2.tape, hg.output.trans h2.output, Nat.le_trans h2.size hg.size, fun k hk hn => (hg.block k (Nat.lt_of_lt_of_le hk h2.size) (fun e => by have := (hr k e.symm).1; omega)).trans (h2.block k hk hn)⟩, Nat.le_trans h3 hg.size⟩
def alSum7 (l : List (UInt32 × Rpt)) : Int := l.foldl (fun n p => wrap64 (n + wrap64 (wrap64 (wrap64 (p.1.toNat : Int) * 100) + p.2.loss))) 0
theorem alSum7_snoc (l : List (UInt32 × Rpt)) (p : UInt32 × Rpt) : alSum7 (l ++ [p]) = wrap64 (alSum7 l + wrap64 (wrap64 (wrap64 (p.1.toNat : Int) * 100) + p.2.loss)) := by simp [alSum7]
theorem alSum7_end : alSum7 [(5, r7)] = 503 := by
  have h : (5 : UInt32).toNat = 5 := rfl
  simp [alSum7, r7, h, IntWalk.wrap64_in]
set_option maxRecDepth 100000 in
set_option maxHeartbeats 16000000 in
theorem l07alive_any {w : World} : Calls Try.prog 8 #[] w fun e w' => e = .returned (.bool true) ∧ Fr [] w w' := by
  have k1 := Lib.run_convert_bytes_const (P := Try.prog) w 22 5 ca7 8 8 Try.underlying22 Try.underlying5
  obtain ⟨w1, e1, hF1, hB1⟩ := const_block w ca7 5 (ca7.size, ca7.size + 1) 8 rfl (by unfold maxLen; omega)
  rw [e1] at k1
  have HB1 : Hid (Bytes w1 (.slice (some ⟨w.heap.size, 0, none⟩) 8 8) ba7) := Lib.hid hB1
  have HF := Lib.hid hF1
  clear e1 hF1 hB1
  unfold ca7 at k1
  refine (callsIn_wide (n := 8)).1 ?_
  refine callsIn_of_wp_marks Try.func8 rfl trivial ?_ rfl
  simp only [Try.ntmps8, List.size_toArray, List.length_cons, List.length_nil, Nat.reduceAdd, Nat.reduceSub, Array.replicate_succ, Array.replicate_zero, List.push_toArray, List.append_toArray, List.nil_append, List.cons_append]
  gi_wp2
  refine ⟨trivial, ?_⟩
  refine (callsIn_wide.2 (tParse_any HB1.out)).mono ?_
  rw [parse_a7]
  rintro e w2 (⟨xs, u, B, hp, rfl, hO, hBB, hF⟩ | ⟨c, hp, -⟩)
  rotate_left
  · cases hp
  cases hp
  have HX := Lib.hid hO.sl
  obtain ⟨b0, o0, c0, ar, cr, ac, cc, as_, cs, Bc, rfl, hb0, hrg0, hr0, hc0, hs0⟩ := hO.sl.one7
  have HR0 := Lib.hid hr0; have HC0 := Lib.hid hc0; have HS0 := Lib.hid hs0; have HRG0 := Lib.hid hrg0
  have HB1 := Lib.hid (Sl.keep HB1.out hF); have HF := Lib.hid (HF.out.trans hF)
  clear hO hBB hF hb0 hrg0 hr0 hc0 hs0 k1
  gi_wp2
  trace "@@@A"
  refine ⟨trivial, ?_⟩
  refine (callsIn_wide.2 (tWrite_any HX.out (by intro x hx; simp at hx; subst hx; exact sz_x7a) (by simp))).mono ?_
  rw [write_a7]
  rintro e w3 (⟨l3, u3, hp, rfl, hO, hF⟩ | ⟨c, hp, -⟩)
  rotate_left
  · cases hp
  cases hp
  obtain ⟨a3, c3, e3⟩ := Sl.shape hO.bytes
  rw [List.length_map] at e3
  subst e3
  have HB1 := Lib.hid (Sl.keep HB1.out hF); have HF := Lib.hid (HF.out.trans hF); have HX := Lib.hid (HX.out.keep Rep.itm hF); have HR0 := Lib.hid (HR0.out.keep Rep.rpt hF); have HC0 := Lib.hid (HC0.out.keep Rep.chk hF); have HS0 := Lib.hid (HS0.out.keep Rep.src hF); have HRG0 : Hid (World.rangeAt _ _ _ _) := Lib.hid (fr_rng hF HRG0.out)
  have HCb := Lib.hid hO.bytes
  clear hO hF
  gi_wp2
  refine ⟨trivial, ?_⟩
  refine (callsIn_wide.2 (tParse_any (show Bytes w3 (.slice none 0 0) [] from Sl.nil w3))).mono ?_
  rw [parse_n7]
  rintro e w4 (⟨xs, u, B, hp, -⟩ | ⟨c, hp, -, rfl, hF⟩)
  · cases hp
  cases hp
  have HB1 := Lib.hid (Sl.keep HB1.out hF); have HF := Lib.hid (HF.out.trans hF); have HX := Lib.hid (HX.out.keep Rep.itm hF); have HR0 := Lib.hid (HR0.out.keep Rep.rpt hF); have HC0 := Lib.hid (HC0.out.keep Rep.chk hF); have HS0 := Lib.hid (HS0.out.keep Rep.src hF); have HRG0 : Hid (World.rangeAt _ _ _ _) := Lib.hid (fr_rng hF HRG0.out)
  have HCb := Lib.hid (Sl.keep HCb.out hF)
  clear hF
  obtain ⟨w5, e5, hF, hB5, hs5⟩ := one_new w4 #[.int .i64 203, .int .u32 0, .int .u64 0, .int .u32 0, .int .u32 0, .int .u32 0, .slice none 0 0, .slice none 0 0, .slice none 0 0, .string ⟨#[]⟩] 42
  have E5 := Lib.hid e5
  have HZ5 : Hid (SlEls 10 ItR w5 (.slice (some ⟨w4.heap.size, 0, none⟩) 1 1) [Itm.zero 203] []) := Lib.hid (SlEls.box (ys := [Itm.zero 203]) (cells := [.int .i64 203, .int .u32 0, .int .u64 0, .int .u32 0, .int .u32 0, .int .u32 0, .slice none 0 0, .slice none 0 0, .slice none 0 0, .string ⟨#[]⟩]) hB5 ⟨_, [], [], [], (List.append_nil _).symm, rfl, ⟨.slice none 0 0, .slice none 0 0, .slice none 0 0, [], rfl, SlEls.nil _, SlEls.nil _, SlEls.nil _, rfl⟩, rfl, rfl⟩ (by unfold maxLen; simp))
  have HB1 := Lib.hid (Sl.keep HB1.out hF); have HF := Lib.hid (HF.out.trans hF); have HX := Lib.hid (HX.out.keep Rep.itm hF); have HR0 := Lib.hid (HR0.out.keep Rep.rpt hF); have HC0 := Lib.hid (HC0.out.keep Rep.chk hF); have HS0 := Lib.hid (HS0.out.keep Rep.src hF); have HRG0 : Hid (World.rangeAt _ _ _ _) := Lib.hid (fr_rng hF HRG0.out)
  have HCb := Lib.hid (Sl.keep HCb.out hF)
  clear hF e5 hB5 hs5
  gi_wp2
  rw [E5.out]
  clear E5
  refine ⟨trivial, ?_⟩
  refine (callsIn_wide.2 (tWrite_any HZ5.out (by intro x hx; simp at hx; subst hx; exact sz_z7 203) (by simp))).mono ?_
  rw [write_b7]
  rintro e w6 (⟨l3, u3, hp, -⟩ | ⟨c, hp, -, rfl, hF⟩)
  · cases hp
  cases hp
  have HB1 := Lib.hid (Sl.keep HB1.out hF); have HF := Lib.hid (HF.out.trans hF); have HX := Lib.hid (HX.out.keep Rep.itm hF); have HR0 := Lib.hid (HR0.out.keep Rep.rpt hF); have HC0 := Lib.hid (HC0.out.keep Rep.chk hF); have HS0 := Lib.hid (HS0.out.keep Rep.src hF); have HRG0 : Hid (World.rangeAt _ _ _ _) := Lib.hid (fr_rng hF HRG0.out)
  have HCb := Lib.hid (Sl.keep HCb.out hF)
  clear hF HZ5
  obtain ⟨w7, e7, hF, hB7, hs7⟩ := one_new w6 (rpc7 r7) 57
  obtain ⟨w8, e8, hF8, hB8, hs8⟩ := one_new w7 #[.int .u32 5] 36
  obtain ⟨w9, e9, hF9, hB9, hs9⟩ := one_new w8 #[.int .i64 201, .int .u32 5, .int .u64 0, .int .u32 0, .int .u32 0, .int .u32 0, .slice (some ⟨w6.heap.size, 0, none⟩) 1 1, .slice none 0 0, .slice none 0 0, .string ⟨#[]⟩, .int .i64 203, .int .u32 0, .int .u64 0, .int .u32 0, .int .u32 0, .int .u32 0, .slice none 0 0, .slice none 0 0, .slice (some ⟨w7.heap.size, 0, none⟩) 1 1, .string ⟨#[120]⟩] 42
  have HYR : SlEls 7 RptR w9 (.slice (some ⟨w6.heap.size, 0, none⟩) 1 1) y7a.reps [] := ((SlEls.box (ys := [r7]) (cells := (rpc7 r7).toList) hB7 ⟨_, [], [], [], (List.append_nil _).symm, rfl, ⟨rfl, rfl⟩, rfl, rfl⟩ (by unfold maxLen; simp)).keep Rep.rpt hF8).keep Rep.rpt hF9
  have HYS : SlEls 1 SrcR w9 (.slice (some ⟨w7.heap.size, 0, none⟩) 1 1) y7b.srcs [] := (SlEls.box (ys := [(5 : UInt32)]) (cells := [.int .u32 5]) hB8 ⟨_, [], [], [], (List.append_nil _).symm, rfl, ⟨rfl, rfl⟩, rfl, rfl⟩ (by unfold maxLen; simp)).keep Rep.src hF9
  have HYY : Hid (∃ BY, SlEls 10 ItR w9 (.slice (some ⟨w8.heap.size, 0, none⟩) 2 2) [y7a, y7b] BY) := Lib.hid ⟨_, SlEls.box (ys := [y7a, y7b]) (cells := (itc y7a (.slice (some ⟨w6.heap.size, 0, none⟩) 1 1) (.slice none 0 0) (.slice none 0 0)).toList ++ ((itc y7b (.slice none 0 0) (.slice none 0 0) (.slice (some ⟨w7.heap.size, 0, none⟩) 1 1)).toList ++ [])) hB9 ⟨_, _, _, _, rfl, rfl, ⟨_, _, _, [], rfl, HYR, SlEls.nil _, SlEls.nil _, rfl⟩, ⟨_, _, _, _, rfl, rfl, ⟨_, _, _, [], rfl, SlEls.nil _, SlEls.nil _, HYS, rfl⟩, rfl, rfl⟩⟩ (by unfold maxLen; simp)⟩
  have E7 : Hid (w6.alloc (.cells #[.int .u32 9, .int .i64 3, .int .i32 (-1), .int .u32 0, .int .u32 0, .int .u32 0, .int .u32 0] 57) = w7) := Lib.hid e7
  have E8 := Lib.hid e8; have E9 := Lib.hid e9; have HS7 := Lib.hid hs7; have HS8 := Lib.hid hs8
  clear HYR HYS
  have HB1 := Lib.hid (Sl.keep HB1.out hF); have HF := Lib.hid (HF.out.trans hF); have HX := Lib.hid (HX.out.keep Rep.itm hF); have HR0 := Lib.hid (HR0.out.keep Rep.rpt hF); have HC0 := Lib.hid (HC0.out.keep Rep.chk hF); have HS0 := Lib.hid (HS0.out.keep Rep.src hF); have HRG0 : Hid (World.rangeAt _ _ _ _) := Lib.hid (fr_rng hF HRG0.out)
  have HCb := Lib.hid (Sl.keep HCb.out hF)
  replace hF := hF8
  have HB1 := Lib.hid (Sl.keep HB1.out hF); have HF := Lib.hid (HF.out.trans hF); have HX := Lib.hid (HX.out.keep Rep.itm hF); have HR0 := Lib.hid (HR0.out.keep Rep.rpt hF); have HC0 := Lib.hid (HC0.out.keep Rep.chk hF); have HS0 := Lib.hid (HS0.out.keep Rep.src hF); have HRG0 : Hid (World.rangeAt _ _ _ _) := Lib.hid (fr_rng hF HRG0.out)
  have HCb := Lib.hid (Sl.keep HCb.out hF)
  replace hF := hF9
  have HB1 := Lib.hid (Sl.keep HB1.out hF); have HF := Lib.hid (HF.out.trans hF); have HX := Lib.hid (HX.out.keep Rep.itm hF); have HR0 := Lib.hid (HR0.out.keep Rep.rpt hF); have HC0 := Lib.hid (HC0.out.keep Rep.chk hF); have HS0 := Lib.hid (HS0.out.keep Rep.src hF); have HRG0 : Hid (World.rangeAt _ _ _ _) := Lib.hid (fr_rng hF HRG0.out)
  have HCb := Lib.hid (Sl.keep HCb.out hF)
  clear hF hF8 hF9 hB7 hB8 hB9 hs7 hs8 hs9 e7 e8 e9
  gi_wp2
  rw [← HS7.out, ← HS8.out, E7.out, E8.out, E9.out]
  clear E7 E8 E9 HS7 HS8
  refine ⟨trivial, ?_⟩
  obtain ⟨BY, hYY⟩ := HYY.out
  refine (callsIn_wide.2 (tWrite_any hYY (by intro x hx; simp at hx; rcases hx with rfl | rfl; (· exact sz_y7a); (· exact sz_y7b)) (by simp))).mono ?_
  rw [write_c7]
  rintro e w10 (⟨l3, u3, hp, rfl, hO, hF⟩ | ⟨c, hp, -⟩)
  rotate_left
  · cases hp
  cases hp
  obtain ⟨a10, c10, e10⟩ := Sl.shape hO.bytes
  rw [List.length_map] at e10
  subst e10
  have HB1 := Lib.hid (Sl.keep HB1.out hF); have HF := Lib.hid (HF.out.trans hF); have HX := Lib.hid (HX.out.keep Rep.itm hF); have HR0 := Lib.hid (HR0.out.keep Rep.rpt hF); have HC0 := Lib.hid (HC0.out.keep Rep.chk hF); have HS0 := Lib.hid (HS0.out.keep Rep.src hF); have HRG0 : Hid (World.rangeAt _ _ _ _) := Lib.hid (fr_rng hF HRG0.out)
  have HCb := Lib.hid (Sl.keep HCb.out hF)
  have HDb := Lib.hid hO.bytes
  clear hO hF hYY HYY
  have HFX := HF
  have HLb0 : Hid (b0 < w10.heap.size) := Lib.hid (World.block_lt_of_cell? _ _ (HRG0.out 0 _ rfl))
  have HLB1 := Lib.hid (fun b hb => Sl.lt HB1.out b hb); have HLCb := Lib.hid (fun b hb => Sl.lt HCb.out b hb)
  have HLR0 := Lib.hid (HR0.out.lt Rep.rpt).2; have HLC0 := Lib.hid (HC0.out.lt Rep.chk); have HLS0 := Lib.hid (HS0.out.lt Rep.src).2
  obtain ⟨w11, e11, hF, hB11, hs11⟩ := one_new w10 #[.int .i64 0] 3
  have E11 := Lib.hid e11; have HN := Lib.hid hB11; have HNL := Lib.hid hB11.lt
  have HB1 := Lib.hid (Sl.keep HB1.out hF); have HF := Lib.hid (HF.out.trans hF); have HX := Lib.hid (HX.out.keep Rep.itm hF); have HR0 := Lib.hid (HR0.out.keep Rep.rpt hF); have HC0 := Lib.hid (HC0.out.keep Rep.chk hF); have HS0 := Lib.hid (HS0.out.keep Rep.src hF); have HRG0 : Hid (World.rangeAt _ _ _ _) := Lib.hid (fr_rng hF HRG0.out)
  have HCb := Lib.hid (Sl.keep HCb.out hF)
  have HDb := Lib.hid (Sl.keep HDb.out hF)
  clear e11 hF hB11 hs11
  gi_wp2
  rw [E11.out]
  clear E11
  refine ⟨trivial, ?_⟩
  refine (callsIn_wide.2 (tReports_any HDb.out)).mono ?_
  rintro e w12 ⟨rfl, hB12, hF⟩
  have HB1 := Lib.hid (Sl.keep HB1.out hF); have HF := Lib.hid (HF.out.trans hF); have HX := Lib.hid (HX.out.keep Rep.itm hF); have HR0 := Lib.hid (HR0.out.keep Rep.rpt hF); have HC0 := Lib.hid (HC0.out.keep Rep.chk hF); have HS0 := Lib.hid (HS0.out.keep Rep.src hF); have HRG0 : Hid (World.rangeAt _ _ _ _) := Lib.hid (fr_rng hF HRG0.out)
  have HCb := Lib.hid (Sl.keep HCb.out hF)
  have HDb := Lib.hid (Sl.keep HDb.out hF)
  have HN := Lib.hid (HN.out.keep hF)
  obtain ⟨X, hX⟩ : ∃ X, w10.heap.size = X := ⟨_, rfl⟩
  rw [hX] at HN HNL HLb0 HLB1 HLCb HLR0 HLC0 HLS0
  have HWX : Hid (w.heap.size ≤ X) := Lib.hid (by rw [← hX]; exact HFX.out.size)
  have HXE := Lib.hid hX
  have hNX := HNL.out
  have hX12 : X < w12.heap.size := HN.out.lt
  have HXX : Hid (∀ p ∈ [(X, 0)], p.1 < w12.heap.size) := Lib.hid (by simp; omega)
  have hcx : ∀ v, w12.cell? ⟨X, 0, none⟩ = some v → v = .int .i64 0 := fun v hv => by
    have := HN.out.cell 0
    simp only [List.getElem?_toArray, List.getElem?_cons_zero] at this
    rw [this] at hv
    exact (Option.some.inj hv).symm
  have HLow : Hid (Low [(X, 0)] w12) := Lib.hid (fun p hp v b hv hb => by
    simp at hp
    subst hp
    rw [hcx v hv] at hb
    simp [blockOf] at hb)
  have hseq := tReports1_seq (w := w12) 7 (by omega) w11.heap.size [(X, 0)] HXX.out hB12 HDb.out
  rw [tels_d7] at hseq
  have HSEQ := Lib.hid hseq
  have HXF : Hid (X < w12.heap.size ∧ w.heap.size ≤ X) := Lib.hid ⟨hX12, HWX.out⟩
  clear hcx hB12 hF hX12 hseq hX hNX
  have hnil := eq_func_nil w12 45 #[.pointer (some ⟨w11.heap.size, 0, none⟩)]
  gi_wp2
  try rw [HXE.out]
  clear hnil
  refine wpIn_rangeBrkB rfl (by omega) (gf := 45) (lb := #[.pointer (some ⟨w11.heap.size, 0, none⟩)]) rfl trivial (enters_of Try.func45 (by kernel_rfl) rfl) HSEQ.out (Below.refl _ _) (fun _ => rfl) HXX.out HLow.out
    (fun pre W => Al7 w12 w12.heap.size X (alSum7 pre) W)
    (fun _ _ _ => False) (Al7.abx HXF.out.1 (Nat.le_refl _)) (fun _ => fun s A B row hs => hs.elim) ⟨HN.out, (Fr.refl _ _).any, Nat.le_refl _⟩ 57 (fun p => rpc7 p.2)
    ?round ?done ?stop
  case round =>
    intro p
    apply Exists.intro
    refine ⟨?asg, ?bdy⟩
    case asg =>
      intro l' W' K hK
      obtain ⟨W1, e1, hF1, hB1, hs1⟩ := one_new W' (rpc7 p.2) 57
      have h9 := hK W'.heap.size W1 hB1 hF1
      have HE1 := Lib.hid e1
      have H9 := Lib.hid h9
      clear hK e1 hF1 hB1 hs1 h9
      gi_wp2
      rw [HE1.out]
      have h9 := H9.out
      clear H9 HE1
      revert h9
      generalize W'.heap.size = g
      intro h9
      exact h9
    case bdy =>
      rintro l' pre g W' hl' hpre ⟨hbx, hfr, hsz⟩ hlw hsz2 hbg
      have x0 := hbx.cell 0; have f0 := hbx.free 0
      have y1 := hbg.cell 1
      simp only [List.getElem?_toArray, List.getElem?_cons_zero, List.getElem?_cons_succ] at x0 y1
      obtain ⟨w30, e30, hF30, hB30, -⟩ := set_new hbx 0 (.int .i64 (alSum7 (pre ++ [p])))
      simp only [List.setIfInBounds_toArray, List.set_cons_zero] at hB30
      have HS : Hid (wrap64 (alSum7 pre + wrap64 (wrap64 (wrap64 (p.1.toNat : Int) * 100) + p.2.loss)) = alSum7 (pre ++ [p])) := Lib.hid (alSum7_snoc pre p).symm
      have HE := Lib.hid e30; have HBX := Lib.hid hbx
      clear e30
      gi_wp2
      rw [HS.out, HE.out]
      have z30 := hF30.size
      have hx := HXF.out
      refine ⟨Kx.body2 hF30 ?_ ?_, hB30, hfr.trans hF30, by omega⟩
      · intro gb hg
        have hg' : gb = X := by simpa using hg
        rw [hg']
        exact .inr ⟨fun h => (h (X, 0) (by simp)).1 rfl, _, HBX.out, rfl⟩
      · intro q hq v b hv hb
        simp at hq
        subst hq
        have := hB30.cell 0
        simp only [List.getElem?_toArray, List.getElem?_cons_zero] at this
        rw [this] at hv
        cases hv
        simp [blockOf] at hb
  case stop =>
    rintro D id pre W' hD hpre hf hDk
    exact hf.elim
  case done =>
    rintro D w22 hD ⟨hbx, hfr, hsz⟩ hK hDk
    rw [alSum7_end] at hbx
    have HN := Lib.hid hbx; have HDK := Lib.hid hDk
    have hbX := HLb0.out
    have HB1 := Lib.hid (Sl.frL HB1.out hfr (fun b hb hm => by have := HLB1.out b hb; simp at hm; omega))
    have HCb := Lib.hid (Sl.frL HCb.out hfr (fun b hb hm => by have := HLCb.out b hb; simp at hm; omega))
    have HR0 := Lib.hid (HR0.out.fr Rep.rpt hfr (by simp) (fun b hb hm => by have := HLR0.out b hb; simp at hm; omega))
    have HC0 := Lib.hid (HC0.out.fr Rep.chk hfr (fun b hb hm => by have := HLC0.out.1 b hb; simp at hm; omega) (fun b hb hm => by have := HLC0.out.2 b hb; simp at hm; omega))
    have HS0 := Lib.hid (HS0.out.fr Rep.src hfr (by simp) (fun b hb hm => by have := HLS0.out b hb; simp at hm; omega))
    have HRG0 : Hid (w22.rangeAt b0 o0 (itc x7a (.slice ar x7a.reps.length cr) (.slice ac x7a.chks.length cc) (.slice as_ x7a.srcs.length cs)).toList) := Lib.hid (fun j u hj => hfr.cellSome (HRG0.out j u hj) (by simp; omega))
    have HF := Lib.hid (HF.out.step hfr (fun b hb => .inr (by have := HXF.out; simp at hb; omega)))
    have HWD : Hid (w.heap.size ≤ D) := Lib.hid (by have := HXF.out; omega)
    have d0 := HRG0.out 0 _ rfl
    have d1 := HRG0.out 1 _ rfl
    rw [Nat.add_zero] at d0
    have hk1 : x7a.kind = 201 := rfl
    have hk2 : x7a.ssrc.toNat = 5 := rfl
    rw [hk1] at d0
    rw [hk2] at d1
    have n0 := HN.out.cell 0
    simp only [List.getElem?_toArray, List.getElem?_cons_zero] at n0
    have hc1 := str_of HB1.out
    have hc2 := str_of HCb.out
    clear hk1 hk2 hbx hfr hsz hK hDk hbX HLow HSEQ
    gi_wp2
    refine wpIn_wide.2 ?_
    refine wp_normal ?_
    refine wp_region_T (fun w' => Fr [] w22.drew w') [] 71 #[false, false, false, false, false, false, false, false, false, false, false, false, false, false, false, false, false, false, false, false, false, false, false, false, false, false, false, false, false, false, false, false, false, false, false, false, false, false, false, false, false, false, false, false, false, false, false, false, false, false, false, false, false, false, false, false, false, false, false, false, false, false, false, false, false, false, false, false, false, false, false] (by kernel_rfl) rfl rfl ?_
    try simp only [List.append_eq, List.cons_append, List.nil_append]
    clear d0 d1 n0 hc1 hc2
    have hF := (Fr.refl [] w22).drew
    have HB1 := Lib.hid (Sl.keep HB1.out hF); have HCb := Lib.hid (Sl.keep HCb.out hF); have HR0 := Lib.hid (HR0.out.keep Rep.rpt hF); have HC0 := Lib.hid (HC0.out.keep Rep.chk hF); have HS0 := Lib.hid (HS0.out.keep Rep.src hF); have HRG0 : Hid (World.rangeAt _ _ _ _) := Lib.hid (fr_rng hF HRG0.out); have HN := Lib.hid (HN.out.keep hF); have HF := Lib.hid (HF.out.trans hF); have HDK := Lib.hid ((hF.block D (Array.getElem?_eq_some_iff.1 HDK.out).1 (by simp)).trans HDK.out)
    clear hF
    have HSS : Hid (Fr [] w22.drew w22.drew) := Lib.hid (Fr.refl _ _)
    generalize w22.drew = wd at *
    have HRGD := HRG0
    refine wpAnyT_load (i := 0) (v := ?_) rfl (by kernel_rfl) (by kernel_rfl) (by kernel_rfl) (by kernel_rfl) (by kernel_rfl) (fun _ _ _ h => h) HSS.out (by rfl) ?_ ?_
    rotate_left
    · intro w hSw; skip; go_simp; try with_reducible rfl
    simp only [Act.put, List.getElem_toArray, List.getElem_cons_zero, List.getElem_cons_succ, List.setIfInBounds_toArray, List.set_cons_zero, List.set_cons_succ]
    refine wpAnyT_load (i := 1) (v := ?_) rfl (by kernel_rfl) (by kernel_rfl) (by kernel_rfl) (by kernel_rfl) (by kernel_rfl) (fun _ _ _ h => h) HSS.out (by rfl) ?_ ?_
    rotate_left
    · intro w hSw; skip; go_simp; try with_reducible rfl
    simp only [Act.put, List.getElem_toArray, List.getElem_cons_zero, List.getElem_cons_succ, List.setIfInBounds_toArray, List.set_cons_zero, List.set_cons_succ]
    refine wpAnyT_load (i := 2) (v := ?_) rfl (by kernel_rfl) (by kernel_rfl) (by kernel_rfl) (by kernel_rfl) (by kernel_rfl) (fun _ _ _ h => h) HSS.out (by rfl) ?_ ?_
    rotate_left
    · intro w hSw; skip; go_simp; try with_reducible rfl
    simp only [Act.put, List.getElem_toArray, List.getElem_cons_zero, List.getElem_cons_succ, List.setIfInBounds_toArray, List.set_cons_zero, List.set_cons_succ]
    refine wpAnyT_load (i := 3) (v := ?_) rfl (by kernel_rfl) (by kernel_rfl) (by kernel_rfl) (by kernel_rfl) (by kernel_rfl) (fun _ _ _ h => h) HSS.out (by rfl) ?_ ?_
    rotate_left
    · intro w hSw; skip; go_simp; try with_reducible rfl
    simp only [Act.put, List.getElem_toArray, List.getElem_cons_zero, List.getElem_cons_succ, List.setIfInBounds_toArray, List.set_cons_zero, List.set_cons_succ]
    refine wpAnyT_load (i := 4) (v := ?_) rfl (by kernel_rfl) (by kernel_rfl) (by kernel_rfl) (by kernel_rfl) (by kernel_rfl) (fun _ _ _ h => h) HSS.out (by rfl) ?_ ?_
    rotate_left
    · intro w hSw; skip; go_simp; try with_reducible rfl
    simp only [Act.put, List.getElem_toArray, List.getElem_cons_zero, List.getElem_cons_succ, List.setIfInBounds_toArray, List.set_cons_zero, List.set_cons_succ]
    refine wpAnyT_load (i := 5) (v := ?_) rfl (by kernel_rfl) (by kernel_rfl) (by kernel_rfl) (by kernel_rfl) (by kernel_rfl) (fun _ _ _ h => h) HSS.out (by rfl) ?_ ?_
    rotate_left
    · intro w hSw; skip; go_simp; try with_reducible rfl
    simp only [Act.put, List.getElem_toArray, List.getElem_cons_zero, List.getElem_cons_succ, List.setIfInBounds_toArray, List.set_cons_zero, List.set_cons_succ]
    refine wpAnyT_load (i := 6) (v := ?_) rfl (by kernel_rfl) (by kernel_rfl) (by kernel_rfl) (by kernel_rfl) (by kernel_rfl) (fun _ _ _ h => h) HSS.out (by rfl) ?_ ?_
    rotate_left
    · intro w hSw; skip; go_simp; try with_reducible rfl
    simp only [Act.put, List.getElem_toArray, List.getElem_cons_zero, List.getElem_cons_succ, List.setIfInBounds_toArray, List.set_cons_zero, List.set_cons_succ]
    refine wpAnyT_load (i := 7) (v := ?_) rfl (by kernel_rfl) (by kernel_rfl) (by kernel_rfl) (by kernel_rfl) (by kernel_rfl) (fun _ _ _ h => h) HSS.out (by rfl) ?_ ?_
    rotate_left
    · intro w hSw; skip; go_simp; try with_reducible rfl
    simp only [Act.put, List.getElem_toArray, List.getElem_cons_zero, List.getElem_cons_succ, List.setIfInBounds_toArray, List.set_cons_zero, List.set_cons_succ]
    refine wpAnyT_load (i := 8) (v := ?_) rfl (by kernel_rfl) (by kernel_rfl) (by kernel_rfl) (by kernel_rfl) (by kernel_rfl) (fun _ _ _ h => h) HSS.out (by rfl) ?_ ?_
    rotate_left
    · intro w hSw; skip; go_simp; try with_reducible rfl
    simp only [Act.put, List.getElem_toArray, List.getElem_cons_zero, List.getElem_cons_succ, List.setIfInBounds_toArray, List.set_cons_zero, List.set_cons_succ]
    refine wpAnyT_load (i := 9) (v := ?_) rfl (by kernel_rfl) (by kernel_rfl) (by kernel_rfl) (by kernel_rfl) (by kernel_rfl) (fun _ _ _ h => h) HSS.out (by rfl) ?_ ?_
    rotate_left
    · intro w hSw; skip; go_simp; try with_reducible rfl
    simp only [Act.put, List.getElem_toArray, List.getElem_cons_zero, List.getElem_cons_succ, List.setIfInBounds_toArray, List.set_cons_zero, List.set_cons_succ]
    refine wpAnyT_load (i := 10) (v := ?_) rfl (by kernel_rfl) (by kernel_rfl) (by kernel_rfl) (by kernel_rfl) (by kernel_rfl) (fun _ _ _ h => h) HSS.out (by rfl) ?_ ?_
    rotate_left
    · intro w hSw; skip; go_simp; try with_reducible rfl
    simp only [Act.put, List.getElem_toArray, List.getElem_cons_zero, List.getElem_cons_succ, List.setIfInBounds_toArray, List.set_cons_zero, List.set_cons_succ]
    refine wpAnyT_load (i := 11) (v := ?_) rfl (by kernel_rfl) (by kernel_rfl) (by kernel_rfl) (by kernel_rfl) (by kernel_rfl) (fun _ _ _ h => h) HSS.out (by rfl) ?_ ?_
    rotate_left
    · intro w hSw; have d0 : w.cell? ⟨b0, o0, none⟩ = some (.int .i64 201) := (by have := hSw.cellSome (HRG0.out 0 _ rfl) (by simp); rw [Nat.add_zero] at this; exact this); go_simp; try with_reducible rfl
    simp only [Act.put, List.getElem_toArray, List.getElem_cons_zero, List.getElem_cons_succ, List.setIfInBounds_toArray, List.set_cons_zero, List.set_cons_succ]
    refine wpAnyT_load (i := 12) (v := ?_) rfl (by kernel_rfl) (by kernel_rfl) (by kernel_rfl) (by kernel_rfl) (by kernel_rfl) (fun _ _ _ h => h) HSS.out (by rfl) ?_ ?_
    rotate_left
    · intro w hSw; skip; go_simp; try with_reducible rfl
    simp only [Act.put, List.getElem_toArray, List.getElem_cons_zero, List.getElem_cons_succ, List.setIfInBounds_toArray, List.set_cons_zero, List.set_cons_succ]
    refine wpAnyT_load (i := 13) (v := ?_) rfl (by kernel_rfl) (by kernel_rfl) (by kernel_rfl) (by kernel_rfl) (by kernel_rfl) (fun _ _ _ h => h) HSS.out (by rfl) ?_ ?_
    rotate_left
    · intro w hSw; skip; go_simp; try with_reducible rfl
    simp only [Act.put, List.getElem_toArray, List.getElem_cons_zero, List.getElem_cons_succ, List.setIfInBounds_toArray, List.set_cons_zero, List.set_cons_succ]
    refine wpAnyT_load (i := 14) (v := ?_) rfl (by kernel_rfl) (by kernel_rfl) (by kernel_rfl) (by kernel_rfl) (by kernel_rfl) (fun _ _ _ h => h) HSS.out (by rfl) ?_ ?_
    rotate_left
    · intro w hSw; skip; go_simp; try with_reducible rfl
    simp only [Act.put, List.getElem_toArray, List.getElem_cons_zero, List.getElem_cons_succ, List.setIfInBounds_toArray, List.set_cons_zero, List.set_cons_succ]
    refine wpAnyT_load (i := 15) (v := ?_) rfl (by kernel_rfl) (by kernel_rfl) (by kernel_rfl) (by kernel_rfl) (by kernel_rfl) (fun _ _ _ h => h) HSS.out (by rfl) ?_ ?_
    rotate_left
    · intro w hSw; skip; go_simp; try with_reducible rfl
    simp only [Act.put, List.getElem_toArray, List.getElem_cons_zero, List.getElem_cons_succ, List.setIfInBounds_toArray, List.set_cons_zero, List.set_cons_succ]
    refine wpAnyT_load (i := 16) (v := ?_) rfl (by kernel_rfl) (by kernel_rfl) (by kernel_rfl) (by kernel_rfl) (by kernel_rfl) (fun _ _ _ h => h) HSS.out (by rfl) ?_ ?_
    rotate_left
    · intro w hSw; skip; go_simp; try with_reducible rfl
    simp only [Act.put, List.getElem_toArray, List.getElem_cons_zero, List.getElem_cons_succ, List.setIfInBounds_toArray, List.set_cons_zero, List.set_cons_succ]
    refine wpAnyT_load (i := 17) (v := ?_) rfl (by kernel_rfl) (by kernel_rfl) (by kernel_rfl) (by kernel_rfl) (by kernel_rfl) (fun _ _ _ h => h) HSS.out (by rfl) ?_ ?_
    rotate_left
    · intro w hSw; skip; go_simp; try with_reducible rfl
    simp only [Act.put, List.getElem_toArray, List.getElem_cons_zero, List.getElem_cons_succ, List.setIfInBounds_toArray, List.set_cons_zero, List.set_cons_succ]
    refine wpAnyT_load (i := 18) (v := ?_) rfl (by kernel_rfl) (by kernel_rfl) (by kernel_rfl) (by kernel_rfl) (by kernel_rfl) (fun _ _ _ h => h) HSS.out (by rfl) ?_ ?_
    rotate_left
    · intro w hSw; have d1 : w.cell? ⟨b0, o0 + 1, none⟩ = some (.int .u32 5) := hSw.cellSome (HRG0.out 1 _ rfl) (by simp); go_simp; try with_reducible rfl
    simp only [Act.put, List.getElem_toArray, List.getElem_cons_zero, List.getElem_cons_succ, List.setIfInBounds_toArray, List.set_cons_zero, List.set_cons_succ]
    refine wpAnyT_load (i := 19) (v := ?_) rfl (by kernel_rfl) (by kernel_rfl) (by kernel_rfl) (by kernel_rfl) (by kernel_rfl) (fun _ _ _ h => h) HSS.out (by rfl) ?_ ?_
    rotate_left
    · intro w hSw; skip; go_simp; try with_reducible rfl
    simp only [Act.put, List.getElem_toArray, List.getElem_cons_zero, List.getElem_cons_succ, List.setIfInBounds_toArray, List.set_cons_zero, List.set_cons_succ]
    refine wpAnyT_load (i := 20) (v := ?_) rfl (by kernel_rfl) (by kernel_rfl) (by kernel_rfl) (by kernel_rfl) (by kernel_rfl) (fun _ _ _ h => h) HSS.out (by rfl) ?_ ?_
    rotate_left
    · intro w hSw; skip; go_simp; try with_reducible rfl
    simp only [Act.put, List.getElem_toArray, List.getElem_cons_zero, List.getElem_cons_succ, List.setIfInBounds_toArray, List.set_cons_zero, List.set_cons_succ]
    refine wpAnyT_load (i := 21) (v := ?_) rfl (by kernel_rfl) (by kernel_rfl) (by kernel_rfl) (by kernel_rfl) (by kernel_rfl) (fun _ _ _ h => h) HSS.out (by rfl) ?_ ?_
    rotate_left
    · intro w hSw; skip; go_simp; try with_reducible rfl
    simp only [Act.put, List.getElem_toArray, List.getElem_cons_zero, List.getElem_cons_succ, List.setIfInBounds_toArray, List.set_cons_zero, List.set_cons_succ]
    refine wpAnyT_load (i := 22) (v := ?_) rfl (by kernel_rfl) (by kernel_rfl) (by kernel_rfl) (by kernel_rfl) (by kernel_rfl) (fun _ _ _ h => h) HSS.out (by rfl) ?_ ?_
    rotate_left
    · intro w hSw; skip; go_simp; try with_reducible rfl
    simp only [Act.put, List.getElem_toArray, List.getElem_cons_zero, List.getElem_cons_succ, List.setIfInBounds_toArray, List.set_cons_zero, List.set_cons_succ]
    refine wpAnyT_load (i := 23) (v := ?_) rfl (by kernel_rfl) (by kernel_rfl) (by kernel_rfl) (by kernel_rfl) (by kernel_rfl) (fun _ _ _ h => h) HSS.out (by rfl) ?_ ?_
    rotate_left
    · intro w hSw; skip; go_simp; try with_reducible rfl
    simp only [Act.put, List.getElem_toArray, List.getElem_cons_zero, List.getElem_cons_succ, List.setIfInBounds_toArray, List.set_cons_zero, List.set_cons_succ]
    refine wpAnyT_load (i := 24) (v := ?_) rfl (by kernel_rfl) (by kernel_rfl) (by kernel_rfl) (by kernel_rfl) (by kernel_rfl) (fun _ _ _ h => h) HSS.out (by rfl) ?_ ?_
    rotate_left
    · intro w hSw; skip; go_simp; try with_reducible rfl
    simp only [Act.put, List.getElem_toArray, List.getElem_cons_zero, List.getElem_cons_succ, List.setIfInBounds_toArray, List.set_cons_zero, List.set_cons_succ]
    refine wpAnyT_load (i := 25) (v := ?_) rfl (by kernel_rfl) (by kernel_rfl) (by kernel_rfl) (by kernel_rfl) (by kernel_rfl) (fun _ _ _ h => h) HSS.out (by rfl) ?_ ?_
    rotate_left
    · intro w hSw; skip; go_simp; try with_reducible rfl
    simp only [Act.put, List.getElem_toArray, List.getElem_cons_zero, List.getElem_cons_succ, List.setIfInBounds_toArray, List.set_cons_zero, List.set_cons_succ]
    refine wpAnyT_load (i := 26) (v := ?_) rfl (by kernel_rfl) (by kernel_rfl) (by kernel_rfl) (by kernel_rfl) (by kernel_rfl) (fun _ _ _ h => h) HSS.out (by rfl) ?_ ?_
    rotate_left
    · intro w hSw; skip; go_simp; try with_reducible rfl
    simp only [Act.put, List.getElem_toArray, List.getElem_cons_zero, List.getElem_cons_succ, List.setIfInBounds_toArray, List.set_cons_zero, List.set_cons_succ]
    refine wpAnyT_load (i := 27) (v := ?_) rfl (by kernel_rfl) (by kernel_rfl) (by kernel_rfl) (by kernel_rfl) (by kernel_rfl) (fun _ _ _ h => h) HSS.out (by rfl) ?_ ?_
    rotate_left
    · intro w hSw; have hc2 := str_of (Sl.keep HCb.out hSw); go_simp; try with_reducible rfl
    simp only [Act.put, List.getElem_toArray, List.getElem_cons_zero, List.getElem_cons_succ, List.setIfInBounds_toArray, List.set_cons_zero, List.set_cons_succ]
    refine wpAnyT_load (i := 28) (v := ?_) rfl (by kernel_rfl) (by kernel_rfl) (by kernel_rfl) (by kernel_rfl) (by kernel_rfl) (fun _ _ _ h => h) HSS.out (by rfl) ?_ ?_
    rotate_left
    · intro w hSw; skip; go_simp; try with_reducible rfl
    simp only [Act.put, List.getElem_toArray, List.getElem_cons_zero, List.getElem_cons_succ, List.setIfInBounds_toArray, List.set_cons_zero, List.set_cons_succ]
    refine wpAnyT_load (i := 29) (v := ?_) rfl (by kernel_rfl) (by kernel_rfl) (by kernel_rfl) (by kernel_rfl) (by kernel_rfl) (fun _ _ _ h => h) HSS.out (by rfl) ?_ ?_
    rotate_left
    · intro w hSw; have hc1 := str_of (Sl.keep HB1.out hSw); go_simp; try with_reducible rfl
    simp only [Act.put, List.getElem_toArray, List.getElem_cons_zero, List.getElem_cons_succ, List.setIfInBounds_toArray, List.set_cons_zero, List.set_cons_succ]
    refine wpAnyT_load (i := 30) (v := ?_) rfl (by kernel_rfl) (by kernel_rfl) (by kernel_rfl) (by kernel_rfl) (by kernel_rfl) (fun _ _ _ h => h) HSS.out (by rfl) ?_ ?_
    rotate_left
    · intro w hSw; skip; go_simp; try with_reducible rfl
    simp only [Act.put, List.getElem_toArray, List.getElem_cons_zero, List.getElem_cons_succ, List.setIfInBounds_toArray, List.set_cons_zero, List.set_cons_succ]
    refine wpAnyT_load (i := 31) (v := ?_) rfl (by kernel_rfl) (by kernel_rfl) (by kernel_rfl) (by kernel_rfl) (by kernel_rfl) (fun _ _ _ h => h) HSS.out (by rfl) ?_ ?_
    rotate_left
    · intro w hSw; skip; go_simp; try with_reducible rfl
    simp only [Act.put, List.getElem_toArray, List.getElem_cons_zero, List.getElem_cons_succ, List.setIfInBounds_toArray, List.set_cons_zero, List.set_cons_succ]
    refine wpAnyT_load (i := 32) (v := ?_) rfl (by kernel_rfl) (by kernel_rfl) (by kernel_rfl) (by kernel_rfl) (by kernel_rfl) (fun _ _ _ h => h) HSS.out (by rfl) ?_ ?_
    rotate_left
    · intro w hSw; skip; go_simp; try with_reducible rfl
    simp only [Act.put, List.getElem_toArray, List.getElem_cons_zero, List.getElem_cons_succ, List.setIfInBounds_toArray, List.set_cons_zero, List.set_cons_succ]
    refine wpAnyT_load (i := 33) (v := ?_) rfl (by kernel_rfl) (by kernel_rfl) (by kernel_rfl) (by kernel_rfl) (by kernel_rfl) (fun _ _ _ h => h) HSS.out (by rfl) ?_ ?_
    rotate_left
    · intro w hSw; skip; go_simp; try with_reducible rfl
    simp only [Act.put, List.getElem_toArray, List.getElem_cons_zero, List.getElem_cons_succ, List.setIfInBounds_toArray, List.set_cons_zero, List.set_cons_succ]
    refine wpAnyT_load (i := 34) (v := ?_) rfl (by kernel_rfl) (by kernel_rfl) (by kernel_rfl) (by kernel_rfl) (by kernel_rfl) (fun _ _ _ h => h) HSS.out (by rfl) ?_ ?_
    rotate_left
    · intro w hSw; skip; go_simp; try with_reducible rfl
    simp only [Act.put, List.getElem_toArray, List.getElem_cons_zero, List.getElem_cons_succ, List.setIfInBounds_toArray, List.set_cons_zero, List.set_cons_succ]
    refine wpAnyT_load (i := 35) (v := ?_) rfl (by kernel_rfl) (by kernel_rfl) (by kernel_rfl) (by kernel_rfl) (by kernel_rfl) (fun _ _ _ h => h) HSS.out (by rfl) ?_ ?_
    rotate_left
    · intro w hSw; skip; go_simp; try with_reducible rfl
    simp only [Act.put, List.getElem_toArray, List.getElem_cons_zero, List.getElem_cons_succ, List.setIfInBounds_toArray, List.set_cons_zero, List.set_cons_succ]
    refine wpAnyT_load (i := 36) (v := ?_) rfl (by kernel_rfl) (by kernel_rfl) (by kernel_rfl) (by kernel_rfl) (by kernel_rfl) (fun _ _ _ h => h) HSS.out (by rfl) ?_ ?_
    rotate_left
    · intro w hSw; skip; go_simp; try with_reducible rfl
    simp only [Act.put, List.getElem_toArray, List.getElem_cons_zero, List.getElem_cons_succ, List.setIfInBounds_toArray, List.set_cons_zero, List.set_cons_succ]
    refine wpAnyT_load (i := 37) (v := ?_) rfl (by kernel_rfl) (by kernel_rfl) (by kernel_rfl) (by kernel_rfl) (by kernel_rfl) (fun _ _ _ h => h) HSS.out (by rfl) ?_ ?_
    rotate_left
    · intro w hSw; skip; go_simp; try with_reducible rfl
    simp only [Act.put, List.getElem_toArray, List.getElem_cons_zero, List.getElem_cons_succ, List.setIfInBounds_toArray, List.set_cons_zero, List.set_cons_succ]
    refine wpAnyT_load (i := 38) (v := ?_) rfl (by kernel_rfl) (by kernel_rfl) (by kernel_rfl) (by kernel_rfl) (by kernel_rfl) (fun _ _ _ h => h) HSS.out (by rfl) ?_ ?_
    rotate_left
    · intro w hSw; skip; go_simp; try with_reducible rfl
    simp only [Act.put, List.getElem_toArray, List.getElem_cons_zero, List.getElem_cons_succ, List.setIfInBounds_toArray, List.set_cons_zero, List.set_cons_succ]
    refine wpAnyT_load (i := 39) (v := ?_) rfl (by kernel_rfl) (by kernel_rfl) (by kernel_rfl) (by kernel_rfl) (by kernel_rfl) (fun _ _ _ h => h) HSS.out (by rfl) ?_ ?_
    rotate_left
    · intro w hSw; skip; go_simp; try with_reducible rfl
    simp only [Act.put, List.getElem_toArray, List.getElem_cons_zero, List.getElem_cons_succ, List.setIfInBounds_toArray, List.set_cons_zero, List.set_cons_succ]
    refine wpAnyT_load (i := 40) (v := ?_) rfl (by kernel_rfl) (by kernel_rfl) (by kernel_rfl) (by kernel_rfl) (by kernel_rfl) (fun _ _ _ h => h) HSS.out (by rfl) ?_ ?_
    rotate_left
    · intro w hSw; skip; go_simp; try with_reducible rfl
    simp only [Act.put, List.getElem_toArray, List.getElem_cons_zero, List.getElem_cons_succ, List.setIfInBounds_toArray, List.set_cons_zero, List.set_cons_succ]
    refine wpAnyT_load (i := 41) (v := ?_) rfl (by kernel_rfl) (by kernel_rfl) (by kernel_rfl) (by kernel_rfl) (by kernel_rfl) (fun _ _ _ h => h) HSS.out (by rfl) ?_ ?_
    rotate_left
    · intro w hSw; skip; go_simp; try with_reducible rfl
    simp only [Act.put, List.getElem_toArray, List.getElem_cons_zero, List.getElem_cons_succ, List.setIfInBounds_toArray, List.set_cons_zero, List.set_cons_succ]
    refine wpAnyT_load (i := 42) (v := ?_) rfl (by kernel_rfl) (by kernel_rfl) (by kernel_rfl) (by kernel_rfl) (by kernel_rfl) (fun _ _ _ h => h) HSS.out (by rfl) ?_ ?_
    rotate_left
    · intro w hSw; skip; go_simp; try with_reducible rfl
    simp only [Act.put, List.getElem_toArray, List.getElem_cons_zero, List.getElem_cons_succ, List.setIfInBounds_toArray, List.set_cons_zero, List.set_cons_succ]
    refine wpAnyT_load (i := 43) (v := ?_) rfl (by kernel_rfl) (by kernel_rfl) (by kernel_rfl) (by kernel_rfl) (by kernel_rfl) (fun _ _ _ h => h) HSS.out (by rfl) ?_ ?_
    rotate_left
    · intro w hSw; skip; go_simp; try with_reducible rfl
    simp only [Act.put, List.getElem_toArray, List.getElem_cons_zero, List.getElem_cons_succ, List.setIfInBounds_toArray, List.set_cons_zero, List.set_cons_succ]
    refine wpAnyT_load (i := 44) (v := ?_) rfl (by kernel_rfl) (by kernel_rfl) (by kernel_rfl) (by kernel_rfl) (by kernel_rfl) (fun _ _ _ h => h) HSS.out (by rfl) ?_ ?_
    rotate_left
    · intro w hSw; skip; go_simp; try with_reducible rfl
    simp only [Act.put, List.getElem_toArray, List.getElem_cons_zero, List.getElem_cons_succ, List.setIfInBounds_toArray, List.set_cons_zero, List.set_cons_succ]
    refine wpAnyT_load (i := 45) (v := ?_) rfl (by kernel_rfl) (by kernel_rfl) (by kernel_rfl) (by kernel_rfl) (by kernel_rfl) (fun _ _ _ h => h) HSS.out (by rfl) ?_ ?_
    rotate_left
    · intro w hSw; skip; go_simp; try with_reducible rfl
    simp only [Act.put, List.getElem_toArray, List.getElem_cons_zero, List.getElem_cons_succ, List.setIfInBounds_toArray, List.set_cons_zero, List.set_cons_succ]
    refine wpAnyT_load (i := 46) (v := ?_) rfl (by kernel_rfl) (by kernel_rfl) (by kernel_rfl) (by kernel_rfl) (by kernel_rfl) (fun _ _ _ h => h) HSS.out (by rfl) ?_ ?_
    rotate_left
    · intro w hSw; skip; go_simp; try with_reducible rfl
    simp only [Act.put, List.getElem_toArray, List.getElem_cons_zero, List.getElem_cons_succ, List.setIfInBounds_toArray, List.set_cons_zero, List.set_cons_succ]
    refine wpAnyT_load (i := 47) (v := ?_) rfl (by kernel_rfl) (by kernel_rfl) (by kernel_rfl) (by kernel_rfl) (by kernel_rfl) (fun _ _ _ h => h) HSS.out (by rfl) ?_ ?_
    rotate_left
    · intro w hSw; skip; go_simp; try with_reducible rfl
    simp only [Act.put, List.getElem_toArray, List.getElem_cons_zero, List.getElem_cons_succ, List.setIfInBounds_toArray, List.set_cons_zero, List.set_cons_succ]
    refine wpAnyT_load (i := 48) (v := ?_) rfl (by kernel_rfl) (by kernel_rfl) (by kernel_rfl) (by kernel_rfl) (by kernel_rfl) (fun _ _ _ h => h) HSS.out (by rfl) ?_ ?_
    rotate_left
    · intro w hSw; skip; go_simp; try with_reducible rfl
    simp only [Act.put, List.getElem_toArray, List.getElem_cons_zero, List.getElem_cons_succ, List.setIfInBounds_toArray, List.set_cons_zero, List.set_cons_succ]
    refine wpAnyT_load (i := 49) (v := ?_) rfl (by kernel_rfl) (by kernel_rfl) (by kernel_rfl) (by kernel_rfl) (by kernel_rfl) (fun _ _ _ h => h) HSS.out (by rfl) ?_ ?_
    rotate_left
    · intro w hSw; skip; go_simp; try with_reducible rfl
    simp only [Act.put, List.getElem_toArray, List.getElem_cons_zero, List.getElem_cons_succ, List.setIfInBounds_toArray, List.set_cons_zero, List.set_cons_succ]
    refine wpAnyT_load (i := 50) (v := ?_) rfl (by kernel_rfl) (by kernel_rfl) (by kernel_rfl) (by kernel_rfl) (by kernel_rfl) (fun _ _ _ h => h) HSS.out (by rfl) ?_ ?_
    rotate_left
    · intro w hSw; have n0 := (HN.out.keep hSw).cell 0; simp only [List.getElem?_toArray, List.getElem?_cons_zero] at n0; go_simp; try with_reducible rfl
    simp only [Act.put, List.getElem_toArray, List.getElem_cons_zero, List.getElem_cons_succ, List.setIfInBounds_toArray, List.set_cons_zero, List.set_cons_succ]
    refine wpAnyT_load (i := 51) (v := ?_) rfl (by kernel_rfl) (by kernel_rfl) (by kernel_rfl) (by kernel_rfl) (by kernel_rfl) (fun _ _ _ h => h) HSS.out (by rfl) ?_ ?_
    rotate_left
    · intro w hSw; skip; go_simp; try with_reducible rfl
    simp only [Act.put, List.getElem_toArray, List.getElem_cons_zero, List.getElem_cons_succ, List.setIfInBounds_toArray, List.set_cons_zero, List.set_cons_succ]
    refine wpAnyT_load (i := 52) (v := ?_) rfl (by kernel_rfl) (by kernel_rfl) (by kernel_rfl) (by kernel_rfl) (by kernel_rfl) (fun _ _ _ h => h) HSS.out (by rfl) ?_ ?_
    rotate_left
    · intro w hSw; skip; go_simp; try with_reducible rfl
    simp only [Act.put, List.getElem_toArray, List.getElem_cons_zero, List.getElem_cons_succ, List.setIfInBounds_toArray, List.set_cons_zero, List.set_cons_succ]
    refine wpAnyT_load (i := 53) (v := ?_) rfl (by kernel_rfl) (by kernel_rfl) (by kernel_rfl) (by kernel_rfl) (by kernel_rfl) (fun _ _ _ h => h) HSS.out (by rfl) ?_ ?_
    rotate_left
    · intro w hSw; skip; go_simp; try with_reducible rfl
    simp only [Act.put, List.getElem_toArray, List.getElem_cons_zero, List.getElem_cons_succ, List.setIfInBounds_toArray, List.set_cons_zero, List.set_cons_succ]
    refine wpAnyT_load (i := 54) (v := ?_) rfl (by kernel_rfl) (by kernel_rfl) (by kernel_rfl) (by kernel_rfl) (by kernel_rfl) (fun _ _ _ h => h) HSS.out (by rfl) ?_ ?_
    rotate_left
    · intro w hSw; skip; go_simp; try with_reducible rfl
    simp only [Act.put, List.getElem_toArray, List.getElem_cons_zero, List.getElem_cons_succ, List.setIfInBounds_toArray, List.set_cons_zero, List.set_cons_succ]
    refine wpAnyT_load (i := 55) (v := ?_) rfl (by kernel_rfl) (by kernel_rfl) (by kernel_rfl) (by kernel_rfl) (by kernel_rfl) (fun _ _ _ h => h) HSS.out (by rfl) ?_ ?_
    rotate_left
    · intro w hSw; skip; go_simp; try with_reducible rfl
    simp only [Act.put, List.getElem_toArray, List.getElem_cons_zero, List.getElem_cons_succ, List.setIfInBounds_toArray, List.set_cons_zero, List.set_cons_succ]
    refine wpAnyT_load (i := 56) (v := ?_) rfl (by kernel_rfl) (by kernel_rfl) (by kernel_rfl) (by kernel_rfl) (by kernel_rfl) (fun _ _ _ h => h) HSS.out (by rfl) ?_ ?_
    rotate_left
    · intro w' hSw; refine run_load_mid_op 42 (.tmp 118) ?_ b0 o0 ?_ (itc x7a (.slice ar x7a.reps.length cr) (.slice ac x7a.chks.length cc) (.slice as_ x7a.srcs.length cs)) _ (fr_rng hSw HRGD.out) Try.underlying42 rfl (by kernel_rfl) <;> rfl
    simp only [Act.put, List.getElem_toArray, List.getElem_cons_zero, List.getElem_cons_succ, List.setIfInBounds_toArray, List.set_cons_zero, List.set_cons_succ]
    refine wpAnyT_load (i := 57) (v := ?_) rfl (by kernel_rfl) (by kernel_rfl) (by kernel_rfl) (by kernel_rfl) (by kernel_rfl) (fun _ _ _ h => h) HSS.out (by rfl) ?_ ?_
    rotate_left
    · intro w hSw; skip; go_simp; try with_reducible rfl
    simp only [Act.put, List.getElem_toArray, List.getElem_cons_zero, List.getElem_cons_succ, List.setIfInBounds_toArray, List.set_cons_zero, List.set_cons_succ]
    refine wpAnyT_load (i := 58) (v := ?_) rfl (by kernel_rfl) (by kernel_rfl) (by kernel_rfl) (by kernel_rfl) (by kernel_rfl) (fun _ _ _ h => h) HSS.out (by rfl) ?_ ?_
    rotate_left
    · intro w hSw; skip; go_simp; try with_reducible rfl
    simp only [Act.put, List.getElem_toArray, List.getElem_cons_zero, List.getElem_cons_succ, List.setIfInBounds_toArray, List.set_cons_zero, List.set_cons_succ]
    refine wpAnyT_load (i := 59) (v := ?_) rfl (by kernel_rfl) (by kernel_rfl) (by kernel_rfl) (by kernel_rfl) (by kernel_rfl) (fun _ _ _ h => h) HSS.out (by rfl) ?_ ?_
    rotate_left
    · intro w' hSw; refine run_load_mid_op 42 (.tmp 121) ?_ b0 o0 ?_ (itc x7a (.slice ar x7a.reps.length cr) (.slice ac x7a.chks.length cc) (.slice as_ x7a.srcs.length cs)) _ (fr_rng hSw HRGD.out) Try.underlying42 rfl (by kernel_rfl) <;> rfl
    simp only [Act.put, List.getElem_toArray, List.getElem_cons_zero, List.getElem_cons_succ, List.setIfInBounds_toArray, List.set_cons_zero, List.set_cons_succ]
    refine wpAnyT_one (i := 60) (by kernel_rfl) rfl (fun K hK => ?_)
    rw [if_pos (by rfl)]
    go_simp
    refine (tSame_any HR0.out HC0.out HS0.out HR0.out HC0.out HS0.out sz_x7a sz_x7a).mono ?_
    rw [show (x7a == x7a) = true from by simp]
    rintro e wl ⟨rfl, hF⟩
    have HSS := Lib.hid (HSS.out.trans hF)
    have HB1 := Lib.hid (Sl.keep HB1.out hF); have HCb := Lib.hid (Sl.keep HCb.out hF); have HR0 := Lib.hid (HR0.out.keep Rep.rpt hF); have HC0 := Lib.hid (HC0.out.keep Rep.chk hF); have HS0 := Lib.hid (HS0.out.keep Rep.src hF); have HRG0 : Hid (World.rangeAt _ _ _ _) := Lib.hid (fr_rng hF HRG0.out); have HN := Lib.hid (HN.out.keep hF); have HF := Lib.hid (HF.out.trans hF); have HDK := Lib.hid ((hF.block D (Array.getElem?_eq_some_iff.1 HDK.out).1 (by simp)).trans HDK.out)
    clear hF
    go_simp
    refine hK.out _ _ (fun _ => HSS.out) ?_
    clear hK K
    simp only [Act.put, List.getElem_toArray, List.getElem_cons_zero, List.getElem_cons_succ, List.setIfInBounds_toArray, List.set_cons_zero, List.set_cons_succ]
    refine wpAnyT_load (i := 61) (v := ?_) rfl (by kernel_rfl) (by kernel_rfl) (by kernel_rfl) (by kernel_rfl) (by kernel_rfl) (fun _ _ _ h => h) HSS.out (by rfl) ?_ ?_
    rotate_left
    · intro w hSw; skip; go_simp; try with_reducible rfl
    simp only [Act.put, List.getElem_toArray, List.getElem_cons_zero, List.getElem_cons_succ, List.setIfInBounds_toArray, List.set_cons_zero, List.set_cons_succ]
    refine wpAnyT_load (i := 62) (v := ?_) rfl (by kernel_rfl) (by kernel_rfl) (by kernel_rfl) (by kernel_rfl) (by kernel_rfl) (fun _ _ _ h => h) HSS.out (by rfl) ?_ ?_
    rotate_left
    · intro w hSw; skip; go_simp; try with_reducible rfl
    simp only [Act.put, List.getElem_toArray, List.getElem_cons_zero, List.getElem_cons_succ, List.setIfInBounds_toArray, List.set_cons_zero, List.set_cons_succ]
    refine wpAnyT_load (i := 63) (v := ?_) rfl (by kernel_rfl) (by kernel_rfl) (by kernel_rfl) (by kernel_rfl) (by kernel_rfl) (fun _ _ _ h => h) HSS.out (by rfl) ?_ ?_
    rotate_left
    · intro w hSw; skip; go_simp; try with_reducible rfl
    simp only [Act.put, List.getElem_toArray, List.getElem_cons_zero, List.getElem_cons_succ, List.setIfInBounds_toArray, List.set_cons_zero, List.set_cons_succ]
    refine wpAnyT_load (i := 64) (v := ?_) rfl (by kernel_rfl) (by kernel_rfl) (by kernel_rfl) (by kernel_rfl) (by kernel_rfl) (fun _ _ _ h => h) HSS.out (by rfl) ?_ ?_
    rotate_left
    · intro w hSw; skip; go_simp; try with_reducible rfl
    simp only [Act.put, List.getElem_toArray, List.getElem_cons_zero, List.getElem_cons_succ, List.setIfInBounds_toArray, List.set_cons_zero, List.set_cons_succ]
    refine wpAnyT_load (i := 65) (v := ?_) rfl (by kernel_rfl) (by kernel_rfl) (by kernel_rfl) (by kernel_rfl) (by kernel_rfl) (fun _ _ _ h => h) HSS.out (by rfl) ?_ ?_
    rotate_left
    · intro w' hSw; refine run_load_mid_op 42 (.tmp 127) ?_ b0 o0 ?_ (itc x7a (.slice ar x7a.reps.length cr) (.slice ac x7a.chks.length cc) (.slice as_ x7a.srcs.length cs)) _ (fr_rng hSw HRGD.out) Try.underlying42 rfl (by kernel_rfl) <;> rfl
    simp only [Act.put, List.getElem_toArray, List.getElem_cons_zero, List.getElem_cons_succ, List.setIfInBounds_toArray, List.set_cons_zero, List.set_cons_succ]
    refine wpAnyT_load (i := 66) (v := ?_) rfl (by kernel_rfl) (by kernel_rfl) (by kernel_rfl) (by kernel_rfl) (by kernel_rfl) (fun _ _ _ h => h) HSS.out (by rfl) ?_ ?_
    rotate_left
    · intro w hSw; skip; go_simp; try with_reducible rfl
    simp only [Act.put, List.getElem_toArray, List.getElem_cons_zero, List.getElem_cons_succ, List.setIfInBounds_toArray, List.set_cons_zero, List.set_cons_succ]
    refine wpAnyT_one (i := 67) (by kernel_rfl) rfl (fun K hK => ?_)
    rw [if_pos (by rfl)]
    go_simp
    refine (tSame_any (y := Itm.zero 201) HR0.out HC0.out HS0.out (SlEls.nil _) (SlEls.nil _) (SlEls.nil _) sz_x7a (sz_z7 201)).mono ?_
    rw [show (x7a == Itm.zero 201) = false from by decide]
    rintro e wm ⟨rfl, hF⟩
    have HSS := Lib.hid (HSS.out.trans hF)
    have HB1 := Lib.hid (Sl.keep HB1.out hF); have HCb := Lib.hid (Sl.keep HCb.out hF); have HR0 := Lib.hid (HR0.out.keep Rep.rpt hF); have HC0 := Lib.hid (HC0.out.keep Rep.chk hF); have HS0 := Lib.hid (HS0.out.keep Rep.src hF); have HRG0 : Hid (World.rangeAt _ _ _ _) := Lib.hid (fr_rng hF HRG0.out); have HN := Lib.hid (HN.out.keep hF); have HF := Lib.hid (HF.out.trans hF); have HDK := Lib.hid ((hF.block D (Array.getElem?_eq_some_iff.1 HDK.out).1 (by simp)).trans HDK.out)
    clear hF
    go_simp
    refine hK.out _ _ (fun _ => HSS.out) ?_
    clear hK K
    simp only [Act.put, List.getElem_toArray, List.getElem_cons_zero, List.getElem_cons_succ, List.setIfInBounds_toArray, List.set_cons_zero, List.set_cons_succ]
    refine wpAnyT_load (i := 68) (v := ?_) rfl (by kernel_rfl) (by kernel_rfl) (by kernel_rfl) (by kernel_rfl) (by kernel_rfl) (fun _ _ _ h => h) HSS.out (by rfl) ?_ ?_
    rotate_left
    · intro w hSw; skip; go_simp; try with_reducible rfl
    simp only [Act.put, List.getElem_toArray, List.getElem_cons_zero, List.getElem_cons_succ, List.setIfInBounds_toArray, List.set_cons_zero, List.set_cons_succ]
    refine wpAnyT_load (i := 69) (v := ?_) rfl (by kernel_rfl) (by kernel_rfl) (by kernel_rfl) (by kernel_rfl) (by kernel_rfl) (fun _ _ _ h => h) HSS.out (by rfl) ?_ ?_
    rotate_left
    · intro w hSw; skip; go_simp; try with_reducible rfl
    simp only [Act.put, List.getElem_toArray, List.getElem_cons_zero, List.getElem_cons_succ, List.setIfInBounds_toArray, List.set_cons_zero, List.set_cons_succ]
    refine wpAnyT_load (i := 70) (v := ?_) rfl (by kernel_rfl) (by kernel_rfl) (by kernel_rfl) (by kernel_rfl) (by kernel_rfl) (fun _ _ _ h => h) HSS.out (by rfl) ?_ ?_
    rotate_left
    · intro w hSw; skip; go_simp; try with_reducible rfl
    simp only [Act.put, List.getElem_toArray, List.getElem_cons_zero, List.getElem_cons_succ, List.setIfInBounds_toArray, List.set_cons_zero, List.set_cons_succ]
    refine wpAnyT_done (by kernel_rfl) ?_ _
    dsimp only
    gi_wp2
    refine ⟨by simp, .inl ⟨_, _, rfl, run_takeDeferred HDK.out, ?_⟩⟩
    have hFD : Fr [D] wm (wm.putObj D (.deferred none)) := Fr.ofGrown (grownBy_putObj' wm D _)
    exact ⟨_, results_tmp rfl _ _ _, rfl, HF.out.step hFD (fun x hx => .inr (by have := HWD.out; simp at hx; omega))⟩
end Go.Proofs.Ytcmpjkopdjncdaa

/- The walk of RtcpParses (printed by gen_rtparses.py). -/
namespace Go.Proofs.Ytcmpjkopdjncdaa
open Go.RowKit

theorem all_hyps {xs : List Itm} (h : ∀ x ∈ xs, Sz7 x) : ∀ x ∈ xs, (∀ c ∈ x.chks, c.texts.length ≤ 5864062014805) ∧ x.reps.length ≤ 1099511000000 ∧ x.chks.length ≤ 1099511000000 ∧ x.srcs.length ≤ 1099511000000 := fun x hx => ⟨fun c hc => by have := (h x hx).texts c hc; omega, (h x hx).n⟩
/-- What both Parse functions answer, as one. -/
def pRes7 (l : List UInt8) (w : World) (e : Ending) (w' : World) : Prop :=
  ∃ xs au cu B c, (match parse7 l with | .ok ys => c = 0 ∧ xs = ys | .error k => c = k ∧ xs = []) ∧ e = .returned (.tuple #[.slice au xs.length cu, .int .i64 c]) ∧ SlEls 10 ItR w' (.slice au xs.length cu) xs B ∧ Fr [] w w' ∧ (∀ x ∈ xs, Sz7 x) ∧ xs.length ≤ 1500
set_option maxRecDepth 100000 in
set_option maxHeartbeats 8000000 in
theorem tParse_res {w : World} {v : Value} {l : List UInt8} (hl : Bytes w v l) : Calls Try.prog 10 #[v] w (pRes7 l w) := by
  refine (tParse_any hl).mono ?_
  rintro e w' (⟨xs, u, B, hp, rfl, hO, -, hF⟩ | ⟨c, hp, -, rfl, hF⟩)
  · obtain ⟨au, cu, rfl⟩ := hO.shape
    exact ⟨xs, au, cu, B, 0, by rw [hp]; exact ⟨rfl, rfl⟩, rfl, hO.sl, hF, (parse7_back hp).2.2.2.1, parse7_len hp⟩
  · exact ⟨[], none, 0, [], c, by rw [hp]; exact ⟨rfl, rfl⟩, rfl, SlEls.nil _, hF, by simp, by simp⟩
set_option maxRecDepth 100000 in
set_option maxHeartbeats 8000000 in
theorem r07Parse_res {w : World} {v : Value} {l : List UInt8} (hl : Bytes w v l) : Calls Try.prog 11 #[v] w (pRes7 l w) := by
  refine (r07Parse_any hl).mono ?_
  rintro e w' (⟨xs, u, B, hp, rfl, hO, -, hF⟩ | ⟨c, hp, -, rfl, hF⟩)
  · obtain ⟨au, cu, rfl⟩ := hO.shape
    exact ⟨xs, au, cu, B, 0, by rw [hp]; exact ⟨rfl, rfl⟩, rfl, hO.sl, hF, (parse7_back hp).2.2.2.1, parse7_len hp⟩
  · exact ⟨[], none, 0, [], c, by rw [hp]; exact ⟨rfl, rfl⟩, rfl, SlEls.nil _, hF, by simp, by simp⟩
set_option maxRecDepth 100000 in
set_option maxHeartbeats 8000000 in
theorem RtcpParses_any {w : World} {v : Value} {l : List UInt8} (hl : Bytes w v l) : Calls Try.prog 3 #[v] w fun e w' => e = .returned (.bool true) ∧ Fr [] w w' := by
  obtain ⟨a, cap, rfl⟩ := hl.shape
  simp only [List.length_map] at hl ⊢
  have HL := Lib.hid hl
  clear hl
  obtain ⟨n, hn⟩ : ∃ n, l.length = n := ⟨_, rfl⟩
  rw [hn] at HL ⊢
  have HN := Lib.hid hn
  clear hn
  go_enter Try.func3, Try.ntmps3
  go_wp2_with fail
  refine l07alive_any.mono ?_
  rintro e w1 ⟨rfl, hF⟩
  have HF := Lib.hid hF; have HL := Lib.hid (Sl.keep HL.out hF)
  clear hF
  by_cases hn : n ≤ 3000
  · have t0 : ¬ ((3000 : Int) < (n : Int)) := by omega
    have HM : Hid (n ≤ 3000) := Lib.hid hn
    clear hn
    go_wp2_with fail
    clear t0
    refine (RCopy_any HL.out (by have := HN.out; have := HM.out; omega)).mono ?_
    rintro e w2 ⟨vo, rfl, hO, hF⟩
    obtain ⟨ao, no, co, rfl⟩ := hO.isSlice
    have HO := Lib.hid hO.bytes; have HL := Lib.hid (Sl.keep HL.out hF); have HF := Lib.hid (HF.out.trans hF)
    clear hO hF
    go_wp2_with fail
    refine (tParse_res HO.out).mono ?_
    rintro e w3 ⟨xs, ax, cx, Bx, c, hc, rfl, hX, hF, hz, hm⟩
    have HX := Lib.hid hX; have HO := Lib.hid (Sl.keep HO.out hF); have HL := Lib.hid (Sl.keep HL.out hF); have HF := Lib.hid (HF.out.trans hF); have HZ := Lib.hid hz; have HXM := Lib.hid hm; have HC := Lib.hid hc
    clear hc hX hF hz hm
    go_wp2_with fail
    refine (r07Parse_res HL.out).mono ?_
    rintro e w4 ⟨ys, ay, cy, By, d, hc, rfl, hY, hF, hz, hm⟩
    have hcd : ys = xs ∧ d = c := by
      have h1 := HC.out
      revert h1 hc
      cases parse7 l with
      | ok zs => exact fun h1 h2 => ⟨h1.2.trans h2.2.symm, h1.1.trans h2.1.symm⟩
      | error k => exact fun h1 h2 => ⟨h1.2.trans h2.2.symm, h1.1.trans h2.1.symm⟩
    obtain ⟨rfl, rfl⟩ := hcd
    have HY := Lib.hid hY; have HX := Lib.hid (HX.out.keep Rep.itm hF); have HO := Lib.hid (Sl.keep HO.out hF); have HL := Lib.hid (Sl.keep HL.out hF); have HF := Lib.hid (HF.out.trans hF)
    clear hc hY hF hz hm
    go_wp2_with fail
    refine (l07all_any HX.out (all_hyps HZ.out) (by have := HXM.out; omega)).mono ?_
    rintro e w5 ⟨u, Bu, rfl, hU, hF⟩
    have HU := Lib.hid hU.sl; have HY := Lib.hid (HY.out.keep Rep.itm hF); have HO := Lib.hid (Sl.keep HO.out hF); have HL := Lib.hid (Sl.keep HL.out hF); have HF := Lib.hid (HF.out.trans hF)
    clear hU hF
    go_wp2_with fail
    refine (l07same_any HU.out HY.out HZ.out HZ.out (by have := HXM.out; omega) (by have := HXM.out; omega)).mono ?_
    rintro e w6 ⟨rfl, hF⟩
    have HO := Lib.hid (Sl.keep HO.out hF); have HL := Lib.hid (Sl.keep HL.out hF); have HF := Lib.hid (HF.out.trans hF)
    clear hF
    simp only [beq_self_eq_true]
    go_wp2_with fail
    refine (RSame_any HO.out HL.out (by have := HN.out; have := HM.out; omega) (by have := HN.out; have := HM.out; omega)).mono ?_
    rintro e w7 ⟨rfl, hF⟩
    have HF := Lib.hid (HF.out.trans hF)
    clear hF
    simp only [beq_self_eq_true]
    go_wp2_with fail
    go_ret
    exact ⟨rfl, HF.out⟩
  · have t0 : (3000 : Int) < (n : Int) := by omega
    clear hn
    go_wp2_with fail
    go_ret
    exact ⟨rfl, HF.out⟩
end Go.Proofs.Ytcmpjkopdjncdaa
