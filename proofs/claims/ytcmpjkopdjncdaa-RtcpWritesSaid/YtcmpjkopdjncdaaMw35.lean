import Derived.Test.YtcmpjkopdjncdaaMw34
import Derived.Test.YtcmpjkopdjncdaaMw28
import Derived.Test.YtcmpjkopdjncdaaMw10
/- The walks of rtcp's body and readItem (printed by gen_7item.py). -/
namespace Go.Proofs.Ytcmpjkopdjncdaa
open Go.RowKit

theorem byte_and31 (n : Nat) (h : n < 256) : bits .and .i64 (n : Int) 31 = ((n % 32 : Nat) : Int) := by
  rw [show (31 : Int) = ((31 : Nat) : Int) by rfl, i64_and_nat _ _ (by omega) (by omega)]
  rw [show (31 : Nat) = 2 ^ 5 - 1 by rfl, Nat.and_two_pow_sub_one_eq_mod]
set_option maxRecDepth 100000 in
set_option maxHeartbeats 8000000 in
theorem tBody_any (kind n : Int) (w : World) :
    Calls Try.prog 52 #[.int .i64 kind, .int .i64 n] w fun e w' => e = .returned (.func (.func 74) #[] #[.pointer (some ⟨w.heap.size, 0, none⟩), .pointer (some ⟨w.heap.size + 1, 0, none⟩)]) ∧ Box w' w.heap.size 3 #[.int .i64 kind] ∧ Box w' (w.heap.size + 1) 3 #[.int .i64 n] ∧ Fr [] w w' := by
  obtain ⟨w2, e2, hF2, hB2, hD2, hs2⟩ := two_new w #[.int .i64 kind] 3 #[.int .i64 n] 3
  have HF := Lib.hid hF2; have HB := Lib.hid hB2; have HD := Lib.hid hD2; have E2 := Lib.hid e2
  clear hF2 hB2 hD2 e2 hs2
  go_enter Try.func52, Try.ntmps52
  go_wp2_with fail
  rw [E2.out]
  go_ret
  exact ⟨rfl, HB.out, HD.out, HF.out⟩
/-- A body's closure reads what bodyK says. -/
theorem body_parses {w : World} {v : Value} {l : List UInt8} {Kb Nb : Nat} (kind : Int) (n : Nat) (hn : n ≤ 31) (hK : Box w Kb 3 #[.int .i64 kind]) (hN : Box w Nb 3 #[.int .i64 n]) :
    Parses w l v 74 #[.pointer (some ⟨Kb, 0, none⟩), .pointer (some ⟨Nb, 0, none⟩)] (fun x k => bodyK kind n l = some (x, k)) (fun _ => bodyK kind n l = none) where
  eg := enters_of Try.func74 (by kernel_rfl) rfl
  go := fun W R hW hR0 hR => (tBody1_any hR kind n hn (hK.keep hW) (hN.keep hW) ⟨by have := hK.lt; omega, by have := hN.lt; omega⟩).mono fun e w' h => by
    rcases h with ⟨x, k, c, B, h1, h2, h3, h4, h5, h6⟩ | ⟨h1, ⟨c, hc, h2⟩, h3⟩
    · exact .inl ⟨x, k, c, B, h1, h2, h3, h4, h5, h6⟩
    · exact .inr ⟨c, h1, hc, h2, h3⟩
theorem bodyR_some {kind : Int} {n : Nat} {l : List UInt8} {x : Itm} (h : bodyK kind n l = some (x, l.length)) : bodyR kind n l = some x := by
  unfold bodyR
  rw [h]
  simp
theorem bodyR_none {kind : Int} {n : Nat} {l : List UInt8} (h : (∃ c : Int, bodyK kind n l = none) ∨ ∃ x k, bodyK kind n l = some (x, k) ∧ k < l.length) : bodyR kind n l = none := by
  unfold bodyR
  rcases h with ⟨-, h⟩ | ⟨x, k, h, hk⟩
  · rw [h]
  · rw [h]
    simp only
    rw [if_neg (by omega)]
set_option maxRecDepth 100000 in
set_option maxHeartbeats 8000000 in
theorem tItem_any {w : World} {R : Nat} {v : Value} {l : List UInt8} (hR : Rd w R v 0 l) :
    Calls Try.prog 24 #[.pointer (some ⟨R, 0, none⟩)] w fun e w' => (∃ x k c B, itemR l = .ok (x, k) ∧ e = .returned (.agg c) ∧ ItR w' c.toList x B ∧ (∀ b ∈ B, w.heap.size ≤ b) ∧ Rd w' R v k l ∧ Fr [R] w w') ∨ (∃ c, itemR l = .error c ∧ c ≠ 0 ∧ e = .panicked (faultOf c) ∧ Fr [R] w w') := by
  have HRL : Hid (R < w.heap.size) := Lib.hid (World.block_lt_of_cell? _ _ hR.c0)
  have HVL : Hid (∀ b, liveOf v = some b → b < w.heap.size) := Lib.hid hR.vlt
  have hsm := hR.small
  obtain ⟨w1, e1, hF1, hB1, hs1⟩ := one_new w #[.int .i64 0, .int .u32 0, .int .u64 0, .int .u32 0, .int .u32 0, .int .u32 0, .slice none 0 0, .slice none 0 0, .slice none 0 0, .string ⟨#[]⟩] 42
  have HR := Lib.hid (hR.keep hF1); have HF : Hid (Fr [R] w w1) := Lib.hid hF1.any; have HB := Lib.hid hB1; have E1 := Lib.hid e1
  have HS1 := Lib.hid hs1
  clear hR hF1 hB1 e1 hs1
  have HI : Hid (itemR l = if 1 ≤ l.length then if nb l 0 1 / 32 = 4 then if 4 ≤ l.length then if 4 + 4 * nb l 2 2 ≤ l.length then (match bodyR (nb l 1 1) (nb l 0 1 % 32) ((l.drop 4).take (4 * nb l 2 2)) with | some x => .ok (x, 4 + 4 * nb l 2 2) | none => .error 21) else .error 20 else .error 20 else .error 21 else .error 20) := Lib.hid rfl
  have hf := nb_lt l 0 1
  have hkd := nb_lt l 1 1
  have hsz := nb_lt l 2 2
  go_enter Try.func24, Try.ntmps24
  go_upto_region 1 with fail
  rw [E1.out]
  clear E1
  go_wp2_with fail
  refine (rbyte_or HR.out).mono ?_
  rintro e w2 (⟨hk, rfl, hR, hF⟩ | ⟨hk, rfl, hF⟩)
  rotate_left
  · exact ⟨rfl, .inr ⟨20, (by rw [HI.out, if_neg (by omega)]), by decide, rfl, (HF.out.trans hF.any)⟩⟩
  have HR := Lib.hid hR; have HF := Lib.hid (HF.out.trans hF); have HKL := Lib.hid hk
  have HB := Lib.hid (HB.out.fr hF (by have := HRL.out; simp; omega))
  clear hR hF
  have HI := Lib.hid (HI.out.trans (if_pos (by omega)))
  obtain ⟨f, hfe⟩ : ∃ f, nb l 0 1 = f := ⟨_, rfl⟩
  rw [hfe] at HI hf ⊢
  have HFE := Lib.hid hfe
  clear hfe hk
  by_cases h4 : f / 32 = 4
  rotate_left
  · have hb : (((f : Nat) : Int) / 32 != 4) = true := by rw [bne_iff_ne]; omega
    have HE : Hid (itemR l = .error 21) := Lib.hid (HI.out.trans (if_neg h4))
    clear h4
    go_wp2_with fail
    refine (fail_any _ 21 (by decide) _).mono ?_
    rintro e w3 ⟨rfl, rfl⟩
    exact ⟨rfl, .inr ⟨21, HE.out, by decide, rfl, HF.out⟩⟩
  have hb : (((f : Nat) : Int) / 32 != 4) = false := by rw [bne_eq_false_iff_eq]; omega
  have HI := Lib.hid (HI.out.trans (if_pos h4))
  clear h4
  go_wp2_with fail
  refine (rbyte_or HR.out).mono ?_
  rintro e w3 (⟨hk, rfl, hR, hF⟩ | ⟨hk, rfl, hF⟩)
  rotate_left
  · exact ⟨rfl, .inr ⟨20, (by rw [HI.out, if_neg (by omega)]), by decide, rfl, (HF.out.trans hF.any)⟩⟩
  have HR := Lib.hid hR; have HF := Lib.hid (HF.out.trans hF); have HKL := Lib.hid hk
  have HB := Lib.hid (HB.out.fr hF (by have := HRL.out; simp; omega))
  clear hR hF
  clear hk
  go_wp2_with fail
  refine (rword_or HR.out).mono ?_
  rintro e w4 (⟨hk, rfl, hR, hF⟩ | ⟨hk, rfl, hF⟩)
  rotate_left
  · exact ⟨rfl, .inr ⟨20, (by rw [HI.out, if_neg (by omega)]), by decide, rfl, (HF.out.trans hF.any)⟩⟩
  have HR := Lib.hid hR; have HF := Lib.hid (HF.out.trans hF); have HKL := Lib.hid hk
  have HB := Lib.hid (HB.out.fr hF (by have := HRL.out; simp; omega))
  clear hR hF
  have HI := Lib.hid (HI.out.trans (if_pos (by omega)))
  replace HR : Hid (Rd w4 R v 4 l) := HR
  have hw2 : wrap64 ((nb l (0 + 1 + 1) 2 : Nat) : Int) = ((nb l (0 + 1 + 1) 2 : Nat) : Int) := by have h9 : nb l (0 + 1 + 1) 2 < 256 ^ 2 := hsz; exact IntWalk.wrap64_in _ ⟨by omega, by omega⟩
  obtain ⟨sz, hse⟩ : ∃ sz, nb l 2 2 = sz := ⟨_, rfl⟩
  rw [hse] at HI hsz
  rw [show nb l (0 + 1 + 1) 2 = sz from hse] at hw2 ⊢
  obtain ⟨kd, hke⟩ : ∃ kd, nb l 1 1 = kd := ⟨_, rfl⟩
  rw [hke] at HI hkd
  try rw [show nb l (0 + 1) 1 = kd from hke]
  obtain ⟨m4, hm4⟩ : ∃ m4, 4 * sz = m4 := ⟨_, rfl⟩
  have hm5 : ((sz : Nat) : Int) * 4 = ((m4 : Nat) : Int) := by omega
  obtain ⟨n5, hn5⟩ : ∃ n5, f % 32 = n5 := ⟨_, rfl⟩
  have hand := byte_and31 f (by omega)
  rw [hn5] at hand HI
  rw [hm4] at HI
  have HN5 : Hid (n5 ≤ 31) := Lib.hid (by omega)
  clear hse hke hm4 hn5 hk
  go_wp2_with fail
  refine (take_or HR.out m4).mono ?_
  rintro e w5 (⟨hk, vb, rfl, hO, hR, hF⟩ | ⟨hk, rfl, hF⟩)
  rotate_left
  · exact ⟨rfl, .inr ⟨20, by rw [HI.out, if_neg (by omega)], by decide, rfl, HF.out.trans hF.any⟩⟩
  have HI := Lib.hid (HI.out.trans (if_pos hk))
  have HR := Lib.hid hR; have HF := Lib.hid (HF.out.trans hF); have HO := Lib.hid hO.bytes
  obtain ⟨ab, nb', cb, rfl⟩ := hO.isSlice
  have HB := Lib.hid (HB.out.fr hF (by have := HRL.out; simp; omega))
  have HBL : Hid (((l.drop 4).take m4).length ≤ 1099511627776) := Lib.hid (by rw [List.length_take, List.length_drop]; omega)
  obtain ⟨bd, hbd⟩ : ∃ bd, (l.drop 4).take m4 = bd := ⟨_, rfl⟩
  rw [hbd] at HI HO HBL
  clear hR hF hO hk hbd
  go_wp2_with fail
  refine (tBody_any kd n5 w5).mono ?_
  rintro e w6 ⟨rfl, hK, hN, hF⟩
  have HR := Lib.hid (HR.out.keep hF); have HO := Lib.hid (HO.out.keep hF); have HB := Lib.hid (HB.out.keep hF); have HW6 := Lib.hid hF.size
  have HPA := Lib.hid (body_parses (v := .slice ab nb' cb) (l := bd) kd n5 HN5.out hK hN)
  have HF := Lib.hid (HF.out.trans hF.any)
  have HBZ : Hid (w.heap.size < w6.heap.size) := Lib.hid HB.out.lt
  clear hF hK hN
  generalize w5.heap.size = Kb at *
  go_wp2_with fail
  refine (tRead_any HO.out HBL.out HPA.out).mono ?_
  rintro e w7 (⟨x, c, B, hok, rfl, hIt, hIB, hF⟩ | ⟨k, hk0, hno, rfl, hF⟩)
  · have HE : Hid (itemR l = .ok (x, 4 + m4)) := Lib.hid (by rw [HI.out, bodyR_some hok])
    obtain ⟨a1, n1, c1, a2, n2, c2, a3, n3, c3, rfl⟩ := hIt.open_
    have HR := Lib.hid (HR.out.keep hF); have HB := Lib.hid (HB.out.keep hF); have HF6 := Lib.hid HF.out.size; have HF := Lib.hid (HF.out.trans hF.any); have HIT := Lib.hid hIt; have HIB := Lib.hid hIB
    have HW1 : Hid (w.heap.size + 1 ≤ w6.heap.size) := Lib.hid (by have := HB.out.lt; have h9 := HBZ.out; omega)
    have hz : ((0 : Int) != 0) = false := by decide
    clear hF hIt hIB hok HPA
    go_upto_region 6 with (refine wpList_store_row rfl 42 (.tmp 6) (.tmp 30) rfl w7.heap.size rfl _ _ rfl 42 (Box.new w7 42 #[.int .i64 0, .int .u32 0, .int .u64 0, .int .u32 0, .int .u32 0, .int .u32 0, .slice none 0 0, .slice none 0 0, .slice none 0 0, .string ⟨#[]⟩]) (by kernel_rfl) rfl one_itc ?_; intro w8 hY hG; have hFn := ((Fr.refl [] w7).alloc _).step hG (by simp); have HFn := Lib.hid hFn; have HY := Lib.hid hY; clear hG hFn hY)
    have HR := Lib.hid (HR.out.keep HFn.out); have HB := Lib.hid (HB.out.keep HFn.out); have HF := Lib.hid (HF.out.trans HFn.out.any); have HIT := Lib.hid (Rep.itm.fr HIT.out HFn.out (by simp))
    generalize w7.heap.size = X at *
    go_wp2_with (first | (refine wpList_load_row_w rfl 42 (.tmp 6) rfl X rfl 42 _ _ HY.out Try.underlying42 rfl (by kernel_rfl) ?_) | (refine wpList_store_row rfl 42 (.tmp 2) (.tmp 36) rfl w.heap.size rfl _ _ rfl 42 HB.out (by kernel_rfl) rfl one_itc ?_; intro w15 hY hG; have HYS := Lib.hid hY; have HGS := Lib.hid hG; clear hY hG))
    have HBW : Hid (w.heap.size < w6.heap.size) := Lib.hid (by have := HS1.out; have := HW1.out; omega)
    refine bodyPost_ret (results_cell_row rfl _ _ w.heap.size 42 _ (0, 0) _ rfl HYS.out Try.underlying42 rfl (by kernel_rfl)) rfl (.inl ⟨x, 4 + m4, _, B, HE.out, rfl, ?_, fun b hb => by have := HIB.out b hb; have := HBW.out; omega, ?_, ?_⟩)
    · exact Rep.itm.fr HIT.out HGS.out (fun b hb hm => by have := HIB.out b hb; have := HBW.out; simp at hm; omega)
    · exact HR.out.fr HGS.out (by have := HRL.out; simp; omega) (fun b hb hm => by have h1 := HVL.out b hb; simp at hm; omega)
    · exact HF.out.step HGS.out (fun b hb => .inr (by simp at hb; omega))
  · have HE : Hid (itemR l = .error 21) := Lib.hid (by rw [HI.out, bodyR_none hno])
    have hkb : (k != 0) = true := by simpa using hk0
    have HF := Lib.hid (HF.out.trans hF.any)
    clear hF hno hk0 HPA
    unfold iz
    go_upto_region 6 with (refine wpList_store_row rfl 42 (.tmp 6) (.tmp 30) rfl w7.heap.size rfl _ _ rfl 42 (Box.new w7 42 #[.int .i64 0, .int .u32 0, .int .u64 0, .int .u32 0, .int .u32 0, .int .u32 0, .slice none 0 0, .slice none 0 0, .slice none 0 0, .string ⟨#[]⟩]) (by kernel_rfl) rfl (by simp [Value.oneCell']) ?_; intro w8 hY hG; have hFn := ((Fr.refl [] w7).alloc _).step hG (by simp); have HFn := Lib.hid hFn; clear hG hFn hY)
    have HF := Lib.hid (HF.out.trans HFn.out.any)
    clear HFn
    generalize w7.heap.size = X at *
    go_wp2_with fail
    refine (fail_any _ 21 (by decide) _).mono ?_
    rintro e w9 ⟨rfl, rfl⟩
    exact ⟨rfl, .inr ⟨21, HE.out, by decide, rfl, HF.out⟩⟩
end Go.Proofs.Ytcmpjkopdjncdaa

/- The walk of wire.Each at rtcp's items (printed by gen_7each.py). -/
namespace Go.Proofs.Ytcmpjkopdjncdaa
open Go.RowKit

theorem item_parses {w : World} {v : Value} {l : List UInt8} : Parses w l v 24 #[] (fun x k => itemR l = .ok (x, k)) (fun c => itemR l = .error c) where
  eg := enters_of Try.func24 (by kernel_rfl) rfl
  go := fun W R _ _ hR => tItem_any hR
set_option maxRecDepth 100000 in
theorem info_itm : (Try.prog.info? 42).map (fun i => (i.zero, i.size, i.bytes)) = some (some (.agg #[.int .i64 0, .int .u32 0, .int .u64 0, .int .u32 0, .int .u32 0, .int .u32 0, .slice none 0 0, .slice none 0 0, .slice none 0 0, .string ⟨#[]⟩]), 10, 128) := by kernel_rfl
/-- What is read so far, what is left. -/
def ERel (l : List UInt8) (f : Nat) (rest : List UInt8) (xs : List Itm) : Prop := rest.length < f ∧ 4 * xs.length + rest.length ≤ l.length ∧ eachR (l.length + 1) l = match eachR f rest with | .error e => .error e | .ok ys => .ok (xs ++ ys)
theorem ERel.start (l : List UInt8) : ERel l (l.length + 1) l [] := ⟨by omega, by simp, by cases eachR (l.length + 1) l <;> rfl⟩
theorem eachR_succ (f : Nat) (l : List UInt8) (h : l.length ≠ 0) : eachR (f + 1) l = match itemR l with | .error e => .error e | .ok (x, n) => (match eachR f (l.drop n) with | .error e => .error e | .ok xs => .ok (x :: xs)) := by
  rw [eachR, if_neg h]
  rfl
theorem ERel.fail {l : List UInt8} {f : Nat} {rest : List UInt8} {xs : List Itm} {c : Int} (h : ERel l f rest xs) (hr : rest.length ≠ 0) (hi : itemR rest = .error c) : eachR (l.length + 1) l = .error c := by
  obtain ⟨h1, h2, h3⟩ := h
  obtain ⟨f, rfl⟩ : ∃ g, f = g + 1 := ⟨f - 1, by omega⟩
  rw [h3, eachR_succ f rest hr, hi]
theorem ERel.next {l : List UInt8} {f : Nat} {rest : List UInt8} {xs : List Itm} {x : Itm} {n : Nat} (h : ERel l f rest xs) (hr : rest.length ≠ 0) (hi : itemR rest = .ok (x, n)) : ∃ g, ERel l g (rest.drop n) (xs ++ [x]) := by
  obtain ⟨h1, h2, h3⟩ := h
  have hn := itemR_pos hi
  obtain ⟨f, rfl⟩ : ∃ g, f = g + 1 := ⟨f - 1, by omega⟩
  refine ⟨f, by rw [List.length_drop]; omega, by rw [List.length_drop, List.length_append, List.length_singleton]; omega, ?_⟩
  rw [h3, eachR_succ f rest hr, hi]
  simp only
  cases eachR f (rest.drop n) with
  | error e => rfl
  | ok ys => simp
theorem ERel.done {l : List UInt8} {f : Nat} {rest : List UInt8} {xs : List Itm} (h : ERel l f rest xs) (hr : rest.length = 0) : eachR (l.length + 1) l = .ok xs := by
  obtain ⟨h1, h2, h3⟩ := h
  obtain ⟨f, rfl⟩ : ∃ g, f = g + 1 := ⟨f - 1, by omega⟩
  rw [h3, eachR, if_pos hr]
  simp
set_option maxRecDepth 100000 in
set_option maxHeartbeats 8000000 in
theorem tEach_any {w : World} {v : Value} {l : List UInt8} (hl : Bytes w v l) (hsm : l.length ≤ 1500) :
    Calls Try.prog 23 #[v, .int .i64 1500, .func (.func 24) #[] #[]] w fun e w' =>
      (∃ xs u B, eachR (l.length + 1) l = .ok xs ∧ e = .returned (.tuple #[u, .int .i64 0]) ∧ OwnEls 10 ItR w' w.heap.size 42 u xs B ∧ (∀ b ∈ B, w.heap.size ≤ b) ∧ Fr [] w w') ∨
      (∃ c, eachR (l.length + 1) l = .error c ∧ c ≠ 0 ∧ e = .returned (.tuple #[.slice none 0 0, .int .i64 c]) ∧ Fr [] w w') := by
  have HL := Lib.hid hl
  obtain ⟨a0, cap0, rfl⟩ := hl.shape
  simp only [List.length_map] at HL ⊢
  clear hl
  go_enter Try.func23, Try.ntmps23
  go_upto_region 2 with fail
  go_loopw [0, 8] (fun bv ov wr => ∃ (f : Nat) (rest : List UInt8) (xs : List Itm) (B : List Nat), ERel l f rest xs ∧ Bytes w bv rest ∧ OwnEls 10 ItR wr w.heap.size 42 ov xs B ∧ (∀ b ∈ B, w.heap.size ≤ b) ∧ Fr [] w wr) (fun bv _ _ => match bv with | .slice _ n _ => n | _ => 0)
  case atStart => exact ⟨_, l, [], [], ERel.start l, HL.out, OwnEls.nil _ _ _, by simp, Fr.refl _ _⟩
  case round =>
    clear HL
    obtain ⟨f, rest, xs, B, hE, hb, hO, hB, hF⟩ := hrel
    obtain ⟨a, cap, rfl⟩ := hb.shape
    obtain ⟨ao, co, rfl⟩ := hO.shape
    have hlen := hE.2.1
    have hcap : rest.length ≤ cap := by have := (Sl.len hb).2.1; simpa using this
    have HE := Lib.hid hE; have HB := Lib.hid hb; have HO := Lib.hid hO; have HBB := Lib.hid hB; have HF := Lib.hid hF
    simp only [List.length_map] at HB ⊢
    clear hE hb hO hB hF
    obtain ⟨m, hm⟩ : ∃ m, rest.length = m := ⟨_, rfl⟩
    rw [hm] at hlen hcap HB ⊢
    have HM := Lib.hid hm
    clear hm
    by_cases h0 : m = 0
    · subst h0
      have HD := Lib.hid (HE.out.done HM.out)
      go_wp2_with fail
      go_ret2
      exact .inl ⟨xs, _, B, HD.out, rfl, HO.out, HBB.out, HF.out⟩
    have h0d : decide (0 < m) = true := decide_eq_true (by omega)
    have HN0 : Hid (rest.length ≠ 0) := Lib.hid (by have := HM.out; omega)
    have HPT := Lib.hid (tPart_any (w := wr) (v := .slice a m cap) (l := rest) (HB.out.keep HF.out) (by have := HM.out; omega) item_parses)
    go_wp2_with fail
    refine HPT.out.mono ?_
    rintro e w3 (⟨x, k, c, B1, hok, hkl, rfl, hI, hIB, hF3⟩ | ⟨k, hk, hk0, rfl, hF3⟩)
    · obtain ⟨a1, n1, c1, a2, n2, c2, a3, n3, c3, rfl⟩ := hI.open_
      have hk4 := itemR_pos hok
      obtain ⟨g, hnx⟩ := HE.out.next HN0.out hok
      have HNX := Lib.hid hnx
      have HOB := Lib.hid (fun b (hb : blockOf (.slice ao xs.length co) = some b) => (HO.out.block b hb).2)
      have HO := Lib.hid (HO.out.keep Rep.itm hF3); have HFR := Lib.hid HF.out.size; have HF := Lib.hid (HF.out.trans hF3); have HI := Lib.hid hI; have HIB := Lib.hid hIB
      have hz : ((0 : Int) != 0) = false := by decide
      have hkz : ((k : Int) == 0) = false := beq_eq_false_iff_ne.2 (by omega)
      have hkz2 : (k == 0) = false := beq_eq_false_iff_ne.2 (by omega)
      have hkm : k ≤ m := by have := HM.out; omega
      have hxs : xs.length < 1500 := by omega
      have hmx : decide ((1500 : Int) ≤ (xs.length : Int)) = false := decide_eq_false (by omega)
      have hmx2 : decide (1500 ≤ xs.length) = false := decide_eq_false (by omega)
      clear hI hF3 hok hIB hnx HPT h0d
      go_upto_region 4 with (refine wpList_store_row rfl 42 (.tmp 9) (.tmp 19) rfl w3.heap.size rfl _ _ rfl 42 (Box.new w3 42 #[.int .i64 0, .int .u32 0, .int .u64 0, .int .u32 0, .int .u32 0, .int .u32 0, .slice none 0 0, .slice none 0 0, .slice none 0 0, .string ⟨#[]⟩]) (by kernel_rfl) rfl one_itc ?_; intro w4 hY hG; have hFn := ((Fr.refl [] w3).alloc _).step hG (by simp); have HFn := Lib.hid hFn; have HY := Lib.hid hY; clear hG hFn hY)
      have HO := Lib.hid (HO.out.keep Rep.itm HFn.out); have HF := Lib.hid (HF.out.trans HFn.out); have HI := Lib.hid (Rep.itm.fr HI.out HFn.out (by simp))
      generalize w3.heap.size = X at *
      obtain ⟨wa, ea, hFa, hBa, hsa⟩ := one_new w4 (itc x (.slice a1 n1 c1) (.slice a2 n2 c2) (.slice a3 n3 c3)) 42
      have EA := Lib.hid ea; have HBA := Lib.hid hBa; have HFA := Lib.hid hFa
      have HL1 : Hid (xs.length + 1 ≤ maxLen) := Lib.hid (by unfold maxLen; omega)
      have HL2 : Hid ((xs.length + 1) * 128 ≤ 140737488355328) := Lib.hid (by omega)
      have HL3 : Hid (w.heap.size ≤ wa.heap.size) := Lib.hid (by have h1 := HF.out.size; omega)
      have HCR : Hid (ItR wa (itc x (.slice a1 n1 c1) (.slice a2 n2 c2) (.slice a3 n3 c3)).toList x B1) := Lib.hid (Rep.itm.fr HI.out hFa (by simp))
      have HDJ : Hid (∀ b, blockOf (.slice ao xs.length co) = some b → b ∉ B1) := Lib.hid (fun b hb hm => by have h1 := HOB.out b hb; have h2 := HIB.out b hm; omega)
      clear ea hBa hFa hsa
      obtain ⟨q, hq⟩ : ∃ q, (if cap = k then a else Option.map (fun x => x.add k) a) = q := ⟨_, rfl⟩
      have HQ := Lib.hid hq
      go_upto_region 11 with (first | (refine wpList_load_row_w rfl 42 (.tmp 9) rfl X rfl 42 _ _ HY.out Try.underlying42 rfl (by kernel_rfl) ?_) | (at_builtin; (rw [EA.out]); refine wpList_append_el Rep.itm (by decide) rfl (.tmp 35) (.tmp 37) 25 rfl w.heap.size 42 (.agg #[.int .i64 0, .int .u32 0, .int .u64 0, .int .u32 0, .int .u32 0, .int .u32 0, .slice none 0 0, .slice none 0 0, .slice none 0 0, .string ⟨#[]⟩]) 128 Try.underlying25 info_itm rfl (.slice ao xs.length co) xs B rfl (HO.out.keep Rep.itm HFA.out) w4.heap.size 0 1 rfl (itc x (.slice a1 n1 c1) (.slice a2 n2 c2) (.slice a3 n3 c3)).toList x B1 (box_range HBA.out) HCR.out HDJ.out HL1.out HL2.out HL3.out ?_; intro vs1 w7 hown1 hfr1 hbl1; obtain ⟨as1, cs1, es1⟩ := hown1.shape; simp only [List.length_append, List.length_singleton] at es1; subst es1; have HV1 := Lib.hid hown1; have HF7 := Lib.hid hfr1; clear hown1 hfr1 hbl1))
      have HNB : Hid (∀ b ∈ (blockOf (.slice ao xs.length co)).toList, w.heap.size ≤ b) := Lib.hid (fun b hb => (HO.out.block b (mem_toList.1 hb)).1)
      have HBN : Hid (Bytes w (.slice q (m - k) (cap - k)) (rest.drop k)) := Lib.hid (by
        have h9 := Sl.sub HB.out k (m - k) (by omega)
        rw [HQ.out, ← List.map_drop, List.take_of_length_le (by rw [List.length_map, List.length_drop, HM.out]; exact Nat.le_refl _)] at h9
        exact h9)
      have hmk : ((m : Nat) : Int) - ((k : Nat) : Int) = ((m - k : Nat) : Int) := by omega
      have hck : ((cap : Nat) : Int) - ((k : Nat) : Int) = ((cap - k : Nat) : Int) := by omega
      go_wp2_with fail
      refine ⟨⟨g, rest.drop k, xs ++ [x], B ++ B1, HNX.out, HBN.out, HV1.out, fun b hb => ?_, (HF.out.trans HFA.out).step HF7.out (fun b hb => .inr (HNB.out b hb))⟩, ?_⟩
      · rcases List.mem_append.1 hb with hb | hb
        · exact HBB.out b hb
        · have h1 := HIB.out b hb; have h2 := HFR.out; omega
      · simp only; omega
    · have HX := Lib.hid (HE.out.fail HN0.out hk); have HK0 := Lib.hid hk0
      have hkb : (k != 0) = true := by simpa using hk0
      have HF := Lib.hid (HF.out.trans hF3)
      clear hF3 hk hk0 HPT
      unfold iz
      go_upto_region 4 with (refine wpList_store_row rfl 42 (.tmp 9) (.tmp 19) rfl w3.heap.size rfl _ _ rfl 42 (Box.new w3 42 #[.int .i64 0, .int .u32 0, .int .u64 0, .int .u32 0, .int .u32 0, .int .u32 0, .slice none 0 0, .slice none 0 0, .slice none 0 0, .string ⟨#[]⟩]) (by kernel_rfl) rfl (by simp [Value.oneCell']) ?_; intro w4 hY hG; have hFn := ((Fr.refl [] w3).alloc _).step hG (by simp); have HFn := Lib.hid hFn; clear hG hFn hY)
      have HF := Lib.hid (HF.out.trans HFn.out)
      generalize w3.heap.size = X at *
      go_wp2_with fail
      go_ret2
      exact .inr ⟨k, HX.out, HK0.out, rfl, HF.out⟩
end Go.Proofs.Ytcmpjkopdjncdaa

/- The walks of rtcp's begins and Parse (printed by gen_7parse.py). -/
namespace Go.Proofs.Ytcmpjkopdjncdaa
open Go.RowKit

set_option maxRecDepth 100000 in
set_option maxHeartbeats 4000000 in
theorem tBegins_any {w : World} (x : Itm) {a1 a2 a3 : Option Addr} {n1 n2 n3 c1 c2 c3 : Nat} :
    Calls Try.prog 25 #[.agg (itc x (.slice a1 n1 c1) (.slice a2 n2 c2) (.slice a3 n3 c3))] w fun e w' => e = .returned (.bool (begins7 x)) ∧ Fr [] w w' := by
  obtain ⟨w1, e1, hF1, hB1, hs1⟩ := one_new w (itc x (.slice a1 n1 c1) (.slice a2 n2 c2) (.slice a3 n3 c3)) 42
  have HF := Lib.hid hF1; have E1 := Lib.hid e1
  have x0 := hB1.cell 0
  simp only [itc, List.getElem?_toArray, List.getElem?_cons_zero] at x0
  clear hF1 hB1 e1 hs1
  by_cases h0 : x.kind = 200
  · have b0 : (x.kind == 200) = true := beq_iff_eq.2 h0
    have HR : Hid (begins7 x = true) := Lib.hid (by unfold begins7; rw [b0]; rfl)
    clear h0
    go_enter Try.func25, Try.ntmps25
    go_upto_region 1 with fail
    rw [E1.out]
    clear E1
    go_wp2_with fail
    go_ret
    exact ⟨by rw [HR.out]; rfl, HF.out⟩
  by_cases h1 : x.kind = 201
  · have b0 : (x.kind == 200) = false := beq_eq_false_iff_ne.2 h0
    have b1 : (x.kind == 201) = true := beq_iff_eq.2 h1
    have HR : Hid (begins7 x = true) := Lib.hid (by unfold begins7; rw [b0, b1]; rfl)
    clear h0 h1
    go_enter Try.func25, Try.ntmps25
    go_upto_region 1 with fail
    rw [E1.out]
    clear E1
    go_wp2_with fail
    go_ret
    exact ⟨by rw [HR.out]; rfl, HF.out⟩
  have b0 : (x.kind == 200) = false := beq_eq_false_iff_ne.2 h0
  have b1 : (x.kind == 201) = false := beq_eq_false_iff_ne.2 h1
  have HR : Hid (begins7 x = false) := Lib.hid (by unfold begins7; rw [b0, b1]; rfl)
  clear h0 h1
  go_enter Try.func25, Try.ntmps25
  go_upto_region 1 with fail
  rw [E1.out]
  clear E1
  go_wp2_with fail
  go_ret
  exact ⟨by rw [HR.out]; rfl, HF.out⟩
set_option maxRecDepth 100000 in
set_option maxHeartbeats 4000000 in
theorem tParse_any {w : World} {v : Value} {l : List UInt8} (hl : Bytes w v l) :
    Calls Try.prog 10 #[v] w fun e w' =>
      (∃ xs u B, parse7 l = .ok xs ∧ e = .returned (.tuple #[u, .int .i64 0]) ∧ OwnEls 10 ItR w' w.heap.size 42 u xs B ∧ (∀ b ∈ B, w.heap.size ≤ b) ∧ Fr [] w w') ∨
      (∃ c, parse7 l = .error c ∧ c ≠ 0 ∧ e = .returned (.tuple #[.slice none 0 0, .int .i64 c]) ∧ Fr [] w w') := by
  obtain ⟨a, cap, rfl⟩ := hl.shape
  rw [List.length_map] at hl ⊢
  have HL := Lib.hid hl
  have HF0 : Hid (Fr [] w w) := Lib.hid (Fr.refl _ _)
  clear hl
  go_enter Try.func10, Try.ntmps10
  by_cases hbig : 1500 < l.length
  · have HP : Hid (parse7 l = .error 2) := Lib.hid (by unfold parse7; rw [if_pos hbig])
    have hd : decide ((1500 : Int) < (l.length : Int)) = true := decide_eq_true (by omega)
    go_wp2_with fail
    go_ret2
    exact .inr ⟨2, HP.out, by decide, rfl, HF0.out⟩
  have HP : Hid (parse7 l = match eachR (l.length + 1) l with | .error e => .error e | .ok [] => .error 4 | .ok (x :: xs) => if begins7 x then .ok (x :: xs) else .error 21) := Lib.hid (by unfold parse7; rw [if_neg hbig]; rfl)
  have hd : decide ((1500 : Int) < (l.length : Int)) = false := decide_eq_false (by omega)
  have HSM : Hid (l.length ≤ 1500) := Lib.hid (by omega)
  clear hbig
  go_wp2_with fail
  refine (tEach_any HL.out HSM.out).mono ?_
  rintro e w1 (⟨xs, u, B, hx, rfl, hO, hB, hF⟩ | ⟨c, hx, hc, rfl, hF⟩)
  rotate_left
  · have HQ : Hid (parse7 l = .error c) := Lib.hid (by rw [HP.out, hx])
    have hcb : (c != 0) = true := by simpa using hc
    have HC := Lib.hid hc; have HF := Lib.hid hF
    clear hx hc hF hd
    go_wp2_with fail
    go_ret2
    exact .inr ⟨c, HQ.out, HC.out, rfl, HF.out⟩
  have hz : ((0 : Int) != 0) = false := by decide
  have HO := Lib.hid hO; have HB := Lib.hid hB; have HF := Lib.hid hF
  cases xs with
  | nil =>
    have HQ : Hid (parse7 l = .error 4) := Lib.hid (by rw [HP.out, hx])
    obtain ⟨au, cu, eu⟩ := hO.shape
    rw [List.length_nil] at eu
    subst eu
    clear hx hO hB hF hd
    go_wp2_with fail
    go_ret2
    exact .inr ⟨4, HQ.out, by decide, rfl, HF.out⟩
  | cons x xs =>
    have HQ : Hid (parse7 l = if begins7 x then .ok (x :: xs) else .error 21) := Lib.hid (by rw [HP.out, hx])
    obtain ⟨au, cu, eu⟩ := hO.shape
    subst eu
    obtain ⟨m, hm⟩ : ∃ m, (x :: xs).length = m := ⟨_, rfl⟩
    have hm0 : 0 < m := by rw [← hm]; simp
    obtain ⟨b, o, c, y, B1, ea, -, hy, hI, -, hrg⟩ := hO.sl.at_ Rep.itm (i := 0) (by simp)
    rw [List.getElem?_cons_zero] at hy
    cases hy
    subst ea
    rw [Nat.zero_mul, Nat.add_zero] at hrg
    obtain ⟨a1, n1, p1, a2, n2, p2, a3, n3, p3, hc⟩ := ItR.open_ (c := c.toArray) (by simpa using hI)
    have hc2 : c = (itc x (.slice a1 n1 p1) (.slice a2 n2 p2) (.slice a3 n3 p3)).toList := by rw [← hc]
    subst hc2
    have HRG := Lib.hid hrg
    rw [hm] at HO ⊢
    have hm1 : ((m : Int) == 0) = false := beq_eq_false_iff_ne.2 (by omega)
    have hm2 : (m == 0) = false := beq_eq_false_iff_ne.2 (by omega)
    clear hx hO hB hF hd hrg hI hc hm
    go_wp2_with (refine wpList_load_midA rfl 42 (.tmp 24) rfl b o rfl (itc x (.slice a1 n1 p1) (.slice a2 n2 p2) (.slice a3 n3 p3)) _ HRG.out Try.underlying42 rfl (by kernel_rfl) ?_)
    refine (tBegins_any x).mono ?_
    rintro e w2 ⟨rfl, hF⟩
    have HF := Lib.hid (HF.out.trans hF); have HO := Lib.hid (HO.out.keep Rep.itm hF)
    clear hF
    cases hb : begins7 x with
    | true =>
      rw [hb] at HQ
      clear hb
      go_wp2_with fail
      go_ret2
      exact .inl ⟨x :: xs, _, B, by rw [HQ.out]; simp, rfl, HO.out, HB.out, HF.out⟩
    | false =>
      rw [hb] at HQ
      clear hb
      go_wp2_with fail
      go_ret2
      exact .inr ⟨21, by rw [HQ.out]; simp, by decide, rfl, HF.out⟩
end Go.Proofs.Ytcmpjkopdjncdaa

/- The walks of rtcp's Reports and of its iterator (printed by gen_7seq.py). -/
namespace Go.Proofs.Ytcmpjkopdjncdaa
open Go.RowKit Go.Shelf

attribute [local go_sem] Oper.semAt_some
theorem wpListIn_load_midA {F : Fence} {n : Nat} {P : Program} {ops : Array Oper} {rest : List Oper} {o : Oper} {a : Act} {w : World} {Q : Exit → Act → World → Prop} (hw : Region.wanted o (yielded ops a.tmps) = true) (ty : TypeId) (x : Operand) (ho : o.op = .load ty x)
    (b off : Nat) (hx : a.eval x = .pointer (some ⟨b, off, none⟩)) (cs : Array Value) (d : TypeDesc) (hc : w.rangeAt b off cs.toList)
    (hu : P.underlying ty = some d) (hd : d.isRow = true) (hi : (P.info? ty).map (·.size) = some cs.size)
    (h : wpListIn F n P ops Q rest (a.put o.dst (.agg cs)) w) : wpListIn F n P ops Q (o :: rest) a w := by
  unfold wpListIn
  rw [if_pos hw]
  unfold Oper.wpIn
  refine ⟨by simp [Oper.about, ho], ?_⟩
  rw [Oper.semAt_plain F _ _ (by rw [ho]; intro c hc'; cases hc')]
  unfold execOp
  simp only [ho, hx, Instr.loadAt, Instr.sureAddr, Sem.run_bind, Sem.run_pure, Result.andThen_ok, run_loadVar_mid w b off ty cs.toList d hc hu hd (by simpa using hi)]
  exact h
section
variable {α : Type} {k : Nat} {R : World → List Value → α → List Nat → Prop}
/-- A datum outlives what a round of a range may do elsewhere. -/
def RepK (R : World → List Value → α → List Nat → Prop) : Prop := ∀ (Xs : List (Nat × Nat)) (W W' : World) (c : List Value) (y : α) (B : List Nat), R W c y B → Kx Xs W W' → (∀ b ∈ B, Gd Xs W b) → R W' c y B
theorem Els.kx (hR : RepK R) : ∀ {ys : List α} {Xs : List (Nat × Nat)} {W W' : World} {cells : List Value} {B : List Nat}, Els R ys W cells B → Kx Xs W W' → (∀ b ∈ B, Gd Xs W b) → Els R ys W' cells B
  | [], _, _, _, _, _, h, _, _ => h
  | y :: ys, _, _, _, cells, B, h, hk, hB => by
    obtain ⟨c, rest, B1, B2, rfl, rfl, h1, h2⟩ := h
    exact ⟨c, rest, B1, B2, rfl, rfl, hR _ _ _ _ _ _ h1 hk (fun b hb => hB b (by simp [hb])), Els.kx hR h2 hk (fun b hb => hB b (by simp [hb]))⟩
theorem SlEls.kx (hR : RepK R) {Xs : List (Nat × Nat)} {W W' : World} {v : Value} {ys : List α} {B : List Nat} (h : SlEls k R W v ys B) (hk : Kx Xs W W') (hB : ∀ b ∈ B, Gd Xs W b) (hv : ∀ b, liveOf v = some b → Gd Xs W b) : SlEls k R W' v ys B := by
  obtain ⟨cells, a, cap, rfl, h1, h2, h3, h4, h5⟩ := h
  refine ⟨cells, a, cap, rfl, h1, h2, h3, h4.kx hR hk hB, ?_⟩
  rintro p rfl h0
  obtain ⟨g1, g2, g3⟩ := h5 p rfl h0
  have e := hk.cell (hv p.block (by simp [liveOf, h0])) g2
  refine ⟨g1, Nat.lt_of_lt_of_le g2 hk.size, fun i x hx => ?_⟩
  rw [← g3 i x hx]
  exact World.cell?_of_block (a := ⟨p.block, p.off + i, none⟩) e
end
/-- An item, as far as its reports go. -/
def It7R (w : World) (c : List Value) (x : Itm) (B : List Nat) : Prop := ∃ ar cr ac nc cc as_ ns cs, c = (itc x (.slice ar x.reps.length cr) (.slice ac nc cc) (.slice as_ ns cs)).toList ∧ SlEls 7 RptR w (.slice ar x.reps.length cr) x.reps [] ∧ B = (liveOf (.slice ar x.reps.length cr)).toList
theorem ItR.reps7 {w : World} {c : List Value} {x : Itm} {B : List Nat} (h : ItR w c x B) : ∃ B', It7R w c x B' ∧ ∀ b ∈ B', b ∈ B := by
  obtain ⟨vr, vc, vs, Bc, rfl, h1, h2, h3, rfl⟩ := h
  obtain ⟨a1, p1, rfl⟩ := h1.shape
  obtain ⟨a2, p2, rfl⟩ := h2.shape
  obtain ⟨a3, p3, rfl⟩ := h3.shape
  exact ⟨_, ⟨a1, p1, a2, _, p2, a3, _, p3, rfl, h1, rfl⟩, fun b hb => by simp [hb]⟩
theorem It7R.kx : RepK It7R := by
  rintro Xs W W' c y B ⟨ar, cr, ac, nc, cc, as_, ns, cs, rfl, h, rfl⟩ hk hB
  exact ⟨ar, cr, ac, nc, cc, as_, ns, cs, rfl, h.kx (by rintro Xs W W' c y B h _ _; exact h) hk (by simp) (fun b hb => hB b (mem_toList.2 hb)), rfl⟩
theorem it7_lt : ∀ {xs : List Itm} {w : World} {cells : List Value} {B : List Nat}, Els It7R xs w cells B → ∀ b ∈ B, b < w.heap.size
  | [], w, cells, B, h => by obtain ⟨rfl, rfl⟩ := h; simp
  | y :: ys, w, cells, B, h => by
    obtain ⟨c, rest, B1, B2, rfl, rfl, ⟨ar, cr, ac, nc, cc, as_, ns, cs, rfl, h1, rfl⟩, h2⟩ := h
    intro b hb
    rcases List.mem_append.1 hb with hb | hb
    · exact (h1.lt Rep.rpt).2 b (mem_toList.1 hb)
    · exact it7_lt h2 b hb
theorem eachR_len : ∀ {f : Nat} {l : List UInt8} {xs : List Itm}, eachR f l = .ok xs → 4 * xs.length ≤ l.length
  | 0, l, xs, h => by unfold eachR at h; cases h; simp
  | f + 1, l, xs, h => by
    unfold eachR at h
    split at h
    · cases h; simp
    · cases hi : itemR l with
      | error e => rw [hi] at h; cases h
      | ok p =>
        obtain ⟨x, n⟩ := p
        rw [hi] at h
        simp only at h
        have hp := itemR_pos hi
        cases he : eachR f (l.drop n) with
        | error e => rw [he] at h; cases h
        | ok ys =>
          rw [he] at h
          cases h
          have := eachR_len he
          rw [List.length_drop] at this
          rw [List.length_cons]
          omega
theorem parse7_len {l : List UInt8} {xs : List Itm} (h : parse7 l = .ok xs) : xs.length ≤ 1500 := by
  unfold parse7 at h
  split at h
  · cases h
  · cases he : eachR (l.length + 1) l with
    | error e => rw [he] at h; cases h
    | ok ys =>
      rw [he] at h
      have h9 := eachR_len he
      cases ys with
      | nil => cases h
      | cons y ys =>
        simp only at h
        split at h
        · cases h; omega
        · cases h
theorem Els.reps7 : ∀ {xs : List Itm} {w : World} {cells : List Value} {B : List Nat}, Els ItR xs w cells B → ∃ B', Els It7R xs w cells B' ∧ ∀ b ∈ B', b ∈ B
  | [], w, cells, B, h => ⟨[], ⟨h.1, rfl⟩, by simp⟩
  | y :: ys, w, cells, B, h => by
    obtain ⟨c, rest, B1, B2, rfl, rfl, h1, h2⟩ := h
    obtain ⟨B1', g1, g2⟩ := h1.reps7
    obtain ⟨B2', q1, q2⟩ := Els.reps7 h2
    exact ⟨B1' ++ B2', ⟨c, rest, B1', B2', rfl, rfl, g1, q1⟩, fun b hb => by
      rcases List.mem_append.1 hb with hb | hb
      · exact List.mem_append.2 (.inl (g2 b hb))
      · exact List.mem_append.2 (.inr (q2 b hb))⟩
theorem SlEls.reps7 {xs : List Itm} {w : World} {v : Value} {B : List Nat} (h : SlEls 10 ItR w v xs B) : ∃ B', SlEls 10 It7R w v xs B' ∧ ∀ b ∈ B', b ∈ B := by
  obtain ⟨cells, a, cap, rfl, h1, h2, h3, h4, h5⟩ := h
  obtain ⟨B', g1, g2⟩ := h4.reps7
  exact ⟨B', ⟨cells, a, cap, rfl, h1, h2, h3, g1, h5⟩, g2⟩
/-- The element at a place, where no frame is at hand. -/
theorem SlEls.at7 {w : World} {a : Option Addr} {n cap : Nat} {ys : List Itm} {B : List Nat} (h : SlEls 10 It7R w (.slice a n cap) ys B) {i : Nat} (hi : i < n) :
    ∃ b o c y B1, a = some ⟨b, o, none⟩ ∧ b < w.heap.size ∧ ys[i]? = some y ∧ It7R w c y B1 ∧ (∀ x ∈ B1, x ∈ B) ∧ w.rangeAt b (o + i * 10) c := by
  refine h.at_ (k := 10) ?_ hi
  refine ⟨?_, ?_, ?_, ?_⟩
  · rintro w c y B ⟨ar, cr, ac, nc, cc, as_, ns, cs, rfl, h, rfl⟩; rfl
  · rintro w c y B ⟨ar, cr, ac, nc, cc, as_, ns, cs, rfl, h, rfl⟩ u hu
    exact one_itc u hu
  · rintro w c y B ⟨ar, cr, ac, nc, cc, as_, ns, cs, rfl, h, rfl⟩ b hb
    exact (h.lt Rep.rpt).2 b (mem_toList.1 hb)
  · rintro w w' c y B S ⟨ar, cr, ac, nc, cc, as_, ns, cs, rfl, h, rfl⟩ hf hS
    exact ⟨ar, cr, ac, nc, cc, as_, ns, cs, rfl, h.fr Rep.rpt hf (by simp) (fun b hb => hS b (mem_toList.2 hb)), rfl⟩
/-- The reports of items, each with who tells it. -/
def tells7 (xs : List Itm) : List (UInt32 × Rpt) := xs.flatMap fun x => x.reps.map fun r => (x.ssrc, r)
def telsOf (l : List UInt8) : List (UInt32 × Rpt) := match parse7 l with
  | .ok xs => tells7 xs
  | .error _ => []
abbrev telE (p : UInt32 × Rpt) : Array Value := #[.int .u32 (p.1.toNat : Nat), .agg (rpc7 p.2)]
theorem tells7_at {xs : List Itm} {k : Nat} {y : Itm} (hy : xs[k]? = some y) : tells7 (xs.take (k + 1)) = tells7 (xs.take k) ++ y.reps.map fun r => (y.ssrc, r) := by
  rw [List.take_add_one, hy]
  unfold tells7
  simp
theorem tells7_pre {xs : List Itm} {k j : Nat} {y : Itm} {r : Rpt} (hy : xs[k]? = some y) (hr : y.reps[j]? = some r) : ((tells7 (xs.take k) ++ (y.reps.take j).map fun r => (y.ssrc, r)) ++ [(y.ssrc, r)]) <+: tells7 xs := by
  have h1 : (tells7 (xs.take k) ++ (y.reps.take j).map fun r => (y.ssrc, r)) ++ [(y.ssrc, r)] = tells7 (xs.take k) ++ (y.reps.take (j + 1)).map fun r => (y.ssrc, r) := by
    rw [List.take_add_one, hr]; simp
  rw [h1]
  obtain ⟨hk, rfl⟩ := List.getElem?_eq_some_iff.1 hy
  have h2 : xs = xs.take k ++ xs[k] :: xs.drop (k + 1) := by rw [← List.drop_eq_getElem_cons hk, List.take_append_drop]
  have h3 : tells7 xs = tells7 (xs.take k) ++ ((xs[k].reps.take (j + 1)).map (fun r => (xs[k].ssrc, r)) ++ ((xs[k].reps.drop (j + 1)).map (fun r => (xs[k].ssrc, r)) ++ tells7 (xs.drop (k + 1)))) := by
    conv => lhs; rw [h2]
    unfold tells7
    rw [List.flatMap_append, List.flatMap_cons]
    congr 1
    rw [← List.append_assoc, ← List.map_append, List.take_append_drop]
  rw [h3, ← List.append_assoc]
  exact List.prefix_append _ _
set_option maxRecDepth 100000 in
set_option maxHeartbeats 8000000 in
theorem tReports_any {w : World} {v : Value} {l : List UInt8} (hl : Bytes w v l) :
    Calls Try.prog 21 #[v] w fun e w' => e = .returned (.func (.func 45) #[] #[.pointer (some ⟨w.heap.size, 0, none⟩)]) ∧ Box w' w.heap.size 22 #[v] ∧ Fr [] w w' := by
  obtain ⟨a, cap, rfl⟩ := hl.shape
  obtain ⟨w1, e1, hF1, hB1, hs1⟩ := one_new w #[.slice a (l.map B8).length cap] 22
  have HF := Lib.hid hF1; have HB := Lib.hid hB1; have E1 := Lib.hid e1
  clear hF1 hB1 hs1 e1 hl
  generalize (l.map B8).length = n at *
  go_enter Try.func21, Try.ntmps21
  go_wp2_with fail
  rw [E1.out]
  go_ret
  exact ⟨rfl, HB.out, HF.out⟩
set_option maxRecDepth 100000 in
set_option maxHeartbeats 8000000 in
theorem tReports1_seq {w : World} (n : Nat) (hn : 2 ≤ n) (Bm : Nat) {v : Value} {l : List UInt8} (Xs : List (Nat × Nat)) (hX : ∀ p ∈ Xs, p.1 < w.heap.size) (hB : Box w Bm 22 #[v]) (hl : Bytes w v l) :
    SeqB Fence.wide n Try.prog 45 #[.pointer (some ⟨Bm, 0, none⟩)] telE Xs (telsOf l) w := by
  intro lp J Jx W hW hLow hJa hJx hY h0
  have hFW := Fr.ofBelow hW
  have HXW : Hid (∀ p ∈ Xs, p.1 < W.heap.size) := Lib.hid (fun p hp => Nat.lt_of_lt_of_le (hX p hp) hW.size)
  have HB := Lib.hid (hB.keep hFW); have HL := Lib.hid (Sl.keep hl hFW)
  have HY := Lib.hid hY; have HLOW := Lib.hid hLow
  obtain ⟨a, cap, rfl⟩ := Sl.shape hl
  clear hX hB hl hY hLow
  rw [List.length_map] at HB HL
  have x0 := HB.out.cell 0
  simp only [List.getElem?_toArray, List.getElem?_cons_zero] at x0
  show CallsIn _ _ _ _ #[.func (.yield lp) #[] #[], .pointer (some ⟨Bm, 0, none⟩)] W _
  refine callsIn_of_wp Try.func45 rfl trivial ?_ rfl
  simp only [Try.ntmps45, List.size_toArray, List.length_cons, List.length_nil, Nat.reduceAdd, Nat.reduceSub, Array.replicate_succ, Array.replicate_zero, List.push_toArray, List.append_toArray, List.nil_append, List.cons_append]
  gi_wp2
  refine ⟨trivial, ?_⟩
  refine ⟨fun _ => by omega, ?_⟩
  refine (callsIn_wide.2 (tParse_any HL.out)).mono ?_
  intro e W1 hpr
  have hun : ∃ (xs : List Itm) (au : Option Addr) (cu : Nat) (B : List Nat) (c : Int), telsOf l = tells7 xs ∧ e = .returned (.tuple #[.slice au xs.length cu, .int .i64 c]) ∧ SlEls 10 It7R W1 (.slice au xs.length cu) xs B ∧ (∀ b ∈ B, W.heap.size ≤ b) ∧ (∀ b, liveOf (.slice au xs.length cu) = some b → W.heap.size ≤ b) ∧ Fr [] W W1 ∧ xs.length ≤ 1500 := by
    rcases hpr with ⟨xs, u, B, hp, rfl, hO, hBB, hF⟩ | ⟨c, hp, hc, rfl, hF⟩
    · obtain ⟨au, cu, rfl⟩ := hO.shape
      obtain ⟨B', g1, g2⟩ := hO.sl.reps7
      exact ⟨xs, au, cu, B', 0, by unfold telsOf; rw [hp], rfl, g1, fun b hb => hBB b (g2 b hb), fun b hb => (hO.block b (live_block hb)).1, hF, parse7_len hp⟩
    · exact ⟨[], none, 0, [], c, by unfold telsOf; rw [hp]; rfl, rfl, SlEls.nil _, by simp, by simp [liveOf], hF, by simp⟩
  obtain ⟨xs, au, cu, B, c, hts, rfl, hS, hBB, hLB, hF, hlen⟩ := hun
  clear x0 hpr
  obtain ⟨N, hN⟩ : ∃ N, xs.length = N := ⟨_, rfl⟩
  rw [hN] at hS hLB hlen ⊢
  have HN := Lib.hid hN
  have HTS := Lib.hid hts
  have HK1 : Hid (Kx Xs W W1) := Lib.hid (Kx.ofFr hF HXW.out)
  have HS := Lib.hid hS
  have HSB : Hid (∀ b ∈ B, Gd Xs W1 b) := Lib.hid (fun b hb => (Gd.new HLOW.out HXW.out (hBB b hb)).congr (fun p hp => hF.block p.1 (HXW.out p hp) (by simp)))
  have HSG : Hid (∀ b, liveOf (.slice au N cu) = some b → Gd Xs W1 b) := Lib.hid (fun b hb => (Gd.new HLOW.out HXW.out (hLB b hb)).congr (fun p hp => hF.block p.1 (HXW.out p hp) (by simp)))
  have HLOW1 : Hid (Low Xs W1) := Lib.hid (HK1.out.low HLOW.out)
  have HXW1 : Hid (∀ p ∈ Xs, p.1 < W1.heap.size) := Lib.hid (fun p hp => Nat.lt_of_lt_of_le (HXW.out p hp) hF.size)
  have HSL : Hid (∀ b ∈ B, b < W1.heap.size) := Lib.hid (fun b hb => by
    obtain ⟨cells, a', cap', -, -, -, -, h4, -⟩ := hS
    exact it7_lt h4 b hb)
  have HJ1 := Lib.hid (hJa.fr0 h0 hF)
  have HSZ1 : Hid (W.heap.size ≤ W1.heap.size) := Lib.hid hF.size
  clear hF h0 hS hBB hLB hts hN
  gi_wp2
  gi_loopw [16] (fun i wr => ∃ k : Nat, k ≤ N ∧ i = .int .i64 k ∧ J (tells7 (xs.take k)) wr ∧ Kx Xs W1 wr) (fun i _ => N - (Lib.intOf i).toNat)
  case atStart => exact ⟨0, Nat.zero_le _, rfl, HJ1.out, Kx.refl _ _⟩
  case round =>
    obtain ⟨k, hk, rfl, hJs, hkx⟩ := hrel
    have HJS := Lib.hid hJs; have HKX := Lib.hid hkx
    clear hJs hkx HJ1
    by_cases hlt : k < N
    · have HS2 := Lib.hid (HS.out.kx It7R.kx HKX.out HSB.out HSG.out)
      obtain ⟨b, o, c2, y, B1, ea, -, hy, ⟨ar, cr, ac, nc, cc, as_, ns, cs, rfl, hr, rfl⟩, hsub, hrg⟩ := HS2.out.at7 hlt
      subst ea
      have HRG := Lib.hid hrg; have HY0 := Lib.hid hy; have HR := Lib.hid hr
      have HRG2 : Hid (∀ b, liveOf (.slice ar y.reps.length cr) = some b → Gd Xs wr b ∧ b < W1.heap.size) := Lib.hid (fun b' hb => by
        have h1 := HSB.out b' (hsub b' (mem_toList.2 hb))
        have h2 : b' < W1.heap.size := HSL.out b' (hsub b' (mem_toList.2 hb))
        exact ⟨HKX.out.gd b' h2 h1, h2⟩)
      clear hrg hy hr hsub
      obtain ⟨wa, ea, hFa, hBa, hsa⟩ := one_new wr (itc y (.slice ar y.reps.length cr) (.slice ac nc cc) (.slice as_ ns cs)) 42
      have EA := Lib.hid ea; have HXa := Lib.hid hBa; have HRa := Lib.hid (HR.out.keep Rep.rpt hFa)
      have HJa := Lib.hid (hJa.fr0 HJS.out hFa)
      have HXr : Hid (∀ p ∈ Xs, p.1 < wr.heap.size) := Lib.hid (fun p hp => Nat.lt_of_lt_of_le (HXW1.out p hp) HKX.out.size)
      have HKa := Lib.hid (HKX.out.trans (Kx.ofFr hFa HXr.out))
      have HXa0 : Hid (∀ p ∈ Xs, p.1 < wa.heap.size) := Lib.hid (fun p hp => Nat.lt_of_lt_of_le (HXr.out p hp) hFa.size)
      have HLr : Hid (Low Xs wr) := Lib.hid (HKX.out.low HLOW1.out)
      have HGa : Hid (Gd Xs wa wr.heap.size) := Lib.hid ((Gd.new HLr.out HXr.out (Nat.le_refl _)).congr (fun p hp => hFa.block p.1 (HXr.out p hp) (by simp)))
      have HRGa : Hid (∀ b, liveOf (.slice ar y.reps.length cr) = some b → Gd Xs wa b) := Lib.hid (fun b hb => (HRG2.out b hb).1.congr (fun p hp => hFa.block p.1 (HXr.out p hp) (by simp)))
      have HXae : Hid (wr.heap.size < wa.heap.size) := Lib.hid (by omega)
      have x6 := hBa.cell 6
      simp only [itc, List.getElem?_toArray, List.getElem?_cons_succ, List.getElem?_cons_zero] at x6
      obtain ⟨X, hXe⟩ : ∃ X, wr.heap.size = X := ⟨_, rfl⟩
      have HXX := Lib.hid hXe
      clear ea hFa hBa hsa hXe
      gi_wp2_with (refine wpListIn_load_midA (by rfl) 42 (.tmp 18) rfl b (o + k * 10) rfl (itc y (.slice ar y.reps.length cr) (.slice ac nc cc) (.slice as_ ns cs)) _ HRG.out Try.underlying42 rfl (by kernel_rfl) ?_)
      rw [EA.out]
      have hXX := HXX.out
      try simp only [hXX]
      rw [hXX] at HXa HGa HXae
      clear hXX EA x6
      obtain ⟨m, hm⟩ : ∃ m, y.reps.length = m := ⟨_, rfl⟩
      rw [hm] at HRa HRGa HXa ⊢
      have HM := Lib.hid hm
      have hmb : m ≤ 9223372036854775807 := by
        obtain ⟨cells, a', cap', e', h1, h2, -⟩ := HRa.out
        simp only [Value.slice.injEq] at e'
        have h3 := e'.2.1
        have h4 := e'.2.2
        unfold maxLen at h2
        omega
      clear hm
      gi_loopw [23] (fun i wz => ∃ j : Nat, j ≤ m ∧ i = .int .i64 j ∧ J (tells7 (xs.take k) ++ (y.reps.take j).map fun r => (y.ssrc, r)) wz ∧ Kx Xs wa wz) (fun i _ => m - (Lib.intOf i).toNat)
      case atStart => exact ⟨0, Nat.zero_le _, rfl, by simpa using HJa.out, Kx.refl _ _⟩
      case round =>
        obtain ⟨j, hj, rfl, hJz, hkz⟩ := hrel
        have HJZ := Lib.hid hJz; have HKZ := Lib.hid hkz
        clear hJz hkz
        by_cases hjm : j < m
        · have HR2 := Lib.hid (SlEls.kx (by rintro Xs W W' c y B h _ _; exact h) HRa.out HKZ.out (by simp) HRGa.out)
          obtain ⟨b2, o2, c3, r, B2, ea, -, hr, ⟨rfl, -⟩, -, hrg⟩ := HR2.out.at_ Rep.rpt (i := j) hjm
          subst ea
          have HRG3 := Lib.hid hrg
          have HPRE := Lib.hid (tells7_pre HY0.out hr)
          rw [← HTS.out] at HPRE
          have HTR : Hid ((y.reps.take (j + 1)).map (fun r => (y.ssrc, r)) = (y.reps.take j).map (fun r => (y.ssrc, r)) ++ [(y.ssrc, r)]) := Lib.hid (by rw [List.take_add_one, hr]; simp)
          clear hrg hr
          obtain ⟨wb, eb, hFb, hBb, hsb⟩ := one_new wr (rpc7 r) 57
          have EB := Lib.hid eb; have HXb := Lib.hid hBb
          have HXz : Hid (∀ p ∈ Xs, p.1 < wr.heap.size) := Lib.hid (fun p hp => Nat.lt_of_lt_of_le (HXa0.out p hp) HKZ.out.size)
          have HJb := Lib.hid (hJa.fr0 HJZ.out hFb)
          have HKb := Lib.hid (HKZ.out.trans (Kx.ofFr hFb HXz.out))
          have HXX2 : Hid (Box wb X 42 (itc y (.slice (some ⟨b2, o2, none⟩) m cr) (.slice ac nc cc) (.slice as_ ns cs))) := Lib.hid (Box.keep ((HKZ.out.cell HGa.out HXae.out).trans HXa.out) hFb)
          have hXw := (HKZ.out.cell HGa.out HXae.out).trans HXa.out
          have x1 : ∀ ob, (wr.alloc ob).cell? ⟨X, 1, none⟩ = some (.int .u32 (y.ssrc.toNat : Nat)) := fun ob => by
            rw [World.cell?_alloc_past ob X 1 (Array.getElem?_eq_some_iff.1 hXw).1]
            have := Box.cell (show Box wr X 42 _ from hXw) 1
            rw [this]; rfl
          clear hXw
          clear eb hFb hBb hsb
          obtain ⟨fn, tmps, assign, body, hy, hR⟩ := HY.out _ (y.ssrc, r) wb HPRE.out HJb.out
          try dsimp only [telE] at hy
          have HRN := Lib.hid hR
          clear hR
          gi_wp2_with (first | (refine wpListIn_load_midA (by rfl) 57 (.tmp 25) rfl b2 (o2 + j * 7) rfl (rpc7 r) _ HRG3.out Try.underlying57 rfl (by kernel_rfl) ?_) | (rw [EB.out]; refine wpListIn_load_row_w (by rfl) 57 (.tmp 8) rfl wr.heap.size rfl 57 _ _ HXb.out Try.underlying57 rfl (by kernel_rfl) ?_))
          refine ⟨fun _ => by omega, ?_⟩
          refine HRN.out.mono ?_
          rintro e W3 (⟨rfl, hJ3, hk3⟩ | ⟨rfl, hJx3⟩)
          · clear hy x1
            have HJ3 : Hid (J (tells7 (xs.take k) ++ (y.reps.take (j + 1)).map fun r => (y.ssrc, r)) W3) := Lib.hid (by rw [HTR.out, ← List.append_assoc]; exact hJ3)
            have HK3 := Lib.hid (HKb.out.trans hk3)
            clear hJ3 hk3
            gi_wp2
            go_roundw
            case rel => exact ⟨j + 1, by omega, by simp, HJ3.out, HK3.out⟩
            case measure => simp [Lib.intOf]; omega
          · clear hy x1
            gi_wp2
            refine bodyPost_ret (results_none rfl _ _ _) rfl ?_
            exact ⟨⟨_, rfl⟩, .inr ⟨_, HPRE.out, hJx3⟩⟩
        · obtain rfl : j = m := by omega
          have HJT : Hid (J (tells7 (xs.take (k + 1))) wr) := Lib.hid (by
            have h := HJZ.out
            rw [List.take_of_length_le (l := y.reps) (by rw [HM.out]; exact Nat.le_refl _), ← tells7_at HY0.out] at h
            exact h)
          gi_wp2
          go_roundw
          case rel => exact ⟨k + 1, by omega, by simp, HJT.out, HKa.out.trans HKZ.out⟩
          case measure => simp [Lib.intOf]; omega
    · obtain rfl : k = N := by omega
      gi_wp2
      go_end0
      exact ⟨⟨_, rfl⟩, .inl ⟨by have h := HJS.out; rw [List.take_of_length_le (by rw [HN.out]; exact Nat.le_refl _)] at h; rw [HTS.out]; exact h, HK1.out.trans HKX.out⟩⟩
end Go.Proofs.Ytcmpjkopdjncdaa

/- The walks of wire.Writer's Wide and Len, rtcp's fill and rightReport (printed by gen_7w1.py). -/
namespace Go.Proofs.Ytcmpjkopdjncdaa
open Go.RowKit

theorem wwide_any {w : World} {W base : Nat} {v : Value} {l : List UInt8} (hW : Wr w W v base l) (n : Nat) (hn : n < 18446744073709551616) (hl : l.length ≤ 1099511627776) :
    Calls Try.prog 63 #[.pointer (some ⟨W, 0, none⟩), .int .u64 n] w fun e w' => ∃ v', e = .returned (.tuple #[]) ∧ WS w w' W v v' base (l ++ beN n 8) := by
  have HW := Lib.hid hW; have HN := Lib.hid hn
  clear hW hn
  go_enter Try.func63, Try.ntmps63
  go_wp2_with fail
  refine (wnum_any HW.out n 8 HN.out (by omega) hl).mono ?_
  rintro e w1 ⟨v', rfl, h⟩
  go_wp2_with fail
  go_end0
  exact ⟨v', rfl, h⟩
theorem wwlen_any {w : World} {W base : Nat} {v : Value} {l : List UInt8} (hW : Wr w W v base l) :
    Calls Try.prog 35 #[.pointer (some ⟨W, 0, none⟩)] w fun e w' => e = .returned (.int .i64 (l.length : Nat)) ∧ Fr [] w w' := by
  have HF : Hid (Fr [] w w) := Lib.hid (Fr.refl _ _)
  obtain ⟨a, cap, rfl, -⟩ := hW.own.bytes.shape
  rw [List.length_map] at hW
  have b0 := hW.box.cell 0
  simp only [List.getElem?_toArray, List.getElem?_cons_zero] at b0
  clear hW
  go_enter Try.func35, Try.ntmps35
  go_wp2_with fail
  go_ret
  exact ⟨rfl, HF.out⟩
/-- May a report be? -/
def rightRp (x : Rpt) : Bool := decide (0 ≤ x.loss) && decide (x.loss ≤ 255) && decide (-8388608 ≤ x.lost) && decide (x.lost < 8388608)
set_option maxRecDepth 100000 in
set_option maxHeartbeats 4000000 in
theorem tRightRep_any {w : World} (x : Rpt) :
    Calls Try.prog 58 #[.agg (rpc7 x)] w fun e w' => e = .returned (.bool (rightRp x)) ∧ Fr [] w w' := by
  obtain ⟨w1, e1, hF1, hB1, hs1⟩ := one_new w (rpc7 x) 57
  have HF := Lib.hid hF1; have E1 := Lib.hid e1
  have x1 := hB1.cell 1; have x2 := hB1.cell 2
  simp only [rpc7, List.getElem?_toArray, List.getElem?_cons_succ, List.getElem?_cons_zero] at x1 x2
  clear hF1 hB1 e1 hs1
  by_cases h0 : 0 ≤ x.loss
  rotate_left
  · have d0 : decide (0 ≤ x.loss) = false := decide_eq_false h0
    have HR : Hid (rightRp x = false) := Lib.hid (by unfold rightRp; simp only [d0, Bool.false_and]; try rfl)
    go_enter Try.func58, Try.ntmps58
    go_upto_region 1 with fail
    rw [E1.out]
    clear E1
    go_wp2_with fail
    go_ret
    exact ⟨by rw [HR.out]; rfl, HF.out⟩
  have d0 : decide (0 ≤ x.loss) = true := decide_eq_true h0
  by_cases h1 : x.loss ≤ 255
  rotate_left
  · have d1 : decide (x.loss ≤ 255) = false := decide_eq_false h1
    have HR : Hid (rightRp x = false) := Lib.hid (by unfold rightRp; simp only [d0, d1, Bool.false_and, Bool.and_false]; try rfl)
    go_enter Try.func58, Try.ntmps58
    go_upto_region 1 with fail
    rw [E1.out]
    clear E1
    go_wp2_with fail
    go_ret
    exact ⟨by rw [HR.out]; rfl, HF.out⟩
  have d1 : decide (x.loss ≤ 255) = true := decide_eq_true h1
  by_cases h2 : -8388608 ≤ x.lost
  rotate_left
  · have d2 : decide (-8388608 ≤ x.lost) = false := decide_eq_false h2
    have HR : Hid (rightRp x = false) := Lib.hid (by unfold rightRp; simp only [d0, d1, d2, Bool.false_and, Bool.and_false]; try rfl)
    go_enter Try.func58, Try.ntmps58
    go_upto_region 1 with fail
    rw [E1.out]
    clear E1
    go_wp2_with fail
    go_ret
    exact ⟨by rw [HR.out]; rfl, HF.out⟩
  have d2 : decide (-8388608 ≤ x.lost) = true := decide_eq_true h2
  by_cases h3 : x.lost < 8388608
  rotate_left
  · have d3 : decide (x.lost < 8388608) = false := decide_eq_false h3
    have HR : Hid (rightRp x = false) := Lib.hid (by unfold rightRp; simp only [d0, d1, d2, d3, Bool.false_and, Bool.and_false]; try rfl)
    go_enter Try.func58, Try.ntmps58
    go_upto_region 1 with fail
    rw [E1.out]
    clear E1
    go_wp2_with fail
    go_ret
    exact ⟨by rw [HR.out]; rfl, HF.out⟩
  have d3 : decide (x.lost < 8388608) = true := decide_eq_true h3
  have HR : Hid (rightRp x = true) := Lib.hid (by unfold rightRp; simp only [d0, d1, d2, d3]; try rfl)
  go_enter Try.func58, Try.ntmps58
  go_upto_region 1 with fail
  rw [E1.out]
  clear E1
  go_wp2_with fail
  go_ret
  exact ⟨by rw [HR.out]; rfl, HF.out⟩
theorem ib_zero : ib 0 = 0 := by decide
theorem pad_step {n j : Nat} (h : j < padOf n) : (n + j) % 4 ≠ 0 := by unfold padOf at h; omega
theorem pad_done (n : Nat) : (n + padOf n) % 4 = 0 := by unfold padOf; omega
set_option maxRecDepth 100000 in
set_option maxHeartbeats 4000000 in
theorem tFill_any {w : World} {W base : Nat} {v : Value} {l : List UInt8} (hW : Wr w W v base l) (fr : Nat) (hf : fr ≤ l.length) (hl : l.length ≤ 1099511627000) :
    Calls Try.prog 66 #[.pointer (some ⟨W, 0, none⟩), .int .i64 fr] w fun e w' => ∃ v', e = .returned (.tuple #[]) ∧ WS w w' W v v' base (l ++ List.replicate (padOf (l.length - fr)) 0) := by
  have HW := Lib.hid hW
  have hp3 := (padOf_int (l.length - fr)).2
  obtain ⟨n, hn⟩ : ∃ n, l.length - fr = n := ⟨_, rfl⟩
  rw [hn] at hp3 ⊢
  have HN := Lib.hid hn
  clear hn hW
  go_enter Try.func66, Try.ntmps66
  go_upto_region 0 with fail
  go_loopw [] (fun wr => ∃ (j : Nat) (v' : Value), j ≤ padOf n ∧ WS w wr W v v' base (l ++ List.replicate j 0)) (fun wr => match wr.cell? ⟨W, 0, none⟩ with | some (.slice _ k _) => padOf n + l.length - k | _ => 0)
  case atStart => exact ⟨0, v, Nat.zero_le _, by simpa using WS.start HW.out⟩
  case round =>
    clear HW
    obtain ⟨j, v', hj, hws⟩ := hrel
    have HWS := Lib.hid hws
    clear hws
    have hlen : (l ++ List.replicate j (0 : UInt8)).length = l.length + j := by simp
    have HLN := Lib.hid hlen
    obtain ⟨av, cv, ev⟩ := Sl.shape HWS.out.wr.own.bytes
    rw [List.length_map, hlen] at ev
    have HC : Hid (wr.cell? ⟨W, 0, none⟩ = some (.slice av (l.length + j) cv)) := Lib.hid (by have := HWS.out.wr.box.cell 0; simp only [List.getElem?_toArray, List.getElem?_cons_zero] at this; rw [this, ev])
    clear ev hlen
    have HLE := Lib.hid (wwlen_any HWS.out.wr)
    rw [HLN.out] at HLE
    obtain ⟨k, hk⟩ : ∃ k, l.length + j = k := ⟨_, rfl⟩
    rw [hk] at HLE
    have HK := Lib.hid hk
    have hsub : ((k : Nat) : Int) - ((fr : Nat) : Int) = ((n + j : Nat) : Int) := by have := HN.out; omega
    have hkb : k ≤ 1099511627776 := by omega
    obtain ⟨nj, hnj⟩ : ∃ nj, n + j = nj := ⟨_, rfl⟩
    rw [hnj] at hsub
    have HNJ := Lib.hid hnj
    clear hk hnj
    go_wp2_with fail
    refine HLE.out.mono ?_
    rintro e w2 ⟨rfl, hF⟩
    have HWS := Lib.hid (HWS.out.quiet hF)
    have HC2 := Lib.hid (hF.cellSome HC.out (by simp))
    clear hF HLE
    by_cases hlt : j < padOf n
    · have hm : nj % 4 ≠ 0 := by rw [← HNJ.out]; exact pad_step hlt
      have hmb : (((nj : Nat) : Int) % 4 != 0) = true := by rw [bne_iff_ne]; omega
      clear hm
      go_wp2_with fail
      refine (wbyte_any HWS.out.wr 0 (by rw [HLN.out]; have := HK.out; omega)).mono ?_
      rintro e w3 ⟨v3, rfl, hw3⟩
      have HW3 := Lib.hid (HWS.out.trans hw3)
      clear hw3
      rw [ib_zero, List.append_assoc, ← List.replicate_succ'] at HW3
      have hlen3 : (l ++ List.replicate (j + 1) (0 : UInt8)).length = l.length + (j + 1) := by simp
      obtain ⟨a3, c3, e3⟩ := Sl.shape HW3.out.wr.own.bytes
      rw [List.length_map, hlen3] at e3
      have HC3 : Hid (w3.cell? ⟨W, 0, none⟩ = some (.slice a3 (l.length + (j + 1)) c3)) := Lib.hid (by have := HW3.out.wr.box.cell 0; simp only [List.getElem?_toArray, List.getElem?_cons_zero] at this; rw [this, e3])
      clear e3 hlen3
      go_wp2_with fail
      refine ⟨⟨j + 1, v3, by omega, HW3.out⟩, ?_⟩
      simp only [HC.out, HC3.out]
      omega
    · obtain rfl : j = padOf n := by omega
      have hm : nj % 4 = 0 := by rw [← HNJ.out]; exact pad_done n
      have hmb : (((nj : Nat) : Int) % 4 != 0) = false := by rw [bne_eq_false_iff_eq]; omega
      clear hm
      go_wp2_with fail
      go_end0
      exact ⟨v', rfl, HWS.out⟩
end Go.Proofs.Ytcmpjkopdjncdaa

/- The walk of rtcp's writeReport (printed by gen_7w2.py). -/
namespace Go.Proofs.Ytcmpjkopdjncdaa
open Go.RowKit

/-- A report's bytes. -/
def rptHead (x : Rpt) : List UInt8 := beN x.ssrc.toNat 4 ++ [ib x.loss] ++ [ib (x.lost / 65536)] ++ beN (x.lost % 65536).toNat 2
def rptTail (x : Rpt) : List UInt32 := [x.hi, x.jit, x.lsr, x.dly]
def rptW (x : Rpt) : List UInt8 := rptHead x ++ (rptTail x).flatMap fun n => beN n.toNat 4
set_option maxRecDepth 100000 in
set_option maxHeartbeats 4000000 in
theorem tWReport_any {w : World} {W base : Nat} {v : Value} {l : List UInt8} (hW : Wr w W v base l) (x : Rpt) (hx : -2147483648 ≤ x.lost ∧ x.lost ≤ 2147483647) (hl : l.length ≤ 1099511600000) :
    Calls Try.prog 64 #[.pointer (some ⟨W, 0, none⟩), .agg (rpc7 x)] w fun e w' => ∃ v', e = .returned (.tuple #[]) ∧ WS w w' W v v' base (l ++ rptW x) := by
  obtain ⟨w1, e1, hF1, hB1, hs1⟩ := one_new w (rpc7 x) 57
  have HW0 := Lib.hid ((WS.start hW).quiet hF1)
  have HWS := Lib.hid (WS.start (HW0.out.wr))
  have HG1 : Hid (w.heap.size < w1.heap.size) := Lib.hid (by omega)
  have HB := Lib.hid hB1; have E1 := Lib.hid e1
  have HLO : Hid (W < w.heap.size ∧ ∀ b, blockOf v = some b → b < w.heap.size) := Lib.hid ⟨hW.box.lt, fun b hb => (hW.own.block b hb).2⟩
  have HNQ : Hid (∀ wi vi li, WS w1 wi W v vi base li → w.heap.size ∉ W :: (blockOf vi).toList) := Lib.hid (fun wi vi li h hm => by
    simp only [List.mem_cons, Option.mem_toList] at hm
    rcases hm with hm | hm
    · have := HLO.out.1; omega
    · rcases h.fresh _ hm with h1 | h1
      · have := HLO.out.2 _ h1; omega
      · have := HG1.out; omega)
  clear hF1 hB1 e1 hs1
  have hw1 : wrap64 x.lost = x.lost := IntWalk.wrap64_in _ ⟨by omega, by omega⟩
  obtain ⟨lw, hlw⟩ : ∃ lw, (x.lost % 65536).toNat = lw := ⟨_, rfl⟩
  have hu : IntKind.u16.wrap x.lost = ((lw : Nat) : Int) := by rw [← hlw, IntKind.wrap_u16]; omega
  have HLW := Lib.hid hlw
  have HLB : Hid (lw < 65536) := Lib.hid (by omega)
  clear hlw hx
  have x0 := HB.out.cell 0; have x1 := HB.out.cell 1; have x2 := HB.out.cell 2
  simp only [rpc7, List.getElem?_toArray, List.getElem?_cons_succ, List.getElem?_cons_zero] at x0 x1 x2
  go_enter Try.func64, Try.ntmps64
  go_upto_region 1 with fail
  rw [E1.out]
  clear E1
  go_wp2_with fail
  refine (wlong_any HWS.out.wr x.ssrc.toNat (by have := x.ssrc.toNat_lt; omega) (by omega)).mono ?_
  rintro e w2 ⟨v2, rfl, hw⟩
  have HB := Lib.hid (HB.out.fr hw.fr (HNQ.out _ _ _ HWS.out)); have HWS := Lib.hid (HWS.out.trans hw)
  clear hw x0 x1 x2
  have x0 := HB.out.cell 0; have x1 := HB.out.cell 1; have x2 := HB.out.cell 2; have x3 := HB.out.cell 3; have x4 := HB.out.cell 4; have x5 := HB.out.cell 5; have x6 := HB.out.cell 6
  simp only [rpc7, List.getElem?_toArray, List.getElem?_cons_succ, List.getElem?_cons_zero] at x0 x1 x2 x3 x4 x5 x6
  go_wp2_with fail
  refine (wbyte_any HWS.out.wr x.loss (by simp only [List.length_append, beN_len, List.length_singleton]; omega)).mono ?_
  rintro e w3 ⟨v3, rfl, hw⟩
  have HB := Lib.hid (HB.out.fr hw.fr (HNQ.out _ _ _ HWS.out)); have HWS := Lib.hid (HWS.out.trans hw)
  clear hw x0 x1 x2 x3 x4 x5 x6
  have x0 := HB.out.cell 0; have x1 := HB.out.cell 1; have x2 := HB.out.cell 2; have x3 := HB.out.cell 3; have x4 := HB.out.cell 4; have x5 := HB.out.cell 5; have x6 := HB.out.cell 6
  simp only [rpc7, List.getElem?_toArray, List.getElem?_cons_succ, List.getElem?_cons_zero] at x0 x1 x2 x3 x4 x5 x6
  go_wp2_with fail
  refine (wbyte_any HWS.out.wr (x.lost / 65536) (by simp only [List.length_append, beN_len, List.length_singleton]; omega)).mono ?_
  rintro e w4 ⟨v4, rfl, hw⟩
  have HB := Lib.hid (HB.out.fr hw.fr (HNQ.out _ _ _ HWS.out)); have HWS := Lib.hid (HWS.out.trans hw)
  clear hw x0 x1 x2 x3 x4 x5 x6
  have x0 := HB.out.cell 0; have x1 := HB.out.cell 1; have x2 := HB.out.cell 2; have x3 := HB.out.cell 3; have x4 := HB.out.cell 4; have x5 := HB.out.cell 5; have x6 := HB.out.cell 6
  simp only [rpc7, List.getElem?_toArray, List.getElem?_cons_succ, List.getElem?_cons_zero] at x0 x1 x2 x3 x4 x5 x6
  go_wp2_with fail
  refine (wword_any HWS.out.wr lw HLB.out (by simp only [List.length_append, beN_len, List.length_singleton]; omega)).mono ?_
  rintro e w5 ⟨v5, rfl, hw⟩
  have HB := Lib.hid (HB.out.fr hw.fr (HNQ.out _ _ _ HWS.out)); have HWS := Lib.hid (HWS.out.trans hw)
  clear hw x0 x1 x2 x3 x4 x5 x6
  have x0 := HB.out.cell 0; have x1 := HB.out.cell 1; have x2 := HB.out.cell 2; have x3 := HB.out.cell 3; have x4 := HB.out.cell 4; have x5 := HB.out.cell 5; have x6 := HB.out.cell 6
  simp only [rpc7, List.getElem?_toArray, List.getElem?_cons_succ, List.getElem?_cons_zero] at x0 x1 x2 x3 x4 x5 x6
  obtain ⟨hd, hhd⟩ : ∃ hd, l ++ beN x.ssrc.toNat 4 ++ [ib x.loss] ++ [ib (x.lost / 65536)] ++ beN lw 2 = hd := ⟨_, rfl⟩
  rw [hhd] at HWS
  have HHD : Hid (hd = l ++ rptHead x) := Lib.hid (by rw [← hhd, ← HLW.out]; simp [rptHead])
  have HHL : Hid (hd.length ≤ 1099511610000) := Lib.hid (by rw [← hhd]; simp only [List.length_append, beN_len, List.length_singleton]; omega)
  clear hhd hw1 hu
  obtain ⟨w6, e6, hF6, hB6, hs6⟩ := one_new w5 #[.int .u32 (x.hi.toNat : Nat), .int .u32 (x.jit.toNat : Nat), .int .u32 (x.lsr.toNat : Nat), .int .u32 (x.dly.toNat : Nat)] 36
  have HVB := Lib.hid (fun b (hb : blockOf v5 = some b) => (HWS.out.wr.own.block b hb).2); have HWL := Lib.hid HB.out.lt
  have HWS := Lib.hid (HWS.out.quiet hF6)
  have HL6 := Lib.hid hB6; have E6 := Lib.hid e6
  obtain ⟨G, hG⟩ : ∃ G, w5.heap.size = G := ⟨_, rfl⟩
  rw [hG] at HL6 HVB HWL
  clear hF6 hB6 e6 hs6
  go_upto_region 6 with fail
  rw [E6.out]
  try simp only [hG]
  clear E6 hG x0 x1 x2 x3 x4 x5 x6
  go_loopw [35] (fun iv wr => ∃ (j : Nat) (v' : Value), j ≤ 4 ∧ iv = .int .i64 j ∧ WS w1 wr W v v' base (hd ++ ((rptTail x).take j).flatMap fun n => beN n.toNat 4) ∧ Box wr G 36 #[.int .u32 (x.hi.toNat : Nat), .int .u32 (x.jit.toNat : Nat), .int .u32 (x.lsr.toNat : Nat), .int .u32 (x.dly.toNat : Nat)] ∧ (∀ b, blockOf v' = some b → b ≠ G)) (fun iv _ => 4 - (intOf iv).toNat)
  case atStart => exact ⟨0, v5, by omega, rfl, by simpa using HWS.out, HL6.out, fun b hb => by have := HVB.out b hb; omega⟩
  case round =>
    clear HWS HL6 HVB HB
    obtain ⟨j, v', hj, rfl, hws, hbx, hne⟩ := hrel
    have HWS := Lib.hid hws; have HBX := Lib.hid hbx; have HNE := Lib.hid hne
    clear hws hbx hne
    by_cases hlt : j < 4
    · obtain ⟨y, hy⟩ : ∃ y, (rptTail x)[j]? = some y := ⟨(rptTail x)[j]'(by simp [rptTail]; omega), List.getElem?_eq_getElem _⟩
      have d0 := HBX.out.cell j
      rw [show (#[.int .u32 (x.hi.toNat : Nat), .int .u32 (x.jit.toNat : Nat), .int .u32 (x.lsr.toNat : Nat), .int .u32 (x.dly.toNat : Nat)] : Array Value) = ((rptTail x).map W32).toArray from rfl, List.getElem?_toArray, List.getElem?_map, hy] at d0
      simp only [Option.map_some, W32] at d0
      have HT : Hid ((rptTail x).take (j + 1) = (rptTail x).take j ++ [y]) := Lib.hid (by rw [List.take_add_one, hy]; rfl)
      have HLL : Hid ((hd ++ ((rptTail x).take j).flatMap fun n => beN n.toNat 4).length ≤ 1099511627776) := Lib.hid (by
        have h9 : (((rptTail x).take j).flatMap fun n => beN n.toNat 4).length ≤ 16 := by
          rw [List.length_flatMap]
          have : ((rptTail x).take j).map (fun n => (beN n.toNat 4).length) = ((rptTail x).take j).map (fun _ => 4) := by congr 1; first | done | (funext n; exact beN_len _ _)
          rw [this, List.map_const', List.sum_replicate_nat, List.length_take]
          simp [rptTail]
          omega
        have := HHL.out
        rw [List.length_append]
        omega)
      clear hy
      go_wp2_with fail
      refine (wlong_any HWS.out.wr y.toNat (by have := y.toNat_lt; first | omega) HLL.out).mono ?_
      rintro e w8 ⟨v8, rfl, hw⟩
      have HW8 := Lib.hid hw
      clear hw d0
      go_wp2_with fail
      exact ⟨⟨j + 1, v8, by omega, by go_num, by have := HWS.out.trans HW8.out; rw [HT.out, List.flatMap_append, ← List.append_assoc]; simpa using this, HBX.out.fr HW8.out.fr (fun hm => by
        simp only [List.mem_cons, Option.mem_toList] at hm
        rcases hm with hm | hm
        · have := HLO.out.1; have := HWL.out; omega
        · exact HNE.out _ hm rfl), fun b hb e => by
        subst e
        rcases HW8.out.fresh _ hb with h1 | h1
        · exact HNE.out _ h1 rfl
        · have := HBX.out.lt; omega⟩, by simp [intOf]; omega⟩
    · obtain rfl : j = 4 := by omega
      clear hj hlt
      go_wp2_with fail
      go_end0
      refine ⟨v', rfl, ?_⟩
      have h9 := HW0.out.trans HWS.out
      rw [HHD.out, List.append_assoc] at h9
      exact h9
end Go.Proofs.Ytcmpjkopdjncdaa

/- The walks of rtcp's right$1 and of slices.IndexFunc, ContainsFunc at reports (printed by gen_7right.py). -/
namespace Go.Proofs.Ytcmpjkopdjncdaa
open Go.RowKit

set_option maxRecDepth 100000 in
set_option maxHeartbeats 4000000 in
theorem tRight1_any {w : World} (x : Rpt) :
    Calls Try.prog 57 #[.agg (rpc7 x)] w fun e w' => e = .returned (.bool (!rightRp x)) ∧ Fr [] w w' := by
  obtain ⟨w1, e1, hF1, hB1, hs1⟩ := one_new w (rpc7 x) 57
  have HF := Lib.hid hF1; have E1 := Lib.hid e1; have HB := Lib.hid hB1
  clear hF1 hB1 e1 hs1
  go_enter Try.func57, Try.ntmps57
  go_upto_region 1 with fail
  first | rw [E1.out] | skip
  go_wp2_with (refine wpList_load_row_w rfl 57 (.tmp 1) rfl w.heap.size rfl 57 _ _ HB.out Try.underlying57 rfl (by kernel_rfl) ?_)
  refine (tRightRep_any x).mono ?_
  rintro e w2 ⟨rfl, hF⟩
  have HF := Lib.hid (HF.out.trans hF)
  clear hF
  cases hb : rightRp x
  all_goals
    have HBB := Lib.hid hb
    clear hb
    go_wp2_with fail
    go_ret
    exact ⟨by rw [HBB.out]; rfl, HF.out⟩
set_option maxRecDepth 100000 in
set_option maxHeartbeats 4000000 in
theorem ifReport_any {w : World} {v : Value} {xs : List Rpt} (h : SlEls 7 RptR w v xs []) (hl : xs.length ≤ 1099511627776) :
    Calls Try.prog 83 #[v, .func (.func 57) #[] #[]] w fun e w' => ∃ i : Int, e = .returned (.int .i64 i) ∧ decide (0 ≤ i) = xs.any (fun x => !rightRp x) ∧ Fr [] w w' := by
  obtain ⟨av, cv, rfl⟩ := h.shape
  have HL := Lib.hid h
  clear h
  go_enter Try.func83, Try.ntmps83
  go_upto_region 2 with fail
  go_loopw [8] (fun iv wr => ∃ j : Nat, j ≤ xs.length ∧ iv = .int .i64 j ∧ (∀ x ∈ xs.take j, rightRp x = true) ∧ Fr [] w wr) (fun iv _ => xs.length - (intOf iv).toNat)
  case atStart => exact ⟨0, Nat.zero_le _, rfl, by simp, Fr.refl _ _⟩
  case round =>
    obtain ⟨j, hj, rfl, hno, hF⟩ := hrel
    have HNO := Lib.hid hno; have HF := Lib.hid hF
    clear hno hF
    by_cases hlt : j < xs.length
    · obtain ⟨b, o, c, y, B1, ea, -, hy, ⟨rfl, -⟩, -, hrg⟩ := (HL.out.keep Rep.rpt HF.out).at_ Rep.rpt (i := j) hlt
      subst ea
      have HRG := Lib.hid hrg; have HY := Lib.hid hy
      have HT : Hid (xs.take (j + 1) = xs.take j ++ [y]) := Lib.hid (by rw [List.take_add_one, hy]; rfl)
      clear hrg hy
      go_wp2_with (refine wpList_load_midA rfl 57 (.tmp 14) rfl b (o + j * 7) rfl (rpc7 y) _ HRG.out Try.underlying57 rfl (by kernel_rfl) ?_)
      refine (tRight1_any y).mono ?_
      rintro e w2 ⟨rfl, hF⟩
      have HF := Lib.hid (HF.out.trans hF)
      clear hF
      cases hb : rightRp y
      · have HBB := Lib.hid hb
        clear hb
        go_wp2_with fail
        go_ret
        exact ⟨j, rfl, by rw [decide_eq_true (by omega)]; exact (List.any_eq_true.2 ⟨y, List.mem_of_getElem? HY.out, by rw [HBB.out]; rfl⟩).symm, HF.out⟩
      · have HBB := Lib.hid hb
        clear hb
        go_wp2_with fail
        exact ⟨⟨j + 1, by omega, by go_num, by rw [HT.out]; intro x hx; rcases List.mem_append.1 hx with hx | hx; (· exact HNO.out x hx); (· simp at hx; subst hx; exact HBB.out), HF.out⟩, by simp [intOf]; omega⟩
    · obtain rfl : j = xs.length := by omega
      have HNN : Hid (∀ x ∈ xs, rightRp x = true) := Lib.hid (by have := HNO.out; rw [List.take_length] at this; exact this)
      clear hj hlt
      go_wp2_with fail
      go_ret
      exact ⟨-1, rfl, by rw [decide_eq_false (by omega)]; exact (List.any_eq_false.2 (fun x hx => by rw [HNN.out x hx]; simp)).symm, HF.out⟩
theorem cfReport_any {w : World} {v : Value} {xs : List Rpt} (h : SlEls 7 RptR w v xs []) (hl : xs.length ≤ 1099511627776) :
    Calls Try.prog 56 #[v, .func (.func 57) #[] #[]] w fun e w' => e = .returned (.bool (xs.any fun x => !rightRp x)) ∧ Fr [] w w' := by
  obtain ⟨av, cv, rfl⟩ := h.shape
  have HL := Lib.hid h
  clear h
  go_enter Try.func56, Try.ntmps56
  go_wp2_with fail
  refine (ifReport_any HL.out hl).mono ?_
  rintro e w2 ⟨i, rfl, hi, hF⟩
  have HI := Lib.hid hi; have HF := Lib.hid hF
  clear hi hF
  go_wp2_with fail
  go_ret
  exact ⟨by rw [← HI.out]; rfl, HF.out⟩
end Go.Proofs.Ytcmpjkopdjncdaa

/- The walks of rtcp's rightChunk, right$2 and of slices.IndexFunc, ContainsFunc at texts and chunks (printed by gen_7right2.py). -/
namespace Go.Proofs.Ytcmpjkopdjncdaa
open Go.RowKit

/-- May a text not be? -/
def wrongTx (x : Int × List UInt8) : Bool := decide (x.1 < 1) || decide (255 < x.1) || decide (255 < x.2.length)
theorem strB_size (l : List UInt8) : (strB l).size = l.length := by simp [strB, ByteArray.size]
set_option maxRecDepth 100000 in
set_option maxHeartbeats 4000000 in
theorem tRightChk1_any {w : World} (x : Int × List UInt8) :
    Calls Try.prog 86 #[.agg (txc x)] w fun e w' => e = .returned (.bool (wrongTx x)) ∧ Fr [] w w' := by
  obtain ⟨w1, e1, hF1, hB1, hs1⟩ := one_new w (txc x) 90
  have HF := Lib.hid hF1; have E1 := Lib.hid e1
  have x0 := hB1.cell 0; have x1 := hB1.cell 1
  simp only [txc, List.getElem?_toArray, List.getElem?_cons_succ, List.getElem?_cons_zero] at x0 x1
  have hsz := strB_size x.2
  clear hF1 hB1 e1 hs1
  by_cases h0 : x.1 < 1
  · have d0 : decide (x.1 < 1) = true := decide_eq_true h0
    have HR : Hid (wrongTx x = true) := Lib.hid (by unfold wrongTx; simp only [d0, Bool.true_or]; try rfl)
    go_enter Try.func86, Try.ntmps86
    go_upto_region 1 with fail
    first | rw [E1.out] | skip
    go_wp2_with fail
    go_ret
    exact ⟨by rw [HR.out]; rfl, HF.out⟩
  have d0 : decide (x.1 < 1) = false := decide_eq_false h0
  by_cases h1 : 255 < x.1
  · have d1 : decide (255 < x.1) = true := decide_eq_true h1
    have HR : Hid (wrongTx x = true) := Lib.hid (by unfold wrongTx; simp only [d0, d1, Bool.true_or, Bool.or_true]; try rfl)
    go_enter Try.func86, Try.ntmps86
    go_upto_region 1 with fail
    first | rw [E1.out] | skip
    go_wp2_with fail
    go_ret
    exact ⟨by rw [HR.out]; rfl, HF.out⟩
  have d1 : decide (255 < x.1) = false := decide_eq_false h1
  by_cases h2 : 255 < x.2.length
  · have d2 : decide (255 < x.2.length) = true := decide_eq_true h2
    have d3 : decide ((255 : Int) < (x.2.length : Int)) = true := decide_eq_true (by omega)
    have HR : Hid (wrongTx x = true) := Lib.hid (by unfold wrongTx; simp only [d0, d1, d2, Bool.true_or, Bool.or_true]; try rfl)
    go_enter Try.func86, Try.ntmps86
    go_upto_region 1 with fail
    first | rw [E1.out] | skip
    go_wp2_with fail
    go_ret
    exact ⟨by rw [HR.out]; rfl, HF.out⟩
  have d2 : decide (255 < x.2.length) = false := decide_eq_false h2
  have d3 : decide ((255 : Int) < (x.2.length : Int)) = false := decide_eq_false (by omega)
  have HR : Hid (wrongTx x = false) := Lib.hid (by unfold wrongTx; simp only [d0, d1, d2, Bool.or_false]; try rfl)
  go_enter Try.func86, Try.ntmps86
  go_upto_region 1 with fail
  first | rw [E1.out] | skip
  go_wp2_with fail
  go_ret
  exact ⟨by rw [HR.out]; rfl, HF.out⟩
set_option maxRecDepth 100000 in
set_option maxHeartbeats 4000000 in
theorem ifText_any {w : World} {v : Value} {xs : List (Int × List UInt8)} (h : SlEls 2 TxtR w v xs []) (hl : xs.length ≤ 1099511627776) :
    Calls Try.prog 90 #[v, .func (.func 86) #[] #[]] w fun e w' => ∃ i : Int, e = .returned (.int .i64 i) ∧ decide (0 ≤ i) = xs.any (fun x => wrongTx x) ∧ Fr [] w w' := by
  obtain ⟨av, cv, rfl⟩ := h.shape
  have HL := Lib.hid h
  clear h
  go_enter Try.func90, Try.ntmps90
  go_upto_region 2 with fail
  go_loopw [8] (fun iv wr => ∃ j : Nat, j ≤ xs.length ∧ iv = .int .i64 j ∧ (∀ x ∈ xs.take j, wrongTx x = false) ∧ Fr [] w wr) (fun iv _ => xs.length - (intOf iv).toNat)
  case atStart => exact ⟨0, Nat.zero_le _, rfl, by simp, Fr.refl _ _⟩
  case round =>
    obtain ⟨j, hj, rfl, hno, hF⟩ := hrel
    have HNO := Lib.hid hno; have HF := Lib.hid hF
    clear hno hF
    by_cases hlt : j < xs.length
    · obtain ⟨b, o, c, y, B1, ea, -, hy, ⟨rfl, -⟩, -, hrg⟩ := (HL.out.keep Rep.txt HF.out).at_ Rep.txt (i := j) hlt
      subst ea
      have HRG := Lib.hid hrg; have HY := Lib.hid hy
      have HT : Hid (xs.take (j + 1) = xs.take j ++ [y]) := Lib.hid (by rw [List.take_add_one, hy]; rfl)
      clear hrg hy
      go_wp2_with (refine wpList_load_midA rfl 90 (.tmp 14) rfl b (o + j * 2) rfl (txc y) _ HRG.out Try.underlying90 rfl (by kernel_rfl) ?_)
      refine (tRightChk1_any y).mono ?_
      rintro e w2 ⟨rfl, hF⟩
      have HF := Lib.hid (HF.out.trans hF)
      clear hF
      cases hb : wrongTx y
      rotate_left
      · have HBB := Lib.hid hb
        clear hb
        go_wp2_with fail
        go_ret
        exact ⟨j, rfl, by rw [decide_eq_true (by omega)]; exact (List.any_eq_true.2 ⟨y, List.mem_of_getElem? HY.out, by rw [HBB.out]⟩).symm, HF.out⟩
      · have HBB := Lib.hid hb
        clear hb
        go_wp2_with fail
        exact ⟨⟨j + 1, by omega, by go_num, by rw [HT.out]; intro x hx; rcases List.mem_append.1 hx with hx | hx; (· exact HNO.out x hx); (· simp at hx; subst hx; exact HBB.out), HF.out⟩, by simp [intOf]; omega⟩
    · obtain rfl : j = xs.length := by omega
      have HNN : Hid (∀ x ∈ xs, wrongTx x = false) := Lib.hid (by have := HNO.out; rw [List.take_length] at this; exact this)
      clear hj hlt
      go_wp2_with fail
      go_ret
      exact ⟨-1, rfl, by rw [decide_eq_false (by omega)]; exact (List.any_eq_false.2 (fun x hx => by rw [HNN.out x hx]; simp)).symm, HF.out⟩
theorem cfText_any {w : World} {v : Value} {xs : List (Int × List UInt8)} (h : SlEls 2 TxtR w v xs []) (hl : xs.length ≤ 1099511627776) :
    Calls Try.prog 85 #[v, .func (.func 86) #[] #[]] w fun e w' => e = .returned (.bool (xs.any fun x => wrongTx x)) ∧ Fr [] w w' := by
  obtain ⟨av, cv, rfl⟩ := h.shape
  have HL := Lib.hid h
  clear h
  go_enter Try.func85, Try.ntmps85
  go_wp2_with fail
  refine (ifText_any HL.out hl).mono ?_
  rintro e w2 ⟨i, rfl, hi, hF⟩
  have HI := Lib.hid hi; have HF := Lib.hid hF
  clear hi hF
  go_wp2_with fail
  go_ret
  exact ⟨by rw [← HI.out]; rfl, HF.out⟩
end Go.Proofs.Ytcmpjkopdjncdaa

/- The walks of rtcp's rightChunk, right$2 and of slices.IndexFunc, ContainsFunc at chunks (printed by gen_7right3.py). -/
namespace Go.Proofs.Ytcmpjkopdjncdaa
open Go.RowKit

/-- May a chunk be? -/
def rightCk (x : Chk) : Bool := !(x.texts.any fun t => wrongTx t)
set_option maxRecDepth 100000 in
set_option maxHeartbeats 4000000 in
theorem tRightChk_any {w : World} (x : Chk) {vt : Value} (h : SlEls 2 TxtR w vt x.texts []) (hl : x.texts.length ≤ 1099511627776) :
    Calls Try.prog 61 #[.agg #[.int .u32 (x.ssrc.toNat : Nat), vt]] w fun e w' => e = .returned (.bool (rightCk x)) ∧ Fr [] w w' := by
  obtain ⟨av, cv, rfl⟩ := h.shape
  obtain ⟨w1, e1, hF1, hB1, hs1⟩ := one_new w #[.int .u32 (x.ssrc.toNat : Nat), .slice av x.texts.length cv] 87
  have HF := Lib.hid hF1; have E1 := Lib.hid e1; have HL := Lib.hid (h.keep Rep.txt hF1)
  have x1 := hB1.cell 1
  simp only [List.getElem?_toArray, List.getElem?_cons_succ, List.getElem?_cons_zero] at x1
  clear hF1 hB1 e1 hs1 h
  go_enter Try.func61, Try.ntmps61
  go_upto_region 1 with fail
  first | rw [E1.out] | skip
  go_wp2_with fail
  refine (cfText_any HL.out hl).mono ?_
  rintro e w2 ⟨rfl, hF⟩
  have HF := Lib.hid (HF.out.trans hF)
  clear hF
  have HR : Hid (rightCk x = !(x.texts.any fun t => wrongTx t)) := Lib.hid rfl
  generalize (x.texts.any fun t => wrongTx t) = bb at *
  cases bb
  all_goals
    go_wp2_with fail
    go_ret
    exact ⟨by rw [HR.out]; rfl, HF.out⟩
set_option maxRecDepth 100000 in
set_option maxHeartbeats 4000000 in
theorem tRight2_any {w : World} (x : Chk) {vt : Value} (h : SlEls 2 TxtR w vt x.texts []) (hl : x.texts.length ≤ 1099511627776) :
    Calls Try.prog 60 #[.agg #[.int .u32 (x.ssrc.toNat : Nat), vt]] w fun e w' => e = .returned (.bool (!rightCk x)) ∧ Fr [] w w' := by
  obtain ⟨av, cv, rfl⟩ := h.shape
  obtain ⟨w1, e1, hF1, hB1, hs1⟩ := one_new w #[.int .u32 (x.ssrc.toNat : Nat), .slice av x.texts.length cv] 87
  have HF := Lib.hid hF1; have E1 := Lib.hid e1; have HB := Lib.hid hB1; have HL := Lib.hid (h.keep Rep.txt hF1)
  clear hF1 hB1 e1 hs1 h
  go_enter Try.func60, Try.ntmps60
  go_upto_region 1 with fail
  first | rw [E1.out] | skip
  go_wp2_with (refine wpList_load_row_w rfl 87 (.tmp 1) rfl w.heap.size rfl 87 _ _ HB.out Try.underlying87 rfl (by kernel_rfl) ?_)
  refine (tRightChk_any x HL.out hl).mono ?_
  rintro e w2 ⟨rfl, hF⟩
  have HF := Lib.hid (HF.out.trans hF)
  clear hF
  cases hb : rightCk x
  all_goals
    have HBB := Lib.hid hb
    clear hb
    go_wp2_with fail
    go_ret
    exact ⟨by rw [HBB.out]; rfl, HF.out⟩
set_option maxRecDepth 100000 in
set_option maxHeartbeats 4000000 in
theorem ifChunk_any {w : World} {v : Value} {xs : List Chk} {B : List Nat} (h : SlEls 2 ChkR w v xs B) (ht : ∀ x ∈ xs, x.texts.length ≤ 1099511627776) (hl : xs.length ≤ 1099511627776) :
    Calls Try.prog 84 #[v, .func (.func 60) #[] #[]] w fun e w' => ∃ i : Int, e = .returned (.int .i64 i) ∧ decide (0 ≤ i) = xs.any (fun x => !rightCk x) ∧ Fr [] w w' := by
  obtain ⟨av, cv, rfl⟩ := h.shape
  have HL := Lib.hid h; have HTL := Lib.hid ht
  clear h ht
  go_enter Try.func84, Try.ntmps84
  go_upto_region 2 with fail
  go_loopw [8] (fun iv wr => ∃ j : Nat, j ≤ xs.length ∧ iv = .int .i64 j ∧ (∀ x ∈ xs.take j, rightCk x = true) ∧ Fr [] w wr) (fun iv _ => xs.length - (intOf iv).toNat)
  case atStart => exact ⟨0, Nat.zero_le _, rfl, by simp, Fr.refl _ _⟩
  case round =>
    obtain ⟨j, hj, rfl, hno, hF⟩ := hrel
    have HNO := Lib.hid hno; have HF := Lib.hid hF
    clear hno hF
    by_cases hlt : j < xs.length
    · obtain ⟨b, o, c, y, B1, ea, -, hy, ⟨vt, rfl, hvt, -⟩, -, hrg⟩ := (HL.out.keep Rep.chk HF.out).at_ Rep.chk (i := j) hlt
      subst ea
      obtain ⟨at_, ct, rfl⟩ := hvt.shape
      have HVT := Lib.hid hvt; have HYL := Lib.hid (HTL.out y (List.mem_of_getElem? hy))
      clear hvt
      have HRG := Lib.hid hrg; have HY := Lib.hid hy
      have HT : Hid (xs.take (j + 1) = xs.take j ++ [y]) := Lib.hid (by rw [List.take_add_one, hy]; rfl)
      clear hrg hy
      go_wp2_with (refine wpList_load_midA rfl 87 (.tmp 14) rfl b (o + j * 2) rfl #[.int .u32 (y.ssrc.toNat : Nat), .slice at_ y.texts.length ct] _ HRG.out Try.underlying87 rfl (by kernel_rfl) ?_)
      refine (tRight2_any y HVT.out HYL.out).mono ?_
      rintro e w2 ⟨rfl, hF⟩
      have HF := Lib.hid (HF.out.trans hF)
      clear hF
      cases hb : rightCk y
      · have HBB := Lib.hid hb
        clear hb
        go_wp2_with fail
        go_ret
        exact ⟨j, rfl, by rw [decide_eq_true (by omega)]; exact (List.any_eq_true.2 ⟨y, List.mem_of_getElem? HY.out, by rw [HBB.out]; rfl⟩).symm, HF.out⟩
      · have HBB := Lib.hid hb
        clear hb
        go_wp2_with fail
        exact ⟨⟨j + 1, by omega, by go_num, by rw [HT.out]; intro x hx; rcases List.mem_append.1 hx with hx | hx; (· exact HNO.out x hx); (· simp at hx; subst hx; exact HBB.out), HF.out⟩, by simp [intOf]; omega⟩
    · obtain rfl : j = xs.length := by omega
      have HNN : Hid (∀ x ∈ xs, rightCk x = true) := Lib.hid (by have := HNO.out; rw [List.take_length] at this; exact this)
      clear hj hlt
      go_wp2_with fail
      go_ret
      exact ⟨-1, rfl, by rw [decide_eq_false (by omega)]; exact (List.any_eq_false.2 (fun x hx => by rw [HNN.out x hx]; simp)).symm, HF.out⟩
theorem cfChunk_any {w : World} {v : Value} {xs : List Chk} {B : List Nat} (h : SlEls 2 ChkR w v xs B) (ht : ∀ x ∈ xs, x.texts.length ≤ 1099511627776) (hl : xs.length ≤ 1099511627776) :
    Calls Try.prog 59 #[v, .func (.func 60) #[] #[]] w fun e w' => e = .returned (.bool (xs.any fun x => !rightCk x)) ∧ Fr [] w w' := by
  obtain ⟨av, cv, rfl⟩ := h.shape
  have HL := Lib.hid h; have HTL := Lib.hid ht
  clear h ht
  go_enter Try.func59, Try.ntmps59
  go_wp2_with fail
  refine (ifChunk_any HL.out HTL.out hl).mono ?_
  rintro e w2 ⟨i, rfl, hi, hF⟩
  have HI := Lib.hid hi; have HF := Lib.hid hF
  clear hi hF
  go_wp2_with fail
  go_ret
  exact ⟨by rw [← HI.out]; rfl, HF.out⟩
end Go.Proofs.Ytcmpjkopdjncdaa
