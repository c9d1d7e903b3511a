import Derived.Test.YtcmpjkopdjncdaaProg
import Derived.Test.YtcmpjkopdjncdaaMw3
/- The walks of the library's small slice functions. -/
namespace Go.Proofs.Ytcmpjkopdjncdaa
open Go.RowKit

theorem info_u8 : (Try.prog.info? 5).map (fun i => (i.zero, i.size, i.bytes)) = some (some (.int .u8 0), 1, 1) := by kernel_rfl
/-- The bytes of a slice value that the call owns. -/
def OwnB (w : World) (base : Nat) (v : Value) (l : List UInt8) : Prop := w.ownsRow base 5 1 v l.length (l.map B8)
theorem OwnB.bytes {w : World} {base : Nat} {v : Value} {l : List UInt8} (h : OwnB w base v l) : Bytes w v l := Sl.ofOwn h
theorem OwnB.isSlice {w : World} {base : Nat} {v : Value} {l : List UInt8} (h : OwnB w base v l) : ∃ a n c, v = .slice a n c := by
  obtain ⟨a, c, e⟩ := h.bytes.shape
  exact ⟨a, _, c, e⟩
theorem OwnB.mono {w : World} {base base' : Nat} {v : Value} {l : List UInt8} (h : OwnB w base v l) (hb : base' ≤ base) : OwnB w base' v l := Own.mono h hb
theorem OwnB.keep {w w' : World} {base : Nat} {v : Value} {l : List UInt8} (h : OwnB w base v l) (hf : Fr [] w w') : OwnB w' base v l := Own.keep h hf
theorem OwnB.fr {w w' : World} {base : Nat} {v : Value} {l : List UInt8} {S : List Nat} (h : OwnB w base v l) (hf : Fr S w w') (hS : ∀ b, blockOf v = some b → b ∉ S) : OwnB w' base v l := Own.fr h hf hS

theorem info_u32 : (Try.prog.info? 36).map (fun i => (i.zero, i.size, i.bytes)) = some (some (.int .u32 0), 1, 4) := by kernel_rfl
def OwnW (w : World) (base : Nat) (v : Value) (l : List UInt32) : Prop := w.ownsRow base 36 1 v l.length (l.map W32)
theorem OwnW.words {w : World} {base : Nat} {v : Value} {l : List UInt32} (h : OwnW w base v l) : Words w v l := Sl.ofOwn h
theorem OwnW.isSlice {w : World} {base : Nat} {v : Value} {l : List UInt32} (h : OwnW w base v l) : ∃ a n c, v = .slice a n c := by
  obtain ⟨a, c, e⟩ := h.words.shape
  exact ⟨a, _, c, e⟩
theorem OwnB.block {w : World} {base : Nat} {v : Value} {l : List UInt8} (h : OwnB w base v l) : ∀ b, blockOf v = some b → base ≤ b ∧ b < w.heap.size := Own.block h
theorem OwnW.block {w : World} {base : Nat} {v : Value} {l : List UInt32} (h : OwnW w base v l) : ∀ b, blockOf v = some b → base ≤ b ∧ b < w.heap.size := Own.block h
theorem OwnB.low {w w' : World} {base : Nat} {v : Value} {l : List UInt8} {S : List Nat} (h : OwnB w base v l) (hf : Fr S w w') (hS : ∀ b ∈ S, b < base) : OwnB w' base v l := Own.low h hf hS
theorem OwnW.low {w w' : World} {base : Nat} {v : Value} {l : List UInt32} {S : List Nat} (h : OwnW w base v l) (hf : Fr S w w') (hS : ∀ b ∈ S, b < base) : OwnW w' base v l := Own.low h hf hS
theorem OwnW.mono {w : World} {base base' : Nat} {v : Value} {l : List UInt32} (h : OwnW w base v l) (hb : base' ≤ base) : OwnW w base' v l := Own.mono h hb
theorem OwnW.keep {w w' : World} {base : Nat} {v : Value} {l : List UInt32} (h : OwnW w base v l) (hf : Fr [] w w') : OwnW w' base v l := Own.keep h hf
theorem OwnW.fr {w w' : World} {base : Nat} {v : Value} {l : List UInt32} {S : List Nat} (h : OwnW w base v l) (hf : Fr S w w') (hS : ∀ b, blockOf v = some b → b ∉ S) : OwnW w' base v l := Own.fr h hf hS

set_option maxHeartbeats 400000 in
theorem cloneB_any {w : World} {v : Value} {l : List UInt8} (h : Bytes w v l) (hl : l.length ≤ 1099511627776) :
    Calls Try.prog 68 #[v] w fun e w' => ∃ v', e = .returned v' ∧ OwnB w' w.heap.size v' l ∧ Fr [] w w' := by
  obtain ⟨a, cap, rfl⟩ := h.shape
  simp only [List.length_map] at h ⊢
  have hcap : a = none → l = [] := by
    intro ha
    obtain ⟨_, h2, _, h4⟩ := h.len
    have := h4 ha
    exact List.eq_nil_of_length_eq_zero (by omega)
  have HC := Lib.hid hcap
  have H := Lib.hid h
  clear h hcap
  have hn := fun (w : World) => Lib.run_eql_slice_nil (P := Try.prog) w 22 5 a l.length cap 0 0 Try.underlying22
  cases a with
  | none =>
    obtain rfl := HC.out rfl
    clear hl
    clear HC H
    simp only [Option.isNone_none, List.length_nil] at hn ⊢
    go_enter Try.func68, Try.ntmps68
    go_wp2_with fail
    go_ret
    exact ⟨_, rfl, World.ownsRow_nil _ _ _ _, Fr.refl _ _⟩
  | some p =>
    simp only [Option.isNone_some] at hn
    clear HC
    go_enter Try.func68, Try.ntmps68
    go_wp2_with (at_builtin; refine wpList_append_sl rfl _ _ _ rfl w.heap.size 5 _ _ Try.underlying22 info_u8 rfl _ 0 [] rfl (World.ownsRow_made w #[] 0 (Nat.le_refl _) (by unfold maxLen; omega) (by simp)) (.slice (some p) l.length cap) (l.map B8) rfl (Sl.keep H.out ((Fr.refl _ _).alloc _)) (oneCell_B8 l) (by unfold maxLen; simp; omega) (by simp; omega) (by simp) ?_)
    intro v' w' ho hg _
    have HO := Lib.hid ho
    have HG := Lib.hid hg
    clear ho hg
    go_wp2_with fail
    go_ret
    refine ⟨v', rfl, ?_, (((Fr.refl [] w).alloc _).grown HG.out (fun k hk => .inr (by simp [blockOf] at hk; omega)))⟩
    have := HO.out
    simpa [OwnB] using this
end Go.Proofs.Ytcmpjkopdjncdaa

/- The walks of wire.Reader. -/
namespace Go.Proofs.Ytcmpjkopdjncdaa
open Go.RowKit

/-- A reader at block R: over the slice value v, which reads as l, at a place. -/
structure Rd (w : World) (R : Nat) (v : Value) (at_ : Nat) (l : List UInt8) : Prop where
  c0 : w.cell? ⟨R, 0, none⟩ = some v
  c1 : w.cell? ⟨R, 1, none⟩ = some (.int .i64 at_)
  f1 : w.frozen? ⟨R, 1, none⟩ = false
  sl : Bytes w v l
  apart : liveOf v ≠ some R
  place : at_ ≤ l.length
  small : l.length ≤ 1099511627776

set_option maxHeartbeats 400000 in
theorem left_any (R : Nat) (p : Option Addr) (len cap k : Nat) (w : World) (h0 : w.cell? ⟨R, 0, none⟩ = some (.slice p len cap)) (h1 : w.cell? ⟨R, 1, none⟩ = some (.int .i64 k)) (hk : k ≤ len) (hl : len ≤ 1099511627776) :
    Calls Try.prog 88 #[.pointer (some ⟨R, 0, none⟩)] w fun e w' => e = .returned (.int .i64 (len - k)) ∧ ∃ n, w' = w.drewN n := by
  go_enter Try.func88, Try.ntmps88
  go_wp2
  go_quiet (fail)
  go_wp2
  go_ret
  exact ⟨rfl, _, rfl⟩

theorem Rd.keep {w w' : World} {R : Nat} {v : Value} {k : Nat} {l : List UInt8} (h : Rd w R v k l) (hf : Fr [] w w') : Rd w' R v k l :=
  ⟨hf.cellSome h.c0 (by simp), hf.cellSome h.c1 (by simp), (hf.frozen (World.block_lt_of_cell? _ _ h.c1) (by simp)).trans h.f1, h.sl.keep hf, h.apart, h.place, h.small⟩
theorem Rd.fr {w w' : World} {R : Nat} {v : Value} {k : Nat} {l : List UInt8} {S : List Nat} (h : Rd w R v k l) (hf : Fr S w w') (hS : R ∉ S) (hv : ∀ b, liveOf v = some b → b ∉ S) : Rd w' R v k l :=
  ⟨hf.cellSome h.c0 hS, hf.cellSome h.c1 hS, (hf.frozen (World.block_lt_of_cell? _ _ h.c1) hS).trans h.f1, h.sl.frL hf hv, h.apart, h.place, h.small⟩
theorem Rd.grown {w w' : World} {R base : Nat} {v : Value} {k : Nat} {l : List UInt8} {row : Option Nat} (h : Rd w R v k l) (hg : w.grownBy w' row) (hr : ∀ g, row = some g → base ≤ g) (hR : R < base) (hv : ∀ b, liveOf v = some b → b < base) : Rd w' R v k l :=
  h.fr (S := row.toList) ⟨hg.os, hg.tape, hg.output, hg.size, fun k hk hn => hg.block k hk (fun e => hn (by simp [← e]))⟩
    (fun hm => by have := hr R (by simpa using hm); omega) (fun b hb hm => by have := hr b (by simpa using hm); have := hv b hb; omega)
theorem Rd.vlt {w : World} {R : Nat} {v : Value} {k : Nat} {l : List UInt8} (h : Rd w R v k l) : ∀ b, liveOf v = some b → b < w.heap.size := h.sl.lt
/-- What ends a reading. -/
def faultOf (k : Int) : List PanicEntry := [{ v := .iface 130 (.agg #[.int .i64 k]), recovered := false }]

set_option maxHeartbeats 400000 in
theorem fail_any (R : Value) (k : Int) (hk : k ≠ 0) (w : World) :
    Calls Try.prog 48 #[R, .int .i64 k] w fun e w' => e = .panicked (faultOf k) ∧ w = w' := by
  have hk' : (k == 0) = false := by simpa using hk
  go_enter Try.func48, Try.ntmps48
  go_wp2
  exact ⟨rfl, rfl, rfl⟩

theorem next_post {w : World} {R : Nat} {a : Option Addr} {cap k : Nat} {l : List UInt8} (hR : Rd w R (.slice a l.length cap) k l) (m : Nat) (h : k + m ≤ l.length)
    (q : Option Addr) (hq : Hid ((if cap = k then a else Option.map (fun x => x.add k) a) = q)) (N : Nat) (x : Int) (hx : x = (k + m : Nat)) (c' m' : Nat) (hc : c' = cap - k) (hm' : m' = m) :
    Rd ((w.drewN N).setCell ⟨R, 1, none⟩ (.int .i64 x)) R (.slice a l.length cap) (k + m) l ∧ Fr [R] w ((w.drewN N).setCell ⟨R, 1, none⟩ (.int .i64 x)) ∧
      Bytes ((w.drewN N).setCell ⟨R, 1, none⟩ (.int .i64 x)) (.slice q m' c') ((l.drop k).take m) ∧ liveOf (.slice q m' c') ≠ some R := by
  rw [hm']
  clear hm'
  obtain ⟨c0, c1, f1, hs, ha, hp, hsm⟩ := hR
  have hcc := hc
  have hb : ∀ (b : Nat), liveOf (.slice q m c') = some b → b ∉ [R] := by
    intro b hb hm
    simp only [List.mem_singleton] at hm
    subst hm
    rw [← hq.out, hcc] at hb
    exact ha (Sl.live_sub a k m cap l.length _ hb)
  have hF : Fr [R] w ((w.drewN N).setCell ⟨R, 1, none⟩ (.int .i64 x)) := ((Fr.refl _ _).drewN N).setCell (.inl (by simp)) _
  have c1' : (w.drewN N).cell? ⟨R, 1, none⟩ = some (.int .i64 k) := c1
  refine ⟨⟨?_, ?_, ?_, hs.frL hF ?_, ha, h, hsm⟩, hF, ?_, fun e => hb R e (by simp)⟩
  · rw [World.cell?_setCell_other _ _ _ _ (by simp)]; exact c0
  · rw [World.cell?_setCell_same _ _ _ c1', hx]
  · rw [World.frozen?_setCell]; exact f1
  · intro b hb' hm
    simp only [List.mem_singleton] at hm
    subst hm
    exact ha hb'
  · have hs' : Sl w (.slice a l.length cap) (l.map B8) := hs
    have hq' := hs'.sub k m h
    rw [hq.out, ← List.map_drop, ← List.map_take] at hq'
    rw [hc] at hb ⊢
    exact Sl.frL hq' hF hb

set_option maxHeartbeats 400000 in
theorem next_ok {w : World} {R : Nat} {v : Value} {k : Nat} {l : List UInt8} (hR : Rd w R v k l) (n : Int) (m : Nat) (hm : max n 0 = m) (hle : k + m ≤ l.length) :
    Calls Try.prog 73 #[.pointer (some ⟨R, 0, none⟩), .int .i64 n] w fun e w' => ∃ v', e = .returned v' ∧ Rd w' R v (k + m) l ∧ Fr [R] w w' ∧ Bytes w' v' ((l.drop k).take m) ∧ liveOf v' ≠ some R := by
  obtain ⟨a, cap, rfl, hc⟩ := hR.sl.shape
  simp only [List.length_map] at hR ⊢
  have HR := Lib.hid hR
  obtain ⟨c0, c1, f1, hs, ha, hp, hsm⟩ := hR
  have hlc : l.length ≤ cap := by have := (hs.len).2.1; simpa using this
  clear hs ha
  go_enter Try.func73, Try.ntmps73
  go_wp2_with fail
  all_goals
    refine (left_any R a l.length cap k w c0 c1 hp hsm).mono ?_
    rintro e w' ⟨rfl, nq, rfl⟩
  · obtain rfl : m = 0 := by omega
    clear hm
    go_wp2_with fail
    go_quiet (fail)
    generalize hq : (if cap = k then a else Option.map (fun x => x.add k) a) = q
    have HQ := Lib.hid hq
    clear hq
    go_wp2_with fail
    go_ret
    exact ⟨_, rfl, next_post HR.out 0 hle q HQ _ _ (by simp) _ _ rfl (by omega)⟩
  · obtain rfl : n = m := by omega
    clear hm
    go_wp2_with fail
    go_quiet (fail)
    generalize hq : (if cap = k then a else Option.map (fun x => x.add k) a) = q
    have HQ := Lib.hid hq
    clear hq
    go_wp2_with fail
    go_ret
    exact ⟨_, rfl, next_post HR.out m hle q HQ _ (↑k + ↑m) (by simp) _ _ rfl (by omega)⟩

set_option maxHeartbeats 400000 in
theorem next_short {w : World} {R : Nat} {v : Value} {k : Nat} {l : List UInt8} (hR : Rd w R v k l) (n : Int) (h : (l.length : Int) - k < n) :
    Calls Try.prog 73 #[.pointer (some ⟨R, 0, none⟩), .int .i64 n] w fun e w' => e = .panicked (faultOf 20) ∧ ∃ n, w' = w.drewN n := by
  obtain ⟨a, cap, rfl, hc⟩ := hR.sl.shape
  simp only [List.length_map] at hR
  obtain ⟨c0, c1, f1, hs, ha, hp, hsm⟩ := hR
  have hn : 0 < n := by omega
  go_enter Try.func73, Try.ntmps73
  go_wp2_with fail
  refine (left_any R a l.length cap k w c0 c1 hp hsm).mono ?_
  rintro e w' ⟨rfl, nq, rfl⟩
  go_wp2_with fail
  refine (fail_any _ 20 (by decide) _).mono ?_
  rintro e w' ⟨rfl, rfl⟩
  exact ⟨rfl, rfl, _, rfl⟩
set_option maxHeartbeats 400000 in
theorem rnum_ok {w : World} {R : Nat} {v : Value} {k : Nat} {l : List UInt8} (hR : Rd w R v k l) (m : Nat) (hm8 : m ≤ 8) (hle : k + m ≤ l.length) :
    Calls Try.prog 72 #[.pointer (some ⟨R, 0, none⟩), .int .i64 m] w fun e w' => e = .returned (.int .u64 (be ((l.drop k).take m))) ∧ Rd w' R v (k + m) l ∧ Fr [R] w w' := by
  go_enter Try.func72, Try.ntmps72
  go_wp2_with fail
  refine (next_ok hR m m (by omega) hle).mono ?_
  rintro e w1 ⟨v', rfl, hR1, hF1, hB1, ha1⟩
  have hl : ((l.drop k).take m).length = m := by simp; omega
  generalize hd : (l.drop k).take m = d at *
  obtain ⟨a, cap, rfl, _⟩ := hB1.shape
  simp only [List.length_map] at hB1 ⊢
  have H1 := Lib.hid hB1; have H2 := Lib.hid hR1; have H3 := Lib.hid hF1; have HD := Lib.hid hd
  have hl8 : d.length ≤ 8 := by omega
  clear hB1 hR1 hF1 hd hl ha1
  go_wp2_with fail
  go_loop [5, 12] (fun x i => ∃ j : Nat, j ≤ d.length ∧ i = .int .i64 j ∧ x = .int .u64 (be (d.take j))) (fun _ i => d.length - (intOf i).toNat)
  case atStart => exact ⟨0, Nat.zero_le _, rfl, rfl⟩
  case round =>
    obtain ⟨j, hj, rfl, rfl⟩ := hrel
    by_cases hlt : j < d.length
    · obtain ⟨b, o, rfl, hb, hcell⟩ := H1.out.at_ hlt
      have hc := hcell j (B8 d[j]) (by rw [List.getElem?_map, List.getElem?_eq_getElem hlt]; rfl)
      clear hcell
      unfold B8 at hc
      have hs := be_step d j hlt hl8
      go_wp2_with fail
      go_round
      case rel => exact ⟨j + 1, by omega, by go_num, rfl⟩
      case measure => simp [intOf]; omega
    · go_wp2_with fail
      go_ret
      exact ⟨ret_int (by rw [HD.out, List.take_of_length_le (by omega)]), H2.out, H3.out⟩

set_option maxHeartbeats 400000 in
theorem rnum_short {w : World} {R : Nat} {v : Value} {k : Nat} {l : List UInt8} (hR : Rd w R v k l) (m : Nat) (hle : l.length < k + m) :
    Calls Try.prog 72 #[.pointer (some ⟨R, 0, none⟩), .int .i64 m] w fun e w' => e = .panicked (faultOf 20) ∧ ∃ n, w' = w.drewN n := by
  go_enter Try.func72, Try.ntmps72
  go_wp2_with fail
  refine (next_short hR m (by have := hR.place; omega)).mono ?_
  rintro e w1 ⟨rfl, n, rfl⟩
  exact ⟨rfl, rfl, _, rfl⟩

/-- The next bytes of a reader as a number. -/
def nb (l : List UInt8) (k m : Nat) : Nat := be ((l.drop k).take m)
theorem nb_lt (l : List UInt8) (k m : Nat) : nb l k m < 256 ^ m := by
  refine Nat.lt_of_lt_of_le (be_lt _) (Nat.pow_le_pow_right (by omega) ?_)
  rw [List.length_take]; omega

set_option maxHeartbeats 400000 in
theorem rbyte_ok {w : World} {R : Nat} {v : Value} {k : Nat} {l : List UInt8} (hR : Rd w R v k l) (hle : k + 1 ≤ l.length) :
    Calls Try.prog 47 #[.pointer (some ⟨R, 0, none⟩)] w fun e w' => e = .returned (.int .i64 (nb l k 1)) ∧ Rd w' R v (k + 1) l ∧ Fr [R] w w' := by
  have hb := nb_lt l k 1
  go_enter Try.func47, Try.ntmps47
  go_wp2_with fail
  refine (rnum_ok hR 1 (by omega) hle).mono ?_
  rintro e w1 ⟨rfl, hR1, hF1⟩
  rw [show be ((l.drop k).take 1) = nb l k 1 from rfl]
  go_wp2_with fail
  go_ret
  exact ⟨rfl, hR1, hF1⟩

set_option maxHeartbeats 400000 in
theorem rword_ok {w : World} {R : Nat} {v : Value} {k : Nat} {l : List UInt8} (hR : Rd w R v k l) (hle : k + 2 ≤ l.length) :
    Calls Try.prog 49 #[.pointer (some ⟨R, 0, none⟩)] w fun e w' => e = .returned (.int .u16 (nb l k 2)) ∧ Rd w' R v (k + 2) l ∧ Fr [R] w w' := by
  have hb := nb_lt l k 2
  go_enter Try.func49, Try.ntmps49
  go_wp2_with fail
  refine (rnum_ok hR 2 (by omega) hle).mono ?_
  rintro e w1 ⟨rfl, hR1, hF1⟩
  rw [show be ((l.drop k).take 2) = nb l k 2 from rfl]
  go_wp2_with fail
  go_ret
  exact ⟨rfl, hR1, hF1⟩

set_option maxHeartbeats 400000 in
theorem rlong_ok {w : World} {R : Nat} {v : Value} {k : Nat} {l : List UInt8} (hR : Rd w R v k l) (hle : k + 4 ≤ l.length) :
    Calls Try.prog 75 #[.pointer (some ⟨R, 0, none⟩)] w fun e w' => e = .returned (.int .u32 (nb l k 4)) ∧ Rd w' R v (k + 4) l ∧ Fr [R] w w' := by
  have hb := nb_lt l k 4
  go_enter Try.func75, Try.ntmps75
  go_wp2_with fail
  refine (rnum_ok hR 4 (by omega) hle).mono ?_
  rintro e w1 ⟨rfl, hR1, hF1⟩
  rw [show be ((l.drop k).take 4) = nb l k 4 from rfl]
  go_wp2_with fail
  go_ret
  exact ⟨rfl, hR1, hF1⟩

set_option maxHeartbeats 400000 in
theorem rbyte_short {w : World} {R : Nat} {v : Value} {k : Nat} {l : List UInt8} (hR : Rd w R v k l) (hle : l.length < k + 1) :
    Calls Try.prog 47 #[.pointer (some ⟨R, 0, none⟩)] w fun e w' => e = .panicked (faultOf 20) ∧ ∃ n, w' = w.drewN n := by
  go_enter Try.func47, Try.ntmps47
  go_wp2_with fail
  refine (rnum_short hR 1 hle).mono ?_
  rintro e w1 ⟨rfl, n, rfl⟩
  exact ⟨rfl, rfl, _, rfl⟩

set_option maxHeartbeats 400000 in
theorem rword_short {w : World} {R : Nat} {v : Value} {k : Nat} {l : List UInt8} (hR : Rd w R v k l) (hle : l.length < k + 2) :
    Calls Try.prog 49 #[.pointer (some ⟨R, 0, none⟩)] w fun e w' => e = .panicked (faultOf 20) ∧ ∃ n, w' = w.drewN n := by
  go_enter Try.func49, Try.ntmps49
  go_wp2_with fail
  refine (rnum_short hR 2 hle).mono ?_
  rintro e w1 ⟨rfl, n, rfl⟩
  exact ⟨rfl, rfl, _, rfl⟩

set_option maxHeartbeats 400000 in
theorem rlong_short {w : World} {R : Nat} {v : Value} {k : Nat} {l : List UInt8} (hR : Rd w R v k l) (hle : l.length < k + 4) :
    Calls Try.prog 75 #[.pointer (some ⟨R, 0, none⟩)] w fun e w' => e = .panicked (faultOf 20) ∧ ∃ n, w' = w.drewN n := by
  go_enter Try.func75, Try.ntmps75
  go_wp2_with fail
  refine (rnum_short hR 4 hle).mono ?_
  rintro e w1 ⟨rfl, n, rfl⟩
  exact ⟨rfl, rfl, _, rfl⟩

set_option maxHeartbeats 400000 in
theorem take_ok {w : World} {R : Nat} {v : Value} {k : Nat} {l : List UInt8} (hR : Rd w R v k l) (n : Int) (m : Nat) (hm : max n 0 = m) (hle : k + m ≤ l.length) :
    Calls Try.prog 51 #[.pointer (some ⟨R, 0, none⟩), .int .i64 n] w fun e w' => ∃ v', e = .returned v' ∧ OwnB w' w.heap.size v' ((l.drop k).take m) ∧ Rd w' R v (k + m) l ∧ Fr [R] w w' := by
  go_enter Try.func51, Try.ntmps51
  go_wp2_with fail
  refine (next_ok hR n m hm hle).mono ?_
  rintro e w1 ⟨v', rfl, hR1, hF1, hB1, ha1⟩
  have H1 := Lib.hid hB1; have H2 := Lib.hid hR1; have H3 := Lib.hid hF1
  clear hB1 hR1 hF1 ha1 hm
  go_wp2_with fail
  refine (cloneB_any H1.out (by have := hR.small; simp; omega)).mono ?_
  rintro e w2 ⟨v2, rfl, hO, hF2⟩
  go_wp2_with fail
  go_ret
  exact ⟨_, rfl, hO.mono H3.out.size, H2.out.keep hF2, H3.out.quiet hF2⟩

set_option maxHeartbeats 400000 in
theorem take_short {w : World} {R : Nat} {v : Value} {k : Nat} {l : List UInt8} (hR : Rd w R v k l) (n : Int) (h : (l.length : Int) - k < n) :
    Calls Try.prog 51 #[.pointer (some ⟨R, 0, none⟩), .int .i64 n] w fun e w' => e = .panicked (faultOf 20) ∧ ∃ n, w' = w.drewN n := by
  go_enter Try.func51, Try.ntmps51
  go_wp2_with fail
  refine (next_short hR n h).mono ?_
  rintro e w1 ⟨rfl, n, rfl⟩
  exact ⟨rfl, rfl, _, rfl⟩

end Go.Proofs.Ytcmpjkopdjncdaa
