import Derived.Deep.RegionLaw
import Derived.Test.YtcmpjkopdjncdaaMw4
import Derived.Test.YtcmpjkopdjncdaaMw5
/- The walks of wire.Writer. -/
namespace Go.Proofs.Ytcmpjkopdjncdaa
open Go.RowKit

theorem one_cells (w : World) (u : Value) (t : TypeId) : ∀ (j : Nat) (x : Value), [u][j]? = some x → (w.alloc (.cells #[u] t)).drew.cell? ((⟨w.heap.size, 0, none⟩ : Addr).add j) = some x := by
  intro j x hj
  match j, hj with
  | 0, hj =>
    simp only [List.getElem?_cons_zero, Option.some.injEq] at hj
    subst hj
    simp [Addr.add]
/-- A writer at block W, that has written l into the slice v. -/
structure Wr (w : World) (W : Nat) (v : Value) (base : Nat) (l : List UInt8) : Prop where
  box : Box w W 73 #[v]
  own : OwnB w base v l
  low : W < base
  size : base ≤ w.heap.size
/-- One step of a writer: what it has written now, and what has turned. -/
structure WS (w w' : World) (W : Nat) (v v' : Value) (base : Nat) (l : List UInt8) : Prop where
  wr : Wr w' W v' base l
  fr : Fr (W :: (blockOf v).toList) w w'
  fresh : ∀ b, blockOf v' = some b → (blockOf v = some b ∨ w.heap.size ≤ b)
theorem WS.trans {w w1 w2 : World} {W : Nat} {v v1 v2 : Value} {base : Nat} {l l' : List UInt8} (h : WS w w1 W v v1 base l) (k : WS w1 w2 W v1 v2 base l') : WS w w2 W v v2 base l' := by
  refine ⟨k.wr, h.fr.step k.fr (fun x hx => ?_), fun b hb => ?_⟩
  · simp only [List.mem_cons, Option.mem_toList] at hx
    rcases hx with rfl | hx
    · exact .inl (by simp)
    · rcases h.fresh x hx with h1 | h1
      · exact .inl (by simp [h1])
      · exact .inr h1
  · rcases k.fresh b hb with h1 | h1
    · exact h.fresh b h1
    · exact .inr (Nat.le_trans h.fr.size h1)
theorem WS.quiet {w w1 w2 : World} {W : Nat} {v v1 : Value} {base : Nat} {l : List UInt8} (h : WS w w1 W v v1 base l) (k : Fr [] w1 w2) : WS w w2 W v v1 base l :=
  ⟨⟨h.wr.box.keep k, h.wr.own.keep k, h.wr.low, Nat.le_trans h.wr.size k.size⟩, h.fr.quiet k, h.fresh⟩
theorem WS.start {w : World} {W : Nat} {v : Value} {base : Nat} {l : List UInt8} (h : Wr w W v base l) : WS w w W v v base l := ⟨h, Fr.refl _ _, fun _ hb => .inl hb⟩
/-- What a call that made the writer has turned. -/
theorem WS.outer {w0 w w' : World} {W : Nat} {v v' : Value} {base : Nat} {l l0 : List UInt8} (h : WS w w' W v v' base l) (h0 : Wr w W v base l0) (hF : Fr [] w0 w) (hW : w0.heap.size ≤ W) : Fr [] w0 w' :=
  hF.step h.fr (fun x hx => .inr (by
    simp only [List.mem_cons, Option.mem_toList] at hx
    rcases hx with rfl | hx
    · exact hW
    · have := (h0.own.block x hx).1; have := h0.low; omega))
/-- A number's bytes, the highest first. -/
def beN (n m : Nat) : List UInt8 := (List.range m).map fun j => UInt8.ofNat (n / 256 ^ (m - 1 - j))
theorem beN_len (n m : Nat) : (beN n m).length = m := by simp [beN]

theorem shr_bytes (n k : Nat) (hk : k ≤ 7) : Op.shift .shr .u64 (n : Int) .i64 ((8 * k : Nat) : Int) = pure (.int .u64 ((n / 256 ^ k : Nat) : Int)) := by
  rw [shift_shr .u64 .i64 _ _ (by omega) (by show ((8 * k : Nat) : Int) ≤ 64; omega)]
  have : (2 : Int) ^ ((8 * k : Nat) : Int).toNat = ((256 ^ k : Nat) : Int) := by
    rw [Int.toNat_natCast]
    match k, hk with
    | 0, _ | 1, _ | 2, _ | 3, _ | 4, _ | 5, _ | 6, _ | 7, _ => rfl
  rw [this]
  rfl
theorem shr_bytes2 (n k : Nat) (hk : k ≤ 7) : (n : Int) / 2 ^ (8 * (k : Int)).toNat = ((n / 256 ^ k : Nat) : Int) := by
  have : (2 : Int) ^ (8 * (k : Int)).toNat = ((256 ^ k : Nat) : Int) := by
    rw [show (8 * (k : Int)) = ((8 * k : Nat) : Int) from by omega, Int.toNat_natCast]
    match k, hk with
    | 0, _ | 1, _ | 2, _ | 3, _ | 4, _ | 5, _ | 6, _ | 7, _ => rfl
  rw [this]
  rfl
theorem wrap_u8_nat (n : Nat) : IntKind.u8.wrap (n : Int) = ((n % 256 : Nat) : Int) := by
  rw [IntKind.wrap_u8]; omega
set_option maxRecDepth 100000 in
set_option maxHeartbeats 1000000 in
theorem wnum_any {w : World} {W base : Nat} {v : Value} {l : List UInt8} (hW : Wr w W v base l) (n m : Nat) (hn : n < 18446744073709551616) (hm : m ≤ 8) (hl : l.length ≤ 1099511627776) :
    Calls Try.prog 67 #[.pointer (some ⟨W, 0, none⟩), .int .u64 n, .int .i64 m] w fun e w' => ∃ v', e = .returned (.tuple #[]) ∧ WS w w' W v v' base (l ++ beN n m) := by
  have HN := Lib.hid hn
  clear hn
  have HW := Lib.hid hW
  clear hW
  go_enter Try.func67, Try.ntmps67
  go_wp2_with fail
  go_loopw [8] (fun i wr => ∃ (j : Nat) (vr : Value), j ≤ m ∧ i = .int .i64 j ∧ Wr wr W vr base (l ++ (beN n m).take j) ∧ Fr (W :: (blockOf v).toList) w wr ∧ ∀ b, blockOf vr = some b → (blockOf v = some b ∨ w.heap.size ≤ b)) (fun i _ => m - (intOf i).toNat)
  case atStart => exact ⟨0, v, Nat.zero_le _, rfl, by simpa using HW.out, Fr.refl _ _, fun b hb => .inl hb⟩
  case round =>
    obtain ⟨j, vr, hj, rfl, hWr, hF, hbl⟩ := hrel
    have H1 := Lib.hid hWr; have H2 := Lib.hid hF; have H3 := Lib.hid hbl
    by_cases hlt : j < m
    · have b0 := hWr.box.cell 0; have f0 := hWr.box.free 0
      simp only [List.getElem?_toArray, List.getElem?_cons_zero] at b0
      have hWlt : W < wr.heap.size := hWr.box.lt
      have b0' : ∀ o, (wr.alloc o).cell? ⟨W, 0, none⟩ = some vr := fun o => by rw [World.cell?_alloc_past o W 0 hWlt]; exact b0
      clear hWr hF hbl
      have hw1 : IntKind.i64.wrap ((m : Int) - 1) = ((m - 1 : Nat) : Int) := by rw [IntWalk.i64_in _ (by omega)]; omega
      have hw2 : IntKind.i64.wrap (((m - 1 : Nat) : Int) - (j : Int)) = ((m - 1 - j : Nat) : Int) := by rw [IntWalk.i64_in _ (by omega)]; omega
      have hw3 : IntKind.i64.wrap (8 * ((m - 1 - j : Nat) : Int)) = ((8 * (m - 1 - j) : Nat) : Int) := by rw [IntWalk.i64_in _ (by omega)]; omega
      have hsh := shr_bytes2 n (m - 1 - j) (by omega)
      have hsk := shr_bytes n (m - 1 - j) (by omega)
      have hu8 := wrap_u8_nat (n / 256 ^ (m - 1 - j))
      generalize hq : n / 256 ^ (m - 1 - j) = q at hsh hsk hu8
      have HQ := Lib.hid hq
      clear hq
      go_wp2_with fail
      have A0 := Lib.hid (show ((wr.alloc (.cells #[.int .u8 ((q % 256 : Nat) : Int)] 5)).drew).ownsRow base 5 1 vr (l ++ (beN n m).take j).length ((l ++ (beN n m).take j).map B8) from H1.out.own.keep (((Fr.refl [] wr).alloc _).drew))
      have hlen : (l ++ (beN n m).take j).length ≤ 1099511627784 := by rw [List.length_append, List.length_take, beN_len]; omega
      have A1 := Lib.hid (show (l ++ (beN n m).take j).length + [Value.int .u8 ((q % 256 : Nat) : Int)].length ≤ maxLen by unfold maxLen; simp only [List.length_singleton]; omega)
      have A2 := Lib.hid (show ((l ++ (beN n m).take j).length + [Value.int .u8 ((q % 256 : Nat) : Int)].length) * 1 ≤ 140737488355328 by simp only [List.length_singleton]; omega)
      have A3 := Lib.hid (show base ≤ ((wr.alloc (.cells #[.int .u8 ((q % 256 : Nat) : Int)] 5)).drew).heap.size by have := H1.out.size; simp; omega)
      clear hlen
      go_region_law (refine step_append_fr rfl (.tmp 15) (.tmp 24) 22 rfl base 5 (.int .u8 0) 1 1 Try.underlying22 info_u8 rfl (by omega) vr (l ++ (beN n m).take j).length ((l ++ (beN n m).take j).map B8) rfl A0.out ⟨wr.heap.size, 0, none⟩ 1 1 [.int .u8 ((q % 256 : Nat) : Int)] rfl rfl (one_cells wr (.int .u8 ((q % 256 : Nat) : Int)) 5) (oneCell_int .u8 ((q % 256 : Nat) : Int)) A1.out A2.out A3.out ?_; intro v' w2 ho hg hfresh _; obtain ⟨a2, n2, c2, rfl⟩ := (Sl.ofOwn ho).isSlice; have HO := Lib.hid ho; have HF := Lib.hid (((Fr.refl (blockOf vr).toList wr).alloc (.cells #[.int .u8 ((q % 256 : Nat) : Int)] 5)).drew.trans hg); have HB := Lib.hid (H1.out.box.fr HF.out (fun hm => by have := H1.out.own.block W (by simpa using hm); have := H1.out.low; omega)); have HG := Lib.hid hfresh; clear ho hg hfresh; have g0 := HB.out.cell 0; have gf := HB.out.free 0; simp only [List.getElem?_toArray, List.getElem?_cons_zero] at g0)
      all_goals
        obtain ⟨w3, e3, hF3, hB3, hs3⟩ := set_new HB.out 0 (.slice a2 n2 c2)
        rw [e3]
        have hO3 : OwnB w3 base (.slice a2 n2 c2) (l ++ (beN n m).take (j + 1)) := by
          have h1 := HO.out
          have e : l ++ (beN n m).take (j + 1) = (l ++ (beN n m).take j) ++ [UInt8.ofNat q] := by
            rw [List.append_assoc, List.take_succ_eq_append_getElem (by rw [beN_len]; exact hlt)]
            simp [beN, HQ.out]
          have h2 : OwnB w2 base (.slice a2 n2 c2) (l ++ (beN n m).take (j + 1)) := by
            unfold OwnB
            rw [e, List.map_append, List.length_append]
            exact h1
          exact h2.low hF3 (by have := H1.out.low; simp; omega)
        have hF4 := HF.out.mono (T := W :: (blockOf vr).toList) (fun x hx => by simp [hx])
        have hF5 := hF4.trans (hF3.mono (T := W :: (blockOf vr).toList) (by simp))
        have hF6 := H2.out.step hF5 (fun x hx => by
          simp only [List.mem_cons, Option.mem_toList] at hx
          rcases hx with rfl | hx
          · exact .inl (by simp)
          · rcases H3.out x hx with h | h
            · exact .inl (by simp [h])
            · exact .inr h)
        have hS := H1.out.size
        have hbl : ∀ b, blockOf (.slice a2 n2 c2) = some b → (blockOf v = some b ∨ w.heap.size ≤ b) := fun b hb => by
          rcases HG.out b hb with h | h
          · exact H3.out b h
          · have := H2.out.size
            simp at h
            exact .inr (by omega)
        have HW3 : Wr w3 W (.slice a2 n2 c2) base (l ++ (beN n m).take (j + 1)) := ⟨hB3, hO3, H1.out.low, Nat.le_trans hS hF5.size⟩
        have K1 := Lib.hid HW3; have K2 := Lib.hid hF6; have K3 := Lib.hid hbl
        clear HW3 hF6 hbl hF4 hF5 hF3 hB3 hO3 hs3 hsh hsk hu8 hw1 hw2 hw3 b0 b0' f0 e3
        go_wp2_with fail
        go_roundw
        case rel => exact ⟨j + 1, _, by omega, by go_num, K1.out, K2.out, K3.out⟩
        case measure => simp [intOf]; omega
    · obtain rfl : j = m := by omega
      clear hWr hF hbl
      go_wp2_with fail
      go_end0
      exact ⟨vr, rfl, by have := H1.out; rwa [List.take_of_length_le (by rw [beN_len]; exact Nat.le_refl _)] at this, H2.out, H3.out⟩

set_option maxHeartbeats 400000 in
theorem wword_any {w : World} {W base : Nat} {v : Value} {l : List UInt8} (hW : Wr w W v base l) (n : Nat) (hn : n < 65536) (hl : l.length ≤ 1099511627776) :
    Calls Try.prog 33 #[.pointer (some ⟨W, 0, none⟩), .int .u16 n] w fun e w' => ∃ v', e = .returned (.tuple #[]) ∧ WS w w' W v v' base (l ++ beN n 2) := by
  go_enter Try.func33, Try.ntmps33
  go_wp2_with fail
  refine (wnum_any hW n 2 (by omega) (by omega) hl).mono ?_
  rintro e w1 ⟨v', rfl, h⟩
  go_wp2_with fail
  go_end0
  exact ⟨v', rfl, h⟩

set_option maxHeartbeats 400000 in
theorem wlong_any {w : World} {W base : Nat} {v : Value} {l : List UInt8} (hW : Wr w W v base l) (n : Nat) (hn : n < 4294967296) (hl : l.length ≤ 1099511627776) :
    Calls Try.prog 62 #[.pointer (some ⟨W, 0, none⟩), .int .u32 n] w fun e w' => ∃ v', e = .returned (.tuple #[]) ∧ WS w w' W v v' base (l ++ beN n 4) := by
  go_enter Try.func62, Try.ntmps62
  go_wp2_with fail
  refine (wnum_any hW n 4 (by omega) (by omega) hl).mono ?_
  rintro e w1 ⟨v', rfl, h⟩
  go_wp2_with fail
  go_end0
  exact ⟨v', rfl, h⟩

/-- A byte out of an int. -/
def ib (n : Int) : UInt8 := UInt8.ofNat (n % 256).toNat
set_option maxHeartbeats 400000 in
theorem wbyte_any {w : World} {W base : Nat} {v : Value} {l : List UInt8} (hW : Wr w W v base l) (n : Int) (hl : l.length ≤ 1099511627776) :
    Calls Try.prog 32 #[.pointer (some ⟨W, 0, none⟩), .int .i64 n] w fun e w' => ∃ v', e = .returned (.tuple #[]) ∧ WS w w' W v v' base (l ++ [ib n]) := by
  have hq : ∃ q : Nat, IntKind.u64.wrap n = (q : Int) ∧ q < 18446744073709551616 ∧ beN q 1 = [ib n] := by
    refine ⟨(n % 18446744073709551616).toNat, ?_, by omega, ?_⟩
    · rw [IntKind.wrap_u64]; omega
    · simp only [beN, List.range_one, List.map_cons, List.map_nil, Nat.sub_self, Nat.pow_zero, Nat.div_one, ib, List.cons.injEq, and_true]
      rw [← UInt8.toNat_inj]
      simp only [UInt8.toNat_ofNat']
      omega
  obtain ⟨q, hq1, hq2, hq3⟩ := hq
  have HQ := Lib.hid hq2; have HE := Lib.hid hq3
  clear hq2 hq3
  go_enter Try.func32, Try.ntmps32
  go_wp2_with fail
  refine (wnum_any hW q 1 HQ.out (by omega) hl).mono ?_
  rintro e w1 ⟨v', rfl, h⟩
  go_wp2_with fail
  go_end0
  exact ⟨v', rfl, by rw [← HE.out]; exact h⟩

set_option maxHeartbeats 400000 in
theorem wput_any {w : World} {W base : Nat} {v : Value} {l : List UInt8} (hW : Wr w W v base l) {vx : Value} {x : List UInt8} (hx : Bytes w vx x) (hxl : x.length ≤ 1099511627776) (hl : l.length ≤ 1099511627776) :
    Calls Try.prog 34 #[.pointer (some ⟨W, 0, none⟩), vx] w fun e w' => ∃ v', e = .returned (.tuple #[]) ∧ WS w w' W v v' base (l ++ x) := by
  have HW := Lib.hid hW; have HX := Lib.hid hx
  have b0 := hW.box.cell 0; have f0 := hW.box.free 0
  simp only [List.getElem?_toArray, List.getElem?_cons_zero] at b0
  have A1 := Lib.hid (show l.length + (x.map B8).length ≤ maxLen by unfold maxLen; rw [List.length_map]; omega)
  have A2 := Lib.hid (show (l.length + (x.map B8).length) * 1 ≤ 140737488355328 by rw [List.length_map]; omega)
  clear hW hx
  go_enter Try.func34, Try.ntmps34
  go_wp2_with (at_builtin; refine wpList_append_slf rfl (.tmp 8) (.tmp 9) 22 rfl base 5 (.int .u8 0) 1 Try.underlying22 info_u8 rfl v l.length (l.map B8) rfl HW.out.own vx (x.map B8) rfl HX.out (oneCell_B8 x) A1.out A2.out HW.out.size ?_; intro v' w2 ho hg hfr; obtain ⟨a2, n2, c2, rfl⟩ := (Sl.ofOwn ho).isSlice; have HO := Lib.hid ho; have HF := Lib.hid hg; have HG := Lib.hid hfr; clear ho hg hfr; have HB := Lib.hid (HW.out.box.fr HF.out (fun hm => by have := HW.out.own.block W (by simpa using hm); have := HW.out.low; omega)); have g0 := HB.out.cell 0; have gf := HB.out.free 0; simp only [List.getElem?_toArray, List.getElem?_cons_zero] at g0; clear b0 f0)
  go_end0
  obtain ⟨w3, e3, hF3, hB3, hs3⟩ := set_new HB.out 0 (.slice a2 n2 c2)
  rw [e3]
  have hO3 : OwnB w2 base (.slice a2 n2 c2) (l ++ x) := by
    have := HO.out
    unfold OwnB
    rw [List.map_append, List.length_append]
    simpa using this
  have hF4 := (HF.out.mono (T := W :: (blockOf v).toList) (fun y hy => by simp [hy])).trans (hF3.mono (T := W :: (blockOf v).toList) (by simp))
  exact ⟨_, rfl, ⟨hB3, hO3.low hF3 (by have := HW.out.low; simp; omega), HW.out.low, Nat.le_trans HW.out.size hF4.size⟩, hF4, HG.out⟩

set_option maxHeartbeats 400000 in
theorem wdone_any {w : World} {W base : Nat} {v : Value} {l : List UInt8} (hW : Wr w W v base l) (hl : l.length ≤ 1099511627776) :
    Calls Try.prog 36 #[.pointer (some ⟨W, 0, none⟩)] w fun e w' => ∃ v', e = .returned v' ∧ OwnB w' w.heap.size v' l ∧ Fr [] w w' := by
  have HW := Lib.hid hW
  have b0 := hW.box.cell 0
  simp only [List.getElem?_toArray, List.getElem?_cons_zero] at b0
  clear hW
  go_enter Try.func36, Try.ntmps36
  go_wp2_with fail
  refine (cloneB_any HW.out.own.bytes hl).mono ?_
  rintro e w1 ⟨v', rfl, hO, hF⟩
  have H1 := Lib.hid hO; have H2 := Lib.hid hF
  clear hO hF
  go_wp2_with fail
  go_ret
  exact ⟨v', rfl, H1.out, H2.out⟩
end Go.Proofs.Ytcmpjkopdjncdaa

/- RTCP: items, and what bytes read as. No program in sight. -/
namespace Go.Proofs.Ytcmpjkopdjncdaa

/-- A report. -/
structure Rpt where
  ssrc : UInt32
  loss : Int
  lost : Int
  hi : UInt32
  jit : UInt32
  lsr : UInt32
  dly : UInt32
/-- Texts of a source. -/
structure Chk where
  ssrc : UInt32
  texts : List (Int × List UInt8)
/-- A part of a compound packet. -/
structure Itm where
  kind : Int
  ssrc : UInt32
  ntp : UInt64
  ts : UInt32
  pks : UInt32
  ocs : UInt32
  reps : List Rpt
  chks : List Chk
  srcs : List UInt32
  reason : List UInt8
def Itm.zero (kind : Int) : Itm := ⟨kind, 0, 0, 0, 0, 0, [], [], [], []⟩
def l32 (l : List UInt8) (k : Nat) : UInt32 := UInt32.ofNat (nb l k 4)
def l64 (l : List UInt8) (k : Nat) : UInt64 := UInt64.ofNat (nb l k 8)
def sgn24 (n : Nat) : Int := if n ≥ 8388608 then (n : Int) - 16777216 else n
def rptAt (l : List UInt8) (k : Nat) : Rpt := ⟨l32 l k, nb l (k + 4) 1, sgn24 (nb l (k + 5) 1 * 65536 + nb l (k + 6) 2), l32 l (k + 8), l32 l (k + 12), l32 l (k + 16), l32 l (k + 20)⟩
def rpt1 (l : List UInt8) (k : Nat) : Option (Rpt × Nat) := if k + 24 ≤ l.length then some (rptAt l k, k + 24) else none
def src1 (l : List UInt8) (k : Nat) : Option (UInt32 × Nat) := if k + 4 ≤ l.length then some (l32 l k, k + 4) else none
/-- Texts from a place on, behind the zero that ends them. -/
def textsR (l : List UInt8) : Nat → Nat → Option (List (Int × List UInt8) × Nat)
  | 0, _ => none
  | f + 1, k =>
    if k + 1 ≤ l.length then
      if nb l k 1 = 0 then some ([], k + 1)
      else if k + 2 ≤ l.length then
        if k + 2 + nb l (k + 1) 1 ≤ l.length then (textsR l f (k + 2 + nb l (k + 1) 1)).map fun r => (((nb l k 1 : Nat), (l.drop (k + 2)).take (nb l (k + 1) 1)) :: r.1, r.2)
        else none
      else none
    else none
/-- So many zeros. -/
def zerosR (l : List UInt8) : Nat → Nat → Bool
  | 0, _ => true
  | m + 1, k => k + 1 ≤ l.length && nb l k 1 == 0 && zerosR l m (k + 1)
def padOf (n : Nat) : Nat := (4 - n % 4) % 4
def chk1 (l : List UInt8) (k : Nat) : Option (Chk × Nat) :=
  if k + 4 ≤ l.length then
    match textsR l (l.length + 1) (k + 4) with
    | none => none
    | some (ts, e) => if zerosR l (padOf (e - k)) e then some (⟨l32 l k, ts⟩, e + padOf (e - k)) else none
  else none
/-- So many things, one behind the other. -/
def timesR {α : Type} (P : Nat → Option (α × Nat)) : Nat → Nat → Option (List α × Nat)
  | 0, k => some ([], k)
  | n + 1, k => match P k with
    | none => none
    | some (a, k1) => (timesR P n k1).map fun r => (a :: r.1, r.2)
def reasonR (l : List UInt8) (k : Nat) : Option (List UInt8 × Nat) :=
  if k = l.length then some ([], k)
  else if nb l k 1 = 0 then none
  else if k + 1 + nb l k 1 ≤ l.length then
    if zerosR l (padOf (nb l k 1 + 1)) (k + 1 + nb l k 1) then some ((l.drop (k + 1)).take (nb l k 1), k + 1 + nb l k 1 + padOf (nb l k 1 + 1)) else none
  else none
/-- An item's body, and how much of the bytes it took. -/
def bodyK (kind : Int) (n : Nat) (l : List UInt8) : Option (Itm × Nat) :=
  if kind = 200 then
    if 24 ≤ l.length then (timesR (rpt1 l) n 24).map fun r => ({ Itm.zero 200 with ssrc := l32 l 0, ntp := l64 l 4, ts := l32 l 12, pks := l32 l 16, ocs := l32 l 20, reps := r.1 }, r.2) else none
  else if kind = 201 then
    if 4 ≤ l.length then (timesR (rpt1 l) n 4).map fun r => ({ Itm.zero 201 with ssrc := l32 l 0, reps := r.1 }, r.2) else none
  else if kind = 202 then (timesR (chk1 l) n 0).map fun r => ({ Itm.zero 202 with chks := r.1 }, r.2)
  else if kind = 203 then
    match timesR (src1 l) n 0 with
    | none => none
    | some (ss, k) => (reasonR l k).map fun r => ({ Itm.zero 203 with srcs := ss, reason := r.1 }, r.2)
  else none
def bodyR (kind : Int) (n : Nat) (l : List UInt8) : Option Itm := match bodyK kind n l with
  | some (x, k) => if k = l.length then some x else none
  | none => none
/-- An item, and how much of the bytes it took. -/
def itemR (l : List UInt8) : Except Int (Itm × Nat) :=
  if 1 ≤ l.length then
    if nb l 0 1 / 32 = 4 then
      if 4 ≤ l.length then
        if 4 + 4 * nb l 2 2 ≤ l.length then
          match bodyR (nb l 1 1) (nb l 0 1 % 32) ((l.drop 4).take (4 * nb l 2 2)) with
          | some x => .ok (x, 4 + 4 * nb l 2 2)
          | none => .error 21
        else .error 20
      else .error 20
    else .error 21
  else .error 20
/-- Items, one behind the other. -/
def eachR : Nat → List UInt8 → Except Int (List Itm)
  | 0, _ => .ok []
  | f + 1, l =>
    if l.length = 0 then .ok []
    else match itemR l with
      | .error e => .error e
      | .ok (x, n) => match eachR f (l.drop n) with
        | .error e => .error e
        | .ok xs => .ok (x :: xs)
def begins7 (x : Itm) : Bool := x.kind == 200 || x.kind == 201
/-- What rtcp.Parse reads. -/
def parse7 (l : List UInt8) : Except Int (List Itm) :=
  if 1500 < l.length then .error 2
  else match eachR (l.length + 1) l with
    | .error e => .error e
    | .ok [] => .error 4
    | .ok (x :: xs) => if begins7 x then .ok (x :: xs) else .error 21
theorem itemR_pos {l : List UInt8} {x : Itm} {n : Nat} (h : itemR l = .ok (x, n)) : 4 ≤ n ∧ n ≤ l.length := by
  unfold itemR at h
  split at h
  · split at h
    · split at h
      · split at h
        · split at h
          · cases h; omega
          · cases h
        · cases h
      · cases h
    · cases h
  · cases h
theorem itemR_err {l : List UInt8} {k : Int} (h : itemR l = .error k) : k = 20 ∨ k = 21 := by
  unfold itemR at h
  split at h
  · split at h
    · split at h
      · split at h
        · split at h
          · cases h
          · cases h; simp
        · cases h; simp
      · cases h; simp
    · cases h; simp
  · cases h; simp
theorem timesR_snoc {α : Type} {P : Nat → Option (α × Nat)} : ∀ {n k : Nat} {xs : List α} {k1 : Nat}, timesR P n k = some (xs, k1) → ∀ {a : α} {k2 : Nat}, P k1 = some (a, k2) → timesR P (n + 1) k = some (xs ++ [a], k2)
  | 0, k, xs, k1, h, a, k2, ha => by
    cases h
    unfold timesR
    rw [ha]
    rfl
  | n + 1, k, xs, k1, h, a, k2, ha => by
    unfold timesR at h ⊢
    cases hp : P k with
    | none => rw [hp] at h; cases h
    | some p =>
      obtain ⟨b, kb⟩ := p
      rw [hp] at h
      simp only at h ⊢
      cases ht : timesR P n kb with
      | none => rw [ht] at h; cases h
      | some r =>
        rw [ht] at h
        cases h
        rw [timesR_snoc (n := n) (k := kb) (xs := r.1) (k1 := r.2) (by rw [ht]) ha]
        rfl
theorem timesR_fail {α : Type} {P : Nat → Option (α × Nat)} : ∀ {m : Nat} {n k : Nat} {xs : List α} {k1 : Nat}, timesR P n k = some (xs, k1) → P k1 = none → timesR P (n + 1 + m) k = none
  | m, 0, k, xs, k1, h, ha => by
    cases h
    rw [Nat.zero_add, Nat.add_comm]
    unfold timesR
    rw [ha]
  | m, n + 1, k, xs, k1, h, ha => by
    rw [show n + 1 + 1 + m = (n + 1 + m) + 1 by omega]
    unfold timesR at h ⊢
    cases hp : P k with
    | none => rw [hp] at h
    | some p =>
      obtain ⟨b, kb⟩ := p
      rw [hp] at h
      simp only at h ⊢
      cases ht : timesR P n kb with
      | none => rw [ht] at h; cases h
      | some r =>
        rw [ht] at h
        cases h
        rw [timesR_fail (m := m) (n := n) (k := kb) (xs := r.1) (k1 := r.2) (by rw [ht]) ha]
        rfl
end Go.Proofs.Ytcmpjkopdjncdaa

/- Numbers of bytes, cut in two. No program in sight. -/
namespace Go.Proofs.Ytcmpjkopdjncdaa

theorem be_app (a : List UInt8) : ∀ b : List UInt8, be (a ++ b) = be a * 256 ^ b.length + be b := by
  intro b
  unfold be
  rw [List.foldl_append]
  generalize List.foldl (fun a c => a * 256 + UInt8.toNat c) 0 a = n
  induction b generalizing n with
  | nil => simp
  | cons c b ih =>
    rw [List.foldl_cons, ih (n * 256 + c.toNat), List.foldl_cons, ih (0 * 256 + c.toNat), List.length_cons, Nat.pow_succ]
    rw [Nat.zero_mul, Nat.zero_add, Nat.add_mul, Nat.mul_assoc, Nat.mul_comm 256, Nat.add_assoc]
theorem nb_split {l : List UInt8} {k m n : Nat} (h : k + m + n ≤ l.length) : nb l k (m + n) = nb l k m * 256 ^ n + nb l (k + m) n := by
  unfold nb
  have e : (l.drop k).take (m + n) = (l.drop k).take m ++ (l.drop (k + m)).take n := by
    rw [List.take_add, List.drop_drop]
  rw [e, be_app]
  congr 3
  rw [List.length_take, List.length_drop]
  omega
end Go.Proofs.Ytcmpjkopdjncdaa
