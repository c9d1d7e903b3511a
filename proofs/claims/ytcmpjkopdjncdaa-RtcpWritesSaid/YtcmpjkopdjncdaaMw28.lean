import Derived.Test.YtcmpjkopdjncdaaMw6
import Derived.Test.YtcmpjkopdjncdaaMw27
import Derived.Test.YtcmpjkopdjncdaaMw14
import Derived.Test.YtcmpjkopdjncdaaMw17
import Derived.Test.YtcmpjkopdjncdaaMw10
import Derived.Test.YtcmpjkopdjncdaaMw16
import Derived.Test.YtcmpjkopdjncdaaMw15
/- The walk of confluxref12.All; imprints as elements of slices (printed by gen_imp14.py). -/
namespace Go.Proofs.Ytcmpjkopdjncdaa
open Go.RowKit

/-- An imprint as nine cells; the reference's as two. -/
def BtR (w : World) (c : List Value) (x : Bt) (B : List Nat) : Prop := ∃ vb, c = (bc x vb).toList ∧ Bytes w vb x.body ∧ B = (liveOf vb).toList
def RbR (w : World) (c : List Value) (x : Bt) (B : List Nat) : Prop := ∃ vh vb, c = [vh, vb] ∧ Bytes w vh x.head ∧ Bytes w vb x.body ∧ B = (liveOf vh).toList ++ (liveOf vb).toList
theorem slice_one {w : World} {v : Value} {xs : List Value} (h : Sl w v xs) : v.oneCell' = true := by
  obtain ⟨a, c, rfl⟩ := h.shape
  rfl
theorem Rep.bt : Rep 9 BtR where
  len := by rintro w c y B ⟨vb, rfl, -, -⟩; rfl
  one := by
    rintro w c y B ⟨vb, rfl, h, -⟩ u hu
    simp [bc] at hu
    rcases hu with rfl | rfl | rfl | rfl | rfl | rfl | rfl | rfl | rfl
    all_goals first | rfl | exact slice_one h
  lt := by
    rintro w c y B ⟨vb, rfl, h, rfl⟩ b hb
    exact Sl.lt h b (by simpa using hb)
  fr := by
    rintro w w' c y B S ⟨vb, rfl, h, rfl⟩ hf hS
    exact ⟨vb, rfl, Sl.frL h hf (fun b hb => hS b (by simp [hb])), rfl⟩
theorem Rep.rb : Rep 2 RbR where
  len := by rintro w c y B ⟨vh, vb, rfl, -, -, -⟩; rfl
  one := by
    rintro w c y B ⟨vh, vb, rfl, h1, h2, -⟩ u hu
    simp only [List.mem_cons, List.not_mem_nil, or_false] at hu
    rcases hu with rfl | rfl
    · exact slice_one h1
    · exact slice_one h2
  lt := by
    rintro w c y B ⟨vh, vb, rfl, h1, h2, rfl⟩ b hb
    rcases List.mem_append.1 hb with hb | hb
    · exact Sl.lt h1 b (by simpa using hb)
    · exact Sl.lt h2 b (by simpa using hb)
  fr := by
    rintro w w' c y B S ⟨vh, vb, rfl, h1, h2, rfl⟩ hf hS
    exact ⟨vh, vb, rfl, Sl.frL h1 hf (fun b hb => hS b (by simp [hb])), Sl.frL h2 hf (fun b hb => hS b (by simp [hb])), rfl⟩
theorem all_take (xs : List Bt) (j : Nat) (h : j < xs.length) : Bt.all (xs.take (j + 1)) = (Bt.all (xs.take j)).add xs[j] := by
  rw [List.take_succ_eq_append_getElem h, bt_all_snoc]
theorem all_small {xs : List Bt} {n : Nat} (h : ∀ x ∈ xs, x.body.length ≤ n) : (Bt.all xs).body.length ≤ n := Bt.fold_small _ _ _ (by simp [Bt.zero]) h

end Go.Proofs.Ytcmpjkopdjncdaa

/- Small lemmas on boxes, elements and imprints (out of the walk of ImprintFolds). -/
namespace Go.Proofs.Ytcmpjkopdjncdaa
open Go.RowKit

set_option maxRecDepth 100000 in
theorem info_u8s : (Try.prog.info? 22).map (fun i => (i.zero, i.size, i.bytes)) = some (some (.slice none 0 0), 1, 24) := by kernel_rfl
theorem box_range {w : World} {g : Nat} {t : TypeId} {c : Array Value} (h : Box w g t c) : w.rangeAt g 0 c.toList := fun j u hj => by
  rw [Nat.zero_add, h.cell, ← Array.getElem?_toList]
  exact hj
theorem mem_toList {b : Nat} {o : Option Nat} : b ∈ o.toList ↔ o = some b := by cases o <;> simp [eq_comm]
theorem OwnEls.open_ {α : Type} {k : Nat} {R : World → List Value → α → List Nat → Prop} {w : World} {base : Nat} {e : TypeId} {a : Option Addr} {n cap : Nat} {ys : List α} {B : List Nat} (h : OwnEls k R w base e (.slice a n cap) ys B) (hb : ∃ g, blockOf (.slice a n cap) = some g) :
    ∃ g o cells, a = some ⟨g, o, none⟩ ∧ base ≤ g ∧ g < w.heap.size ∧ Els R ys w cells B ∧ w.rangeAt g o cells ∧ n = ys.length := by
  obtain ⟨cells, ⟨h1, h | ⟨g, cap', cur, e1, h2, h3, h4, h5, h6, h7⟩⟩, h8, h9⟩ := h
  · obtain ⟨h, _⟩ := h
    obtain ⟨g, hg⟩ := hb
    rw [h] at hg
    simp [blockOf] at hg
  · simp only [Value.slice.injEq] at e1
    obtain ⟨rfl, rfl, rfl⟩ := e1
    refine ⟨g, 0, cells, rfl, h2, (Array.getElem?_eq_some_iff.1 h3).1, h8, fun i x hx => ?_, rfl⟩
    rw [Nat.zero_add, cell_of_row w g i cur _ _ h3, ← Array.getElem?_toList]
    rw [← h7, List.getElem?_take] at hx
    split at hx
    · exact hx
    · cases hx
theorem imp_small {l : List UInt8} (h : l.length ≤ 500) : (imp l).body.length ≤ 500 := by
  show (l.drop 12).length ≤ 500
  rw [List.length_drop]
  omega
theorem wpList_load_midA {P : Program} {ops : Array Oper} {rest : List Oper} {op : Oper} {a : Act} {w : World} {Q : Exit → Act → World → Prop} (hgd : op.guard = none) (ty : TypeId) (x : Operand) (ho : op.op = .load ty x)
    (b o : Nat) (hx : a.eval x = .pointer (some ⟨b, o, none⟩)) (cs : Array Value) (d : TypeDesc) (hc : w.rangeAt b o cs.toList)
    (hu : P.underlying ty = some d) (hd : d.isRow = true) (hi : (P.info? ty).map (·.size) = some cs.size)
    (h : wpList P ops Q rest (a.put op.dst (.agg cs)) w) : wpList P ops Q (op :: rest) a w :=
  wpList_load_mid hgd ty x ho b o hx cs.toList d hc hu hd hi h
theorem imp_lenb {l : List UInt8} {p : Pkt} (h : parseR l = .ok p) : (imp l).len = (imp l).body.length := by
  obtain ⟨h1, h2⟩ := parse_back h
  rw [← h2, imp_len h1, imp_bytes]
theorem and1023 (c : Int) : ∃ n : Nat, bits .and .i64 c 1023 = (n : Int) ∧ n ≤ 1023 := by
  have h : (BitVec.ofInt 64 c &&& BitVec.ofInt 64 1023).toNat ≤ 1023 := by
    rw [BitVec.toNat_and]
    exact Nat.and_le_right
  refine ⟨_, ?_, h⟩
  show IntKind.i64.wrap ((BitVec.ofInt 64 c &&& BitVec.ofInt 64 1023).toNat : Int) = _
  exact IntWalk.i64_in _ (by omega)
end Go.Proofs.Ytcmpjkopdjncdaa

/- The walks of rtcp's readers: zeros, readReport (printed by gen_7read.py). -/
namespace Go.Proofs.Ytcmpjkopdjncdaa
open Go.RowKit

theorem rbyte_or {w : World} {R : Nat} {v : Value} {k : Nat} {l : List UInt8} (hR : Rd w R v k l) :
    Calls Try.prog 47 #[.pointer (some ⟨R, 0, none⟩)] w fun e w' => (k + 1 ≤ l.length ∧ e = .returned (.int .i64 (nb l k 1)) ∧ Rd w' R v (k + 1) l ∧ Fr [R] w w') ∨ (l.length < k + 1 ∧ e = .panicked (faultOf 20) ∧ Fr [] w w') := by
  by_cases h : k + 1 ≤ l.length
  · exact (rbyte_ok hR h).mono fun e w' q => .inl ⟨h, q⟩
  · refine (rbyte_short hR (by omega)).mono fun e w' q => .inr ⟨by omega, q.1, ?_⟩
    obtain ⟨-, n, rfl⟩ := q
    exact (Fr.refl _ _).drewN n
theorem rword_or {w : World} {R : Nat} {v : Value} {k : Nat} {l : List UInt8} (hR : Rd w R v k l) :
    Calls Try.prog 49 #[.pointer (some ⟨R, 0, none⟩)] w fun e w' => (k + 2 ≤ l.length ∧ e = .returned (.int .u16 (nb l k 2)) ∧ Rd w' R v (k + 2) l ∧ Fr [R] w w') ∨ (l.length < k + 2 ∧ e = .panicked (faultOf 20) ∧ Fr [] w w') := by
  by_cases h : k + 2 ≤ l.length
  · exact (rword_ok hR h).mono fun e w' q => .inl ⟨h, q⟩
  · refine (rword_short hR (by omega)).mono fun e w' q => .inr ⟨by omega, q.1, ?_⟩
    obtain ⟨-, n, rfl⟩ := q
    exact (Fr.refl _ _).drewN n
theorem rlong_or {w : World} {R : Nat} {v : Value} {k : Nat} {l : List UInt8} (hR : Rd w R v k l) :
    Calls Try.prog 75 #[.pointer (some ⟨R, 0, none⟩)] w fun e w' => (k + 4 ≤ l.length ∧ e = .returned (.int .u32 (nb l k 4)) ∧ Rd w' R v (k + 4) l ∧ Fr [R] w w') ∨ (l.length < k + 4 ∧ e = .panicked (faultOf 20) ∧ Fr [] w w') := by
  by_cases h : k + 4 ≤ l.length
  · exact (rlong_ok hR h).mono fun e w' q => .inl ⟨h, q⟩
  · refine (rlong_short hR (by omega)).mono fun e w' q => .inr ⟨by omega, q.1, ?_⟩
    obtain ⟨-, n, rfl⟩ := q
    exact (Fr.refl _ _).drewN n
set_option maxHeartbeats 400000 in
theorem rwide_ok {w : World} {R : Nat} {v : Value} {k : Nat} {l : List UInt8} (hR : Rd w R v k l) (hle : k + 8 ≤ l.length) :
    Calls Try.prog 76 #[.pointer (some ⟨R, 0, none⟩)] w fun e w' => e = .returned (.int .u64 (nb l k 8)) ∧ Rd w' R v (k + 8) l ∧ Fr [R] w w' := by
  go_enter Try.func76, Try.ntmps76
  go_wp2_with fail
  refine (rnum_ok hR 8 (by omega) hle).mono ?_
  rintro e w1 ⟨rfl, hR1, hF1⟩
  rw [show be ((l.drop k).take 8) = nb l k 8 from rfl]
  go_wp2_with fail
  go_ret
  exact ⟨rfl, hR1, hF1⟩
set_option maxHeartbeats 400000 in
theorem rwide_or {w : World} {R : Nat} {v : Value} {k : Nat} {l : List UInt8} (hR : Rd w R v k l) :
    Calls Try.prog 76 #[.pointer (some ⟨R, 0, none⟩)] w fun e w' => (k + 8 ≤ l.length ∧ e = .returned (.int .u64 (nb l k 8)) ∧ Rd w' R v (k + 8) l ∧ Fr [R] w w') ∨ (l.length < k + 8 ∧ e = .panicked (faultOf 20) ∧ Fr [] w w') := by
  by_cases h : k + 8 ≤ l.length
  · exact (rwide_ok hR h).mono fun e w' q => .inl ⟨h, q⟩
  · go_enter Try.func76, Try.ntmps76
    go_wp2_with fail
    refine (rnum_short hR 8 (by omega)).mono ?_
    rintro e w1 ⟨rfl, n, rfl⟩
    exact ⟨rfl, .inr ⟨by omega, rfl, (Fr.refl _ _).drewN n⟩⟩
theorem take_or {w : World} {R : Nat} {v : Value} {k : Nat} {l : List UInt8} (hR : Rd w R v k l) (m : Nat) :
    Calls Try.prog 51 #[.pointer (some ⟨R, 0, none⟩), .int .i64 m] w fun e w' => (k + m ≤ l.length ∧ ∃ v', e = .returned v' ∧ OwnB w' w.heap.size v' ((l.drop k).take m) ∧ Rd w' R v (k + m) l ∧ Fr [R] w w') ∨ (l.length < k + m ∧ e = .panicked (faultOf 20) ∧ Fr [] w w') := by
  by_cases h : k + m ≤ l.length
  · exact (take_ok hR m m (by omega) h).mono fun e w' q => .inl ⟨h, q⟩
  · refine (take_short hR m (by omega)).mono fun e w' q => .inr ⟨by omega, q.1, ?_⟩
    obtain ⟨-, n, rfl⟩ := q
    exact (Fr.refl _ _).drewN n
theorem padOf_int (n : Nat) : (4 - (n : Int) % 4) % 4 = (padOf n : Nat) ∧ padOf n ≤ 3 := by
  unfold padOf
  omega
/-- A reading that ends in the middle: with whatever error. -/
def Ends (e : Ending) : Prop := ∃ c : Int, c ≠ 0 ∧ e = .panicked (faultOf c)
set_option maxRecDepth 100000 in
set_option maxHeartbeats 4000000 in
theorem tZeros_any {w : World} {R : Nat} {v : Value} {k : Nat} {l : List UInt8} (hR : Rd w R v k l) (n : Nat) (hn : n ≤ 1099511627776) :
    Calls Try.prog 89 #[.pointer (some ⟨R, 0, none⟩), .int .i64 n] w fun e w' => (zerosR l (padOf n) k = true ∧ e = .returned (.tuple #[]) ∧ Rd w' R v (k + padOf n) l ∧ Fr [R] w w') ∨ (zerosR l (padOf n) k = false ∧ Ends e ∧ Fr [R] w w') := by
  have hp := padOf_int n
  have HR := Lib.hid hR
  have HS := Lib.hid hR.small
  clear hR
  obtain ⟨m, hm⟩ : ∃ m, padOf n = m := ⟨_, rfl⟩
  rw [hm] at hp ⊢
  clear hm
  have hq := hp.1
  have hm3 := hp.2
  have hq1 : IntKind.i64.wrap (4 - (n : Int) % 4) = 4 - (n : Int) % 4 := IntWalk.i64_in _ (by omega)
  clear hp
  have hq2 : (4 - (n : Int) % 4).tmod 4 = (m : Nat) := by rw [Int.tmod_eq_emod_of_nonneg (by omega)]; exact hq
  go_enter Try.func89, Try.ntmps89
  go_upto_region 1 with fail
  go_loopw [8] (fun iv wr => ∃ j : Nat, j ≤ m ∧ iv = .int .i64 j ∧ Rd wr R v (k + j) l ∧ zerosR l m k = zerosR l (m - j) (k + j) ∧ Fr [R] w wr) (fun iv _ => m - (intOf iv).toNat)
  case atStart => exact ⟨0, Nat.zero_le _, rfl, HR.out, rfl, Fr.refl _ _⟩
  case round =>
    clear HR hq hq1 hq2
    obtain ⟨j, hj, rfl, hR, hz, hF⟩ := hrel
    have HZ := Lib.hid hz; have HF := Lib.hid hF
    clear hz hF
    by_cases hlt : j < m
    · obtain ⟨q, hq⟩ : ∃ q, m - j = q + 1 := ⟨m - j - 1, by omega⟩
      have HZ : Hid (zerosR l m k = (decide (k + j + 1 ≤ l.length) && nb l (k + j) 1 == 0 && zerosR l q (k + j + 1))) := Lib.hid (by rw [HZ.out, hq]; rfl)
      have HQ : Hid (m - (j + 1) = q) := Lib.hid (by omega)
      clear hq
      go_wp2_with fail
      refine (rbyte_or hR).mono ?_
      clear hR
      rintro e w1 (⟨h, rfl, hR, hF⟩ | ⟨h, rfl, hF⟩)
      · have HR := Lib.hid hR; have HF := Lib.hid (HF.out.trans hF); have HLE := Lib.hid h
        clear hR hF
        by_cases hb : nb l (k + j) 1 = 0
        · have hb2 : ((nb l (k + j) 1 : Nat) : Int) = 0 := by omega
          have HB := Lib.hid hb
          clear hb
          rw [hb2]
          clear hb2
          go_wp2_with fail
          exact ⟨⟨j + 1, by omega, by go_num, HR.out, by rw [HZ.out, HQ.out, HB.out, decide_eq_true HLE.out]; rfl, HF.out⟩, by simp [intOf]; omega⟩
        · have hb2 : (((nb l (k + j) 1 : Nat) : Int) != 0) = true := by simpa using hb
          have HB := Lib.hid hb
          clear hb
          go_wp2_with fail
          refine (fail_any _ 21 (by decide) _).mono ?_
          rintro e w2 ⟨rfl, rfl⟩
          exact ⟨rfl, .inr ⟨by rw [HZ.out]; simp [HB.out], ⟨21, by decide, rfl⟩, HF.out⟩⟩
      · have HLT := Lib.hid h
        exact ⟨rfl, .inr ⟨by rw [HZ.out, decide_eq_false (by omega)]; rfl, ⟨20, by decide, rfl⟩, HF.out.quiet hF⟩⟩
    · obtain rfl : j = m := by omega
      have HR := Lib.hid hR
      clear hR hlt hj
      go_wp2_with fail
      go_end0
      exact .inl ⟨by rw [HZ.out, Nat.sub_self]; rfl, rfl, HR.out, HF.out⟩
theorem or24 (a b : Nat) (ha : a < 256) (hb : b < 65536) : bits BinOp.or IntKind.i64 ((a : Int) * 65536) (b : Int) = ((a * 65536 + b : Nat) : Int) := by
  rw [show ((a : Int) * 65536) = ((a * 65536 : Nat) : Int) by omega, i64_or_nat _ _ (by omega) (by omega)]
  have h := Nat.shiftLeft_add_eq_or_of_lt (i := 16) (b := b) (by omega) a
  rw [Nat.shiftLeft_eq] at h
  rw [show a * 65536 = a * 2 ^ 16 by rfl, ← h]
/-- A report as cells. -/
abbrev rpc7 (x : Rpt) : Array Value := #[.int .u32 (x.ssrc.toNat : Nat), .int .i64 x.loss, .int .i32 x.lost, .int .u32 (x.hi.toNat : Nat), .int .u32 (x.jit.toNat : Nat), .int .u32 (x.lsr.toNat : Nat), .int .u32 (x.dly.toNat : Nat)]
theorem l32_nat (l : List UInt8) (k : Nat) : (l32 l k).toNat = nb l k 4 := by
  have := nb_lt l k 4
  unfold l32
  rw [UInt32.toNat_ofNat']
  omega
set_option maxRecDepth 100000 in
set_option maxHeartbeats 4000000 in
theorem tReport_any {w : World} {R : Nat} {v : Value} {k : Nat} {l : List UInt8} (hR : Rd w R v k l) :
    Calls Try.prog 78 #[.pointer (some ⟨R, 0, none⟩)] w fun e w' => (∃ x k', rpt1 l k = some (x, k') ∧ e = .returned (.agg (rpc7 x)) ∧ Rd w' R v k' l ∧ Fr [R] w w') ∨ (rpt1 l k = none ∧ Ends e ∧ Fr [R] w w') := by
  have HRL : Hid (R < w.heap.size) := Lib.hid (World.block_lt_of_cell? _ _ hR.c0)
  have HVL : Hid (∀ b, liveOf v = some b → b < w.heap.size) := Lib.hid hR.vlt
  obtain ⟨w1, e1, hF1, hB1, hs1⟩ := one_new w #[.int .u32 0, .int .i64 0, .int .i32 0, .int .u32 0, .int .u32 0, .int .u32 0, .int .u32 0] 57
  have HR := Lib.hid (hR.keep hF1); have HF : Hid (Fr [R] w w1) := Lib.hid hF1.any; have HB := Lib.hid hB1; have E1 := Lib.hid e1
  have HS1 := Lib.hid hs1
  clear hR hF1 hB1 e1 hs1
  go_enter Try.func78, Try.ntmps78
  go_upto_region 1 with fail
  rw [E1.out]
  clear E1
  go_wp2_with fail
  refine (rlong_or HR.out).mono ?_
  rintro e w2 (⟨hk, rfl, hR, hF⟩ | ⟨hk, rfl, hF⟩)
  rotate_left
  · exact ⟨rfl, .inr ⟨(if_neg (by omega)), ⟨20, by decide, rfl⟩, (HF.out.trans hF.any)⟩⟩
  have HR := Lib.hid hR; have HF := Lib.hid (HF.out.trans hF); have HK0 := Lib.hid hk
  have HB := Lib.hid (HB.out.fr hF (by have := HRL.out; simp; omega))
  clear hR hF hk
  go_wp2_with fail
  refine (rbyte_or HR.out).mono ?_
  rintro e w3 (⟨hk, rfl, hR, hF⟩ | ⟨hk, rfl, hF⟩)
  rotate_left
  · exact ⟨rfl, .inr ⟨(if_neg (by omega)), ⟨20, by decide, rfl⟩, (HF.out.trans hF.any)⟩⟩
  have HR := Lib.hid hR; have HF := Lib.hid (HF.out.trans hF); have HK1 := Lib.hid hk
  have HB := Lib.hid (HB.out.fr hF (by have := HRL.out; simp; omega))
  clear hR hF hk
  obtain ⟨w4, e4, hF4, hB4, hs4⟩ := one_new w3 #[.int .u32 (nb l k 4), .int .i64 (nb l (k + 4) 1), .int .i32 0, .int .u32 0, .int .u32 0, .int .u32 0, .int .u32 0] 57
  have HRX : Hid (R < w3.heap.size ∧ w.heap.size < w3.heap.size) := Lib.hid (by have h1 := HB.out.lt; have h2 := HRL.out; omega)
  have HR := Lib.hid (HR.out.keep hF4); have HF := Lib.hid (HF.out.trans hF4.any); have HB := Lib.hid (HB.out.keep hF4); have HX := Lib.hid hB4; have E4 := Lib.hid e4
  clear hF4 hB4 hs4 e4
  go_upto_region 2 with fail
  rw [E4.out]
  clear E4
  generalize w3.heap.size = X at *
  go_wp2_with fail
  refine (rbyte_or HR.out).mono ?_
  rintro e w5 (⟨hk, rfl, hR, hF⟩ | ⟨hk, rfl, hF⟩)
  rotate_left
  · exact ⟨rfl, .inr ⟨(if_neg (by omega)), ⟨20, by decide, rfl⟩, (HF.out.trans hF.any)⟩⟩
  have HR := Lib.hid hR; have HF := Lib.hid (HF.out.trans hF); have HK2 := Lib.hid hk
  have HB := Lib.hid (HB.out.fr hF (by have := HRL.out; simp; omega)); have HX := Lib.hid (HX.out.fr hF (by have := HRX.out; simp; omega))
  clear hR hF hk
  have hb1 := nb_lt l (k + 4 + 1) 1
  have hsh : IntKind.i64.wrap (((nb l (k + 4 + 1) 1 : Nat) : Int) * 65536) = ((nb l (k + 4 + 1) 1 * 65536 : Nat) : Int) := by rw [IntWalk.i64_in _ (by omega)]; rfl
  go_wp2_with fail
  refine (rword_or HR.out).mono ?_
  rintro e w6 (⟨hk, rfl, hR, hF⟩ | ⟨hk, rfl, hF⟩)
  rotate_left
  · exact ⟨rfl, .inr ⟨(if_neg (by omega)), ⟨20, by decide, rfl⟩, (HF.out.trans hF.any)⟩⟩
  have HR := Lib.hid hR; have HF := Lib.hid (HF.out.trans hF); have HK3 := Lib.hid hk
  have HB := Lib.hid (HB.out.fr hF (by have := HRL.out; simp; omega)); have HX := Lib.hid (HX.out.fr hF (by have := HRX.out; simp; omega))
  clear hR hF hk
  have hor := or24 (nb l (k + 4 + 1) 1) (nb l (k + 4 + 1 + 1) 2) hb1 (nb_lt l (k + 4 + 1 + 1) 2)
  have hb2 := nb_lt l (k + 4 + 1 + 1) 2
  have hw2 : wrap64 ((nb l (k + 4 + 1 + 1) 2 : Nat) : Int) = ((nb l (k + 4 + 1 + 1) 2 : Nat) : Int) := IntWalk.wrap64_in _ ⟨by omega, by omega⟩
  obtain ⟨nn, hnn⟩ : ∃ nn, nb l (k + 4 + 1) 1 * 65536 + nb l (k + 4 + 1 + 1) 2 = nn := ⟨_, rfl⟩
  rw [hnn] at hor
  have HNB : Hid (nn < 16777216) := Lib.hid (by omega)
  obtain ⟨N, hN⟩ : ∃ N : Int, ((nn : Nat) : Int) = N := ⟨_, rfl⟩
  rw [hN] at hor
  have HN := Lib.hid hN
  clear hN
  have HNN := Lib.hid hnn
  clear hnn hsh hb1 hb2
  go_upto_if 18 with fail
  go_cut [4] (fun sv wx => sv = .int .i64 (sgn24 nn) ∧ Fr [] w6 wx)
  case first =>
    by_cases hge : 8388608 ≤ N
    · have hg1 : decide (8388608 ≤ N) = true := decide_eq_true hge
      have hs : sgn24 nn = N - 16777216 := by have := HN.out; unfold sgn24; rw [if_pos (by omega)]; omega
      have HSG := Lib.hid hs
      have hnlt : 0 ≤ N ∧ N ≤ 1099511627776 := by have h1 := HN.out; have h2 := HNB.out; omega
      clear hs
      go_wp2_with fail
      go_meet
      exact ⟨by rw [HSG.out], Fr.refl _ _⟩
    · have hg1 : decide (8388608 ≤ N) = false := decide_eq_false hge
      have hs : sgn24 nn = N := by have := HN.out; unfold sgn24; rw [if_neg (by omega)]; exact this
      have HSG := Lib.hid hs
      have hnlt : 0 ≤ N ∧ N ≤ 1099511627776 := by have h1 := HN.out; have h2 := HNB.out; omega
      clear hs
      go_wp2_with fail
      go_meet
      exact ⟨by rw [HSG.out], Fr.refl _ _⟩
  case rest =>
    obtain ⟨rfl, hF⟩ := hcut
    have HR := Lib.hid (HR.out.keep hF); have HF := Lib.hid (HF.out.trans hF.any); have HB := Lib.hid (HB.out.keep hF); have HX := Lib.hid (HX.out.keep hF)
    clear hF hor hw2
    have hsb : -8388608 ≤ sgn24 nn ∧ sgn24 nn < 8388608 := by have := HNB.out; unfold sgn24; split <;> omega
    obtain ⟨sg, hsg⟩ : ∃ sg, sgn24 nn = sg := ⟨_, rfl⟩
    rw [hsg] at hsb ⊢
    have HSG := Lib.hid hsg
    clear hsg
    have h32 : IntKind.i32.wrap sg = sg := IntWalk.i32_in _ (by omega)
    have f2 := HX.out.free 2; have x2 := HX.out.cell 2
    simp only [List.getElem?_toArray, List.getElem?_cons_zero, List.getElem?_cons_succ] at x2
    obtain ⟨w7, e7, hF7, hB7, -⟩ := set_new HX.out 2 (.int .i32 sg)
    simp only [List.setIfInBounds_toArray, List.set_cons_zero, List.set_cons_succ] at hB7
    have E7 := Lib.hid e7; have HX7 := Lib.hid hB7; have HF7 := Lib.hid hF7
    clear e7 hF7 hB7
    clear hsb
    go_upto_region 6 with fail
    rw [E7.out]
    clear E7 x2 f2 h32
    have HR := Lib.hid (HR.out.fr HF7.out (by have := HRX.out; simp; omega) (fun b hb hm => by have h1 := HVL.out b hb; have h2 := HRX.out; simp at hm; omega)); have HB := Lib.hid (HB.out.fr HF7.out (by have := HRX.out; simp; omega)); have HF := Lib.hid (HF.out.step HF7.out (fun b hb => .inr (by have := HRX.out; simp at hb; omega)))
    have HX := HX7
    clear HX7 HF7
    go_wp2_with fail
    refine (rlong_or HR.out).mono ?_
    rintro e w8 (⟨hk, rfl, hR, hF⟩ | ⟨hk, rfl, hF⟩)
    rotate_left
    · exact ⟨rfl, .inr ⟨(if_neg (by omega)), ⟨20, by decide, rfl⟩, (HF.out.trans hF.any)⟩⟩
    have HR := Lib.hid hR; have HF := Lib.hid (HF.out.trans hF); have HK4 := Lib.hid hk
    have HB := Lib.hid (HB.out.fr hF (by have := HRL.out; simp; omega)); have HX := Lib.hid (HX.out.fr hF (by have := HRX.out; simp; omega))
    clear hR hF hk
    go_wp2_with fail
    refine (rlong_or HR.out).mono ?_
    rintro e w9 (⟨hk, rfl, hR, hF⟩ | ⟨hk, rfl, hF⟩)
    rotate_left
    · exact ⟨rfl, .inr ⟨(if_neg (by omega)), ⟨20, by decide, rfl⟩, (HF.out.trans hF.any)⟩⟩
    have HR := Lib.hid hR; have HF := Lib.hid (HF.out.trans hF); have HK5 := Lib.hid hk
    have HB := Lib.hid (HB.out.fr hF (by have := HRL.out; simp; omega)); have HX := Lib.hid (HX.out.fr hF (by have := HRX.out; simp; omega))
    clear hR hF hk
    go_wp2_with fail
    refine (rlong_or HR.out).mono ?_
    rintro e w10 (⟨hk, rfl, hR, hF⟩ | ⟨hk, rfl, hF⟩)
    rotate_left
    · exact ⟨rfl, .inr ⟨(if_neg (by omega)), ⟨20, by decide, rfl⟩, (HF.out.trans hF.any)⟩⟩
    have HR := Lib.hid hR; have HF := Lib.hid (HF.out.trans hF); have HK6 := Lib.hid hk
    have HB := Lib.hid (HB.out.fr hF (by have := HRL.out; simp; omega)); have HX := Lib.hid (HX.out.fr hF (by have := HRX.out; simp; omega))
    clear hR hF hk
    go_wp2_with fail
    refine (rlong_or HR.out).mono ?_
    rintro e w11 (⟨hk, rfl, hR, hF⟩ | ⟨hk, rfl, hF⟩)
    rotate_left
    · exact ⟨rfl, .inr ⟨(if_neg (by omega)), ⟨20, by decide, rfl⟩, (HF.out.trans hF.any)⟩⟩
    have HR := Lib.hid hR; have HF := Lib.hid (HF.out.trans hF); have HK7 := Lib.hid hk
    have HB := Lib.hid (HB.out.fr hF (by have := HRL.out; simp; omega)); have HX := Lib.hid (HX.out.fr hF (by have := HRX.out; simp; omega))
    clear hR hF hk
    have y := fun i => HX.out.cell i; have f := fun i => HX.out.free i
    have y3 := y 3; have y4 := y 4; have y5 := y 5; have y6 := y 6
    have f3 := f 3; have f4 := f 4; have f5 := f 5; have f6 := f 6
    simp only [List.getElem?_toArray, List.getElem?_cons_succ, List.getElem?_cons_zero] at y3 y4 y5 y6
    clear y f
    obtain ⟨wa, ea, hFa, hBa, -⟩ := set_new HX.out 3 (.int .u32 (nb l (k + 4 + 1 + 1 + 2) 4))
    simp only [List.setIfInBounds_toArray, List.set_cons_zero, List.set_cons_succ] at hBa
    obtain ⟨wb, eb, hFb, hBb, -⟩ := set_new hBa 4 (.int .u32 (nb l (k + 4 + 1 + 1 + 2 + 4) 4))
    simp only [List.setIfInBounds_toArray, List.set_cons_zero, List.set_cons_succ] at hBb
    obtain ⟨wc', ec, hFc, hBc, -⟩ := set_new hBb 5 (.int .u32 (nb l (k + 4 + 1 + 1 + 2 + 4 + 4) 4))
    simp only [List.setIfInBounds_toArray, List.set_cons_zero, List.set_cons_succ] at hBc
    obtain ⟨wd, ed, hFd, hBd, -⟩ := set_new hBc 6 (.int .u32 (nb l (k + 4 + 1 + 1 + 2 + 4 + 4 + 4) 4))
    simp only [List.setIfInBounds_toArray, List.set_cons_zero, List.set_cons_succ] at hBd
    have E : Hid (((((w11.setCell ⟨X, 3, none⟩ (.int .u32 (nb l (k + 4 + 1 + 1 + 2) 4))).setCell ⟨X, 4, none⟩ (.int .u32 (nb l (k + 4 + 1 + 1 + 2 + 4) 4))).setCell ⟨X, 5, none⟩ (.int .u32 (nb l (k + 4 + 1 + 1 + 2 + 4 + 4) 4))).setCell ⟨X, 6, none⟩ (.int .u32 (nb l (k + 4 + 1 + 1 + 2 + 4 + 4 + 4) 4))) = wd) := Lib.hid (by rw [ea, eb, ec, ed])
    have HFX := Lib.hid (((hFa.trans hFb).trans hFc).trans hFd); have HBD := Lib.hid hBd
    clear ea eb ec ed hFa hFb hFc hFd hBa hBb hBc hBd
    go_upto_region 7 with fail
    rw [E.out]
    clear E y3 y4 y5 y6 f3 f4 f5 f6
    have HR := Lib.hid (HR.out.fr HFX.out (by have := HRX.out; simp; omega) (fun b hb hm => by have h1 := HVL.out b hb; have h2 := HRX.out; simp at hm; omega)); have HB := Lib.hid (HB.out.fr HFX.out (by have := HRX.out; simp; omega)); have HF := Lib.hid (HF.out.step HFX.out (fun b hb => .inr (by have := HRX.out; simp at hb; omega)))
    go_wp2_with (first | (refine wpList_load_row_w rfl 57 (.tmp 3) rfl X rfl 57 _ _ HBD.out Try.underlying57 rfl (by kernel_rfl) ?_) | (refine wpList_store_row rfl 57 (.tmp 2) (.tmp 36) rfl w.heap.size rfl _ _ rfl 57 HB.out (by kernel_rfl) rfl (by simp [Value.oneCell']) ?_; intro w15 hY hG; have HY := Lib.hid hY; have HG := Lib.hid hG; clear hY hG))
    refine bodyPost_ret (results_cell_row rfl _ _ w.heap.size 57 _ (0, 0) _ rfl HY.out Try.underlying57 rfl (by kernel_rfl)) rfl (.inl ⟨rptAt l k, k + 24, if_pos (by have := HK7.out; omega), ?_, ?_, ?_⟩)
    · rw [← HSG.out, ← HNN.out]
      simp only [rpc7, rptAt, l32_nat]
    · exact HR.out.fr HG.out (by have := HRL.out; simp; omega) (fun b hb hm => by have h1 := HVL.out b hb; simp at hm; omega)
    · exact HF.out.step HG.out (fun b hb => .inr (by simp at hb; omega))
end Go.Proofs.Ytcmpjkopdjncdaa

/- The walks of rtcp's times, of reports and of sources (printed by gen_7times.py). -/
namespace Go.Proofs.Ytcmpjkopdjncdaa
open Go.RowKit

/-- A report as cells of a slice. -/
def RptR (_ : World) (c : List Value) (x : Rpt) (B : List Nat) : Prop := c = (rpc7 x).toList ∧ B = []
theorem Rep.rpt : Rep 7 RptR where
  len := by rintro w c y B ⟨rfl, -⟩; rfl
  one := by
    rintro w c y B ⟨rfl, -⟩ u hu
    simp at hu
    rcases hu with rfl | rfl | rfl | rfl | rfl | rfl | rfl <;> rfl
  lt := by rintro w c y B ⟨-, rfl⟩ b hb; cases hb
  fr := by rintro w w' c y B S h _ _; exact h
def SrcR (_ : World) (c : List Value) (x : UInt32) (B : List Nat) : Prop := c = [.int .u32 (x.toNat : Nat)] ∧ B = []
theorem Rep.src : Rep 1 SrcR where
  len := by rintro w c y B ⟨rfl, -⟩; rfl
  one := by rintro w c y B ⟨rfl, -⟩ u hu; simp at hu; subst hu; rfl
  lt := by rintro w c y B ⟨-, rfl⟩ b hb; cases hb
  fr := by rintro w w' c y B S h _ _; exact h
set_option maxRecDepth 100000 in
theorem info_rpt : (Try.prog.info? 57).map (fun i => (i.zero, i.size, i.bytes)) = some (some (.agg #[.int .u32 0, .int .i64 0, .int .i32 0, .int .u32 0, .int .u32 0, .int .u32 0, .int .u32 0]), 7, 40) := by kernel_rfl
set_option maxRecDepth 100000 in
theorem info_src : (Try.prog.info? 36).map (fun i => (i.zero, i.size, i.bytes)) = some (some (.int .u32 0), 1, 4) := by kernel_rfl
theorem timesR_len {α : Type} {P : Nat → Option (α × Nat)} : ∀ {n k : Nat} {xs : List α} {k1 : Nat}, timesR P n k = some (xs, k1) → xs.length = n
  | 0, k, xs, k1, h => by cases h; rfl
  | n + 1, k, xs, k1, h => by
    unfold timesR at h
    cases hp : P k with
    | none => rw [hp] at h; cases h
    | some p =>
      obtain ⟨b, kb⟩ := p
      rw [hp] at h
      simp only at h
      cases ht : timesR P n kb with
      | none => rw [ht] at h; cases h
      | some r =>
        rw [ht] at h
        cases h
        rw [List.length_cons, timesR_len (n := n) (k := kb) (xs := r.1) (k1 := r.2) (by rw [ht])]
theorem src_or {w : World} {R : Nat} {v : Value} {k : Nat} {l : List UInt8} (hR : Rd w R v k l) :
    Calls Try.prog 75 #[.pointer (some ⟨R, 0, none⟩)] w fun e w' => (∃ x k', src1 l k = some (x, k') ∧ e = .returned (.int .u32 (x.toNat : Nat)) ∧ Rd w' R v k' l ∧ Fr [R] w w') ∨ (src1 l k = none ∧ Ends e ∧ Fr [R] w w') :=
  (rlong_or hR).mono fun e w' h => by
    rcases h with ⟨h, rfl, h1, h2⟩ | ⟨h, rfl, h1⟩
    · exact .inl ⟨l32 l k, k + 4, if_pos h, by rw [l32_nat], h1, h2⟩
    · exact .inr ⟨if_neg (by omega), ⟨20, by decide, rfl⟩, h1.any⟩
set_option maxRecDepth 100000 in
set_option maxHeartbeats 4000000 in
theorem tTimesR_any {w : World} {R : Nat} {v : Value} {k : Nat} {l : List UInt8} (hR : Rd w R v k l) (n : Nat) (hn : n ≤ 31) :
    Calls Try.prog 77 #[.pointer (some ⟨R, 0, none⟩), .int .i64 n, .func (.func 78) #[] #[]] w fun e w' => (∃ xs k' u, timesR (rpt1 l) n k = some (xs, k') ∧ e = .returned u ∧ OwnEls 7 RptR w' w.heap.size 57 u xs [] ∧ Rd w' R v k' l ∧ Fr [R] w w') ∨ (timesR (rpt1 l) n k = none ∧ Ends e ∧ Fr [R] w w') := by
  have HRL : Hid (R < w.heap.size) := Lib.hid (World.block_lt_of_cell? _ _ hR.c0)
  have HVL : Hid (∀ b, liveOf v = some b → b < w.heap.size) := Lib.hid hR.vlt
  have HR := Lib.hid hR
  clear hR
  go_enter Try.func77, Try.ntmps77
  go_upto_region 3 with fail
  go_loopw [7, 9] (fun ov iv wr => ∃ (j : Nat) (xs : List Rpt) (k' : Nat), j ≤ n ∧ iv = .int .i64 j ∧ timesR (rpt1 l) j k = some (xs, k') ∧ OwnEls 7 RptR wr w.heap.size 57 ov xs [] ∧ Rd wr R v k' l ∧ Fr [R] w wr) (fun _ iv _ => n - (intOf iv).toNat)
  case atStart => exact ⟨0, [], k, Nat.zero_le _, rfl, rfl, OwnEls.nil _ _ _, HR.out, Fr.refl _ _⟩
  case round =>
    clear HR
    obtain ⟨j, xs, k', hj, rfl, ht, hO, hR, hF⟩ := hrel
    have hxl := timesR_len ht
    obtain ⟨ax, cx, eo⟩ := hO.shape
    rw [hxl] at eo
    subst eo
    have HT := Lib.hid ht; have HO := Lib.hid hO; have HR := Lib.hid hR; have HF := Lib.hid hF; have HXL := Lib.hid hxl
    clear ht hO hR hF hxl
    by_cases hlt : j < n
    · go_wp2_with fail
      refine (tReport_any HR.out).mono ?_
      rintro e w4 (⟨x, k2, hx, rfl, hR, hF⟩ | ⟨hx, he, hF⟩)
      · have HX := Lib.hid hx; have HR := Lib.hid hR; have HFQ := Lib.hid hF; have HF := Lib.hid (HF.out.trans hF)
        have HO := Lib.hid (HO.out.fr Rep.rpt hF (by simp) (fun b hb hm => by have := (HO.out.block b hb).1; have := HRL.out; simp at hm; omega))
        have HZ : Hid (w.heap.size ≤ w4.heap.size) := Lib.hid HF.out.size
        clear hx hR hF
        obtain ⟨wa, ea, hFa, hBa, hsa⟩ := one_new w4 (rpc7 x) 57
        have EA := Lib.hid ea; have HBA := Lib.hid hBa; have HFA := Lib.hid hFa
        have HL1 : Hid (xs.length + 1 ≤ maxLen) := Lib.hid (by have := HXL.out; unfold maxLen; omega)
        have HL2 : Hid ((xs.length + 1) * 40 ≤ 140737488355328) := Lib.hid (by have := HXL.out; omega)
        have HL3 : Hid (w.heap.size ≤ wa.heap.size) := Lib.hid (by have h1 := HZ.out; omega)
        have HLA : Hid ((xs ++ [x]).length = j + 1) := Lib.hid (by rw [List.length_append, HXL.out]; rfl)
        clear ea hBa hFa hsa
        go_wp2_with (at_builtin; (rw [EA.out]); refine wpList_append_el Rep.rpt (by decide) rfl (.tmp 11) (.tmp 15) 38 rfl w.heap.size 57 (.agg #[.int .u32 0, .int .i64 0, .int .i32 0, .int .u32 0, .int .u32 0, .int .u32 0, .int .u32 0]) 40 Try.underlying38 info_rpt rfl (.slice ax j cx) xs [] rfl (HO.out.keep Rep.rpt HFA.out) w4.heap.size 0 1 rfl ((rpc7 x)).toList x [] (box_range HBA.out) ⟨rfl, rfl⟩ (by simp) HL1.out HL2.out HL3.out ?_; intro vs1 w7 hown1 hfr1 hbl1; obtain ⟨as1, cs1, es1⟩ := hown1.shape; rw [HLA.out] at es1; subst es1; have HV1 := Lib.hid hown1; have HF7 := Lib.hid hfr1; clear hown1 hfr1 hbl1)
        have HNB : Hid (∀ b ∈ (blockOf (.slice ax j cx)).toList, w.heap.size ≤ b) := Lib.hid (fun b hb => (HO.out.block b (mem_toList.1 hb)).1)
        exact ⟨⟨j + 1, xs ++ [x], k2, by omega, by go_num, timesR_snoc HT.out HX.out, HV1.out, (HR.out.keep HFA.out).fr HF7.out (fun hm => by have := HNB.out _ hm; have := HRL.out; omega) (fun b hb hm => by have := HNB.out _ hm; have := HVL.out b hb; omega), (HF.out.quiet HFA.out).step HF7.out (fun b hb => .inr (HNB.out b hb))⟩, by simp [intOf]; omega⟩
      · obtain ⟨c, hc, rfl⟩ := he
        have HX := Lib.hid hx
        have HNO : Hid (timesR (rpt1 l) n k = none) := Lib.hid (by have := timesR_fail (m := n - j - 1) HT.out HX.out; rw [show j + 1 + (n - j - 1) = n by omega] at this; exact this)
        exact ⟨rfl, .inr ⟨HNO.out, ⟨c, hc, rfl⟩, HF.out.trans hF⟩⟩
    · obtain rfl : j = n := by omega
      clear hj hlt
      go_wp2_with fail
      go_ret
      exact .inl ⟨xs, k', _, HT.out, rfl, HO.out, HR.out, HF.out⟩
set_option maxRecDepth 100000 in
set_option maxHeartbeats 4000000 in
theorem tTimesS_any {w : World} {R : Nat} {v : Value} {k : Nat} {l : List UInt8} (hR : Rd w R v k l) (n : Nat) (hn : n ≤ 31) :
    Calls Try.prog 81 #[.pointer (some ⟨R, 0, none⟩), .int .i64 n, .func (.func 75) #[] #[]] w fun e w' => (∃ xs k' u, timesR (src1 l) n k = some (xs, k') ∧ e = .returned u ∧ OwnEls 1 SrcR w' w.heap.size 36 u xs [] ∧ Rd w' R v k' l ∧ Fr [R] w w') ∨ (timesR (src1 l) n k = none ∧ Ends e ∧ Fr [R] w w') := by
  have HRL : Hid (R < w.heap.size) := Lib.hid (World.block_lt_of_cell? _ _ hR.c0)
  have HVL : Hid (∀ b, liveOf v = some b → b < w.heap.size) := Lib.hid hR.vlt
  have HR := Lib.hid hR
  clear hR
  go_enter Try.func81, Try.ntmps81
  go_upto_region 3 with fail
  go_loopw [7, 9] (fun ov iv wr => ∃ (j : Nat) (xs : List UInt32) (k' : Nat), j ≤ n ∧ iv = .int .i64 j ∧ timesR (src1 l) j k = some (xs, k') ∧ OwnEls 1 SrcR wr w.heap.size 36 ov xs [] ∧ Rd wr R v k' l ∧ Fr [R] w wr) (fun _ iv _ => n - (intOf iv).toNat)
  case atStart => exact ⟨0, [], k, Nat.zero_le _, rfl, rfl, OwnEls.nil _ _ _, HR.out, Fr.refl _ _⟩
  case round =>
    clear HR
    obtain ⟨j, xs, k', hj, rfl, ht, hO, hR, hF⟩ := hrel
    have hxl := timesR_len ht
    obtain ⟨ax, cx, eo⟩ := hO.shape
    rw [hxl] at eo
    subst eo
    have HT := Lib.hid ht; have HO := Lib.hid hO; have HR := Lib.hid hR; have HF := Lib.hid hF; have HXL := Lib.hid hxl
    clear ht hO hR hF hxl
    by_cases hlt : j < n
    · go_wp2_with fail
      refine (src_or HR.out).mono ?_
      rintro e w4 (⟨x, k2, hx, rfl, hR, hF⟩ | ⟨hx, he, hF⟩)
      · have HX := Lib.hid hx; have HR := Lib.hid hR; have HFQ := Lib.hid hF; have HF := Lib.hid (HF.out.trans hF)
        have HO := Lib.hid (HO.out.fr Rep.src hF (by simp) (fun b hb hm => by have := (HO.out.block b hb).1; have := HRL.out; simp at hm; omega))
        have HZ : Hid (w.heap.size ≤ w4.heap.size) := Lib.hid HF.out.size
        clear hx hR hF
        obtain ⟨wa, ea, hFa, hBa, hsa⟩ := one_new w4 #[.int .u32 (x.toNat : Nat)] 36
        have EA := Lib.hid ea; have HBA := Lib.hid hBa; have HFA := Lib.hid hFa
        have HL1 : Hid (xs.length + 1 ≤ maxLen) := Lib.hid (by have := HXL.out; unfold maxLen; omega)
        have HL2 : Hid ((xs.length + 1) * 4 ≤ 140737488355328) := Lib.hid (by have := HXL.out; omega)
        have HL3 : Hid (w.heap.size ≤ wa.heap.size) := Lib.hid (by have h1 := HZ.out; omega)
        have HLA : Hid ((xs ++ [x]).length = j + 1) := Lib.hid (by rw [List.length_append, HXL.out]; rfl)
        clear ea hBa hFa hsa
        go_wp2_with (at_builtin; (rw [EA.out]); refine wpList_append_el Rep.src (by decide) rfl (.tmp 11) (.tmp 15) 40 rfl w.heap.size 36 (.int .u32 0) 4 Try.underlying40 info_src rfl (.slice ax j cx) xs [] rfl (HO.out.keep Rep.src HFA.out) w4.heap.size 0 1 rfl (#[.int .u32 (x.toNat : Nat)]).toList x [] (box_range HBA.out) ⟨rfl, rfl⟩ (by simp) HL1.out HL2.out HL3.out ?_; intro vs1 w7 hown1 hfr1 hbl1; obtain ⟨as1, cs1, es1⟩ := hown1.shape; rw [HLA.out] at es1; subst es1; have HV1 := Lib.hid hown1; have HF7 := Lib.hid hfr1; clear hown1 hfr1 hbl1)
        have HNB : Hid (∀ b ∈ (blockOf (.slice ax j cx)).toList, w.heap.size ≤ b) := Lib.hid (fun b hb => (HO.out.block b (mem_toList.1 hb)).1)
        exact ⟨⟨j + 1, xs ++ [x], k2, by omega, by go_num, timesR_snoc HT.out HX.out, HV1.out, (HR.out.keep HFA.out).fr HF7.out (fun hm => by have := HNB.out _ hm; have := HRL.out; omega) (fun b hb hm => by have := HNB.out _ hm; have := HVL.out b hb; omega), (HF.out.quiet HFA.out).step HF7.out (fun b hb => .inr (HNB.out b hb))⟩, by simp [intOf]; omega⟩
      · obtain ⟨c, hc, rfl⟩ := he
        have HX := Lib.hid hx
        have HNO : Hid (timesR (src1 l) n k = none) := Lib.hid (by have := timesR_fail (m := n - j - 1) HT.out HX.out; rw [show j + 1 + (n - j - 1) = n by omega] at this; exact this)
        exact ⟨rfl, .inr ⟨HNO.out, ⟨c, hc, rfl⟩, HF.out.trans hF⟩⟩
    · obtain rfl : j = n := by omega
      clear hj hlt
      go_wp2_with fail
      go_ret
      exact .inl ⟨xs, k', _, HT.out, rfl, HO.out, HR.out, HF.out⟩
end Go.Proofs.Ytcmpjkopdjncdaa

/- A range over a function whose body goes on or breaks off; the iterator may keep cells of its own. No program in sight. -/
namespace Go.Proofs.Ytcmpjkopdjncdaa
open Go.RowKit Go.Shelf

/-- The iterator's contract: it calls yield with each element of xs, in order, as far as rounds go on. -/
def SeqB {α : Type} (F : Fence) (n : Nat) (P : Program) (g : Nat) (lb : Array Value) (encs : α → Array Value) (Xs : List (Nat × Nat)) (xs : List α) (w : World) : Prop :=
  ∀ (l : Nat) (J Jx : List α → World → Prop) (W : World), Below w.heap.size w W → Low Xs W → AbX Xs W.heap.size J → AbX Xs W.heap.size Jx →
    (∀ pre x W1, (pre ++ [x]) <+: xs → J pre W1 → YieldAt F (n - 1) P l (encs x) W1 fun e W' => (e = .returned (.bool true) ∧ J (pre ++ [x]) W' ∧ Kx Xs W1 W') ∨ (e = .returned (.bool false) ∧ Jx (pre ++ [x]) W')) →
    J [] W → CallsIn F n P g (#[.func (.yield l) #[] #[]] ++ lb) W fun e W' => (∃ v, e = .returned v) ∧ ((J xs W' ∧ Kx Xs W W') ∨ ∃ pre, pre <+: xs ∧ Jx pre W')

def postBrk {α : Type} (Xs : List (Nat × Nat)) (I : List α → World → Prop) (Ix : Nat → List α → World → Prop) (xs : List α) (W : World) : Exit → Act → World → Prop
  | .normal, _, W' => Kx Xs W W' ∧ I xs W'
  | .exit id, _, W' => Kx Xs W W' ∧ Ix id xs W'
  | _, _, _ => False

variable {F : Fence} {n : Nat} {P : Program}
theorem wpIn_rangeBrk {α : Type} {g : Operand} {ps : Array Tmp} {assign body : Code} {Q : Exit → Act → World → Prop} {a : Act} {w : World}
    (hro : F.round = none) (h1 : 1 ≤ n) {gf : Nat} {lb : Array Value} (hg : a.eval g = .func (.func gf) #[] lb) (hFg : F.fn gf) (eg : ∀ args w, (callFunc gf args).run P w = .ok (.enter gf args) w)
    {encs : α → Array Value} {Xs : List (Nat × Nat)} {xs : List α} {w0 : World} (hseq : SeqB F (n - 1) P gf lb encs Xs xs w0) (hb0 : Below w0.heap.size w0 w) (hps : ∀ x, (encs x).size = ps.size)
    (hX : ∀ p ∈ Xs, p.1 < w.heap.size) (hlow : Low Xs w)
    (I : List α → World → Prop) (Ix : Nat → List α → World → Prop) (hI : AbX Xs w.heap.size I) (hIx : ∀ id, AbX Xs w.heap.size (Ix id)) (h0 : I [] w) (a₁ : α → Act)
    (hassign : ∀ (l : Nat) (x : α) (W : World) (K : Act → World → Prop), K (a₁ x) W →
      assign.wpIn (F.inRound l) (n - 1 - 1) P (Exit.then K (fun _ _ _ => False)) { tmps := (ps.zip (encs x)).foldl (fun t (p, v) => t.setIfInBounds p v) a.tmps, defers := [] } W)
    (hbody : ∀ (l : Nat) (pre : List α) (x : α) (W : World), w.heap.size ≤ l → (pre ++ [x]) <+: xs → I pre W → Low Xs W → w.heap.size ≤ W.heap.size → body.wpIn (F.inRound l) (n - 1 - 1) P (postBrk Xs I Ix (pre ++ [x]) W) (a₁ x) W)
    (hdone : ∀ (D : Nat) (W : World), w.heap.size ≤ D → I xs W → Kx Xs w W → W.heap[D]? = some (.deferred (some [])) → Q .normal { a with defers := { target := .collected D, args := #[] } :: a.defers } W)
    (hstop : ∀ (D : Nat) (id : Nat) (pre : List α) (W : World), w.heap.size ≤ D → pre <+: xs → Ix id pre W → W.heap[D]? = some (.deferred (some [])) → (Code.exit id).wpIn F n P Q { a with defers := { target := .collected D, args := #[] } :: a.defers } W) :
    (Code.rangeFunc g ps assign body).wpIn F n P Q a w := by
  refine wpIn_rangeFunc ?_
  intro fn hfn
  rw [hro]
  obtain ⟨rc, hrc⟩ : ∃ rc : LoopState → Option Code → Loop, rc = fun st pe => { state := st, pending := pe, fn, tmps := a.tmps, params := ps, assign, body, defers := w.heap.size } := ⟨_, rfl⟩
  obtain ⟨W1, hW1⟩ : ∃ W1, (w.alloc (.deferred (some []))).alloc (.loop (rc .ready none)) = W1 := ⟨_, rfl⟩
  have hf1 : Fr [] w W1 := by rw [← hW1]; exact ((Fr.refl [] w).alloc _).alloc _
  have hs1 : W1.heap.size = w.heap.size + 2 := by rw [← hW1]; simp
  have hL1 : W1.heap[w.heap.size + 1]? = some (.loop (rc .ready none)) := by
    rw [← hW1]; have := World.alloc_heap_new (w.alloc (.deferred (some []))) (.loop (rc .ready none)); rwa [World.size_alloc] at this
  have hK1 : W1.heap[w.heap.size]? = some (.deferred (some [])) := by
    rw [← hW1]; exact (Below.heap_alloc _ _ _ (by simp)).trans (World.alloc_heap_new w _)
  have hI1 : I [] W1 := hI.fr0 h0 hf1
  have hb1 : Below w0.heap.size w0 W1 := hb0.trans (hf1.below.mono hb0.size)
  have hx1 : Kx Xs w W1 := Kx.ofFr hf1 hX
  have put : ∀ (W : World) (o : Obj) (p : Nat × Nat), p ∈ Xs → (W.putObj (w.heap.size + 1) o).heap[p.1]? = W.heap[p.1]? := fun W o p hp => World.putObj_heap_other (by have := hX p hp; omega)
  refine ⟨w.heap.size + 1, [{ target := .collected w.heap.size, args := #[] }], W1, { target := .fn (.func gf) lb, args := #[.func (.yield (w.heap.size + 1)) #[] #[]] }, W1, gf,
    #[.func (.yield (w.heap.size + 1)) #[] #[]] ++ lb, W1, ?_, ?_, ?_, ?_, fun _ => h1, ?_⟩
  · rw [← hW1, hrc]; exact run_enterLoop_outer _ _ _ _ _
  · simp only [resolve, hg]
    simp [go_sem]
  · intro f' hf'; simp [Target.leads] at hf'; subst hf'; exact hFg
  · simp [invoke, go_sem, eg]
  refine (hseq (w.heap.size + 1) (fun pre W => (I pre W ∧ w.heap.size ≤ W.heap.size ∧ Low Xs W) ∧ W.heap[w.heap.size + 1]? = some (.loop (rc .ready none)) ∧ W.heap[w.heap.size]? = some (.deferred (some []))) (fun pre W => ∃ id, Ix id pre W ∧ W.heap[w.heap.size + 1]? = some (.loop (rc .done (some (.exit id)))) ∧ W.heap[w.heap.size]? = some (.deferred (some []))) W1 hb1 (hx1.low hlow) ?_ ?_ ?_ ⟨⟨hI1, hf1.size, hx1.low hlow⟩, hL1, hK1⟩).mono ?_
  · intro s A B row hs hgr hr
    have e : ∀ k, k < W1.heap.size → k < A.heap.size → B.heap[k]? = A.heap[k]? := fun k hk hA => hgr.block k hA (fun e => by have := (hr k e.symm).1; omega)
    refine ⟨⟨hI s A B row hs.1.1 hgr (fun r er => ⟨by have := (hr r er).1; omega, (hr r er).2⟩), Nat.le_trans hs.1.2.1 hgr.size, ?_⟩, ?_, ?_⟩
    · refine hs.1.2.2.congr (fun p hp => ?_) hgr.size
      have := hX p hp
      exact e p.1 (by omega) (by omega)
    · rw [e _ (by omega) (Array.getElem?_eq_some_iff.1 hs.2.1).1]; exact hs.2.1
    · rw [e _ (by omega) (Array.getElem?_eq_some_iff.1 hs.2.2).1]; exact hs.2.2
  · rintro s A B row ⟨id, hs1, hs2, hs3⟩ hgr hr
    have e : ∀ k, k < W1.heap.size → k < A.heap.size → B.heap[k]? = A.heap[k]? := fun k hk hA => hgr.block k hA (fun e => by have := (hr k e.symm).1; omega)
    exact ⟨id, hIx id s A B row hs1 hgr (fun r er => ⟨by have := (hr r er).1; omega, (hr r er).2⟩), by rw [e _ (by omega) (Array.getElem?_eq_some_iff.1 hs2).1]; exact hs2, by rw [e _ (by omega) (Array.getElem?_eq_some_iff.1 hs3).1]; exact hs3⟩
  · rintro pre x W hpre ⟨⟨hi, hsz, hlw⟩, hl, hk⟩
    have hlt : w.heap.size + 1 < W.heap.size := (Array.getElem?_eq_some_iff.1 hl).1
    have hy := run_yield (P := P) (args := encs x) hl (by rw [hrc]; exact hps x)
    rw [hrc] at hy
    refine ⟨fn, _, assign, body, hy, roundIn_of_wpIn hfn (hassign _ x W _ ?_)⟩
    clear hy
    refine ⟨_, run_beginRound hl (by rw [hrc]), ?_⟩
    have hl2 : (W.putObj (w.heap.size + 1) (.loop { rc .ready none with state := .busy })).heap[w.heap.size + 1]? = some (.loop { rc .ready none with state := .busy }) := World.putObj_heap_same hlt
    have hk2 : (W.putObj (w.heap.size + 1) (.loop { rc .ready none with state := .busy })).heap[w.heap.size]? = some (.deferred (some [])) := (World.putObj_heap_other (by omega)).trans hk
    have hz2 : (W.putObj (w.heap.size + 1) (.loop { rc .ready none with state := .busy })).heap.size = W.heap.size := by simp
    have hg2 : ∀ k, Gd Xs W k → Gd Xs (W.putObj (w.heap.size + 1) (.loop { rc .ready none with state := .busy })) k := fun k h => h.congr (put W _)
    have hlw2 : Low Xs (W.putObj (w.heap.size + 1) (.loop { rc .ready none with state := .busy })) := hlw.congr (put W _) (by rw [hz2]; exact Nat.le_refl _)
    have hb2 : ∀ k, k ≠ w.heap.size + 1 → (W.putObj (w.heap.size + 1) (.loop { rc .ready none with state := .busy })).heap[k]? = W.heap[k]? := fun k hk => World.putObj_heap_other hk
    refine wpIn_mono (hbody _ pre x _ (by omega) hpre (hI.putObj _ hi (by omega) hl rfl) hlw2 (by rw [hz2]; exact hsz)) ?_
    generalize W.putObj (w.heap.size + 1) (.loop { rc .ready none with state := .busy }) = W2 at *
    rintro e a3 W3 hp
    cases e with
    | normal =>
      obtain ⟨hkx, hi3⟩ := hp
      have hl3 := hkx.blocks _ _ hl2 (.inr rfl)
      have hk3 := hkx.blocks _ _ hk2 (.inr rfl)
      have hlt3 := (Array.getElem?_eq_some_iff.1 hl3).1
      have hr := run_endRound (P := P) none hl3
      refine ⟨_, _, hr, .inl ⟨rfl, ⟨⟨hI.putObj _ hi3 (by omega) hl3 rfl, ?_, ?_⟩, ?_, ?_⟩, ?_⟩⟩
      · have := hkx.size; rw [putObj_size]; omega
      · exact (hkx.low hlw2).congr (put W3 _) (by simp)
      · rw [World.putObj_heap_same hlt3, hrc]; rfl
      · exact (World.putObj_heap_other (by omega)).trans hk3
      · refine ⟨by have := hkx.size; rw [putObj_size]; omega, ?_, ?_, ?_⟩
        · intro k o hk hgd
          by_cases e : k = w.heap.size + 1
          · subst e
            rw [hl] at hk
            cases hk
            rw [World.putObj_heap_same hlt3, hrc]
            rfl
          · rw [World.putObj_heap_other e]
            exact hkx.blocks k o ((hb2 k e).trans hk) (hgd.imp (hg2 k) id)
        · intro k hk hgd
          exact (hkx.gd k (by omega) (hg2 k hgd)).congr (put W3 _)
        · intro _
          exact (hkx.low hlw2).congr (put W3 _) (by simp)
    | exit id =>
      obtain ⟨hkx, hi3⟩ := hp
      have hl3 := hkx.blocks _ _ hl2 (.inr rfl)
      have hk3 := hkx.blocks _ _ hk2 (.inr rfl)
      have hlt3 := (Array.getElem?_eq_some_iff.1 hl3).1
      have hr := run_endRound (P := P) (some (.exit id)) hl3
      refine ⟨_, _, hr, .inr ⟨rfl, id, (hIx id).putObj _ hi3 (by omega) hl3 rfl, ?_, ?_⟩⟩
      · rw [World.putObj_heap_same hlt3, hrc]; rfl
      · exact (World.putObj_heap_other (by omega)).trans hk3
    | ret => exact hp.elim
    | goto t => exact hp.elim
    | panic ch => exact hp.elim
    | outgrown => exact hp.elim
  · rintro e W2 ⟨⟨v, rfl⟩, ⟨⟨⟨hi, hsz, hlw⟩, hl, hk⟩, hkx⟩ | ⟨pre, hpre, id, hi, hl, hk⟩⟩
    rotate_left
    · exact ⟨some (.exit id), _, by have := run_endLoop (P := P) hl (by rw [hrc]; simp); rw [hrc] at this; exact this, hstop _ id pre _ (Nat.le_refl _) hpre ((hIx id).putObj _ hi (by omega) hl rfl) ((World.putObj_heap_other (by omega)).trans hk)⟩
    have hg2 : ∀ (o : Obj) k, Gd Xs W2 k → Gd Xs (W2.putObj (w.heap.size + 1) o) k := fun o k h => h.congr (put W2 _)
    have hgw : ∀ k, Gd Xs w k → k < w.heap.size → Gd Xs W2 k := fun k h hk => hkx.gd k (by omega) (hx1.gd k hk h)
    refine ⟨none, _, by have := run_endLoop (P := P) hl (by rw [hrc]; simp); rw [hrc] at this; exact this, hdone _ _ (Nat.le_refl _) (hI.putObj _ hi (by omega) hl rfl) ?_ ((World.putObj_heap_other (by omega)).trans hk)⟩
    refine ⟨by rw [putObj_size]; omega, ?_, ?_, ?_⟩
    · intro k o hk' hgd
      have hlt := (Array.getElem?_eq_some_iff.1 hk').1
      rw [World.putObj_heap_other (by omega)]
      exact (hx1.trans hkx).blocks k o hk' hgd
    · intro k hk' hgd
      exact hg2 _ k (hgw k hgd hk')
    · intro _
      exact hlw.congr (put W2 _) (by simp)
/-- The same; what the round's variables are laid into is told by the walk. -/
theorem wpIn_rangeBrkE {α : Type} {g : Operand} {ps : Array Tmp} {assign body : Code} {Q : Exit → Act → World → Prop} {a : Act} {w : World}
    (hro : F.round = none) (h1 : 1 ≤ n) {gf : Nat} {lb : Array Value} (hg : a.eval g = .func (.func gf) #[] lb) (hFg : F.fn gf) (eg : ∀ args w, (callFunc gf args).run P w = .ok (.enter gf args) w)
    {encs : α → Array Value} {Xs : List (Nat × Nat)} {xs : List α} {w0 : World} (hseq : SeqB F (n - 1) P gf lb encs Xs xs w0) (hb0 : Below w0.heap.size w0 w) (hps : ∀ x, (encs x).size = ps.size)
    (hX : ∀ p ∈ Xs, p.1 < w.heap.size) (hlow : Low Xs w)
    (I : List α → World → Prop) (Ix : Nat → List α → World → Prop) (hI : AbX Xs w.heap.size I) (hIx : ∀ id, AbX Xs w.heap.size (Ix id)) (h0 : I [] w)
    (hround : ∀ (x : α), ∃ a₁ : Act, (∀ (l : Nat) (W : World) (K : Act → World → Prop), K a₁ W →
      assign.wpIn (F.inRound l) (n - 1 - 1) P (Exit.then K (fun _ _ _ => False)) { tmps := (ps.zip (encs x)).foldl (fun t (p, v) => t.setIfInBounds p v) a.tmps, defers := [] } W) ∧
      ∀ (l : Nat) (pre : List α) (W : World), w.heap.size ≤ l → (pre ++ [x]) <+: xs → I pre W → Low Xs W → w.heap.size ≤ W.heap.size → body.wpIn (F.inRound l) (n - 1 - 1) P (postBrk Xs I Ix (pre ++ [x]) W) a₁ W)
    (hdone : ∀ (D : Nat) (W : World), w.heap.size ≤ D → I xs W → Kx Xs w W → W.heap[D]? = some (.deferred (some [])) → Q .normal { a with defers := { target := .collected D, args := #[] } :: a.defers } W)
    (hstop : ∀ (D : Nat) (id : Nat) (pre : List α) (W : World), w.heap.size ≤ D → pre <+: xs → Ix id pre W → W.heap[D]? = some (.deferred (some [])) → (Code.exit id).wpIn F n P Q { a with defers := { target := .collected D, args := #[] } :: a.defers } W) :
    (Code.rangeFunc g ps assign body).wpIn F n P Q a w :=
  wpIn_rangeBrk hro h1 hg hFg eg hseq hb0 hps hX hlow I Ix hI hIx h0 (fun x => Classical.choose (hround x)) (fun l x W K hK => (Classical.choose_spec (hround x)).1 l W K hK)
    (fun l pre x W h1 h2 h3 h4 h5 => (Classical.choose_spec (hround x)).2 l pre W h1 h2 h3 h4 h5) hdone hstop
theorem Kx.body2 {Xs : List (Nat × Nat)} {W W' : World} {S : List Nat} (h : Fr S W W') (hS : ∀ g ∈ S, W.heap.size ≤ g ∨ ¬ Gd Xs W g ∧ ∃ o : Obj, W.heap[g]? = some o ∧ o.isCells = true)
    (hn : ∀ p ∈ Xs, ∀ v b, W'.cell? ⟨p.1, p.2, none⟩ = some v → blockOf v = some b → b < W'.heap.size ∧ (W.heap.size ≤ b ∨ ¬ Gd Xs W b)) : Kx Xs W W' := by
  refine ⟨h.size, fun k o hk hg => ?_, fun k hk hg p hp => ⟨(hg p hp).1, fun v hv hb => ?_⟩, fun _ p hp v b hv hb => (hn p hp v b hv hb).1⟩
  · have hlt := (Array.getElem?_eq_some_iff.1 hk).1
    rw [h.block k hlt (fun hm => ?_)]
    · exact hk
    · rcases hS k hm with h1 | ⟨h1, o', ho', hc⟩
      · omega
      · rcases hg with hg | hg
        · exact h1 hg
        · rw [hk] at ho'; cases ho'; rw [hc] at hg; cases hg
  · rcases (hn p hp v k hv hb).2 with h1 | h1
    · omega
    · exact h1 hg
theorem wpListIn_append_fr2 {F : Fence} {n : Nat} {P : Program} {w : World} {ops : Array Oper} {rest : List Oper} {o : Oper} {a : Act} {Q : Exit → Act → World → Prop} (hgd : o.guard = none) (s x : Operand) (t : TypeId)
    (ho : o.op = .call { callee := .builtin .append, args := #[s, x], argTypes := #[t, t] })
    (base : Nat) (e : TypeId) (z : Value) (size bytes : Nat) (ht : P.underlying t = some (.slice e)) (hi : (P.info? e).map (fun i => (i.zero, i.size, i.bytes)) = some (some z, size, bytes)) (hz : z.cells.size = size) (hsz : 0 < size)
    (v : Value) (k : Nat) (xs : List Value) (hs : a.eval s = v) (hown : w.ownsRow base e size v k xs)
    (ad : Addr) (m c : Nat) (news : List Value) (hx : a.eval x = .slice (some ad) m c) (hl : news.length = m * size) (hnews : ∀ j u, news[j]? = some u → w.cell? (ad.add j) = some u) (h1 : ∀ u ∈ news, u.oneCell' = true)
    (h63 : k + m ≤ maxLen) (hbytes : (k + m) * bytes ≤ 140737488355328) (hbase : base ≤ w.heap.size)
    (h : ∀ v' w', w'.ownsRow base e size v' (k + m) (xs ++ news) → Fr (blockOf v).toList w w' → (∀ b, blockOf v' = some b → blockOf v = some b ∨ w.heap.size ≤ b) → (v' = .slice none 0 0 ↔ v = .slice none 0 0 ∧ m = 0) → wpListIn F n P ops Q rest (a.put o.dst v') w') : wpListIn F n P ops Q (o :: rest) a w := by
  refine wpListIn_plain hgd fun K hK => ?_
  obtain ⟨i, hi1, hi2, hi3, hi4⟩ := info_parts hi
  obtain ⟨v', w', hr, h2, h3, h4, h5⟩ := run_append_fresh (P := P) w base t o.type e i z size bytes ht hi1 hi2 hi3 hi4 hz hsz v k xs hown ad m c news hl hnews h1 h63 hbytes hbase
  unfold Oper.wpIn
  refine ⟨by simp [Oper.about, ho, resolve, Target.leads, Sem.run_pure], ?_⟩
  rw [Oper.semAt_plain F _ _ (by rw [ho]; intro c hc'; cases hc')]
  simp [execOp, ho, resolve, invoke, builtin, hs, hx, hr, Result.andThen]
  exact hK _ _ (h v' w' h2 h3 h5 h4)
/-- 'append(s, x)' inside a fence: one element more, of several cells. -/
theorem wpListIn_append_el {α : Type} {k : Nat} {R : World → List Value → α → List Nat → Prop} {F : Fence} {n : Nat} {P : Program} {w : World} {ops : Array Oper} {rest : List Oper} {o : Oper} {a : Act} {Q : Exit → Act → World → Prop} (hR : Rep k R) (hk : 0 < k) (hgd : o.guard = none) (s x : Operand) (t : TypeId)
    (ho : o.op = .call { callee := .builtin .append, args := #[s, x], argTypes := #[t, t] })
    (base : Nat) (e : TypeId) (z : Value) (bytes : Nat) (ht : P.underlying t = some (.slice e)) (hi : (P.info? e).map (fun i => (i.zero, i.size, i.bytes)) = some (some z, k, bytes)) (hz : z.cells.size = k)
    (v : Value) (ys : List α) (B : List Nat) (hs : a.eval s = v) (hown : OwnEls k R w base e v ys B)
    (g off cp : Nat) (hx : a.eval x = .slice (some ⟨g, off, none⟩) 1 cp) (c : List Value) (y : α) (B1 : List Nat) (hc : w.rangeAt g off c) (hy : R w c y B1) (hdis : ∀ b, blockOf v = some b → b ∉ B1)
    (h63 : ys.length + 1 ≤ maxLen) (hbytes : (ys.length + 1) * bytes ≤ 140737488355328) (hbase : base ≤ w.heap.size)
    (h : ∀ v' w', OwnEls k R w' base e v' (ys ++ [y]) (B ++ B1) → Fr (blockOf v).toList w w' → (∀ b, blockOf v' = some b → blockOf v = some b ∨ w.heap.size ≤ b) → wpListIn F n P ops Q rest (a.put o.dst v') w') : wpListIn F n P ops Q (o :: rest) a w := by
  obtain ⟨cells, h1, h2, h3⟩ := hown
  refine wpListIn_append_fr2 hgd s x t ho base e z k bytes ht hi hz hk v ys.length cells hs h1 ⟨g, off, none⟩ 1 cp c hx (by rw [hR.len hy]; omega) (fun j u hj => by rw [Addr.add_mid]; exact hc j u hj) (hR.one hy) h63 hbytes hbase ?_
  intro v' w' q1 q2 q3 q4
  refine h v' w' ⟨cells ++ c, by simpa using q1, (h2.fr hR q2 (fun b hb hm => h3 b (by simpa using hm) hb)).snoc (hR.fr hy q2 (fun b hb hm => hdis b (by simpa using hm) hb)), ?_⟩ q2 q3
  intro b hb hm
  rcases q3 b hb with hv | hn
  · rcases List.mem_append.1 hm with hm | hm
    · exact h3 b hv hm
    · exact hdis b hv hm
  · rcases List.mem_append.1 hm with hm | hm
    · have := h2.lt hR b hm; omega
    · have := hR.lt hy b hm; omega
end Go.Proofs.Ytcmpjkopdjncdaa

/- A range over a function whose rounds' variables lie in memory. No program in sight. -/
namespace Go.Proofs.Ytcmpjkopdjncdaa
open Go.RowKit Go.Shelf

variable {F : Fence} {n : Nat} {P : Program}
theorem wpIn_rangeBrkA {α : Type} {g : Operand} {ps : Array Tmp} {assign body : Code} {Q : Exit → Act → World → Prop} {a : Act} {w : World}
    (hro : F.round = none) (h1 : 1 ≤ n) {gf : Nat} {lb : Array Value} (hg : a.eval g = .func (.func gf) #[] lb) (hFg : F.fn gf) (eg : ∀ args w, (callFunc gf args).run P w = .ok (.enter gf args) w)
    {encs : α → Array Value} {Xs : List (Nat × Nat)} {xs : List α} {w0 : World} (hseq : SeqB F (n - 1) P gf lb encs Xs xs w0) (hb0 : Below w0.heap.size w0 w) (hps : ∀ x, (encs x).size = ps.size)
    (hX : ∀ p ∈ Xs, p.1 < w.heap.size) (hlow : Low Xs w)
    (I : List α → World → Prop) (Ix : Nat → List α → World → Prop) (hI : AbX Xs w.heap.size I) (hIx : ∀ id, AbX Xs w.heap.size (Ix id)) (h0 : I [] w) (As : α → Act → World → Prop) (hAs : ∀ x a' W' k o o', As x a' W' → W'.heap[k]? = some o → o.isCells = false → As x a' (W'.putObj k o'))
    (hassign : ∀ (l : Nat) (x : α) (W : World) (K : Act → World → Prop), (∀ a' W', As x a' W' → Fr [] W W' → K a' W') →
      assign.wpIn (F.inRound l) (n - 1 - 1) P (Exit.then K (fun _ _ _ => False)) { tmps := (ps.zip (encs x)).foldl (fun t (p, v) => t.setIfInBounds p v) a.tmps, defers := [] } W)
    (hbody : ∀ (l : Nat) (pre : List α) (x : α) (a' : Act) (W : World), w.heap.size ≤ l → (pre ++ [x]) <+: xs → I pre W → Low Xs W → w.heap.size ≤ W.heap.size → As x a' W → body.wpIn (F.inRound l) (n - 1 - 1) P (postBrk Xs I Ix (pre ++ [x]) W) a' W)
    (hdone : ∀ (D : Nat) (W : World), w.heap.size ≤ D → I xs W → Kx Xs w W → W.heap[D]? = some (.deferred (some [])) → Q .normal { a with defers := { target := .collected D, args := #[] } :: a.defers } W)
    (hstop : ∀ (D : Nat) (id : Nat) (pre : List α) (W : World), w.heap.size ≤ D → pre <+: xs → Ix id pre W → W.heap[D]? = some (.deferred (some [])) → (Code.exit id).wpIn F n P Q { a with defers := { target := .collected D, args := #[] } :: a.defers } W) :
    (Code.rangeFunc g ps assign body).wpIn F n P Q a w := by
  refine wpIn_rangeFunc ?_
  intro fn hfn
  rw [hro]
  obtain ⟨rc, hrc⟩ : ∃ rc : LoopState → Option Code → Loop, rc = fun st pe => { state := st, pending := pe, fn, tmps := a.tmps, params := ps, assign, body, defers := w.heap.size } := ⟨_, rfl⟩
  obtain ⟨W1, hW1⟩ : ∃ W1, (w.alloc (.deferred (some []))).alloc (.loop (rc .ready none)) = W1 := ⟨_, rfl⟩
  have hf1 : Fr [] w W1 := by rw [← hW1]; exact ((Fr.refl [] w).alloc _).alloc _
  have hs1 : W1.heap.size = w.heap.size + 2 := by rw [← hW1]; simp
  have hL1 : W1.heap[w.heap.size + 1]? = some (.loop (rc .ready none)) := by
    rw [← hW1]; have := World.alloc_heap_new (w.alloc (.deferred (some []))) (.loop (rc .ready none)); rwa [World.size_alloc] at this
  have hK1 : W1.heap[w.heap.size]? = some (.deferred (some [])) := by
    rw [← hW1]; exact (Below.heap_alloc _ _ _ (by simp)).trans (World.alloc_heap_new w _)
  have hI1 : I [] W1 := hI.fr0 h0 hf1
  have hb1 : Below w0.heap.size w0 W1 := hb0.trans (hf1.below.mono hb0.size)
  have hx1 : Kx Xs w W1 := Kx.ofFr hf1 hX
  have put : ∀ (W : World) (o : Obj) (p : Nat × Nat), p ∈ Xs → (W.putObj (w.heap.size + 1) o).heap[p.1]? = W.heap[p.1]? := fun W o p hp => World.putObj_heap_other (by have := hX p hp; omega)
  refine ⟨w.heap.size + 1, [{ target := .collected w.heap.size, args := #[] }], W1, { target := .fn (.func gf) lb, args := #[.func (.yield (w.heap.size + 1)) #[] #[]] }, W1, gf,
    #[.func (.yield (w.heap.size + 1)) #[] #[]] ++ lb, W1, ?_, ?_, ?_, ?_, fun _ => h1, ?_⟩
  · rw [← hW1, hrc]; exact run_enterLoop_outer _ _ _ _ _
  · simp only [resolve, hg]
    simp [go_sem]
  · intro f' hf'; simp [Target.leads] at hf'; subst hf'; exact hFg
  · simp [invoke, go_sem, eg]
  refine (hseq (w.heap.size + 1) (fun pre W => (I pre W ∧ w.heap.size ≤ W.heap.size ∧ Low Xs W) ∧ W.heap[w.heap.size + 1]? = some (.loop (rc .ready none)) ∧ W.heap[w.heap.size]? = some (.deferred (some []))) (fun pre W => ∃ id, Ix id pre W ∧ W.heap[w.heap.size + 1]? = some (.loop (rc .done (some (.exit id)))) ∧ W.heap[w.heap.size]? = some (.deferred (some []))) W1 hb1 (hx1.low hlow) ?_ ?_ ?_ ⟨⟨hI1, hf1.size, hx1.low hlow⟩, hL1, hK1⟩).mono ?_
  · intro s A B row hs hgr hr
    have e : ∀ k, k < W1.heap.size → k < A.heap.size → B.heap[k]? = A.heap[k]? := fun k hk hA => hgr.block k hA (fun e => by have := (hr k e.symm).1; omega)
    refine ⟨⟨hI s A B row hs.1.1 hgr (fun r er => ⟨by have := (hr r er).1; omega, (hr r er).2⟩), Nat.le_trans hs.1.2.1 hgr.size, ?_⟩, ?_, ?_⟩
    · refine hs.1.2.2.congr (fun p hp => ?_) hgr.size
      have := hX p hp
      exact e p.1 (by omega) (by omega)
    · rw [e _ (by omega) (Array.getElem?_eq_some_iff.1 hs.2.1).1]; exact hs.2.1
    · rw [e _ (by omega) (Array.getElem?_eq_some_iff.1 hs.2.2).1]; exact hs.2.2
  · rintro s A B row ⟨id, hs1, hs2, hs3⟩ hgr hr
    have e : ∀ k, k < W1.heap.size → k < A.heap.size → B.heap[k]? = A.heap[k]? := fun k hk hA => hgr.block k hA (fun e => by have := (hr k e.symm).1; omega)
    exact ⟨id, hIx id s A B row hs1 hgr (fun r er => ⟨by have := (hr r er).1; omega, (hr r er).2⟩), by rw [e _ (by omega) (Array.getElem?_eq_some_iff.1 hs2).1]; exact hs2, by rw [e _ (by omega) (Array.getElem?_eq_some_iff.1 hs3).1]; exact hs3⟩
  · rintro pre x W hpre ⟨⟨hi, hsz, hlw⟩, hl, hk⟩
    have hlt : w.heap.size + 1 < W.heap.size := (Array.getElem?_eq_some_iff.1 hl).1
    have hy := run_yield (P := P) (args := encs x) hl (by rw [hrc]; exact hps x)
    rw [hrc] at hy
    refine ⟨fn, _, assign, body, hy, roundIn_of_wpIn hfn (hassign _ x W _ ?_)⟩
    clear hy
    intro av V hav hFV
    have hXW : ∀ p ∈ Xs, p.1 < W.heap.size := fun p hp => Nat.lt_of_lt_of_le (hX p hp) hsz
    have hkv : Kx Xs W V := Kx.ofFr hFV hXW
    have hkW := (Array.getElem?_eq_some_iff.1 hk).1
    replace hi := hI.fr0 hi hFV
    replace hl := (hFV.block _ hlt (by simp)).trans hl
    replace hk := (hFV.block _ hkW (by simp)).trans hk
    replace hlt := Nat.lt_of_lt_of_le hlt hFV.size
    replace hsz := Nat.le_trans hsz hFV.size
    replace hlw := hkv.low hlw
    clear hFV hXW hkW
    refine ⟨_, run_beginRound hl (by rw [hrc]), ?_⟩
    have hl2 : (V.putObj (w.heap.size + 1) (.loop { rc .ready none with state := .busy })).heap[w.heap.size + 1]? = some (.loop { rc .ready none with state := .busy }) := World.putObj_heap_same hlt
    have hk2 : (V.putObj (w.heap.size + 1) (.loop { rc .ready none with state := .busy })).heap[w.heap.size]? = some (.deferred (some [])) := (World.putObj_heap_other (by omega)).trans hk
    have hz2 : (V.putObj (w.heap.size + 1) (.loop { rc .ready none with state := .busy })).heap.size = V.heap.size := by simp
    have hg2 : ∀ k, Gd Xs V k → Gd Xs (V.putObj (w.heap.size + 1) (.loop { rc .ready none with state := .busy })) k := fun k h => h.congr (put V _)
    have hlw2 : Low Xs (V.putObj (w.heap.size + 1) (.loop { rc .ready none with state := .busy })) := hlw.congr (put V _) (by rw [hz2]; exact Nat.le_refl _)
    have hb2 : ∀ k, k ≠ w.heap.size + 1 → (V.putObj (w.heap.size + 1) (.loop { rc .ready none with state := .busy })).heap[k]? = V.heap[k]? := fun k hk => World.putObj_heap_other hk
    refine wpIn_mono (hbody _ pre x av _ (by omega) hpre (hI.putObj _ hi (by omega) hl rfl) hlw2 (by rw [hz2]; exact hsz) (hAs _ _ _ _ _ _ hav hl rfl)) ?_
    generalize V.putObj (w.heap.size + 1) (.loop { rc .ready none with state := .busy }) = W2 at *
    rintro e a3 W3 hp
    cases e with
    | normal =>
      obtain ⟨hkx, hi3⟩ := hp
      have hl3 := hkx.blocks _ _ hl2 (.inr rfl)
      have hk3 := hkx.blocks _ _ hk2 (.inr rfl)
      have hlt3 := (Array.getElem?_eq_some_iff.1 hl3).1
      have hr := run_endRound (P := P) none hl3
      refine ⟨_, _, hr, .inl ⟨rfl, ⟨⟨hI.putObj _ hi3 (by omega) hl3 rfl, ?_, ?_⟩, ?_, ?_⟩, ?_⟩⟩
      · have := hkx.size; rw [putObj_size]; omega
      · exact (hkx.low hlw2).congr (put W3 _) (by simp)
      · rw [World.putObj_heap_same hlt3, hrc]; rfl
      · exact (World.putObj_heap_other (by omega)).trans hk3
      · refine hkv.trans ⟨by have := hkx.size; rw [putObj_size]; omega, ?_, ?_, ?_⟩
        · intro k o hk hgd
          by_cases e : k = w.heap.size + 1
          · subst e
            rw [hl] at hk
            cases hk
            rw [World.putObj_heap_same hlt3, hrc]
            rfl
          · rw [World.putObj_heap_other e]
            exact hkx.blocks k o ((hb2 k e).trans hk) (hgd.imp (hg2 k) id)
        · intro k hk hgd
          exact (hkx.gd k (by omega) (hg2 k hgd)).congr (put W3 _)
        · intro _
          exact (hkx.low hlw2).congr (put W3 _) (by simp)
    | exit id =>
      obtain ⟨hkx, hi3⟩ := hp
      have hl3 := hkx.blocks _ _ hl2 (.inr rfl)
      have hk3 := hkx.blocks _ _ hk2 (.inr rfl)
      have hlt3 := (Array.getElem?_eq_some_iff.1 hl3).1
      have hr := run_endRound (P := P) (some (.exit id)) hl3
      refine ⟨_, _, hr, .inr ⟨rfl, id, (hIx id).putObj _ hi3 (by omega) hl3 rfl, ?_, ?_⟩⟩
      · rw [World.putObj_heap_same hlt3, hrc]; rfl
      · exact (World.putObj_heap_other (by omega)).trans hk3
    | ret => exact hp.elim
    | goto t => exact hp.elim
    | panic ch => exact hp.elim
    | outgrown => exact hp.elim
  · rintro e W2 ⟨⟨v, rfl⟩, ⟨⟨⟨hi, hsz, hlw⟩, hl, hk⟩, hkx⟩ | ⟨pre, hpre, id, hi, hl, hk⟩⟩
    rotate_left
    · exact ⟨some (.exit id), _, by have := run_endLoop (P := P) hl (by rw [hrc]; simp); rw [hrc] at this; exact this, hstop _ id pre _ (Nat.le_refl _) hpre ((hIx id).putObj _ hi (by omega) hl rfl) ((World.putObj_heap_other (by omega)).trans hk)⟩
    have hg2 : ∀ (o : Obj) k, Gd Xs W2 k → Gd Xs (W2.putObj (w.heap.size + 1) o) k := fun o k h => h.congr (put W2 _)
    have hgw : ∀ k, Gd Xs w k → k < w.heap.size → Gd Xs W2 k := fun k h hk => hkx.gd k (by omega) (hx1.gd k hk h)
    refine ⟨none, _, by have := run_endLoop (P := P) hl (by rw [hrc]; simp); rw [hrc] at this; exact this, hdone _ _ (Nat.le_refl _) (hI.putObj _ hi (by omega) hl rfl) ?_ ((World.putObj_heap_other (by omega)).trans hk)⟩
    refine ⟨by rw [putObj_size]; omega, ?_, ?_, ?_⟩
    · intro k o hk' hgd
      have hlt := (Array.getElem?_eq_some_iff.1 hk').1
      rw [World.putObj_heap_other (by omega)]
      exact (hx1.trans hkx).blocks k o hk' hgd
    · intro k hk' hgd
      exact hg2 _ k (hgw k hgd hk')
    · intro _
      exact hlw.congr (put W2 _) (by simp)
/-- The same, where one of the round's variables is a struct in memory; what the variables are laid into is told by the walk. -/
theorem wpIn_rangeBrkB {α : Type} {g : Operand} {ps : Array Tmp} {assign body : Code} {Q : Exit → Act → World → Prop} {a : Act} {w : World}
    (hro : F.round = none) (h1 : 1 ≤ n) {gf : Nat} {lb : Array Value} (hg : a.eval g = .func (.func gf) #[] lb) (hFg : F.fn gf) (eg : ∀ args w, (callFunc gf args).run P w = .ok (.enter gf args) w)
    {encs : α → Array Value} {Xs : List (Nat × Nat)} {xs : List α} {w0 : World} (hseq : SeqB F (n - 1) P gf lb encs Xs xs w0) (hb0 : Below w0.heap.size w0 w) (hps : ∀ x, (encs x).size = ps.size)
    (hX : ∀ p ∈ Xs, p.1 < w.heap.size) (hlow : Low Xs w)
    (I : List α → World → Prop) (Ix : Nat → List α → World → Prop) (hI : AbX Xs w.heap.size I) (hIx : ∀ id, AbX Xs w.heap.size (Ix id)) (h0 : I [] w) (T : TypeId) (cs : α → Array Value)
    (hround : ∀ x : α, ∃ A : Nat → Act, (∀ (l : Nat) (W : World) (K : Act → World → Prop), (∀ g W', Box W' g T (cs x) → Fr [] W W' → K (A g) W') →
      assign.wpIn (F.inRound l) (n - 1 - 1) P (Exit.then K (fun _ _ _ => False)) { tmps := (ps.zip (encs x)).foldl (fun t (p, v) => t.setIfInBounds p v) a.tmps, defers := [] } W) ∧
      (∀ (l : Nat) (pre : List α) (g : Nat) (W : World), w.heap.size ≤ l → (pre ++ [x]) <+: xs → I pre W → Low Xs W → w.heap.size ≤ W.heap.size → Box W g T (cs x) → body.wpIn (F.inRound l) (n - 1 - 1) P (postBrk Xs I Ix (pre ++ [x]) W) (A g) W))
    (hdone : ∀ (D : Nat) (W : World), w.heap.size ≤ D → I xs W → Kx Xs w W → W.heap[D]? = some (.deferred (some [])) → Q .normal { a with defers := { target := .collected D, args := #[] } :: a.defers } W)
    (hstop : ∀ (D : Nat) (id : Nat) (pre : List α) (W : World), w.heap.size ≤ D → pre <+: xs → Ix id pre W → W.heap[D]? = some (.deferred (some [])) → (Code.exit id).wpIn F n P Q { a with defers := { target := .collected D, args := #[] } :: a.defers } W) :
    (Code.rangeFunc g ps assign body).wpIn F n P Q a w := by
  refine wpIn_rangeBrkA hro h1 hg hFg eg hseq hb0 hps hX hlow I Ix hI hIx h0 (fun x a' W' => ∃ g, Box W' g T (cs x) ∧ a' = Classical.choose (hround x) g) ?_ ?_ ?_ hdone hstop
  · rintro x a' W' k o o' ⟨g, hb, rfl⟩ hk ho
    refine ⟨g, ?_, rfl⟩
    have hne : k ≠ g := by
      rintro rfl
      have h9 : W'.heap[k]? = some (.cells (cs x) T (0, 0)) := hb
      rw [hk] at h9
      cases h9
      simp [Obj.isCells] at ho
    exact (World.putObj_heap_other (Ne.symm hne)).trans hb
  · intro l x W K hK
    exact (Classical.choose_spec (hround x)).1 l W K (fun g W' hb hf => hK _ _ ⟨g, hb, rfl⟩ hf)
  · rintro l pre x a' W hl hpre hi hlw hsz ⟨g, hb, rfl⟩
    exact (Classical.choose_spec (hround x)).2 l pre g W hl hpre hi hlw hsz hb
end Go.Proofs.Ytcmpjkopdjncdaa
