import Derived.Test.YtchbgiindfoepaaMq32
import Derived.Test.YtchbgiindfoepaaMq24
import Derived.Test.YtchbgiindfoepaaMq16
/- The walk of parity.Make (printed by gen_make.py). -/
namespace Go.Proofs.Ytchbgiindfoepaa
open Go.RowKit

def runL : List (List UInt8) → Sheet → Except Int Sheet
  | [], s => .ok s
  | l :: ls, s => match parseR l with
    | .error k => .error k
    | .ok p => runL ls (s.add l p)
theorem runL_append : ∀ (a b : List (List UInt8)) (s : Sheet), runL (a ++ b) s = match runL a s with | .error k => .error k | .ok s' => runL b s'
  | [], _, _ => rfl
  | l :: a, b, s => by
    show (match parseR l with | .error k => .error k | .ok p => runL (a ++ b) (s.add l p) : Except Int Sheet) = match (match parseR l with | .error k => .error k | .ok p => runL a (s.add l p) : Except Int Sheet) with | .error k => .error k | .ok s' => runL b s'
    cases parseR l with
    | error k => rfl
    | ok p => exact runL_append a b _
theorem runL_ok {y : List UInt8} {p : Pkt} (s : Sheet) (h : parseR y = .ok p) : runL [y] s = .ok (s.add y p) := by
  unfold runL
  rw [h]
  rfl
theorem runL_err {y : List UInt8} {k : Int} (r : List (List UInt8)) (s : Sheet) (h : parseR y = .error k) : runL (y :: r) s = .error k := by
  unfold runL
  rw [h]
/-- What Make answers. -/
def mkP (ls : List (List UInt8)) : Except Int Rep_ :=
  if ls = [] then .error 4 else if 48 < ls.length then .error 3 else
  match runL ls Sheet.zero with
  | .error k => .error k
  | .ok s => if s.alike = false then .error 61 else
    match cvOf s.seqs with
    | .error k => .error k
    | .ok (b, m) => .ok ⟨s.sum, b, m⟩
abbrev rpz : Array Value := #[.int .u8 0, .int .u8 0, .int .u8 0, .int .u8 0, .int .u8 0, .int .u8 0, .int .u8 0, .int .u8 0, .int .u16 0, .int .u64 0, .int .u64 0, .slice none 0 0]
/-- A repair whose body lies from a block on. -/
def RpO (w : World) (base : Nat) (v : Value) (r : Rep_) : Prop := ∃ vb, v = .agg (rpc r vb) ∧ Bytes w vb r.bt.body ∧ ∀ b, liveOf vb = some b → base ≤ b
theorem RpO.v {w : World} {base : Nat} {v : Value} {r : Rep_} (h : RpO w base v r) : RpV w v r := by
  obtain ⟨vb, e, hb, -⟩ := h
  exact ⟨vb, e, hb⟩
/-- What a call that makes a repair hands back. -/
def Made (x : Except Int Rep_) (n : Nat) (e : Ending) (w' : World) : Prop := (∃ r v', x = .ok r ∧ e = .returned (.tuple #[v', .int .i64 0]) ∧ RpO w' n v' r) ∨ (∃ k, x = .error k ∧ k ≠ 0 ∧ e = .returned (.tuple #[.agg rpz, .int .i64 k]))
set_option maxRecDepth 100000 in
set_option maxHeartbeats 8000000 in
theorem pMake_any {w : World} {v : Value} {ls : List (List UInt8)} (hl : BRows w v ls) :
    Calls Try.prog 29 #[v] w fun e w' => Fr [] w w' ∧ Made (mkP ls) w.heap.size e w' := by
  obtain ⟨av, cv, rfl⟩ := hl.shape
  have hlen := hl.len.2
  unfold maxLen at hlen
  obtain ⟨w1, e1, hF1, hB1, hs1⟩ := one_new w rpz 58
  have HL0 := Lib.hid hl; have HL := Lib.hid (hl.keep hF1); have HF := Lib.hid hF1; have HR := Lib.hid hB1; have E1 := Lib.hid e1
  have HG2 : Hid (w.heap.size < w1.heap.size) := Lib.hid hB1.lt
  have HS1 := Lib.hid hs1
  clear hl hF1 hB1 e1 hs1
  by_cases hn : ls = []
  · have hl0 : ((ls.length : Int) == 0) = true := by rw [hn]; rfl
    have HM : Hid (mkP ls = .error 4) := Lib.hid (by unfold mkP; rw [if_pos hn])
    clear hn
    go_enter Try.func29, Try.ntmps29
    go_upto_region 1 with fail
    rw [E1.out]
    clear E1
    go_wp2_with (refine wpList_store_row rfl 58 (.tmp 2) (.tmp 15) rfl w.heap.size rfl _ _ rfl 58 HR.out (by kernel_rfl) rfl (by simp [Value.oneCell']) ?_; intro w9 hY hG; have HY := Lib.hid hY; have HGn := Lib.hid hG; clear hY hG)
    refine bodyPost_ret (results_row_1 rfl _ _ w.heap.size 58 _ _ rfl HY.out Try.underlying58 rfl (by kernel_rfl)) rfl ⟨HF.out.step HGn.out (by simp), .inr ⟨4, HM.out, by omega, rfl⟩⟩
  have hl0 : ((ls.length : Int) == 0) = false := beq_eq_false_iff_ne.2 (by have := List.length_pos_iff.2 hn; omega)
  by_cases hb48 : 48 < ls.length
  · have HM : Hid (mkP ls = .error 3) := Lib.hid (by unfold mkP; rw [if_neg hn, if_pos hb48])
    clear hn
    go_enter Try.func29, Try.ntmps29
    go_upto_region 1 with fail
    rw [E1.out]
    clear E1
    go_wp2_with (refine wpList_store_row rfl 58 (.tmp 2) (.tmp 20) rfl w.heap.size rfl _ _ rfl 58 HR.out (by kernel_rfl) rfl (by simp [Value.oneCell']) ?_; intro w9 hY hG; have HY := Lib.hid hY; have HGn := Lib.hid hG; clear hY hG)
    refine bodyPost_ret (results_row_1 rfl _ _ w.heap.size 58 _ _ rfl HY.out Try.underlying58 rfl (by kernel_rfl)) rfl ⟨HF.out.step HGn.out (by simp), .inr ⟨3, HM.out, by omega, rfl⟩⟩
  have HM : Hid (mkP ls = match runL ls Sheet.zero with | .error k => .error k | .ok s => if s.alike = false then .error 61 else match cvOf s.seqs with | .error k => .error k | .ok (b, m) => .ok ⟨s.sum, b, m⟩) := Lib.hid (by unfold mkP; rw [if_neg hn, if_neg hb48])
  have hsm : ls.length ≤ 48 := by omega
  clear hn
  obtain ⟨w2, e2, hF2, hB2, hs2⟩ := one_new w1 #[.int .u8 0, .int .u8 0, .int .u8 0, .int .u8 0, .int .u8 0, .int .u8 0, .int .u8 0, .int .u8 0, .slice none 0 0, .slice none 0 0, .int .u32 0, .bool false] 123
  have E2 := Lib.hid e2; have HF2 := Lib.hid hF2; have HB2 : Hid (Box w2 w1.heap.size 123 (shc Sheet.zero (.slice none 0 0) (.slice none 0 0))) := Lib.hid hB2
  have HS2 := Lib.hid hs2
  clear e2 hF2 hB2 hs2
  go_enter Try.func29, Try.ntmps29
  go_upto_region 1 with fail
  rw [E1.out]
  clear E1
  go_upto_region 6 with fail
  rw [E2.out]
  clear E2
  generalize hg : w1.heap.size = g at *
  have HGE := Lib.hid hg
  clear hg
  go_wp2_with fail
  go_loopw [23] (fun iv wr => ∃ (k : Nat) (s : Sheet), k ≤ ls.length ∧ iv = .int .i64 k ∧ runL (ls.take k) Sheet.zero = .ok s ∧ ShV wr (g + 1) g s ∧ Fr [] w1 wr ∧ g + 1 ≤ wr.heap.size ∧ s.seqs.length = k ∧ s.sum.body.length ≤ 1500) (fun iv _ => ls.length - (intOf iv).toNat)
  case atStart => exact ⟨0, Sheet.zero, Nat.zero_le _, rfl, rfl, ⟨⟨_, _, HB2.out, Sl.nil _, World.ownsRow_nil _ _ _ _, by simp [liveOf]⟩, by omega⟩, HF2.out, by have := HS2.out; omega, rfl, by simp [Sheet.zero, Bt.zero]⟩
  case round =>
    clear HB2 HF2
    obtain ⟨k, s, hk, rfl, hR, hS, hF, hz, hq, hb⟩ := hrel
    have HRL := Lib.hid hR; have HSV := Lib.hid hS; have HFQ := Lib.hid hF; have HZ := Lib.hid hz; have HQ := Lib.hid hq; have HSB := Lib.hid hb
    clear hR hS hF hz hq hb
    by_cases hlt : k < ls.length
    · obtain ⟨b, o, x, y, ea, hb, hy, hc, hx⟩ := HL.out.at_ hlt
      subst ea
      have HTF : Hid (ls = ls.take k ++ y :: ls.drop (k + 1)) := Lib.hid (by
        have h1 : ls[k] = y := by rw [List.getElem?_eq_getElem hlt] at hy; simpa using hy
        rw [← h1, List.getElem_cons_drop, List.take_append_drop])
      have HT : Hid (ls.take (k + 1) = ls.take k ++ [y]) := Lib.hid (by rw [List.take_add_one, hy]; rfl)
      obtain ⟨al, cl, rfl⟩ := Sl.shape hx
      simp only [List.length_map] at hx hc
      have HX := Lib.hid hx
      have d0 := HFQ.out.cellSome hc (by simp)
      clear hb hy hc hx
      go_wp2_with fail
      refine (shAdd_any (w0 := w1) HSV.out HFQ.out (by have := HGE.out; omega) HX.out HZ.out (by have := HSB.out; omega) (by have := HQ.out; omega)).mono ?_
      rintro e w3 ⟨⟨hF, hz⟩, ⟨p, hp, rfl, hS⟩ | ⟨kk, hp, rfl⟩⟩
      · have HSV := Lib.hid hS; have HFQ := Lib.hid hF; have HZ := Lib.hid hz
        have HRL := Lib.hid (show runL (ls.take (k + 1)) Sheet.zero = .ok (s.add y p) by rw [HT.out, runL_append, HRL.out]; exact runL_ok s hp)
        have HQ : Hid ((s.add y p).seqs.length = k + 1) := Lib.hid (by
          have h1 : (s.add y p).seqs = s.seqs ++ [p.seq] := by unfold Sheet.add Sheet.begun; split <;> rfl
          rw [h1, List.length_append, HQ.out]; rfl)
        have HSB : Hid ((s.add y p).sum.body.length ≤ 1500) := Lib.hid (by
          have h1 : (s.add y p).sum = s.sum.add (imp y) := by unfold Sheet.add Sheet.begun; split <;> rfl
          have h2 : (imp y).body.length ≤ 1500 := by show (y.drop 12).length ≤ _; have := (parse_len hp).2; rw [List.length_drop]; omega
          rw [h1, Bt.add_body_len]; have := HSB.out; omega)
        clear hp hS hF hz
        go_wp2_with fail
        go_roundw
        case rel => exact ⟨k + 1, _, by omega, by go_num, HRL.out, HSV.out, HFQ.out, HZ.out, HQ.out, HSB.out⟩
        case measure => simp [intOf]; omega
      · have hk0 : kk ≠ 0 := by simpa using parseR_err hp
        have hkb : (kk != 0) = true := bne_iff_ne.2 hk0
        have HK0 := Lib.hid hk0
        have HME : Hid (mkP ls = .error kk) := Lib.hid (by
          have h1 : runL ls Sheet.zero = .error kk := by
            rw [HTF.out, runL_append, HRL.out]
            exact runL_err _ s hp
          rw [HM.out, h1])
        have HRR := Lib.hid (HR.out.keep hF); have HFQ := Lib.hid hF
        clear hp hF hz hk0
        go_wp2_with (refine wpList_store_row rfl 58 (.tmp 2) (.tmp 31) rfl w.heap.size rfl _ _ rfl 58 HRR.out (by kernel_rfl) rfl (by simp [Value.oneCell']) ?_; intro w9 hY hG; have HY := Lib.hid hY; have HGn := Lib.hid hG; clear hY hG)
        refine bodyPost_ret (results_row_1 rfl _ _ w.heap.size 58 _ _ rfl HY.out Try.underlying58 rfl (by kernel_rfl)) rfl ⟨(HF.out.trans HFQ.out).step HGn.out (by simp), .inr ⟨kk, HME.out, HK0.out, rfl⟩⟩
    · obtain rfl : k = ls.length := by omega
      rw [List.take_length] at HRL
      have HMS : Hid (mkP ls = if s.alike = false then .error 61 else match cvOf s.seqs with | .error k => .error k | .ok (b, m) => .ok ⟨s.sum, b, m⟩) := Lib.hid (by rw [HM.out, HRL.out])
      obtain ⟨⟨vb, vs, hB, hb, ho, hd⟩, -⟩ := HSV.out
      obtain ⟨ab, nb, cb, rfl⟩ := Sl.isSlice hb
      obtain ⟨aq, cq, rfl⟩ : ∃ a c, vs = .slice a s.seqs.length c := by
        have := Sl.shape (Sl.ofOwn ho)
        simpa using this
      have HB := Lib.hid hB; have HBD := Lib.hid hb; have HSQ := Lib.hid (Sl.ofOwn ho); have HD := Lib.hid hd
      have HRW := Lib.hid (HR.out.keep HFQ.out)
      clear hB hb ho hd HSV HM
      cases hal : s.alike with
      | false =>
        have HB1 : Hid (Box wr g 123 (shc { s with alike := false } (.slice ab nb cb) (.slice aq s.seqs.length cq))) := Lib.hid (HB.out.as_ (by rw [← hal]))
        have HME : Hid (mkP ls = .error 61) := Lib.hid (by rw [HMS.out, if_pos hal])
        clear hal
        have x11 := HB1.out.cell 11
        simp only [shc, List.getElem?_toArray, List.getElem?_cons_succ, List.getElem?_cons_zero] at x11
        go_wp2_with (refine wpList_store_row rfl 58 (.tmp 2) (.tmp 37) rfl w.heap.size rfl _ _ rfl 58 HRW.out (by kernel_rfl) rfl (by simp [Value.oneCell']) ?_; intro w9 hY hG; have HY := Lib.hid hY; have HGn := Lib.hid hG; clear hY hG)
        refine bodyPost_ret (results_row_1 rfl _ _ w.heap.size 58 _ _ rfl HY.out Try.underlying58 rfl (by kernel_rfl)) rfl ⟨(HF.out.trans HFQ.out).step HGn.out (by simp), .inr ⟨61, HME.out, by omega, rfl⟩⟩
      | true =>
        have HB1 : Hid (Box wr g 123 (shc { s with alike := true } (.slice ab nb cb) (.slice aq s.seqs.length cq))) := Lib.hid (HB.out.as_ (by rw [← hal]))
        have HMC : Hid (mkP ls = match cvOf s.seqs with | .error k => .error k | .ok (b, m) => .ok ⟨s.sum, b, m⟩) := Lib.hid (by rw [HMS.out, if_neg (by rw [hal]; simp)])
        clear hal HMS
        have x11 := HB1.out.cell 11; have x9 := HB1.out.cell 9
        simp only [shc, List.getElem?_toArray, List.getElem?_cons_succ, List.getElem?_cons_zero] at x11 x9
        go_wp2_with fail
        clear x11 x9
        refine (cvOf_any (ns := s.seqs) HSQ.out (by have := HQ.out; omega)).mono ?_
        rintro e w5 ⟨⟨bs, m, hm, rfl⟩ | ⟨kk, hm, hk0, rfl⟩, hF⟩
        · have HME : Hid (mkP ls = .ok ⟨s.sum, bs, m⟩) := Lib.hid (by rw [HMC.out, hm])
          have HB1 := Lib.hid (HB1.out.keep hF); have HBD := Lib.hid (Sl.keep HBD.out hF); have HRW := Lib.hid (HRW.out.keep hF); have HFQ := Lib.hid (HFQ.out.trans hF)
          clear hm hF HMC
          go_upto_region 16 with (refine wpList_store_row rfl 126 (.tmp 9) (.tmp 43) rfl w5.heap.size rfl _ _ rfl 126 (Box.new w5 126 #[.int .u64 0, .int .u64 0]) (by kernel_rfl) rfl (by simp [Value.oneCell']) ?_; intro w6 hY hG; have hFn := ((Fr.refl [] w5).alloc _).step hG (by simp); have HFn := Lib.hid hFn; have HMB := Lib.hid hY; clear hG hFn hY)
          have hF := HFn.out
          have HB1 := Lib.hid (HB1.out.keep hF); have HBD := Lib.hid (Sl.keep HBD.out hF); have HRW := Lib.hid (HRW.out.keep hF); have HFQ := Lib.hid (HFQ.out.trans hF)
          have HRG : Hid (w6.rangeAt g 0 (#[.int .u8 (s.sum.h0.toNat : Nat), .int .u8 (s.sum.h1.toNat : Nat), .int .u8 (s.sum.h2.toNat : Nat), .int .u8 (s.sum.h3.toNat : Nat), .int .u8 (s.sum.h4.toNat : Nat), .int .u8 (s.sum.h5.toNat : Nat), .int .u8 (s.sum.h6.toNat : Nat), .int .u8 (s.sum.h7.toNat : Nat)] : Array Value).toList) := Lib.hid (fun j u hj => by
            refine box_range HB1.out j u ?_
            have hlt := (List.getElem?_eq_some_iff.1 hj).1
            have h8 : j < 8 := by simpa using hlt
            rcases (by omega : j = 0 ∨ j = 1 ∨ j = 2 ∨ j = 3 ∨ j = 4 ∨ j = 5 ∨ j = 6 ∨ j = 7) with rfl | rfl | rfl | rfl | rfl | rfl | rfl | rfl <;> exact hj)
          clear hF HFn
          generalize hg5 : w5.heap.size = g5 at *
          clear hg5
          have x8 := HB1.out.cell 8; have y0 := HMB.out.cell 0; have y1 := HMB.out.cell 1
          simp only [shc, mkc, List.getElem?_toArray, List.getElem?_cons_succ, List.getElem?_cons_zero] at x8 y0 y1
          go_wp2_with (first | (refine wpList_load_midA rfl 26 (.tmp 50) rfl g 0 rfl #[.int .u8 (s.sum.h0.toNat : Nat), .int .u8 (s.sum.h1.toNat : Nat), .int .u8 (s.sum.h2.toNat : Nat), .int .u8 (s.sum.h3.toNat : Nat), .int .u8 (s.sum.h4.toNat : Nat), .int .u8 (s.sum.h5.toNat : Nat), .int .u8 (s.sum.h6.toNat : Nat), .int .u8 (s.sum.h7.toNat : Nat)] _ HRG.out Try.underlying26 rfl (by kernel_rfl) ?_) | (refine wpList_store_row rfl 58 (.tmp 2) (.tmp 60) rfl w.heap.size rfl _ _ rfl 58 HRW.out (by kernel_rfl) rfl (by simp [Value.oneCell']) ?_; intro w9 hY hG; have HY := Lib.hid hY; have HGn := Lib.hid hG; clear hY hG))
          have HPO : Hid (RpO w9 w.heap.size (.agg (rpc ⟨s.sum, bs, m⟩ (.slice ab nb cb))) ⟨s.sum, bs, m⟩) := Lib.hid ⟨_, rfl, Sl.frL HBD.out HGn.out (fun b hb hm => by have := (HD.out b hb).2.2; have := HG2.out; simp at hm; omega), fun b hb => by have := (HD.out b hb).2.2; have := HG2.out; omega⟩
          refine bodyPost_ret (results_row_1 rfl _ _ w.heap.size 58 _ _ rfl HY.out Try.underlying58 rfl (by kernel_rfl)) rfl ⟨(HF.out.trans HFQ.out).step HGn.out (by simp), .inl ⟨_, _, HME.out, rfl, HPO.out⟩⟩
        · have HME : Hid (mkP ls = .error kk) := Lib.hid (by rw [HMC.out, hm])
          have hkb : (kk != 0) = true := bne_iff_ne.2 hk0
          have HK0 := Lib.hid hk0
          have HRR := Lib.hid (HRW.out.keep hF); have HFQ := Lib.hid (HFQ.out.trans hF)
          clear hm hF hk0 HMC
          go_wp2_with (first | (refine wpList_store_row rfl 126 (.tmp 9) (.tmp 43) rfl w5.heap.size rfl _ _ rfl 126 (Box.new w5 126 #[.int .u64 0, .int .u64 0]) (by kernel_rfl) rfl (by simp [Value.oneCell']) ?_; intro w6 hY hG; have hFn := ((Fr.refl [] w5).alloc _).step hG (by simp); have HFn := Lib.hid hFn; have HMB := Lib.hid hY; have HRR := Lib.hid (HRR.out.keep hFn); have HFQ := Lib.hid (HFQ.out.trans hFn); clear hG hFn hY) | (refine wpList_store_row rfl 58 (.tmp 2) (.tmp 47) rfl w.heap.size rfl _ _ rfl 58 HRR.out (by kernel_rfl) rfl (by simp [Value.oneCell']) ?_; intro w9 hY hG; have HY := Lib.hid hY; have HGn := Lib.hid hG; clear hY hG))
          refine bodyPost_ret (results_row_1 rfl _ _ w.heap.size 58 _ _ rfl HY.out Try.underlying58 rfl (by kernel_rfl)) rfl ⟨(HF.out.trans HFQ.out).step HGn.out (by simp), .inr ⟨kk, HME.out, HK0.out, rfl⟩⟩
end Go.Proofs.Ytchbgiindfoepaa

/- The walk of parity.Holds (printed by gen_holds.py). -/
namespace Go.Proofs.Ytchbgiindfoepaa
open Go.RowKit

/-- Is a repair that of packets? -/
def holdsB (r : Rep_) (ls : List (List UInt8)) : Bool := match mkP ls with
  | .error _ => false
  | .ok q => q.base == r.base && q.m.hi == r.m.hi && q.m.lo == r.m.lo && q.bt.body.length == r.bt.body.length && q.bt.cut.same r.bt.cut
theorem mkP_ok {ls : List (List UInt8)} {q : Rep_} (h : mkP ls = .ok q) : ls ≠ [] ∧ ls.length ≤ 48 ∧ ∃ s, runL ls Sheet.zero = .ok s ∧ s.alike = true ∧ q.bt = s.sum ∧ cvOf s.seqs = .ok (q.base, q.m) := by
  unfold mkP at h
  split at h
  · cases h
  rename_i h1
  split at h
  · cases h
  rename_i h2
  split at h
  · cases h
  rename_i s hs
  split at h
  · cases h
  rename_i ha
  split at h
  · cases h
  rename_i b m hc
  cases h
  exact ⟨h1, by omega, s, hs, by simpa using ha, rfl, hc⟩
theorem runL_small : ∀ (ls : List (List UInt8)) (s s' : Sheet), runL ls s = .ok s' → s.sum.body.length ≤ 1500 → s'.sum.body.length ≤ 1500
  | [], s, s', h, hs => by cases h; exact hs
  | l :: ls, s, s', h, hs => by
    unfold runL at h
    split at h
    · cases h
    rename_i p hp
    refine runL_small ls _ s' h ?_
    have h1 : (s.add l p).sum = s.sum.add (imp l) := by unfold Sheet.add Sheet.begun; split <;> rfl
    have h2 : (imp l).body.length ≤ 1500 := by show (l.drop 12).length ≤ _; have := (parse_len hp).2; rw [List.length_drop]; omega
    rw [h1, Bt.add_body_len]
    omega
theorem mkP_1500 {ls : List (List UInt8)} {q : Rep_} (h : mkP ls = .ok q) : q.bt.body.length ≤ 1500 := by
  obtain ⟨-, -, s, hs, -, e, -⟩ := mkP_ok h
  rw [e]
  exact runL_small _ _ _ hs (by simp [Sheet.zero, Bt.zero])
theorem mkP_small {ls : List (List UInt8)} {q : Rep_} (h : mkP ls = .ok q) : q.bt.body.length ≤ 1099511627776 := Nat.le_trans (mkP_1500 h) (by omega)
theorem u16_bne (a b : UInt16) : (((a.toNat : Nat) : Int) != ((b.toNat : Nat) : Int)) = !(a == b) := by
  rw [Bool.eq_iff_iff]
  simp [← UInt16.toNat_inj]
  omega
theorem bv_bne (a b : BitVec 64) : (((a.toNat : Nat) : Int) != ((b.toNat : Nat) : Int)) = !(a == b) := by
  rw [Bool.eq_iff_iff]
  simp [← BitVec.toNat_inj]
  omega
theorem nat_bne (a b : Nat) : ((a : Int) != (b : Int)) = !(a == b) := by
  rw [Bool.eq_iff_iff]
  simp
  omega
theorem RpV.one {w : World} {r : Rep_} {a : Option Addr} {n c : Nat} : ∀ u ∈ (rpc r (.slice a n c)).toList, u.oneCell' = true := by simp [Value.oneCell']
set_option maxRecDepth 100000 in
set_option maxHeartbeats 8000000 in
theorem pHolds_any {w : World} {v1 v2 : Value} {r : Rep_} {ls : List (List UInt8)} (h : RpV w v1 r) (hl : BRows w v2 ls) (hs : r.bt.body.length ≤ 1099511627776) :
    Calls Try.prog 40 #[v1, v2] w fun e w' => e = .returned (.bool (holdsB r ls)) ∧ Fr [] w w' := by
  obtain ⟨vb, rfl, hb⟩ := h
  obtain ⟨ar, cr, rfl⟩ := Sl.shape hb
  rw [List.length_map] at hb ⊢
  obtain ⟨av, cv, rfl⟩ := hl.shape
  obtain ⟨w1, e1, hF1, hB1, hs1⟩ := one_new w (rpc r (.slice ar r.bt.body.length cr)) 58
  have HL := Lib.hid (hl.keep hF1); have HF := Lib.hid hF1; have HR := Lib.hid hB1; have HBD := Lib.hid (Sl.keep hb hF1); have E1 := Lib.hid e1
  clear hl hF1 hB1 e1 hs1 hb
  go_enter Try.func40, Try.ntmps40
  go_upto_region 1 with fail
  rw [E1.out]
  clear E1
  go_wp2_with fail
  refine (pMake_any HL.out).mono ?_
  rintro e w2 ⟨hF, ⟨q, v3, hm, rfl, vq, rfl, hq, hqb⟩ | ⟨k, hm, hk, rfl⟩⟩
  rotate_left
  · have hkb : (k != 0) = true := bne_iff_ne.2 hk
    have HH : Hid (holdsB r ls = false) := Lib.hid (by unfold holdsB; rw [hm])
    have HF := Lib.hid (HF.out.trans hF)
    clear hm hk hF
    go_wp2_with fail
    go_ret
    exact ⟨by rw [HH.out]; rfl, HF.out.alloc _⟩
  obtain ⟨aq, cq, rfl⟩ := Sl.shape hq
  rw [List.length_map] at hq hqb ⊢
  have HQB := Lib.hid hq; have HH : Hid (holdsB r ls = (q.base == r.base && q.m.hi == r.m.hi && q.m.lo == r.m.lo && q.bt.body.length == r.bt.body.length && q.bt.cut.same r.bt.cut)) := Lib.hid (by unfold holdsB; rw [hm])
  have HQS : Hid (q.bt.body.length ≤ 1099511627776) := Lib.hid (by
    have := (Sl.len hq).2
    exact mkP_small hm)
  have HF := Lib.hid (HF.out.trans hF); have HR := Lib.hid (HR.out.keep hF); have HBD := Lib.hid (Sl.keep HBD.out hF)
  clear hq hqb hF hm
  obtain ⟨w3, e3, hF3, hB3, hs3⟩ := one_new w2 (rpc q (.slice aq q.bt.body.length cq)) 58
  have E3 := Lib.hid e3; have HQR := Lib.hid hB3; have HFn := Lib.hid hF3
  clear e3 hB3 hF3 hs3
  go_upto_region 2 with fail
  rw [E3.out]
  clear E3
  have hF := HFn.out
  have HF := Lib.hid (HF.out.trans hF); have HR := Lib.hid (HR.out.keep hF); have HBD := Lib.hid (Sl.keep HBD.out hF); have HQB := Lib.hid (Sl.keep HQB.out hF)
  clear hF HFn
  generalize hg : w2.heap.size = g at *
  clear hg
  have x8 := HR.out.cell 8; have x9 := HR.out.cell 9; have x10 := HR.out.cell 10; have x11 := HR.out.cell 11
  have y8 := HQR.out.cell 8; have y9 := HQR.out.cell 9; have y10 := HQR.out.cell 10; have y11 := HQR.out.cell 11
  simp only [rpc, List.getElem?_toArray, List.getElem?_cons_succ, List.getElem?_cons_zero] at x8 x9 x10 x11 y8 y9 y10 y11
  by_cases h1 : q.base = r.base
  rotate_left
  · have t1 : (((q.base.toNat : Nat) : Int) != ((r.base.toNat : Nat) : Int)) = true := by rw [u16_bne]; simpa using h1
    have HX : Hid (holdsB r ls = false) := Lib.hid (by rw [HH.out, beq_eq_false_iff_ne.2 h1]; rfl)
    clear HH
    go_wp2_with fail
    go_ret
    exact ⟨by rw [HX.out]; rfl, HF.out⟩
  have t1 : (((q.base.toNat : Nat) : Int) != ((r.base.toNat : Nat) : Int)) = false := by rw [u16_bne, h1]; simp
  have H1 := Lib.hid h1
  clear h1
  by_cases h2 : q.m.hi = r.m.hi
  rotate_left
  · have t2 : (((q.m.hi.toNat : Nat) : Int) != ((r.m.hi.toNat : Nat) : Int)) = true := by rw [bv_bne]; simpa using h2
    have HX : Hid (holdsB r ls = false) := Lib.hid (by rw [HH.out, beq_eq_false_iff_ne.2 h2]; simp)
    clear HH
    go_wp2_with fail
    go_ret
    exact ⟨by rw [HX.out]; rfl, HF.out⟩
  have t2 : (((q.m.hi.toNat : Nat) : Int) != ((r.m.hi.toNat : Nat) : Int)) = false := by rw [bv_bne, h2]; simp
  have H2 := Lib.hid h2
  clear h2
  by_cases h3 : q.m.lo = r.m.lo
  rotate_left
  · have t3 : (((q.m.lo.toNat : Nat) : Int) != ((r.m.lo.toNat : Nat) : Int)) = true := by rw [bv_bne]; simpa using h3
    have HX : Hid (holdsB r ls = false) := Lib.hid (by rw [HH.out, beq_eq_false_iff_ne.2 h3]; simp)
    clear HH
    go_wp2_with fail
    go_ret
    exact ⟨by rw [HX.out]; rfl, HF.out⟩
  have t3 : (((q.m.lo.toNat : Nat) : Int) != ((r.m.lo.toNat : Nat) : Int)) = false := by rw [bv_bne, h3]; simp
  have H3 := Lib.hid h3
  clear h3
  by_cases h4 : q.bt.body.length = r.bt.body.length
  rotate_left
  · have t4 : (((q.bt.body.length : Nat) : Int) != ((r.bt.body.length : Nat) : Int)) = true := by rw [nat_bne]; simpa using h4
    have HX : Hid (holdsB r ls = false) := Lib.hid (by rw [HH.out, beq_eq_false_iff_ne.2 h4]; simp)
    clear h4
    clear HH
    go_wp2_with fail
    go_ret
    exact ⟨by rw [HX.out]; rfl, HF.out⟩
  have t4 : (((q.bt.body.length : Nat) : Int) != ((r.bt.body.length : Nat) : Int)) = false := by rw [nat_bne, h4]; simp
  have HX : Hid (holdsB r ls = q.bt.cut.same r.bt.cut) := Lib.hid (by rw [HH.out, H1.out, H2.out, H3.out, h4]; simp)
  have H4 := Lib.hid h4
  clear h4
  go_upto_region 4 with fail
  clear t1 t2 t3 t4 x8 x9 x10 x11 y8 y9 y10 y11
  refine wp_region_rules (fun w' => Fr [] w3.drew w') (Fr []) [isV (.agg (rpc q (.slice aq q.bt.body.length cq))), fun v w' => BtV w' v q.bt.cut, isV (.agg (rpc r (.slice ar r.bt.body.length cr))), fun v w' => BtV w' v r.bt.cut, isV (.bool (q.bt.cut.same r.bt.cut)), isV ?p1x5] [[], [(0, 44)], [], [(2, 46)], [(1, 45), (3, 47)], [(4, 48)]] 49 [0, 1, 2, 3, 4, 5] [(0, 44), (1, 45), (2, 46), (3, 47), (4, 48), (5, 4)] (by kernel_rfl) (by kernel_rfl) rfl (by kernel_rfl) (by kernel_rfl) (by kernel_rfl) (by kernel_rfl) (by intro c a a' W h hq; cases a; cases a'; cases h; exact hq) (fun w => Fr.refl _ w) (Fr.refl _ _) ⟨isV_stab, fun _ _ _ h1 h2 => h2.keep h1, isV_stab, fun _ _ _ h1 h2 => h2.keep h1, isV_stab, isV_stab, trivial⟩ ⟨?_, ?_, ?_, ?_, ?_, ?_, trivial⟩ ?_
  rotate_left 1
  · intro vs w' hG hd K hK
    clear hd
    simp only [canonD, Act.put, List.getElem_toArray, List.getElem_cons_zero, List.getElem_cons_succ, List.setIfInBounds_toArray, List.set_cons_zero, List.set_cons_succ] at hK ⊢
    have hW : Fr [] w3 w' := (Fr.refl [] w3).drew.trans hG
    refine Eq.mpr (if_pos (by rfl)) ?_
    refine wp_load_row 58 (.tmp 5) rfl (g) rfl 58 _ _ (HQR.out.keep hW) Try.underlying58 rfl (by kernel_rfl) ?_
    refine hK.out _ _ (Fr.refl _ _) hG ?_
    show _ = _
    rfl
  · intro vs w' hG hd K hK
    obtain ⟨h0, -⟩ := hd
    replace h0 : vs 0 = _ := h0
    simp only [canonD, Act.put, List.getElem_toArray, List.getElem_cons_zero, List.getElem_cons_succ, List.setIfInBounds_toArray, List.set_cons_zero, List.set_cons_succ, h0] at hK ⊢
    have hW : Fr [] w3 w' := (Fr.refl [] w3).drew.trans hG
    refine Eq.mpr (if_pos (by rfl)) ?_
    go_simp
    refine (pBytes_any (r := q) ⟨_, rfl, Sl.keep HQB.out hW⟩ HQS.out).mono ?_
    rintro e w6 ⟨vz, rfl, hO, hF⟩
    go_simp
    exact hK.out _ _ hF (hG.trans hF) hO.v
  · intro vs w' hG hd K hK
    clear hd
    simp only [canonD, Act.put, List.getElem_toArray, List.getElem_cons_zero, List.getElem_cons_succ, List.setIfInBounds_toArray, List.set_cons_zero, List.set_cons_succ] at hK ⊢
    have hW : Fr [] w3 w' := (Fr.refl [] w3).drew.trans hG
    refine Eq.mpr (if_pos (by rfl)) ?_
    refine wp_load_row 58 (.tmp 2) rfl (w.heap.size) rfl 58 _ _ (HR.out.keep hW) Try.underlying58 rfl (by kernel_rfl) ?_
    refine hK.out _ _ (Fr.refl _ _) hG ?_
    show _ = _
    rfl
  · intro vs w' hG hd K hK
    obtain ⟨h2, -⟩ := hd
    replace h2 : vs 2 = _ := h2
    simp only [canonD, Act.put, List.getElem_toArray, List.getElem_cons_zero, List.getElem_cons_succ, List.setIfInBounds_toArray, List.set_cons_zero, List.set_cons_succ, h2] at hK ⊢
    have hW : Fr [] w3 w' := (Fr.refl [] w3).drew.trans hG
    refine Eq.mpr (if_pos (by rfl)) ?_
    go_simp
    refine (pBytes_any (r := r) ⟨_, rfl, Sl.keep HBD.out hW⟩ hs).mono ?_
    rintro e w6 ⟨vz, rfl, hO, hF⟩
    go_simp
    exact hK.out _ _ hF (hG.trans hF) hO.v
  · intro vs w' hG hd K hK
    obtain ⟨h1, h3, -⟩ := hd
    replace h1 : BtV w' (vs 1) q.bt.cut := h1
    replace h3 : BtV w' (vs 3) r.bt.cut := h3
    simp only [canonD, Act.put, List.getElem_toArray, List.getElem_cons_zero, List.getElem_cons_succ, List.setIfInBounds_toArray, List.set_cons_zero, List.set_cons_succ] at hK ⊢
    generalize vs 1 = v1 at *
    generalize vs 3 = v3 at *
    refine Eq.mpr (if_pos (by rfl)) ?_
    go_simp
    refine (impSame_any h1 h3 HQS.out hs).mono ?_
    rintro e w6 ⟨rfl, hF⟩
    go_simp
    exact hK.out _ _ hF (hG.trans hF) (by show Value.bool _ = _; rfl)
  · intro vs w' hG hd K hK
    obtain ⟨h4, -⟩ := hd
    replace h4 : vs 4 = _ := h4
    simp only [canonD, Act.put, List.getElem_toArray, List.getElem_cons_zero, List.getElem_cons_succ, List.setIfInBounds_toArray, List.set_cons_zero, List.set_cons_succ, h4] at hK ⊢
    refine Eq.mpr (if_pos (by rfl)) ?_
    go_simp
    refine hK.out _ _ (Fr.refl _ _) hG ?_
    show _ = _
    rfl
  intro vs w' hG hP
  obtain ⟨h0, h1, h2, h3, h4, h5, -⟩ := hP
  replace h0 : vs 0 = _ := h0
  replace h1 : BtV w' (vs 1) q.bt.cut := h1
  replace h2 : vs 2 = _ := h2
  replace h3 : BtV w' (vs 3) r.bt.cut := h3
  replace h4 : vs 4 = _ := h4
  replace h5 : vs 5 = _ := h5
  simp only [canonD, Act.put, List.getElem_toArray, List.getElem_cons_zero, List.getElem_cons_succ, List.setIfInBounds_toArray, List.set_cons_zero, List.set_cons_succ, h0, h2, h4, h5]
  generalize vs 1 = v1 at *
  generalize vs 3 = v3 at *
  clear h0 h2 h4 h5
  have HF := Lib.hid (HF.out.trans ((Fr.refl [] w3).drew.trans hG))
  clear hG h1 h3
  go_wp2_with fail
  go_ret
  exact ⟨by rw [HX.out]; rfl, HF.out⟩
end Go.Proofs.Ytchbgiindfoepaa
