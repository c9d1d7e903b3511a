import Derived.Test.YtchbgiindfoepaaMq31
import Derived.Test.YtchbgiindfoepaaMq28
import Derived.Test.YtchbgiindfoepaaMq30
import Derived.Test.YtchbgiindfoepaaMq18
/- Repairs: their numbers, their fields as an imprint (printed by gen_par1.py). -/
namespace Go.Proofs.Ytchbgiindfoepaa
open Go.RowKit

/-- A repair: head and body, base, mask. -/
structure Rep_ where
  bt : Bt
  base : UInt16
  m : Msk
abbrev rpc (r : Rep_) (vb : Value) : Array Value := #[.int .u8 (r.bt.h0.toNat : Nat), .int .u8 (r.bt.h1.toNat : Nat), .int .u8 (r.bt.h2.toNat : Nat), .int .u8 (r.bt.h3.toNat : Nat), .int .u8 (r.bt.h4.toNat : Nat), .int .u8 (r.bt.h5.toNat : Nat), .int .u8 (r.bt.h6.toNat : Nat), .int .u8 (r.bt.h7.toNat : Nat), .int .u16 (r.base.toNat : Nat), .int .u64 (r.m.hi.toNat : Nat), .int .u64 (r.m.lo.toNat : Nat), vb]
def RpV (w : World) (v : Value) (r : Rep_) : Prop := ∃ vb, v = .agg (rpc r vb) ∧ Bytes w vb r.bt.body
theorem RpV.keep {w w' : World} {v : Value} {r : Rep_} (h : RpV w v r) (hf : Fr [] w w') : RpV w' v r := by
  obtain ⟨vb, e, hb⟩ := h
  exact ⟨vb, e, Sl.keep hb hf⟩
def Bt.cut (x : Bt) : Bt := { x with h0 := x.h0 &&& 63 }
theorem Bt.add_zero (x : Bt) : x.add Bt.zero = x := by
  obtain ⟨h0, h1, h2, h3, h4, h5, h6, h7, b⟩ := x
  simp [Bt.add, Bt.zero, xb_nil_right]
set_option maxRecDepth 100000 in
theorem cvRepair_any {w : World} (r : Rep_) (a : Option Addr) (n c : Nat) :
    Calls Try.prog 74 #[.agg (rpc r (.slice a n c))] w fun e w' => ∃ v, e = .returned v ∧ w'.ownsRow w.heap.size 42 1 v (seqsOf r.base r.m).length ((seqsOf r.base r.m).map W16) ∧ Fr [] w w' := by
  obtain ⟨w1, e1, hF1, hB1, hs1⟩ := one_new w (rpc r (.slice a n c)) 58
  have HF := Lib.hid hF1; have E1 := Lib.hid e1
  have x8 := hB1.cell 8; have x9 := hB1.cell 9; have x10 := hB1.cell 10
  simp only [rpc, List.getElem?_toArray, List.getElem?_cons_succ, List.getElem?_cons_zero] at x8 x9 x10
  have HS := Lib.hid hF1.size
  clear hF1 hB1 e1 hs1
  go_enter Try.func74, Try.ntmps74
  go_upto_region 1 with fail
  rw [E1.out]
  clear E1
  go_wp2_with fail
  refine (cvSeqs_any r.base r.m _).mono ?_
  rintro e w2 ⟨v, rfl, hO, hF⟩
  obtain ⟨a7, c7, rfl⟩ : ∃ a c, v = .slice a (seqsOf r.base r.m).length c := by
    have := Sl.shape (Sl.ofOwn hO)
    simpa using this
  have HO := Lib.hid (Own.mono hO HS.out); have HF := Lib.hid (HF.out.trans hF)
  clear hO hF
  go_wp2_with fail
  go_ret
  exact ⟨_, rfl, HO.out, HF.out⟩
set_option maxRecDepth 100000 in
theorem pBytes_any {w : World} {v : Value} {r : Rep_} (h : RpV w v r) (hs : r.bt.body.length ≤ 1099511627776) :
    Calls Try.prog 41 #[v] w fun e w' => ∃ v', e = .returned v' ∧ BtO w' w.heap.size v' r.bt.cut ∧ Fr [] w w' := by
  obtain ⟨vb, rfl, hb⟩ := h
  obtain ⟨a, n, c, rfl⟩ := Sl.isSlice hb
  obtain ⟨w1, e1, hF1, hB1, hB2, hs1⟩ := two_new w (rpc r (.slice a n c)) 58 (bc Bt.zero (.slice none 0 0)) 28
  have HF := Lib.hid hF1; have E1 := Lib.hid e1; have HR := Lib.hid hB2; have HB := Lib.hid (Sl.keep hb hF1); have HS1 := Lib.hid hs1
  have x11 := hB1.cell 11
  simp only [rpc, List.getElem?_toArray, List.getElem?_cons_succ, List.getElem?_cons_zero] at x11
  have HRG : Hid (w1.rangeAt w.heap.size 0 (#[.int .u8 (r.bt.h0.toNat : Nat), .int .u8 (r.bt.h1.toNat : Nat), .int .u8 (r.bt.h2.toNat : Nat), .int .u8 (r.bt.h3.toNat : Nat), .int .u8 (r.bt.h4.toNat : Nat), .int .u8 (r.bt.h5.toNat : Nat), .int .u8 (r.bt.h6.toNat : Nat), .int .u8 (r.bt.h7.toNat : Nat)] : Array Value).toList) := Lib.hid (fun j u hj => by
    have h := box_range hB1 j u
    rw [Nat.zero_add] at h ⊢
    refine h ?_
    have hlt := (List.getElem?_eq_some_iff.1 hj).1
    have h8 : j < 8 := by simpa using hlt
    rcases (by omega : j = 0 ∨ j = 1 ∨ j = 2 ∨ j = 3 ∨ j = 4 ∨ j = 5 ∨ j = 6 ∨ j = 7) with rfl | rfl | rfl | rfl | rfl | rfl | rfl | rfl <;> exact hj)
  clear hF1 hB1 hB2 e1 hs1 hb
  go_enter Try.func41, Try.ntmps41
  go_upto_region 1 with fail
  first | rw [E1.out] | (have := E1.out; simp only [bc_zero] at this; rw [this]; clear this)
  clear E1
  go_wp2_with (refine wpList_load_midA rfl 26 (.tmp 4) rfl w.heap.size 0 rfl #[.int .u8 (r.bt.h0.toNat : Nat), .int .u8 (r.bt.h1.toNat : Nat), .int .u8 (r.bt.h2.toNat : Nat), .int .u8 (r.bt.h3.toNat : Nat), .int .u8 (r.bt.h4.toNat : Nat), .int .u8 (r.bt.h5.toNat : Nat), .int .u8 (r.bt.h6.toNat : Nat), .int .u8 (r.bt.h7.toNat : Nat)] _ HRG.out Try.underlying26 rfl (by kernel_rfl) ?_)
  refine (impAdd_any (x := r.bt) (y := Bt.zero) ⟨_, rfl, HB.out⟩ ⟨_, rfl, Sl.nil _⟩ hs (by simp [Bt.zero])).mono ?_
  rintro e w2 ⟨v2, rfl, ⟨vo, rfl, hO⟩, hF⟩
  rw [Bt.add_zero] at hO ⊢
  obtain ⟨ao, no, co, rfl⟩ := hO.isSlice
  have HO := Lib.hid hO; have HOB : Hid (∀ b, blockOf (.slice ao no co) = some b → b < w2.heap.size) := Lib.hid (fun b hb => (hO.block b hb).2)
  have HR := Lib.hid (HR.out.keep hF); have HF := Lib.hid (HF.out.trans hF); have HS2 := Lib.hid hF.size
  clear hO hF
  go_upto_region 2 with (refine wpList_store_row rfl 28 (.tmp 3) (.tmp 10) rfl w2.heap.size rfl _ _ rfl 28 (Box.new w2 28 (bc Bt.zero (.slice none 0 0))) (by kernel_rfl) rfl (by simp [bc, Value.oneCell']) ?_; intro w3 hY hG; have hFn := ((Fr.refl [] w2).alloc _).step hG (by simp); have HFn := Lib.hid hFn; have HY := Lib.hid hY; clear hG hFn hY)
  have HO := Lib.hid (HO.out.keep HFn.out); have HR := Lib.hid (HR.out.keep HFn.out); have HF := Lib.hid (HF.out.trans HFn.out)
  have HXB := HY
  have HOL : Hid (∀ b, blockOf (.slice ao no co) = some b → w.heap.size + 2 ≤ b ∧ b ≠ w2.heap.size) := Lib.hid (fun b hb => by have h1 := HO.out.block b hb; have h2 := HOB.out b hb; have h3 := HS1.out; omega)
  have HGL : Hid (w.heap.size + 2 ≤ w2.heap.size) := Lib.hid (by have := HS1.out; have := HS2.out; omega)
  clear HFn HY
  generalize hgx : w2.heap.size = gx at *
  clear hgx
  have y0 := HXB.out.cell 0; have f0 := HXB.out.free 0
  simp only [bc, List.getElem?_toArray, List.getElem?_cons_zero] at y0
  have k0 := u8_and63 r.bt.h0
  go_upto_region 3 with fail
  obtain ⟨w4, e4, hF4, hB4, hs4⟩ := set_new HXB.out 0 (.int .u8 ((r.bt.h0.toNat &&& 63 : Nat) : Int))
  rw [e4]
  have HC : Hid (Box w4 gx 28 (bc r.bt.cut (.slice ao no co))) := Lib.hid (hB4.as_ (by simp [bc, Bt.cut, UInt8.toNat_and]))
  have HO := Lib.hid (HO.out.fr hF4 (fun b hb hm => by have := (HOL.out b hb).2; simp at hm; omega)); have HR := Lib.hid (HR.out.fr hF4 (by have := HGL.out; simp; omega)); have HF := Lib.hid (HF.out.step hF4 (fun x hx => .inr (by have := HGL.out; simp at hx; omega)))
  clear e4 hF4 hB4 hs4 y0 f0 k0
  go_wp2_with (first | (refine wpList_load_row_w rfl 28 (.tmp 3) rfl gx rfl 28 _ _ HC.out Try.underlying28 rfl (by kernel_rfl) ?_) | (refine wpList_store_row rfl 28 (.tmp 2) (.tmp 17) rfl (w.heap.size + 1) rfl _ _ rfl 28 HR.out (by kernel_rfl) rfl (by simp [bc, Value.oneCell']) ?_; intro w5 hY hG; have HY := Lib.hid hY; have HGn := Lib.hid hG; clear hY hG))
  refine bodyPost_ret (results_cell_row rfl _ _ (w.heap.size + 1) 28 _ (0, 0) _ rfl HY.out Try.underlying28 rfl (by kernel_rfl)) rfl ⟨_, rfl, ⟨_, rfl, ?_⟩, HF.out.step HGn.out (by simp)⟩
  exact (HO.out.fr HGn.out (fun b hb hm => by have := (HOL.out b hb).1; simp at hm; omega)).mono (by have := HS1.out; omega)
end Go.Proofs.Ytchbgiindfoepaa

/- The walk of parity.sheet.add (printed by gen_sheet.py). -/
namespace Go.Proofs.Ytchbgiindfoepaa
open Go.RowKit

structure Sheet where
  sum : Bt
  seqs : List UInt16
  ssrc : UInt32
  alike : Bool
def Sheet.zero : Sheet := ⟨Bt.zero, [], 0, false⟩
def Sheet.begun (s : Sheet) (p : Pkt) : Sheet := if s.seqs = [] then { s with ssrc := p.ssrc, alike := true } else s
def Sheet.held (s : Sheet) (p : Pkt) : Sheet := { s with alike := s.alike && p.ssrc == s.ssrc }
def Sheet.noted (s : Sheet) (p : Pkt) : Sheet := { s with seqs := s.seqs ++ [p.seq] }
def Sheet.summed (s : Sheet) (x : Bt) : Sheet := { s with sum := s.sum.add x }
def Sheet.add (s : Sheet) (l : List UInt8) (p : Pkt) : Sheet := (((s.begun p).held p).noted p).summed (imp l)
abbrev shc (s : Sheet) (vb vs : Value) : Array Value := #[.int .u8 (s.sum.h0.toNat : Nat), .int .u8 (s.sum.h1.toNat : Nat), .int .u8 (s.sum.h2.toNat : Nat), .int .u8 (s.sum.h3.toNat : Nat), .int .u8 (s.sum.h4.toNat : Nat), .int .u8 (s.sum.h5.toNat : Nat), .int .u8 (s.sum.h6.toNat : Nat), .int .u8 (s.sum.h7.toNat : Nat), vb, vs, .int .u32 (s.ssrc.toNat : Nat), .bool s.alike]
/-- A sheet lies in the box g; its lists lie from block N on. -/
structure ShV (W : World) (N g : Nat) (s : Sheet) : Prop where
  v : ∃ vb vs, Box W g 123 (shc s vb vs) ∧ Bytes W vb s.sum.body ∧ W.ownsRow N 42 1 vs s.seqs.length (s.seqs.map W16) ∧ ∀ b, liveOf vb = some b → b ≠ g ∧ blockOf vs ≠ some b ∧ N ≤ b
  lt : g < N
theorem wp_store_part {P : Program} {w : World} {ops : Array Oper} {o : Oper} {a : Act} {K : Act → World → Prop} {Q : Exit → Act → World → Prop} {E : Prop} (hgd : o.guard = none) (ty : TypeId) (x y : Operand)
    (ho : o.op = .store ty x y) (g : Nat) (hx : a.eval x = .pointer (some ⟨g, 0, none⟩)) (c c' : Array Value) (hy : a.eval y = .agg c') (t : TypeId) (hb : Box w g t c)
    (hi : (P.info? ty).map (·.size) = some c'.size) (hs : c'.size ≤ c.size) (h1 : ∀ u ∈ c'.toList, u.oneCell' = true)
    (h : ∀ w', Box w' g t (c'.toList ++ c.toList.drop c'.size).toArray → Fr [g] w w' → K (a.put o.dst undef) w') : if Region.wanted o (yielded ops a.tmps) = true then Oper.wp P o a w K Q else E := by
  rw [if_pos (by simp [Region.wanted, hgd])]
  have hst := run_storeCells_at P g 0 t c'.toList 0 c w hb (by simp [hs]) h1
  simp only [Nat.add_zero, List.take_zero, List.nil_append, Nat.zero_add, Array.length_toList] at hst
  cases hq : P.info? ty with
  | none => simp [hq] at hi
  | some i =>
    have hsz : i.size = c'.size := by simpa [hq] using hi
    unfold Oper.wp execOp
    simp only [ho, hx, hy]
    simp [Instr.storeAt, Instr.sureAddr, storeVar, Sem.run_bind, sizeOf, typeInfo, hq, hsz, Value.cells, hst]
    exact h _ (hb.setRow _) (Box.frSetRow w g _)
theorem run_load_mid_op {P : Program} {w : World} {o : Oper} {a : Act} (ty : TypeId) (x : Operand) (ho : o.op = .load ty x)
    (b off : Nat) (hx : a.eval x = .pointer (some ⟨b, off, none⟩)) (cs : Array Value) (d : TypeDesc) (hc : w.rangeAt b off cs.toList)
    (hu : P.underlying ty = some d) (hd : d.isRow = true) (hi : (P.info? ty).map (·.size) = some cs.size) : (execOp a.eval o).run P w = .ok (.value (.agg cs)) w := by
  unfold execOp
  simp only [ho, hx, Instr.loadAt, Instr.sureAddr, Sem.run_bind, Sem.run_pure, Result.andThen_ok, run_loadVar_mid w b off ty cs.toList d hc hu hd hi]
theorem shc_range {w : World} {g : Nat} {t : TypeId} {s : Sheet} {vb vs : Value} (h : Box w g t (shc s vb vs)) : w.rangeAt g 0 (bc s.sum vb).toList := fun j u hj => by
  refine box_range h j u ?_
  have hlt := (List.getElem?_eq_some_iff.1 hj).1
  have h9 : j < 9 := by simpa [bc] using hlt
  rcases (by omega : j = 0 ∨ j = 1 ∨ j = 2 ∨ j = 3 ∨ j = 4 ∨ j = 5 ∨ j = 6 ∨ j = 7 ∨ j = 8) with rfl | rfl | rfl | rfl | rfl | rfl | rfl | rfl | rfl <;> exact hj
theorem u32_beq (a b : UInt32) : (((a.toNat : Nat) : Int) == ((b.toNat : Nat) : Int)) = (a == b) := by
  rw [Bool.eq_iff_iff]
  simp [← UInt32.toNat_inj]
  omega
set_option maxRecDepth 100000 in
set_option maxHeartbeats 8000000 in
theorem shAdd_any {w0 w : World} {N g : Nat} {s : Sheet} {v : Value} {l : List UInt8} (h : ShV w N g s) (hF : Fr [] w0 w) (hg : w0.heap.size ≤ g) (hl : Bytes w0 v l) (hN : N ≤ w.heap.size) (hs1 : s.sum.body.length ≤ 1099511627776) (hs2 : s.seqs.length ≤ 1000) :
    Calls Try.prog 70 #[.pointer (some ⟨g, 0, none⟩), v] w fun e w' => (Fr [] w0 w' ∧ N ≤ w'.heap.size) ∧ ((∃ p, parseR l = .ok p ∧ e = .returned (.int .i64 0) ∧ ShV w' N g (s.add l p)) ∨ (∃ k, parseR l = .error k ∧ e = .returned (.int .i64 k))) := by
  obtain ⟨⟨vb, vs, hB, hb, ho, hd⟩, hgN⟩ := h
  obtain ⟨ab, nb, cb, rfl⟩ := Sl.isSlice hb
  obtain ⟨aq, cq, rfl⟩ : ∃ a c, vs = .slice a s.seqs.length c := by
    have := Sl.shape (Sl.ofOwn ho)
    simpa using this
  obtain ⟨al, nl, cl, rfl⟩ := Sl.isSlice hl
  have HL := Lib.hid hl; have HB := Lib.hid hB; have HSB := Lib.hid hb; have HSO := Lib.hid ho; have HD := Lib.hid hd; have HF := Lib.hid hF; have HN := Lib.hid hN
  have HG0 := Lib.hid hg; have HGN := Lib.hid hgN
  have HVQ : Hid (∀ b k, blockOf (.slice aq k cq) = some b → N ≤ b ∧ b < w.heap.size) := Lib.hid (fun b k hb => Own.block ho b (by
    cases aq with
    | none => simp [blockOf] at hb
    | some q => simpa [blockOf] using hb))
  clear hl hB hb ho hd hF hg hgN hN
  go_enter Try.func70, Try.ntmps70
  go_wp2_with fail
  refine (impOf_any (Sl.keep HL.out HF.out)).mono ?_
  rintro e w1 (⟨v1, p, hp, rfl, ⟨vx, rfl, hO⟩, hF⟩ | ⟨k, hp, rfl, hF⟩)
  rotate_left
  · have hk : (k != 0) = true := by simpa using parseR_err hp
    have HP := Lib.hid hp
    have HF := Lib.hid (HF.out.trans hF); have HNN := Lib.hid (Nat.le_trans HN.out hF.size)
    clear hp hF
    go_wp2_with (refine wpList_store_row rfl 28 (.tmp 5) (.tmp 12) rfl w1.heap.size rfl _ _ rfl 28 (Box.new w1 28 (bc Bt.zero (.slice none 0 0))) (by kernel_rfl) rfl (by simp [bc, Value.oneCell']) ?_; intro w2 hY hG; have hFn := ((Fr.refl [] w1).alloc _).step hG (by simp); have HFn := Lib.hid hFn; have HY := Lib.hid hY; clear hG hFn hY)
    have HF := Lib.hid (HF.out.trans HFn.out); have HNN := Lib.hid (Nat.le_trans HNN.out HFn.out.size)
    go_ret
    exact ⟨⟨HF.out, HNN.out⟩, .inr ⟨k, HP.out, rfl⟩⟩
  have HP := Lib.hid hp
  obtain ⟨ax, nx, cx, rfl⟩ := hO.isSlice
  have HXO := Lib.hid hO
  have HIL : Hid ((imp l).body.length ≤ 1099511627776) := Lib.hid (by have := (parse_len hp).2; show (l.drop 12).length ≤ _; rw [List.length_drop]; omega)
  have HOX : Hid (∀ b, blockOf (.slice ax nx cx) = some b → w.heap.size ≤ b) := Lib.hid (fun b hb => (hO.block b hb).1)
  have HF := Lib.hid (HF.out.trans hF)
  have HSB := Lib.hid (Sl.keep HSB.out hF)
  have HB := Lib.hid (HB.out.keep hF)
  have HSO := Lib.hid (Own.keep HSO.out hF)
  have HNN := Lib.hid (Nat.le_trans HN.out hF.size); have HNN1 := HNN; have HW1 := Lib.hid hF.size
  clear hp hO hF
  go_upto_region 2 with (refine wpList_store_row rfl 28 (.tmp 5) (.tmp 12) rfl w1.heap.size rfl _ _ rfl 28 (Box.new w1 28 (bc Bt.zero (.slice none 0 0))) (by kernel_rfl) rfl (by simp [bc, Value.oneCell']) ?_; intro w2 hY hG; have hFn := ((Fr.refl [] w1).alloc _).step hG (by simp); have HFn := Lib.hid hFn; have HY := Lib.hid hY; clear hG hFn hY)
  have hF := HFn.out
  have HXB := HY
  have HXO := Lib.hid (HXO.out.keep hF)
  have HF := Lib.hid (HF.out.trans hF)
  have HSB := Lib.hid (Sl.keep HSB.out hF)
  have HB := Lib.hid (HB.out.keep hF)
  have HSO := Lib.hid (Own.keep HSO.out hF)
  have HNNq := Lib.hid (Nat.le_trans HNN.out hF.size)
  clear HNN
  have HNN := HNNq
  clear HNNq
  have HGX : Hid (N ≤ w1.heap.size) := HNN1
  have HGXW : Hid (w.heap.size ≤ w1.heap.size) := HW1
  clear hF HFn HY HNN1 HW1
  generalize hgx : w1.heap.size = gx at *
  clear hgx
  go_wp2_with fail
  refine (Parse_any (Sl.keep HL.out HF.out)).mono ?_
  rintro e w3 (⟨v3, p3, hp, rfl, hPV, hF⟩ | ⟨k, hp, rfl, hF⟩)
  rotate_left
  · rw [HP.out] at hp; cases hp
  obtain rfl : p = p3 := by rw [HP.out] at hp; cases hp; rfl
  obtain ⟨c1, e1, c2, e2, c3, e3, c4, e4, rfl, -, -, -, -⟩ := hPV.open_
  have HF := Lib.hid (HF.out.trans hF)
  have HSB := Lib.hid (Sl.keep HSB.out hF)
  have HB := Lib.hid (HB.out.keep hF)
  have HSO := Lib.hid (Own.keep HSO.out hF)
  have HXO := Lib.hid (HXO.out.keep hF)
  have HXB := Lib.hid (HXB.out.keep hF)
  have HNNq := Lib.hid (Nat.le_trans HNN.out hF.size)
  clear HNN
  have HNN := HNNq
  clear HNNq
  clear hp hPV hF
  have HGP : Hid (gx < w3.heap.size ∧ g < w3.heap.size ∧ N ≤ w3.heap.size) := Lib.hid ⟨HXB.out.lt, HB.out.lt, HNN.out⟩
  go_upto_region 5 with (refine wpList_store_row rfl 88 (.tmp 7) (.tmp 20) rfl w3.heap.size rfl _ _ rfl 88 (Box.new w3 88 pz) (by kernel_rfl) rfl (oneCell_pc _ _ _ _ _ _ _ _ _ _ _ ⟨_, _, _, rfl⟩ ⟨_, _, _, rfl⟩ ⟨_, _, _, rfl⟩ ⟨_, _, _, rfl⟩) ?_; intro w4 hY hG; have hFn := ((Fr.refl [] w3).alloc _).step hG (by simp); have HFn := Lib.hid hFn; have HY := Lib.hid hY; clear hG hFn hY)
  have hF := HFn.out
  have HPB := HY
  have HF := Lib.hid (HF.out.trans hF)
  have HSB := Lib.hid (Sl.keep HSB.out hF)
  have HB := Lib.hid (HB.out.keep hF)
  have HSO := Lib.hid (Own.keep HSO.out hF)
  have HXO := Lib.hid (HXO.out.keep hF)
  have HXB := Lib.hid (HXB.out.keep hF)
  have HNNq := Lib.hid (Nat.le_trans HNN.out hF.size)
  clear HNN
  have HNN := HNNq
  clear HNNq
  clear hF HFn HY
  generalize hgp : w3.heap.size = gp at *
  clear hgp
  have x9 := HB.out.cell 9; have x10 := HB.out.cell 10; have x11 := HB.out.cell 11; have fg := HB.out.free 9; have fg10 := HB.out.free 10; have fg11 := HB.out.free 11
  obtain ⟨p0, p1, p2, p3, p4, p5, p6, p7, p8, p9, p10⟩ := HPB.out.pcells
  simp only [shc, List.getElem?_toArray, List.getElem?_cons_succ, List.getElem?_cons_zero] at x9 x10 x11
  go_upto_if 27 with fail
  go_cut [] (fun wx => Box wx g 123 (shc (s.begun p) (.slice ab nb cb) (.slice aq s.seqs.length cq)) ∧ Fr [g] w4 wx)
  case first =>
    by_cases hse : s.seqs = []
    · have hl0 : ((s.seqs.length : Int) == 0) = true := by rw [hse]; rfl
      have HSE := Lib.hid hse
      clear hse
      go_wp2_with fail
      go_meet
      obtain ⟨w5, e5, hF5, hB5, -⟩ := set_new HB.out 10 (.int .u32 (p.ssrc.toNat : Nat))
      obtain ⟨w6, e6, hF6, hB6, -⟩ := set_new hB5 11 (.bool true)
      rw [e5, e6]
      exact ⟨hB6.as_ (by rw [show s.begun p = { s with ssrc := p.ssrc, alike := true } from if_pos HSE.out]; rfl), hF5.trans hF6⟩
    · have hl0 : ((s.seqs.length : Int) == 0) = false := beq_eq_false_iff_ne.2 (by have := List.length_pos_iff.2 hse; omega)
      have HSE := Lib.hid hse
      clear hse
      go_wp2_with fail
      go_meet
      exact ⟨by unfold Sheet.begun; rw [if_neg HSE.out]; exact HB.out, Fr.refl _ _⟩
  case rest =>
    obtain ⟨hBx, hFx⟩ := hcut
    have hq1 : (s.begun p).sum = s.sum := by unfold Sheet.begun; split <;> rfl
    have hq2 : (s.begun p).seqs = s.seqs := by unfold Sheet.begun; split <;> rfl
    have HQ2 := Lib.hid hq2
    have HADD : Hid (s.add l p = (((s.begun p).held p).noted p).summed (imp l)) := Lib.hid rfl
    rw [← hq1] at HSB
    rw [← hq1] at hs1
    rw [← hq2] at HSO
    rw [← hq2] at HD
    rw [← hq2] at hBx
    rw [← hq2] at hs2
    clear HB
    generalize s.begun p = s1 at *
    have HB := Lib.hid hBx
    have hd0 : ∀ b, liveOf (.slice ab nb cb) = some b → b ∉ [g] := fun b hb hm => by have := (HD.out b hb).1; simp at hm; omega
    have HSB := Lib.hid (Sl.frL HSB.out hFx hd0)
    have HSO := Lib.hid (Own.fr HSO.out hFx (fun b hb hm => by have := (Own.block HSO.out b hb).1; have := HGN.out; simp at hm; omega))
    have HF := Lib.hid (HF.out.step hFx (fun x hx => .inr (by have := HG0.out; simp at hx; omega)))
    have HXO := Lib.hid (HXO.out.fr hFx (fun b hb hm => by have h1 := HOX.out b hb; have := HN.out; have := HGN.out; simp at hm; omega))
    have HXB := Lib.hid (HXB.out.fr hFx (by have := HGX.out; have := HGN.out; simp; omega)); have HPB := Lib.hid (HPB.out.fr hFx (by have := HGP.out; simp; omega))
    have HNNq := Lib.hid (Nat.le_trans HNN.out hFx.size)
    clear HNN
    have HNN := HNNq
    clear HNNq hBx hFx x9 x10 x11 fg fg10 fg11 p0 p1 p2 p3 p4 p5 p6 p7 p8 p9 p10 hd0 hq1 hq2
    go_upto_region 7 with fail
    go_cut [] (fun wx => Box wx g 123 (shc (s1.held p) (.slice ab nb cb) (.slice aq s1.seqs.length cq)) ∧ Fr [g] wc wx)
    case first =>
      cases hal : s1.alike with
      | true =>
        have HB1 : Hid (Box wc g 123 (shc { s1 with alike := true } (.slice ab nb cb) (.slice aq s1.seqs.length cq))) := Lib.hid (HB.out.as_ (by rw [← hal]))
        have HAL := Lib.hid hal
        clear hal
        refine wp_region_T (fun w' => Box w' g 123 (shc { s1 with alike := true } (.slice ab nb cb) (.slice aq s1.seqs.length cq)) ∧ Box w' gp 88 (pc p.marker p.pt p.seq.toNat p.ts.toNat p.ssrc.toNat (.slice c1 p.csrc.length e1) p.hasExt p.profile.toNat (.slice c2 p.ext.length e2) (.slice c3 p.payload.length e3) (.slice c4 p.pad.length e4))) [16] 17 #[false, false, false, false, false, false, false, false, false, false, false, false, false, false, false, false, false] (by kernel_rfl) rfl rfl ?_
        have hF := (Fr.refl [] wc).drew
        have HSS := Lib.hid (And.intro (HB1.out.keep hF) (HPB.out.keep hF))
        have HFD := Lib.hid hF
        clear hF
        generalize wc.drew = wd at *
        refine wpAnyT_load (i := 0) (v := ?_) rfl (by kernel_rfl) (by kernel_rfl) (by kernel_rfl) (by kernel_rfl) (by kernel_rfl) (fun _ _ _ h => h) HSS.out (by rfl) ?_ ?_
        rotate_left
        · intro w hSw; have x9 := hSw.1.cell 9; have x10 := hSw.1.cell 10; have x11 := hSw.1.cell 11; have f11 := hSw.1.free 11; obtain ⟨p0, p1, p2, p3, p4, p5, p6, p7, p8, p9, p10⟩ := hSw.2.pcells; simp only [shc, List.getElem?_toArray, List.getElem?_cons_succ, List.getElem?_cons_zero] at x9 x10 x11; go_simp; try with_reducible rfl
        simp only [Act.put, List.getElem_toArray, List.getElem_cons_zero, List.getElem_cons_succ, List.setIfInBounds_toArray, List.set_cons_zero, List.set_cons_succ]
        refine wpAnyT_load (i := 1) (v := ?_) rfl (by kernel_rfl) (by kernel_rfl) (by kernel_rfl) (by kernel_rfl) (by kernel_rfl) (fun _ _ _ h => h) HSS.out (by rfl) ?_ ?_
        rotate_left
        · intro w hSw; have x9 := hSw.1.cell 9; have x10 := hSw.1.cell 10; have x11 := hSw.1.cell 11; have f11 := hSw.1.free 11; obtain ⟨p0, p1, p2, p3, p4, p5, p6, p7, p8, p9, p10⟩ := hSw.2.pcells; simp only [shc, List.getElem?_toArray, List.getElem?_cons_succ, List.getElem?_cons_zero] at x9 x10 x11; go_simp; try with_reducible rfl
        simp only [Act.put, List.getElem_toArray, List.getElem_cons_zero, List.getElem_cons_succ, List.setIfInBounds_toArray, List.set_cons_zero, List.set_cons_succ]
        refine wpAnyT_load (i := 2) (v := ?_) rfl (by kernel_rfl) (by kernel_rfl) (by kernel_rfl) (by kernel_rfl) (by kernel_rfl) (fun _ _ _ h => h) HSS.out (by rfl) ?_ ?_
        rotate_left
        · intro w hSw; have x9 := hSw.1.cell 9; have x10 := hSw.1.cell 10; have x11 := hSw.1.cell 11; have f11 := hSw.1.free 11; obtain ⟨p0, p1, p2, p3, p4, p5, p6, p7, p8, p9, p10⟩ := hSw.2.pcells; simp only [shc, List.getElem?_toArray, List.getElem?_cons_succ, List.getElem?_cons_zero] at x9 x10 x11; go_simp; try with_reducible rfl
        simp only [Act.put, List.getElem_toArray, List.getElem_cons_zero, List.getElem_cons_succ, List.setIfInBounds_toArray, List.set_cons_zero, List.set_cons_succ]
        refine wpAnyT_load (i := 3) (v := ?_) rfl (by kernel_rfl) (by kernel_rfl) (by kernel_rfl) (by kernel_rfl) (by kernel_rfl) (fun _ _ _ h => h) HSS.out (by rfl) ?_ ?_
        rotate_left
        · intro w hSw; have x9 := hSw.1.cell 9; have x10 := hSw.1.cell 10; have x11 := hSw.1.cell 11; have f11 := hSw.1.free 11; obtain ⟨p0, p1, p2, p3, p4, p5, p6, p7, p8, p9, p10⟩ := hSw.2.pcells; simp only [shc, List.getElem?_toArray, List.getElem?_cons_succ, List.getElem?_cons_zero] at x9 x10 x11; go_simp; try with_reducible rfl
        simp only [Act.put, List.getElem_toArray, List.getElem_cons_zero, List.getElem_cons_succ, List.setIfInBounds_toArray, List.set_cons_zero, List.set_cons_succ]
        refine wpAnyT_load (i := 4) (v := ?_) rfl (by kernel_rfl) (by kernel_rfl) (by kernel_rfl) (by kernel_rfl) (by kernel_rfl) (fun _ _ _ h => h) HSS.out (by rfl) ?_ ?_
        rotate_left
        · intro w hSw; have x9 := hSw.1.cell 9; have x10 := hSw.1.cell 10; have x11 := hSw.1.cell 11; have f11 := hSw.1.free 11; obtain ⟨p0, p1, p2, p3, p4, p5, p6, p7, p8, p9, p10⟩ := hSw.2.pcells; simp only [shc, List.getElem?_toArray, List.getElem?_cons_succ, List.getElem?_cons_zero] at x9 x10 x11; go_simp; try with_reducible rfl
        simp only [Act.put, List.getElem_toArray, List.getElem_cons_zero, List.getElem_cons_succ, List.setIfInBounds_toArray, List.set_cons_zero, List.set_cons_succ]
        refine wpAnyT_load (i := 5) (v := ?_) rfl (by kernel_rfl) (by kernel_rfl) (by kernel_rfl) (by kernel_rfl) (by kernel_rfl) (fun _ _ _ h => h) HSS.out (by rfl) ?_ ?_
        rotate_left
        · intro w hSw; have x9 := hSw.1.cell 9; have x10 := hSw.1.cell 10; have x11 := hSw.1.cell 11; have f11 := hSw.1.free 11; obtain ⟨p0, p1, p2, p3, p4, p5, p6, p7, p8, p9, p10⟩ := hSw.2.pcells; simp only [shc, List.getElem?_toArray, List.getElem?_cons_succ, List.getElem?_cons_zero] at x9 x10 x11; go_simp; try with_reducible rfl
        simp only [Act.put, List.getElem_toArray, List.getElem_cons_zero, List.getElem_cons_succ, List.setIfInBounds_toArray, List.set_cons_zero, List.set_cons_succ]
        refine wpAnyT_load (i := 6) (v := ?_) rfl (by kernel_rfl) (by kernel_rfl) (by kernel_rfl) (by kernel_rfl) (by kernel_rfl) (fun _ _ _ h => h) HSS.out (by rfl) ?_ ?_
        rotate_left
        · intro w hSw; have x9 := hSw.1.cell 9; have x10 := hSw.1.cell 10; have x11 := hSw.1.cell 11; have f11 := hSw.1.free 11; obtain ⟨p0, p1, p2, p3, p4, p5, p6, p7, p8, p9, p10⟩ := hSw.2.pcells; simp only [shc, List.getElem?_toArray, List.getElem?_cons_succ, List.getElem?_cons_zero] at x9 x10 x11; go_simp; try with_reducible rfl
        simp only [Act.put, List.getElem_toArray, List.getElem_cons_zero, List.getElem_cons_succ, List.setIfInBounds_toArray, List.set_cons_zero, List.set_cons_succ]
        refine wpAnyT_load (i := 7) (v := ?_) rfl (by kernel_rfl) (by kernel_rfl) (by kernel_rfl) (by kernel_rfl) (by kernel_rfl) (fun _ _ _ h => h) HSS.out (by rfl) ?_ ?_
        rotate_left
        · intro w hSw; have x9 := hSw.1.cell 9; have x10 := hSw.1.cell 10; have x11 := hSw.1.cell 11; have f11 := hSw.1.free 11; obtain ⟨p0, p1, p2, p3, p4, p5, p6, p7, p8, p9, p10⟩ := hSw.2.pcells; simp only [shc, List.getElem?_toArray, List.getElem?_cons_succ, List.getElem?_cons_zero] at x9 x10 x11; go_simp; try with_reducible rfl
        simp only [Act.put, List.getElem_toArray, List.getElem_cons_zero, List.getElem_cons_succ, List.setIfInBounds_toArray, List.set_cons_zero, List.set_cons_succ]
        refine wpAnyT_load (i := 8) (v := ?_) rfl (by kernel_rfl) (by kernel_rfl) (by kernel_rfl) (by kernel_rfl) (by kernel_rfl) (fun _ _ _ h => h) HSS.out (by rfl) ?_ ?_
        rotate_left
        · intro w hSw; have x9 := hSw.1.cell 9; have x10 := hSw.1.cell 10; have x11 := hSw.1.cell 11; have f11 := hSw.1.free 11; obtain ⟨p0, p1, p2, p3, p4, p5, p6, p7, p8, p9, p10⟩ := hSw.2.pcells; simp only [shc, List.getElem?_toArray, List.getElem?_cons_succ, List.getElem?_cons_zero] at x9 x10 x11; go_simp; try with_reducible rfl
        simp only [Act.put, List.getElem_toArray, List.getElem_cons_zero, List.getElem_cons_succ, List.setIfInBounds_toArray, List.set_cons_zero, List.set_cons_succ]
        refine wpAnyT_load (i := 9) (v := ?_) rfl (by kernel_rfl) (by kernel_rfl) (by kernel_rfl) (by kernel_rfl) (by kernel_rfl) (fun _ _ _ h => h) HSS.out (by rfl) ?_ ?_
        rotate_left
        · intro w hSw; have x9 := hSw.1.cell 9; have x10 := hSw.1.cell 10; have x11 := hSw.1.cell 11; have f11 := hSw.1.free 11; obtain ⟨p0, p1, p2, p3, p4, p5, p6, p7, p8, p9, p10⟩ := hSw.2.pcells; simp only [shc, List.getElem?_toArray, List.getElem?_cons_succ, List.getElem?_cons_zero] at x9 x10 x11; go_simp; try with_reducible rfl
        simp only [Act.put, List.getElem_toArray, List.getElem_cons_zero, List.getElem_cons_succ, List.setIfInBounds_toArray, List.set_cons_zero, List.set_cons_succ]
        refine wpAnyT_load (i := 10) (v := ?_) rfl (by kernel_rfl) (by kernel_rfl) (by kernel_rfl) (by kernel_rfl) (by kernel_rfl) (fun _ _ _ h => h) HSS.out (by rfl) ?_ ?_
        rotate_left
        · intro w hSw; have x9 := hSw.1.cell 9; have x10 := hSw.1.cell 10; have x11 := hSw.1.cell 11; have f11 := hSw.1.free 11; obtain ⟨p0, p1, p2, p3, p4, p5, p6, p7, p8, p9, p10⟩ := hSw.2.pcells; simp only [shc, List.getElem?_toArray, List.getElem?_cons_succ, List.getElem?_cons_zero] at x9 x10 x11; go_simp; try with_reducible rfl
        simp only [Act.put, List.getElem_toArray, List.getElem_cons_zero, List.getElem_cons_succ, List.setIfInBounds_toArray, List.set_cons_zero, List.set_cons_succ]
        refine wpAnyT_load (i := 11) (v := ?_) rfl (by kernel_rfl) (by kernel_rfl) (by kernel_rfl) (by kernel_rfl) (by kernel_rfl) (fun _ _ _ h => h) HSS.out (by rfl) ?_ ?_
        rotate_left
        · intro w hSw; have x9 := hSw.1.cell 9; have x10 := hSw.1.cell 10; have x11 := hSw.1.cell 11; have f11 := hSw.1.free 11; obtain ⟨p0, p1, p2, p3, p4, p5, p6, p7, p8, p9, p10⟩ := hSw.2.pcells; simp only [shc, List.getElem?_toArray, List.getElem?_cons_succ, List.getElem?_cons_zero] at x9 x10 x11; go_simp; try with_reducible rfl
        simp only [Act.put, List.getElem_toArray, List.getElem_cons_zero, List.getElem_cons_succ, List.setIfInBounds_toArray, List.set_cons_zero, List.set_cons_succ]
        refine wpAnyT_load (i := 12) (v := ?_) rfl (by kernel_rfl) (by kernel_rfl) (by kernel_rfl) (by kernel_rfl) (by kernel_rfl) (fun _ _ _ h => h) HSS.out (by rfl) ?_ ?_
        rotate_left
        · intro w hSw; have x9 := hSw.1.cell 9; have x10 := hSw.1.cell 10; have x11 := hSw.1.cell 11; have f11 := hSw.1.free 11; obtain ⟨p0, p1, p2, p3, p4, p5, p6, p7, p8, p9, p10⟩ := hSw.2.pcells; simp only [shc, List.getElem?_toArray, List.getElem?_cons_succ, List.getElem?_cons_zero] at x9 x10 x11; go_simp; try with_reducible rfl
        simp only [Act.put, List.getElem_toArray, List.getElem_cons_zero, List.getElem_cons_succ, List.setIfInBounds_toArray, List.set_cons_zero, List.set_cons_succ]
        refine wpAnyT_load (i := 13) (v := ?_) rfl (by kernel_rfl) (by kernel_rfl) (by kernel_rfl) (by kernel_rfl) (by kernel_rfl) (fun _ _ _ h => h) HSS.out (by rfl) ?_ ?_
        rotate_left
        · intro w hSw; have x9 := hSw.1.cell 9; have x10 := hSw.1.cell 10; have x11 := hSw.1.cell 11; have f11 := hSw.1.free 11; obtain ⟨p0, p1, p2, p3, p4, p5, p6, p7, p8, p9, p10⟩ := hSw.2.pcells; simp only [shc, List.getElem?_toArray, List.getElem?_cons_succ, List.getElem?_cons_zero] at x9 x10 x11; go_simp; try with_reducible rfl
        simp only [Act.put, List.getElem_toArray, List.getElem_cons_zero, List.getElem_cons_succ, List.setIfInBounds_toArray, List.set_cons_zero, List.set_cons_succ]
        refine wpAnyT_load (i := 14) (v := ?_) rfl (by kernel_rfl) (by kernel_rfl) (by kernel_rfl) (by kernel_rfl) (by kernel_rfl) (fun _ _ _ h => h) HSS.out (by rfl) ?_ ?_
        rotate_left
        · intro w hSw; have x9 := hSw.1.cell 9; have x10 := hSw.1.cell 10; have x11 := hSw.1.cell 11; have f11 := hSw.1.free 11; obtain ⟨p0, p1, p2, p3, p4, p5, p6, p7, p8, p9, p10⟩ := hSw.2.pcells; simp only [shc, List.getElem?_toArray, List.getElem?_cons_succ, List.getElem?_cons_zero] at x9 x10 x11; go_simp; try with_reducible rfl
        simp only [Act.put, List.getElem_toArray, List.getElem_cons_zero, List.getElem_cons_succ, List.setIfInBounds_toArray, List.set_cons_zero, List.set_cons_succ]
        refine wpAnyT_load (i := 15) (v := ?_) rfl (by kernel_rfl) (by kernel_rfl) (by kernel_rfl) (by kernel_rfl) (by kernel_rfl) (fun _ _ _ h => h) HSS.out (by rfl) ?_ ?_
        rotate_left
        · intro w hSw; have x9 := hSw.1.cell 9; have x10 := hSw.1.cell 10; have x11 := hSw.1.cell 11; have f11 := hSw.1.free 11; obtain ⟨p0, p1, p2, p3, p4, p5, p6, p7, p8, p9, p10⟩ := hSw.2.pcells; simp only [shc, List.getElem?_toArray, List.getElem?_cons_succ, List.getElem?_cons_zero] at x9 x10 x11; go_simp; try with_reducible rfl
        simp only [Act.put, List.getElem_toArray, List.getElem_cons_zero, List.getElem_cons_succ, List.setIfInBounds_toArray, List.set_cons_zero, List.set_cons_succ]
        refine wpAnyT_one (i := 16) (by kernel_rfl) rfl (fun K hK => ?_)
        rw [if_pos (by rfl)]
        have x9 := HSS.out.1.cell 9
        have x10 := HSS.out.1.cell 10
        have x11 := HSS.out.1.cell 11
        have f11 := HSS.out.1.free 11
        obtain ⟨p0, p1, p2, p3, p4, p5, p6, p7, p8, p9, p10⟩ := HSS.out.2.pcells
        simp only [shc, List.getElem?_toArray, List.getElem?_cons_succ, List.getElem?_cons_zero] at x9 x10 x11
        go_simp
        refine hK.out _ _ (fun _ => (by first | trivial | exact absurd ‹_› (by simp))) ?_
        clear hK K
        simp only [Act.put, List.getElem_toArray, List.getElem_cons_zero, List.getElem_cons_succ, List.setIfInBounds_toArray, List.set_cons_zero, List.set_cons_succ]
        refine wpAnyT_done (by kernel_rfl) ?_ _
        go_wp2_with fail
        go_meet
        obtain ⟨w5, e5, hF5, hB5, -⟩ := set_new HSS.out.1 11 (.bool (((p.ssrc.toNat : Nat) : Int) == ((s1.ssrc.toNat : Nat) : Int)))
        rw [e5]
        exact ⟨hB5.as_ (by rw [u32_beq]; unfold Sheet.held; rw [HAL.out, Bool.true_and]; rfl), HFD.out.any.trans hF5⟩
      | false =>
        have HB1 : Hid (Box wc g 123 (shc { s1 with alike := false } (.slice ab nb cb) (.slice aq s1.seqs.length cq))) := Lib.hid (HB.out.as_ (by rw [← hal]))
        have HAL := Lib.hid hal
        clear hal
        refine wp_region_T (fun w' => Box w' g 123 (shc { s1 with alike := false } (.slice ab nb cb) (.slice aq s1.seqs.length cq)) ∧ Box w' gp 88 (pc p.marker p.pt p.seq.toNat p.ts.toNat p.ssrc.toNat (.slice c1 p.csrc.length e1) p.hasExt p.profile.toNat (.slice c2 p.ext.length e2) (.slice c3 p.payload.length e3) (.slice c4 p.pad.length e4))) [16] 17 #[false, false, false, false, false, false, false, false, false, false, false, false, false, false, false, false, false] (by kernel_rfl) rfl rfl ?_
        have hF := (Fr.refl [] wc).drew
        have HSS := Lib.hid (And.intro (HB1.out.keep hF) (HPB.out.keep hF))
        have HFD := Lib.hid hF
        clear hF
        generalize wc.drew = wd at *
        refine wpAnyT_load (i := 0) (v := ?_) rfl (by kernel_rfl) (by kernel_rfl) (by kernel_rfl) (by kernel_rfl) (by kernel_rfl) (fun _ _ _ h => h) HSS.out (by rfl) ?_ ?_
        rotate_left
        · intro w hSw; have x9 := hSw.1.cell 9; have x10 := hSw.1.cell 10; have x11 := hSw.1.cell 11; have f11 := hSw.1.free 11; obtain ⟨p0, p1, p2, p3, p4, p5, p6, p7, p8, p9, p10⟩ := hSw.2.pcells; simp only [shc, List.getElem?_toArray, List.getElem?_cons_succ, List.getElem?_cons_zero] at x9 x10 x11; go_simp; try with_reducible rfl
        simp only [Act.put, List.getElem_toArray, List.getElem_cons_zero, List.getElem_cons_succ, List.setIfInBounds_toArray, List.set_cons_zero, List.set_cons_succ]
        refine wpAnyT_load (i := 1) (v := ?_) rfl (by kernel_rfl) (by kernel_rfl) (by kernel_rfl) (by kernel_rfl) (by kernel_rfl) (fun _ _ _ h => h) HSS.out (by rfl) ?_ ?_
        rotate_left
        · intro w hSw; have x9 := hSw.1.cell 9; have x10 := hSw.1.cell 10; have x11 := hSw.1.cell 11; have f11 := hSw.1.free 11; obtain ⟨p0, p1, p2, p3, p4, p5, p6, p7, p8, p9, p10⟩ := hSw.2.pcells; simp only [shc, List.getElem?_toArray, List.getElem?_cons_succ, List.getElem?_cons_zero] at x9 x10 x11; go_simp; try with_reducible rfl
        simp only [Act.put, List.getElem_toArray, List.getElem_cons_zero, List.getElem_cons_succ, List.setIfInBounds_toArray, List.set_cons_zero, List.set_cons_succ]
        refine wpAnyT_load (i := 2) (v := ?_) rfl (by kernel_rfl) (by kernel_rfl) (by kernel_rfl) (by kernel_rfl) (by kernel_rfl) (fun _ _ _ h => h) HSS.out (by rfl) ?_ ?_
        rotate_left
        · intro w hSw; have x9 := hSw.1.cell 9; have x10 := hSw.1.cell 10; have x11 := hSw.1.cell 11; have f11 := hSw.1.free 11; obtain ⟨p0, p1, p2, p3, p4, p5, p6, p7, p8, p9, p10⟩ := hSw.2.pcells; simp only [shc, List.getElem?_toArray, List.getElem?_cons_succ, List.getElem?_cons_zero] at x9 x10 x11; go_simp; try with_reducible rfl
        simp only [Act.put, List.getElem_toArray, List.getElem_cons_zero, List.getElem_cons_succ, List.setIfInBounds_toArray, List.set_cons_zero, List.set_cons_succ]
        refine wpAnyT_load (i := 3) (v := ?_) rfl (by kernel_rfl) (by kernel_rfl) (by kernel_rfl) (by kernel_rfl) (by kernel_rfl) (fun _ _ _ h => h) HSS.out (by rfl) ?_ ?_
        rotate_left
        · intro w hSw; have x9 := hSw.1.cell 9; have x10 := hSw.1.cell 10; have x11 := hSw.1.cell 11; have f11 := hSw.1.free 11; obtain ⟨p0, p1, p2, p3, p4, p5, p6, p7, p8, p9, p10⟩ := hSw.2.pcells; simp only [shc, List.getElem?_toArray, List.getElem?_cons_succ, List.getElem?_cons_zero] at x9 x10 x11; go_simp; try with_reducible rfl
        simp only [Act.put, List.getElem_toArray, List.getElem_cons_zero, List.getElem_cons_succ, List.setIfInBounds_toArray, List.set_cons_zero, List.set_cons_succ]
        refine wpAnyT_load (i := 4) (v := ?_) rfl (by kernel_rfl) (by kernel_rfl) (by kernel_rfl) (by kernel_rfl) (by kernel_rfl) (fun _ _ _ h => h) HSS.out (by rfl) ?_ ?_
        rotate_left
        · intro w hSw; have x9 := hSw.1.cell 9; have x10 := hSw.1.cell 10; have x11 := hSw.1.cell 11; have f11 := hSw.1.free 11; obtain ⟨p0, p1, p2, p3, p4, p5, p6, p7, p8, p9, p10⟩ := hSw.2.pcells; simp only [shc, List.getElem?_toArray, List.getElem?_cons_succ, List.getElem?_cons_zero] at x9 x10 x11; go_simp; try with_reducible rfl
        simp only [Act.put, List.getElem_toArray, List.getElem_cons_zero, List.getElem_cons_succ, List.setIfInBounds_toArray, List.set_cons_zero, List.set_cons_succ]
        refine wpAnyT_load (i := 5) (v := ?_) rfl (by kernel_rfl) (by kernel_rfl) (by kernel_rfl) (by kernel_rfl) (by kernel_rfl) (fun _ _ _ h => h) HSS.out (by rfl) ?_ ?_
        rotate_left
        · intro w hSw; have x9 := hSw.1.cell 9; have x10 := hSw.1.cell 10; have x11 := hSw.1.cell 11; have f11 := hSw.1.free 11; obtain ⟨p0, p1, p2, p3, p4, p5, p6, p7, p8, p9, p10⟩ := hSw.2.pcells; simp only [shc, List.getElem?_toArray, List.getElem?_cons_succ, List.getElem?_cons_zero] at x9 x10 x11; go_simp; try with_reducible rfl
        simp only [Act.put, List.getElem_toArray, List.getElem_cons_zero, List.getElem_cons_succ, List.setIfInBounds_toArray, List.set_cons_zero, List.set_cons_succ]
        refine wpAnyT_skip (i := 6) rfl (by kernel_rfl) (by kernel_rfl) (by kernel_rfl) (by kernel_rfl) (by kernel_rfl) (fun _ _ _ h => h) HSS.out (by rfl) ?_
        simp only [Act.put, List.getElem_toArray, List.getElem_cons_zero, List.getElem_cons_succ, List.setIfInBounds_toArray, List.set_cons_zero, List.set_cons_succ]
        refine wpAnyT_skip (i := 7) rfl (by kernel_rfl) (by kernel_rfl) (by kernel_rfl) (by kernel_rfl) (by kernel_rfl) (fun _ _ _ h => h) HSS.out (by rfl) ?_
        simp only [Act.put, List.getElem_toArray, List.getElem_cons_zero, List.getElem_cons_succ, List.setIfInBounds_toArray, List.set_cons_zero, List.set_cons_succ]
        refine wpAnyT_skip (i := 8) rfl (by kernel_rfl) (by kernel_rfl) (by kernel_rfl) (by kernel_rfl) (by kernel_rfl) (fun _ _ _ h => h) HSS.out (by rfl) ?_
        simp only [Act.put, List.getElem_toArray, List.getElem_cons_zero, List.getElem_cons_succ, List.setIfInBounds_toArray, List.set_cons_zero, List.set_cons_succ]
        refine wpAnyT_skip (i := 9) rfl (by kernel_rfl) (by kernel_rfl) (by kernel_rfl) (by kernel_rfl) (by kernel_rfl) (fun _ _ _ h => h) HSS.out (by rfl) ?_
        simp only [Act.put, List.getElem_toArray, List.getElem_cons_zero, List.getElem_cons_succ, List.setIfInBounds_toArray, List.set_cons_zero, List.set_cons_succ]
        refine wpAnyT_skip (i := 10) rfl (by kernel_rfl) (by kernel_rfl) (by kernel_rfl) (by kernel_rfl) (by kernel_rfl) (fun _ _ _ h => h) HSS.out (by rfl) ?_
        simp only [Act.put, List.getElem_toArray, List.getElem_cons_zero, List.getElem_cons_succ, List.setIfInBounds_toArray, List.set_cons_zero, List.set_cons_succ]
        refine wpAnyT_skip (i := 11) rfl (by kernel_rfl) (by kernel_rfl) (by kernel_rfl) (by kernel_rfl) (by kernel_rfl) (fun _ _ _ h => h) HSS.out (by rfl) ?_
        simp only [Act.put, List.getElem_toArray, List.getElem_cons_zero, List.getElem_cons_succ, List.setIfInBounds_toArray, List.set_cons_zero, List.set_cons_succ]
        refine wpAnyT_skip (i := 12) rfl (by kernel_rfl) (by kernel_rfl) (by kernel_rfl) (by kernel_rfl) (by kernel_rfl) (fun _ _ _ h => h) HSS.out (by rfl) ?_
        simp only [Act.put, List.getElem_toArray, List.getElem_cons_zero, List.getElem_cons_succ, List.setIfInBounds_toArray, List.set_cons_zero, List.set_cons_succ]
        refine wpAnyT_load (i := 13) (v := ?_) rfl (by kernel_rfl) (by kernel_rfl) (by kernel_rfl) (by kernel_rfl) (by kernel_rfl) (fun _ _ _ h => h) HSS.out (by rfl) ?_ ?_
        rotate_left
        · intro w hSw; have x9 := hSw.1.cell 9; have x10 := hSw.1.cell 10; have x11 := hSw.1.cell 11; have f11 := hSw.1.free 11; obtain ⟨p0, p1, p2, p3, p4, p5, p6, p7, p8, p9, p10⟩ := hSw.2.pcells; simp only [shc, List.getElem?_toArray, List.getElem?_cons_succ, List.getElem?_cons_zero] at x9 x10 x11; go_simp; try with_reducible rfl
        simp only [Act.put, List.getElem_toArray, List.getElem_cons_zero, List.getElem_cons_succ, List.setIfInBounds_toArray, List.set_cons_zero, List.set_cons_succ]
        refine wpAnyT_load (i := 14) (v := ?_) rfl (by kernel_rfl) (by kernel_rfl) (by kernel_rfl) (by kernel_rfl) (by kernel_rfl) (fun _ _ _ h => h) HSS.out (by rfl) ?_ ?_
        rotate_left
        · intro w hSw; have x9 := hSw.1.cell 9; have x10 := hSw.1.cell 10; have x11 := hSw.1.cell 11; have f11 := hSw.1.free 11; obtain ⟨p0, p1, p2, p3, p4, p5, p6, p7, p8, p9, p10⟩ := hSw.2.pcells; simp only [shc, List.getElem?_toArray, List.getElem?_cons_succ, List.getElem?_cons_zero] at x9 x10 x11; go_simp; try with_reducible rfl
        simp only [Act.put, List.getElem_toArray, List.getElem_cons_zero, List.getElem_cons_succ, List.setIfInBounds_toArray, List.set_cons_zero, List.set_cons_succ]
        refine wpAnyT_load (i := 15) (v := ?_) rfl (by kernel_rfl) (by kernel_rfl) (by kernel_rfl) (by kernel_rfl) (by kernel_rfl) (fun _ _ _ h => h) HSS.out (by rfl) ?_ ?_
        rotate_left
        · intro w hSw; have x9 := hSw.1.cell 9; have x10 := hSw.1.cell 10; have x11 := hSw.1.cell 11; have f11 := hSw.1.free 11; obtain ⟨p0, p1, p2, p3, p4, p5, p6, p7, p8, p9, p10⟩ := hSw.2.pcells; simp only [shc, List.getElem?_toArray, List.getElem?_cons_succ, List.getElem?_cons_zero] at x9 x10 x11; go_simp; try with_reducible rfl
        simp only [Act.put, List.getElem_toArray, List.getElem_cons_zero, List.getElem_cons_succ, List.setIfInBounds_toArray, List.set_cons_zero, List.set_cons_succ]
        refine wpAnyT_one (i := 16) (by kernel_rfl) rfl (fun K hK => ?_)
        rw [if_pos (by rfl)]
        have x9 := HSS.out.1.cell 9
        have x10 := HSS.out.1.cell 10
        have x11 := HSS.out.1.cell 11
        have f11 := HSS.out.1.free 11
        obtain ⟨p0, p1, p2, p3, p4, p5, p6, p7, p8, p9, p10⟩ := HSS.out.2.pcells
        simp only [shc, List.getElem?_toArray, List.getElem?_cons_succ, List.getElem?_cons_zero] at x9 x10 x11
        go_simp
        refine hK.out _ _ (fun _ => (by first | trivial | exact absurd ‹_› (by simp))) ?_
        clear hK K
        simp only [Act.put, List.getElem_toArray, List.getElem_cons_zero, List.getElem_cons_succ, List.setIfInBounds_toArray, List.set_cons_zero, List.set_cons_succ]
        refine wpAnyT_done (by kernel_rfl) ?_ _
        go_wp2_with fail
        go_meet
        obtain ⟨w5, e5, hF5, hB5, -⟩ := set_new HSS.out.1 11 (.bool false)
        rw [e5]
        exact ⟨hB5.as_ (by unfold Sheet.held; rw [HAL.out, Bool.false_and]; rfl), HFD.out.any.trans hF5⟩

    case rest =>
      obtain ⟨hBx, hFx⟩ := hcut
      have hd0 : ∀ b, liveOf (.slice ab nb cb) = some b → b ∉ [g] := fun b hb hm => by have := (HD.out b hb).1; simp at hm; omega
      have HSB := Lib.hid (Sl.frL HSB.out hFx hd0)
      have HSO := Lib.hid (Own.fr HSO.out hFx (fun b hb hm => by have := (Own.block HSO.out b hb).1; have := HGN.out; simp at hm; omega))
      have HF := Lib.hid (HF.out.step hFx (fun x hx => .inr (by have := HG0.out; simp at hx; omega)))
      have HXO := Lib.hid (HXO.out.fr hFx (fun b hb hm => by have h1 := HOX.out b hb; have := HN.out; have := HGN.out; simp at hm; omega))
      have HXB := Lib.hid (HXB.out.fr hFx (by have := HGX.out; have := HGN.out; simp; omega)); have HPB := Lib.hid (HPB.out.fr hFx (by have := HGP.out; simp; omega))
      have HNNq := Lib.hid (Nat.le_trans HNN.out hFx.size)
      clear HNN
      have HNN := HNNq
      have hq1 : (s1.held p).sum = s1.sum := rfl
      have hq2 : (s1.held p).seqs = s1.seqs := rfl
      rw [← hq1] at HSB
      rw [← hq1] at hs1
      rw [← hq2] at HSO
      rw [← hq2] at HD
      rw [← hq2] at hBx
      rw [← hq2] at hs2
      have HQ3 : Hid ((s1.held p).seqs = s.seqs) := HQ2
      clear HNNq HB HQ2 hd0 hFx hq1 hq2
      generalize s1.held p = s2 at *
      have HB := Lib.hid hBx
      clear hBx
      go_upto_region 8 with fail
      refine wp_region_T (fun w' => Box w' g 123 (shc s2 (.slice ab nb cb) (.slice aq s2.seqs.length cq)) ∧ Box w' gp 88 (pc p.marker p.pt p.seq.toNat p.ts.toNat p.ssrc.toNat (.slice c1 p.csrc.length e1) p.hasExt p.profile.toNat (.slice c2 p.ext.length e2) (.slice c3 p.payload.length e3) (.slice c4 p.pad.length e4))) [11] 12 #[false, false, false, false, false, false, false, false, false, false, false, false] (by kernel_rfl) rfl rfl ?_
      have hF := (Fr.refl [] wc).drew
      have HSS := Lib.hid (And.intro (HB.out.keep hF) (HPB.out.keep hF))
      have HSO := Lib.hid (Own.keep HSO.out hF); have HSB := Lib.hid (Sl.keep HSB.out hF); have HXO := Lib.hid (HXO.out.keep hF); have HXB := Lib.hid (HXB.out.keep hF); have HF := Lib.hid (HF.out.trans hF)
      have HNZ : Hid (N ≤ wc.drew.heap.size) := Lib.hid (Nat.le_trans HNN.out hF.size)
      clear hF
      generalize wc.drew = wd at *
      refine wpAnyT_load (i := 0) (v := ?_) rfl (by kernel_rfl) (by kernel_rfl) (by kernel_rfl) (by kernel_rfl) (by kernel_rfl) (fun _ _ _ h => h) HSS.out (by rfl) ?_ ?_
      rotate_left
      · intro w hSw; have x9 := hSw.1.cell 9; have f9 := hSw.1.free 9; obtain ⟨p0, p1, p2, p3, p4, p5, p6, p7, p8, p9, p10⟩ := hSw.2.pcells; simp only [shc, List.getElem?_toArray, List.getElem?_cons_succ, List.getElem?_cons_zero] at x9; go_simp; try with_reducible rfl
      simp only [Act.put, List.getElem_toArray, List.getElem_cons_zero, List.getElem_cons_succ, List.setIfInBounds_toArray, List.set_cons_zero, List.set_cons_succ]
      refine wpAnyT_load (i := 1) (v := ?_) rfl (by kernel_rfl) (by kernel_rfl) (by kernel_rfl) (by kernel_rfl) (by kernel_rfl) (fun _ _ _ h => h) HSS.out (by rfl) ?_ ?_
      rotate_left
      · intro w hSw; have x9 := hSw.1.cell 9; have f9 := hSw.1.free 9; obtain ⟨p0, p1, p2, p3, p4, p5, p6, p7, p8, p9, p10⟩ := hSw.2.pcells; simp only [shc, List.getElem?_toArray, List.getElem?_cons_succ, List.getElem?_cons_zero] at x9; go_simp; try with_reducible rfl
      simp only [Act.put, List.getElem_toArray, List.getElem_cons_zero, List.getElem_cons_succ, List.setIfInBounds_toArray, List.set_cons_zero, List.set_cons_succ]
      refine wpAnyT_load (i := 2) (v := ?_) rfl (by kernel_rfl) (by kernel_rfl) (by kernel_rfl) (by kernel_rfl) (by kernel_rfl) (fun _ _ _ h => h) HSS.out (by rfl) ?_ ?_
      rotate_left
      · intro w hSw; have x9 := hSw.1.cell 9; have f9 := hSw.1.free 9; obtain ⟨p0, p1, p2, p3, p4, p5, p6, p7, p8, p9, p10⟩ := hSw.2.pcells; simp only [shc, List.getElem?_toArray, List.getElem?_cons_succ, List.getElem?_cons_zero] at x9; go_simp; try with_reducible rfl
      simp only [Act.put, List.getElem_toArray, List.getElem_cons_zero, List.getElem_cons_succ, List.setIfInBounds_toArray, List.set_cons_zero, List.set_cons_succ]
      refine wpAnyT_load (i := 3) (v := ?_) rfl (by kernel_rfl) (by kernel_rfl) (by kernel_rfl) (by kernel_rfl) (by kernel_rfl) (fun _ _ _ h => h) HSS.out (by rfl) ?_ ?_
      rotate_left
      · intro w hSw; have x9 := hSw.1.cell 9; have f9 := hSw.1.free 9; obtain ⟨p0, p1, p2, p3, p4, p5, p6, p7, p8, p9, p10⟩ := hSw.2.pcells; simp only [shc, List.getElem?_toArray, List.getElem?_cons_succ, List.getElem?_cons_zero] at x9; go_simp; try with_reducible rfl
      simp only [Act.put, List.getElem_toArray, List.getElem_cons_zero, List.getElem_cons_succ, List.setIfInBounds_toArray, List.set_cons_zero, List.set_cons_succ]
      refine wpAnyT_load (i := 4) (v := ?_) rfl (by kernel_rfl) (by kernel_rfl) (by kernel_rfl) (by kernel_rfl) (by kernel_rfl) (fun _ _ _ h => h) HSS.out (by rfl) ?_ ?_
      rotate_left
      · intro w hSw; have x9 := hSw.1.cell 9; have f9 := hSw.1.free 9; obtain ⟨p0, p1, p2, p3, p4, p5, p6, p7, p8, p9, p10⟩ := hSw.2.pcells; simp only [shc, List.getElem?_toArray, List.getElem?_cons_succ, List.getElem?_cons_zero] at x9; go_simp; try with_reducible rfl
      simp only [Act.put, List.getElem_toArray, List.getElem_cons_zero, List.getElem_cons_succ, List.setIfInBounds_toArray, List.set_cons_zero, List.set_cons_succ]
      refine wpAnyT_load (i := 5) (v := ?_) rfl (by kernel_rfl) (by kernel_rfl) (by kernel_rfl) (by kernel_rfl) (by kernel_rfl) (fun _ _ _ h => h) HSS.out (by rfl) ?_ ?_
      rotate_left
      · intro w hSw; have x9 := hSw.1.cell 9; have f9 := hSw.1.free 9; obtain ⟨p0, p1, p2, p3, p4, p5, p6, p7, p8, p9, p10⟩ := hSw.2.pcells; simp only [shc, List.getElem?_toArray, List.getElem?_cons_succ, List.getElem?_cons_zero] at x9; go_simp; try with_reducible rfl
      simp only [Act.put, List.getElem_toArray, List.getElem_cons_zero, List.getElem_cons_succ, List.setIfInBounds_toArray, List.set_cons_zero, List.set_cons_succ]
      refine wpAnyT_load (i := 6) (v := ?_) rfl (by kernel_rfl) (by kernel_rfl) (by kernel_rfl) (by kernel_rfl) (by kernel_rfl) (fun _ _ _ h => h) HSS.out (by rfl) ?_ ?_
      rotate_left
      · intro w hSw; have x9 := hSw.1.cell 9; have f9 := hSw.1.free 9; obtain ⟨p0, p1, p2, p3, p4, p5, p6, p7, p8, p9, p10⟩ := hSw.2.pcells; simp only [shc, List.getElem?_toArray, List.getElem?_cons_succ, List.getElem?_cons_zero] at x9; go_simp; try with_reducible rfl
      simp only [Act.put, List.getElem_toArray, List.getElem_cons_zero, List.getElem_cons_succ, List.setIfInBounds_toArray, List.set_cons_zero, List.set_cons_succ]
      obtain ⟨w8, e8, hF8, hB8, hs8⟩ := one_new wd #[.int .u16 (p.seq.toNat : Nat)] 42
      have E8 := Lib.hid e8
      refine wpAnyT_one (i := 7) (by kernel_rfl) rfl (fun K hK => ?_)
      rw [if_pos (by rfl)]
      have x9 := HSS.out.1.cell 9
      have f9 := HSS.out.1.free 9
      obtain ⟨p0, p1, p2, p3, p4, p5, p6, p7, p8, p9, p10⟩ := HSS.out.2.pcells
      simp only [shc, List.getElem?_toArray, List.getElem?_cons_succ, List.getElem?_cons_zero] at x9
      go_simp
      refine hK.out _ _ (fun _ => (And.intro (HSS.out.1.keep hF8) (HSS.out.2.keep hF8))) ?_
      clear hK K
      simp only [Act.put, List.getElem_toArray, List.getElem_cons_zero, List.getElem_cons_succ, List.setIfInBounds_toArray, List.set_cons_zero, List.set_cons_succ]
      clear E8 e8
      have HSS := Lib.hid (And.intro (HSS.out.1.keep hF8) (HSS.out.2.keep hF8))
      have HSO := Lib.hid (Own.keep HSO.out hF8); have HSB := Lib.hid (Sl.keep HSB.out hF8); have HXO := Lib.hid (HXO.out.keep hF8); have HXB := Lib.hid (HXB.out.keep hF8); have HF := Lib.hid (HF.out.trans hF8)
      have HCELL : Hid (∀ (j : Nat) (u : Value), [W16 p.seq][j]? = some u → w8.cell? ((⟨wd.heap.size, 0, none⟩ : Addr).add j) = some u) := Lib.hid (fun j u hj => by
        have : j = 0 := by
          have := (List.getElem?_eq_some_iff.1 hj).1
          simp at this
          exact this
        subst this
        simp at hj
        subst hj
        have h3 := hB8.cell 0
        simp only [List.getElem?_toArray, List.getElem?_cons_zero] at h3
        rw [Addr.add_mid, Nat.add_zero]
        exact h3)
      have HN8 : Hid (N ≤ w8.heap.size) := Lib.hid (by have := HNZ.out; omega)
      clear hF8 hB8 hs8
      refine wpAnyT_one (i := 8) (by kernel_rfl) rfl (fun K hK => ?_)
      refine step_append_fr rfl (.tmp 56) (.tmp 59) 77 rfl N 42 (.int .u16 0) 1 2 Try.underlying77 info_u16 rfl (by omega) (.slice aq s2.seqs.length cq) s2.seqs.length (s2.seqs.map W16) rfl HSO.out ⟨wd.heap.size, 0, none⟩ 1 1 [W16 p.seq] rfl rfl HCELL.out (by simp [W16, Value.oneCell']) (by unfold maxLen; omega) (by omega) HN8.out ?_
      intro v9 w9 hown9 hfr9 hbl9 _
      obtain ⟨a9, c9, rfl⟩ : ∃ a c, v9 = .slice a (s2.seqs.length + 1) c := by
        have h := Sl.shape (Sl.ofOwn hown9)
        simpa using h
      have HO9 := Lib.hid hown9; have HBL9 := Lib.hid hbl9
      have hvq : ∀ b ∈ (blockOf (.slice aq s2.seqs.length cq)).toList, N ≤ b ∧ b < w.heap.size := fun b hb => HVQ.out b _ (by simpa using hb)
      have HSS := Lib.hid (And.intro (HSS.out.1.fr hfr9 (fun hm => by have := hvq _ hm; have := HGN.out; omega)) (HSS.out.2.fr hfr9 (fun hm => by have := hvq _ hm; have := HGP.out; have := HGXW.out; omega)))
      have HSB := Lib.hid (Sl.frL HSB.out hfr9 (fun b hb hm => (HD.out b hb).2.1 (by simpa using hm))); have HXO := Lib.hid (HXO.out.fr hfr9 (fun b hb hm => by have := hvq _ hm; have := HOX.out b hb; omega)); have HXB := Lib.hid (HXB.out.fr hfr9 (fun hm => by have := hvq _ hm; have := HGXW.out; omega)); have HF := Lib.hid (HF.out.step hfr9 (fun x hx => .inr (by have := hvq x hx; have := HG0.out; have := HGN.out; omega)))
      have HZ9 := Lib.hid hfr9.size
      clear hown9 hbl9 hvq hfr9
      refine hK.out _ _ (fun _ => HSS.out) ?_
      clear hK K
      simp only [Act.put, List.getElem_toArray, List.getElem_cons_zero, List.getElem_cons_succ, List.setIfInBounds_toArray, List.set_cons_zero, List.set_cons_succ]
      refine wpAnyT_load (i := 9) (v := ?_) rfl (by kernel_rfl) (by kernel_rfl) (by kernel_rfl) (by kernel_rfl) (by kernel_rfl) (fun _ _ _ h => h) HSS.out (by rfl) ?_ ?_
      rotate_left
      · intro w hSw; have x9 := hSw.1.cell 9; have f9 := hSw.1.free 9; obtain ⟨p0, p1, p2, p3, p4, p5, p6, p7, p8, p9, p10⟩ := hSw.2.pcells; simp only [shc, List.getElem?_toArray, List.getElem?_cons_succ, List.getElem?_cons_zero] at x9; go_simp; try with_reducible rfl
      simp only [Act.put, List.getElem_toArray, List.getElem_cons_zero, List.getElem_cons_succ, List.setIfInBounds_toArray, List.set_cons_zero, List.set_cons_succ]
      refine wpAnyT_load (i := 10) (v := ?_) rfl (by kernel_rfl) (by kernel_rfl) (by kernel_rfl) (by kernel_rfl) (by kernel_rfl) (fun _ _ _ h => h) HSS.out (by rfl) ?_ ?_
      rotate_left
      · intro w hSw; have x9 := hSw.1.cell 9; have f9 := hSw.1.free 9; obtain ⟨p0, p1, p2, p3, p4, p5, p6, p7, p8, p9, p10⟩ := hSw.2.pcells; simp only [shc, List.getElem?_toArray, List.getElem?_cons_succ, List.getElem?_cons_zero] at x9; go_simp; try with_reducible rfl
      simp only [Act.put, List.getElem_toArray, List.getElem_cons_zero, List.getElem_cons_succ, List.setIfInBounds_toArray, List.set_cons_zero, List.set_cons_succ]
      refine wpAnyT_one (i := 11) (by kernel_rfl) rfl (fun K hK => ?_)
      rw [if_pos (by rfl)]
      have x9 := HSS.out.1.cell 9
      have f9 := HSS.out.1.free 9
      obtain ⟨p0, p1, p2, p3, p4, p5, p6, p7, p8, p9, p10⟩ := HSS.out.2.pcells
      simp only [shc, List.getElem?_toArray, List.getElem?_cons_succ, List.getElem?_cons_zero] at x9
      go_simp
      refine hK.out _ _ (fun _ => (by first | trivial | exact absurd ‹_› (by simp))) ?_
      clear hK K
      simp only [Act.put, List.getElem_toArray, List.getElem_cons_zero, List.getElem_cons_succ, List.setIfInBounds_toArray, List.set_cons_zero, List.set_cons_succ]
      refine wpAnyT_done (by kernel_rfl) ?_ _
      obtain ⟨w10, e10, hF10, hB10, -⟩ := set_new HSS.out.1 9 (.slice a9 (s2.seqs.length + 1) c9)
      rw [e10]
      have HB : Hid (Box w10 g 123 (shc (s2.noted p) (.slice ab nb cb) (.slice a9 (s2.noted p).seqs.length c9))) := Lib.hid (hB10.as_ (by unfold Sheet.noted; rw [List.length_append]; rfl))
      have HSB := Lib.hid (Sl.frL HSB.out hF10 (fun b hb hm => by have := (HD.out b hb).1; simp at hm; omega))
      have HXO := Lib.hid (HXO.out.fr hF10 (fun b hb hm => by have h1 := HOX.out b hb; have := HN.out; have := HGN.out; simp at hm; omega))
      have HXB := Lib.hid (HXB.out.fr hF10 (by have := HGX.out; have := HGN.out; simp; omega))
      have HF := Lib.hid (HF.out.step hF10 (fun x hx => .inr (by have := HG0.out; simp at hx; omega)))
      have HO9 := Lib.hid (Own.fr HO9.out hF10 (fun b hb hm => by have := (Own.block HO9.out b hb).1; have := HGN.out; simp at hm; omega))
      have HZ10 : Hid (N ≤ w10.heap.size) := Lib.hid (by have := HN8.out; have := HZ9.out; have := hF10.size; omega)
      have HQ4 : Hid ((s2.noted p).seqs = s2.seqs ++ [p.seq]) := Lib.hid rfl
      have hq5 : (s2.noted p).sum = s2.sum := rfl
      have ho9 := HO9.out
      rw [show s2.seqs.map W16 ++ [W16 p.seq] = (s2.noted p).seqs.map W16 by rw [HQ4.out, List.map_append]; rfl, show s2.seqs.length + 1 = (s2.noted p).seqs.length by rw [HQ4.out, List.length_append]; rfl] at ho9
      have HO := Lib.hid ho9
      rw [← hq5] at HSB
      rw [← hq5] at hs1
      clear e10 hF10 hB10 HO9 hq5 ho9 HQ4 HPB HSS HSO
      generalize s2.noted p = s3 at *
      go_upto_region 9 with fail
      refine wp_region_T (fun w' => Box w' g 123 (shc s3 (.slice ab nb cb) (.slice a9 s3.seqs.length c9)) ∧ Box w' gx 28 (bc (imp l) (.slice ax nx cx))) [9] 10 #[false, false, false, false, false, false, false, false, false, false] (by kernel_rfl) rfl rfl ?_
      have hF := (Fr.refl [] w10).drew
      have HSS := Lib.hid (And.intro (HB.out.keep hF) (HXB.out.keep hF))
      have HO := Lib.hid (Own.keep HO.out hF); have HSB := Lib.hid (Sl.keep HSB.out hF); have HXO := Lib.hid (HXO.out.keep hF); have HF := Lib.hid (HF.out.trans hF)
      have HZD : Hid (N ≤ w10.drew.heap.size) := Lib.hid (Nat.le_trans HZ10.out hF.size)
      clear hF
      generalize w10.drew = wd at *
      refine wpAnyT_load (i := 0) (v := ?_) rfl (by kernel_rfl) (by kernel_rfl) (by kernel_rfl) (by kernel_rfl) (by kernel_rfl) (fun _ _ _ h => h) HSS.out (by rfl) ?_ ?_
      rotate_left
      · intro w hSw; skip; go_simp; try with_reducible rfl
      simp only [Act.put, List.getElem_toArray, List.getElem_cons_zero, List.getElem_cons_succ, List.setIfInBounds_toArray, List.set_cons_zero, List.set_cons_succ]
      refine wpAnyT_load (i := 1) (v := ?_) rfl (by kernel_rfl) (by kernel_rfl) (by kernel_rfl) (by kernel_rfl) (by kernel_rfl) (fun _ _ _ h => h) HSS.out (by rfl) ?_ ?_
      rotate_left
      · intro w hSw; skip; go_simp; try with_reducible rfl
      simp only [Act.put, List.getElem_toArray, List.getElem_cons_zero, List.getElem_cons_succ, List.setIfInBounds_toArray, List.set_cons_zero, List.set_cons_succ]
      refine wpAnyT_load (i := 2) (v := ?_) rfl (by kernel_rfl) (by kernel_rfl) (by kernel_rfl) (by kernel_rfl) (by kernel_rfl) (fun _ _ _ h => h) HSS.out (by rfl) ?_ ?_
      rotate_left
      · intro w hSw; skip; go_simp; try with_reducible rfl
      simp only [Act.put, List.getElem_toArray, List.getElem_cons_zero, List.getElem_cons_succ, List.setIfInBounds_toArray, List.set_cons_zero, List.set_cons_succ]
      refine wpAnyT_load (i := 3) (v := ?_) rfl (by kernel_rfl) (by kernel_rfl) (by kernel_rfl) (by kernel_rfl) (by kernel_rfl) (fun _ _ _ h => h) HSS.out (by rfl) ?_ ?_
      rotate_left
      · intro w hSw; skip; go_simp; try with_reducible rfl
      simp only [Act.put, List.getElem_toArray, List.getElem_cons_zero, List.getElem_cons_succ, List.setIfInBounds_toArray, List.set_cons_zero, List.set_cons_succ]
      refine wpAnyT_load (i := 4) (v := ?_) rfl (by kernel_rfl) (by kernel_rfl) (by kernel_rfl) (by kernel_rfl) (by kernel_rfl) (fun _ _ _ h => h) HSS.out (by rfl) ?_ ?_
      rotate_left
      · intro w' hSw; refine run_load_mid_op 28 (.tmp 66) ?_ g 0 ?_ (bc s3.sum (.slice ab nb cb)) _ (shc_range hSw.1) Try.underlying28 rfl (by kernel_rfl) <;> rfl
      simp only [Act.put, List.getElem_toArray, List.getElem_cons_zero, List.getElem_cons_succ, List.setIfInBounds_toArray, List.set_cons_zero, List.set_cons_succ]
      refine wpAnyT_load (i := 5) (v := ?_) rfl (by kernel_rfl) (by kernel_rfl) (by kernel_rfl) (by kernel_rfl) (by kernel_rfl) (fun _ _ _ h => h) HSS.out (by rfl) ?_ ?_
      rotate_left
      · intro w' hSw; refine run_load_row 28 (.tmp 5) ?_ gx ?_ 28 _ _ hSw.2 Try.underlying28 rfl (by kernel_rfl) <;> rfl
      simp only [Act.put, List.getElem_toArray, List.getElem_cons_zero, List.getElem_cons_succ, List.setIfInBounds_toArray, List.set_cons_zero, List.set_cons_succ]
      refine wpAnyT_one (i := 6) (by kernel_rfl) rfl (fun K hK => ?_)
      rw [if_pos (by rfl)]
      go_simp
      refine (impAdd_any (x := s3.sum) (y := imp l) ⟨_, rfl, HSB.out⟩ ⟨_, rfl, HXO.out.bytes⟩ hs1 HIL.out).mono ?_
      rintro e w11 ⟨v11, rfl, ⟨vo, rfl, hOO⟩, hF⟩
      have HSS := Lib.hid (And.intro (HSS.out.1.keep hF) (HSS.out.2.keep hF))
      have HVO : Hid (∀ b, blockOf (.slice a9 s3.seqs.length c9) = some b → b < wd.heap.size) := Lib.hid (fun b hb => (Own.block HO.out b hb).2)
      have HO := Lib.hid (Own.keep HO.out hF); have HF := Lib.hid (HF.out.trans hF)
      have HOO := Lib.hid hOO
      have HZE := Lib.hid (Nat.le_trans HZD.out hF.size)
      obtain ⟨ao, no, co, rfl⟩ := hOO.isSlice
      clear hOO hF
      go_simp
      refine hK.out _ _ (fun _ => HSS.out) ?_
      clear hK K
      simp only [Act.put, List.getElem_toArray, List.getElem_cons_zero, List.getElem_cons_succ, List.setIfInBounds_toArray, List.set_cons_zero, List.set_cons_succ]
      refine wpAnyT_load (i := 7) (v := ?_) rfl (by kernel_rfl) (by kernel_rfl) (by kernel_rfl) (by kernel_rfl) (by kernel_rfl) (fun _ _ _ h => h) HSS.out (by rfl) ?_ ?_
      rotate_left
      · intro w hSw; skip; go_simp; try with_reducible rfl
      simp only [Act.put, List.getElem_toArray, List.getElem_cons_zero, List.getElem_cons_succ, List.setIfInBounds_toArray, List.set_cons_zero, List.set_cons_succ]
      refine wpAnyT_load (i := 8) (v := ?_) rfl (by kernel_rfl) (by kernel_rfl) (by kernel_rfl) (by kernel_rfl) (by kernel_rfl) (fun _ _ _ h => h) HSS.out (by rfl) ?_ ?_
      rotate_left
      · intro w hSw; skip; go_simp; try with_reducible rfl
      simp only [Act.put, List.getElem_toArray, List.getElem_cons_zero, List.getElem_cons_succ, List.setIfInBounds_toArray, List.set_cons_zero, List.set_cons_succ]
      refine wpAnyT_one (i := 9) (by kernel_rfl) rfl (fun K hK => ?_)
      refine wp_store_part rfl 28 (.tmp 71) (.tmp 69) rfl g rfl _ _ rfl 123 HSS.out.1 (by kernel_rfl) (by simp [bc]) (by simp [bc, Value.oneCell']) ?_
      intro w12 hY hG
      have HY : Hid (Box w12 g 123 (shc (s3.summed (imp l)) (.slice ao no co) (.slice a9 s3.seqs.length c9))) := Lib.hid hY
      have HGn := Lib.hid hG
      clear hY hG
      refine hK.out _ _ (fun _ => (by first | trivial | exact absurd ‹_› (by simp))) ?_
      clear hK K
      simp only [Act.put, List.getElem_toArray, List.getElem_cons_zero, List.getElem_cons_succ, List.setIfInBounds_toArray, List.set_cons_zero, List.set_cons_succ]
      refine wpAnyT_done (by kernel_rfl) ?_ _
      go_wp2_with fail
      go_ret
      refine ⟨⟨HF.out.step HGn.out (fun x hx => .inr (by have := HG0.out; simp at hx; omega)), by have := HGn.out.size; have := HZE.out; omega⟩, .inl ⟨p, HP.out, rfl, ?_⟩⟩
      rw [HADD.out]
      refine ⟨⟨_, _, HY.out, ?_, ?_, ?_⟩, HGN.out⟩
      · exact Sl.frL HOO.out.bytes HGn.out (fun b hb hm => by have h1 := (HOO.out.block b (live_block hb)).1; have := HZD.out; have := HGN.out; simp at hm; omega)
      · exact Own.fr HO.out HGn.out (fun b hb hm => by have := (Own.block HO.out b hb).1; have := HGN.out; simp at hm; omega)
      · intro b hb
        have h1 := (HOO.out.block b (live_block hb)).1
        have := HZD.out; have := HGN.out
        exact ⟨by omega, fun hv => by have := HVO.out b hv; omega, by omega⟩
end Go.Proofs.Ytchbgiindfoepaa

/- The walk of confluxref09.SameRepair, of two that are alike (printed by gen_same9.py). -/
namespace Go.Proofs.Ytchbgiindfoepaa
open Go.RowKit

set_option maxRecDepth 100000 in
set_option maxHeartbeats 4000000 in
theorem r09Same_eq {w : World} {v1 v2 : Value} {r : Rep_} (h1 : RpV w v1 r) (h2 : RpV w v2 r) (hs : r.bt.body.length ≤ 1099511627776) :
    Calls Try.prog 33 #[v1, v2] w fun e w' => e = .returned (.bool true) ∧ Fr [] w w' := by
  obtain ⟨vb1, rfl, hb1⟩ := h1
  obtain ⟨vb2, rfl, hb2⟩ := h2
  obtain ⟨a1, c1, rfl⟩ := Sl.shape hb1
  obtain ⟨a2, c2, rfl⟩ := Sl.shape hb2
  rw [List.length_map] at hb1 hb2 ⊢
  obtain ⟨w1, e1, hF1, hB1, hB2, hs1⟩ := two_new w (rpc r (.slice a1 r.bt.body.length c1)) 58 (rpc r (.slice a2 r.bt.body.length c2)) 58
  have HF := Lib.hid hF1; have HX := Lib.hid hB1; have HY := Lib.hid hB2; have E1 := Lib.hid e1
  have HA := Lib.hid (Sl.keep hb1 hF1); have HB := Lib.hid (Sl.keep hb2 hF1)
  clear hF1 hB1 hB2 hs1 e1 hb1 hb2
  go_enter Try.func33, Try.ntmps33
  go_upto_region 1 with fail
  rw [E1.out]
  clear E1
  generalize hg : w.heap.size = g at *
  clear hg
  have x0 := HX.out.cell 0; have x1 := HX.out.cell 1; have x2 := HX.out.cell 2; have x3 := HX.out.cell 3; have x4 := HX.out.cell 4; have x5 := HX.out.cell 5; have x6 := HX.out.cell 6; have x7 := HX.out.cell 7; have x8 := HX.out.cell 8; have x9 := HX.out.cell 9; have x10 := HX.out.cell 10; have x11 := HX.out.cell 11
  simp only [rpc, List.getElem?_toArray, List.getElem?_cons_succ, List.getElem?_cons_zero] at x0 x1 x2 x3 x4 x5 x6 x7 x8 x9 x10 x11
  have y0 := HY.out.cell 0; have y1 := HY.out.cell 1; have y2 := HY.out.cell 2; have y3 := HY.out.cell 3; have y4 := HY.out.cell 4; have y5 := HY.out.cell 5; have y6 := HY.out.cell 6; have y7 := HY.out.cell 7; have y8 := HY.out.cell 8; have y9 := HY.out.cell 9; have y10 := HY.out.cell 10; have y11 := HY.out.cell 11
  simp only [rpc, List.getElem?_toArray, List.getElem?_cons_succ, List.getElem?_cons_zero] at y0 y1 y2 y3 y4 y5 y6 y7 y8 y9 y10 y11
  have heq : ∀ w : World, (Op.equalIn 10000 26 (.agg #[.int .u8 (r.bt.h0.toNat : Nat), .int .u8 (r.bt.h1.toNat : Nat), .int .u8 (r.bt.h2.toNat : Nat), .int .u8 (r.bt.h3.toNat : Nat), .int .u8 (r.bt.h4.toNat : Nat), .int .u8 (r.bt.h5.toNat : Nat), .int .u8 (r.bt.h6.toNat : Nat), .int .u8 (r.bt.h7.toNat : Nat)]) (.agg #[.int .u8 (r.bt.h0.toNat : Nat), .int .u8 (r.bt.h1.toNat : Nat), .int .u8 (r.bt.h2.toNat : Nat), .int .u8 (r.bt.h3.toNat : Nat), .int .u8 (r.bt.h4.toNat : Nat), .int .u8 (r.bt.h5.toNat : Nat), .int .u8 (r.bt.h6.toNat : Nat), .int .u8 (r.bt.h7.toNat : Nat)])).run Try.prog w = .ok true w := fun w => by
    have := eq_arr8 r.bt.h0.toNat r.bt.h1.toNat r.bt.h2.toNat r.bt.h3.toNat r.bt.h4.toNat r.bt.h5.toNat r.bt.h6.toNat r.bt.h7.toNat r.bt.h0.toNat r.bt.h1.toNat r.bt.h2.toNat r.bt.h3.toNat r.bt.h4.toNat r.bt.h5.toNat r.bt.h6.toNat r.bt.h7.toNat w
    simpa using this
  go_wp2_with fail
  refine (RSame_any HA.out HB.out hs hs).mono ?_
  rintro e w2 ⟨rfl, hF⟩
  rw [beq_self_eq_true]
  have HF := Lib.hid (HF.out.trans hF)
  clear heq x0 x1 x2 x3 x4 x5 x6 x7 x8 x9 x10 x11 y0 y1 y2 y3 y4 y5 y6 y7 y8 y9 y10 y11 hF
  go_wp2_with fail
  go_ret
  first | exact ⟨rfl, HF.out⟩ | exact ⟨ret_bool (by simp), HF.out⟩
end Go.Proofs.Ytchbgiindfoepaa
