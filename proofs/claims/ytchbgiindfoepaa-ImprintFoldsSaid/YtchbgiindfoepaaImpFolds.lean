/- The walk of confluxlaw12.ImprintFolds (printed by gen_imp15.py). -/
import Derived.Test.YtchbgiindfoepaaImpSeq
import Derived.Test.YtchbgiindfoepaaImpPackets
import Derived.Test.YtchbgiindfoepaaRows2
namespace Go.Proofs.Ytchbgiindfoepaa
open Go.RowKit

/-- Does it parse? -/
def isPk (l : List UInt8) : Bool := match parseR l with | .ok _ => true | .error _ => false
def sel (ls : List (List UInt8)) : List (List UInt8) := ls.filter isPk
theorem sel_yes {ls : List (List UInt8)} {j : Nat} (h : j < ls.length) (hp : isPk ls[j] = true) : sel (ls.take (j + 1)) = sel (ls.take j) ++ [ls[j]] := by
  unfold sel
  rw [List.take_succ_eq_append_getElem h, List.filter_append, List.filter_cons_of_pos hp, List.filter_nil]
theorem sel_no {ls : List (List UInt8)} {j : Nat} (h : j < ls.length) (hp : isPk ls[j] = false) : sel (ls.take (j + 1)) = sel (ls.take j) := by
  unfold sel
  rw [List.take_succ_eq_append_getElem h, List.filter_append, List.filter_cons_of_neg (by simp [hp]), List.filter_nil, List.append_nil]
theorem sel_len (ls : List (List UInt8)) (j : Nat) : (sel (ls.take j)).length ≤ ls.length := by
  refine Nat.le_trans (List.length_filter_le _ _) ?_
  rw [List.length_take]
  omega
/-- What holds ahead of the round j: the box X has the slice of imprints; vp is the slice of packets. -/
structure FRel (w wr : World) (N X : Nat) (ls : List (List UInt8)) (j : Nat) (vx vp : Value) (B Bp : List Nat) : Prop where
  box : Box wr X 24 #[vx]
  xs : OwnEls 9 BtR wr N 28 vx ((sel (ls.take j)).map imp) B
  ps : OwnEls 1 BytesR wr N 25 vp (sel (ls.take j)) Bp
  b1 : ∀ b ∈ B, N ≤ b ∧ b ≠ X
  b2 : ∀ b ∈ Bp, b < N
  x1 : ∀ b, blockOf vx = some b → b ≠ X ∧ blockOf vp ≠ some b
  p1 : ∀ b, blockOf vp = some b → b ≠ X ∧ b ∉ B
  so : ∃ g, blockOf vx = some g
  fr : Fr [] w wr
theorem FRel.keep {w wr wr' : World} {N X : Nat} {ls : List (List UInt8)} {j : Nat} {vx vp : Value} {B Bp : List Nat} (h : FRel w wr N X ls j vx vp B Bp) (hf : Fr [] wr wr') : FRel w wr' N X ls j vx vp B Bp :=
  ⟨h.box.keep hf, h.xs.keep Rep.bt hf, h.ps.keep Rep.bytes hf, h.b1, h.b2, h.x1, h.p1, h.so, h.fr.trans hf⟩
set_option maxRecDepth 100000 in
theorem info_bits : (Try.prog.info? 28).map (fun i => (i.zero, i.size, i.bytes)) = some (some (.agg (bc Bt.zero (.slice none 0 0))), 9, 32) := by kernel_rfl
set_option maxRecDepth 100000 in
theorem info_u8s : (Try.prog.info? 25).map (fun i => (i.zero, i.size, i.bytes)) = some (some (.slice none 0 0), 1, 24) := by kernel_rfl
theorem FRel.no {w wr : World} {N X : Nat} {ls : List (List UInt8)} {j : Nat} {vx vp : Value} {B Bp : List Nat} (h : FRel w wr N X ls j vx vp B Bp) (hj : j < ls.length) (hp : isPk ls[j] = false) : FRel w wr N X ls (j + 1) vx vp B Bp :=
  ⟨h.box, by rw [sel_no hj hp]; exact h.xs, by rw [sel_no hj hp]; exact h.ps, h.b1, h.b2, h.x1, h.p1, h.so, h.fr⟩
theorem take500 {ls : List (List UInt8)} {j : Nat} (hj : j < ls.length) (h : ∀ l ∈ ls.take j, l.length ≤ 500) (h1 : ¬ 500 < (ls[j]).length) : ∀ l ∈ ls.take (j + 1), l.length ≤ 500 := by
  rw [List.take_succ_eq_append_getElem hj]
  intro l hl
  rcases List.mem_append.1 hl with hl | hl
  · exact h l hl
  · rw [List.mem_singleton] at hl
    subst hl
    omega
theorem box_range {w : World} {g : Nat} {t : TypeId} {c : Array Value} (h : Box w g t c) : w.rangeAt g 0 c.toList := fun j u hj => by
  rw [Nat.zero_add, h.cell, ← Array.getElem?_toList]
  exact hj
theorem mem_toList {b : Nat} {o : Option Nat} : b ∈ o.toList ↔ o = some b := by cases o <;> simp [eq_comm]
theorem FRel.yes {w w4 w5 w6 w7 w8 w9 : World} {N X : Nat} {ls : List (List UInt8)} {j : Nat} {vx vp vx' vp' : Value} {B Bp B1 B2 : List Nat} (h : FRel w w4 N X ls j vx vp B Bp) (hj : j < ls.length) (hp : isPk ls[j] = true)
    (hN : w.heap.size ≤ N) (lo : Nat) (hlo1 : ∀ b, blockOf vx = some b → b < lo) (hlo2 : ∀ b, blockOf vp = some b → b < lo) (hXlo : X < lo) (hNX : N ≤ X) (hlo4 : lo ≤ w4.heap.size)
    (hB1 : ∀ b ∈ B1, lo ≤ b ∧ b < w4.heap.size) (hB2 : ∀ b ∈ B2, b < N) (hF5 : Fr [] w4 w5)
    (hx : OwnEls 9 BtR w6 N 28 vx' ((sel (ls.take j)).map imp ++ [imp ls[j]]) (B ++ B1)) (hF6 : Fr (blockOf vx).toList w5 w6) (hvx : ∀ b, blockOf vx' = some b → blockOf vx = some b ∨ w5.heap.size ≤ b) (hF7 : Fr [] w6 w7)
    (hps : OwnEls 1 BytesR w8 N 25 vp' (sel (ls.take j) ++ [ls[j]]) (Bp ++ B2)) (hF8 : Fr (blockOf vp).toList w7 w8) (hvp : ∀ b, blockOf vp' = some b → blockOf vp = some b ∨ w7.heap.size ≤ b)
    (hF9 : Fr [X] w8 w9) (hB9 : Box w9 X 24 #[vx']) : FRel w w9 N X ls (j + 1) vx' vp' (B ++ B1) (Bp ++ B2) := by
  have z5 := hF5.size; have z6 := hF6.size; have z7 := hF7.size
  have hBlt := h.xs.lt Rep.bt
  have hvxb := hx.block
  have hxb0 := h.xs.block; have hpb0 := h.ps.block
  have n1 : ∀ b ∈ B ++ B1, b ∉ (blockOf vp).toList := fun b hb hm => by
    rw [mem_toList] at hm
    rcases List.mem_append.1 hb with hb | hb
    · exact (h.p1 b hm).2 hb
    · have := hB1 b hb; have := hlo2 b hm; omega
  have n2 : ∀ b, blockOf vx' = some b → b ∉ (blockOf vp).toList := fun b hb hm => by
    rw [mem_toList] at hm
    rcases hvx b hb with hv | hv
    · exact (h.x1 b hv).2 hm
    · have := hlo2 b hm; omega
  have n3 : ∀ b ∈ B ++ B1, N ≤ b ∧ b ≠ X := fun b hb => by
    rcases List.mem_append.1 hb with hb | hb
    · exact h.b1 b hb
    · have := hB1 b hb; omega
  have n4 : ∀ b, blockOf vx' = some b → b ≠ X := fun b hb => by
    rcases hvx b hb with hv | hv
    · exact (h.x1 b hv).1
    · omega
  have n5 : ∀ b ∈ Bp ++ B2, b < N := fun b hb => by
    rcases List.mem_append.1 hb with hb | hb
    · exact h.b2 b hb
    · exact hB2 b hb
  have n6 : ∀ b, blockOf vp' = some b → b ≠ X := fun b hb => by
    rcases hvp b hb with hv | hv
    · exact (h.p1 b hv).1
    · omega
  refine ⟨hB9, ?_, ?_, n3, n5, ?_, ?_, ?_, ?_⟩
  · rw [sel_yes hj hp, List.map_append, List.map_cons, List.map_nil]
    exact ((hx.keep Rep.bt hF7).fr Rep.bt hF8 n1 n2).fr Rep.bt hF9 (fun b hb hm => (n3 b hb).2 (by simpa using hm)) (fun b hb hm => n4 b hb (by simpa using hm))
  · rw [sel_yes hj hp]
    exact hps.fr Rep.bytes hF9 (fun b hb hm => by have := n5 b hb; simp at hm; omega) (fun b hb hm => n6 b hb (by simpa using hm))
  · intro b hb
    refine ⟨n4 b hb, fun hm => ?_⟩
    rcases hvp b hm with hv | hv
    · exact n2 b hb (by rw [mem_toList]; exact hv)
    · have := (hvxb b hb).2; omega
  · intro b hb
    refine ⟨n6 b hb, fun hm => ?_⟩
    rcases hvp b hb with hv | hv
    · exact n1 b hm (by rw [mem_toList]; exact hv)
    · rcases List.mem_append.1 hm with hm | hm
      · have := hBlt b hm; omega
      · have := hB1 b hm; omega
  · obtain ⟨cells, ⟨_, h | ⟨g, cap, cur, rfl, _⟩⟩, _⟩ := hx
    · simp at h
    · exact ⟨g, rfl⟩
  · have f1 : Fr [] w w6 := (h.fr.trans hF5).step hF6 (fun x hx => by rw [mem_toList] at hx; exact .inr (by have := (hxb0 x hx).1; omega))
    have f2 : Fr [] w w8 := (f1.trans hF7).step hF8 (fun x hx => by rw [mem_toList] at hx; exact .inr (by have := (hpb0 x hx).1; omega))
    exact f2.step hF9 (fun x hx => by simp at hx; exact .inr (by omega))
theorem OwnEls.open_ {α : Type} {k : Nat} {R : World → List Value → α → List Nat → Prop} {w : World} {base : Nat} {e : TypeId} {a : Option Addr} {n cap : Nat} {ys : List α} {B : List Nat} (h : OwnEls k R w base e (.slice a n cap) ys B) (hb : ∃ g, blockOf (.slice a n cap) = some g) :
    ∃ g o cells, a = some ⟨g, o, none⟩ ∧ base ≤ g ∧ g < w.heap.size ∧ Els R ys w cells B ∧ w.rangeAt g o cells ∧ n = ys.length := by
  obtain ⟨cells, ⟨h1, h | ⟨g, cap', cur, e1, h2, h3, h4, h5, h6, h7⟩⟩, h8, h9⟩ := h
  · obtain ⟨h, _⟩ := h
    obtain ⟨g, hg⟩ := hb
    rw [h] at hg
    simp [blockOf] at hg
  · simp only [Value.slice.injEq] at e1
    obtain ⟨rfl, rfl, rfl⟩ := e1
    refine ⟨g, 0, cells, rfl, h2, (Array.getElem?_eq_some_iff.1 h3).1, h8, fun i x hx => ?_, rfl⟩
    rw [Nat.zero_add, cell_of_row w g i cur _ _ h3, ← Array.getElem?_toList]
    rw [← h7, List.getElem?_take] at hx
    split at hx
    · exact hx
    · cases hx
theorem imp_small {l : List UInt8} (h : l.length ≤ 500) : (imp l).body.length ≤ 500 := by
  show (l.drop 12).length ≤ 500
  rw [List.length_drop]
  omega
theorem wpList_load_midA {P : Program} {ops : Array Oper} {rest : List Oper} {op : Oper} {a : Act} {w : World} {Q : Exit → Act → World → Prop} (hgd : op.guard = none) (ty : TypeId) (x : Operand) (ho : op.op = .load ty x)
    (b o : Nat) (hx : a.eval x = .pointer (some ⟨b, o, none⟩)) (cs : Array Value) (d : TypeDesc) (hc : w.rangeAt b o cs.toList)
    (hu : P.underlying ty = some d) (hd : d.isRow = true) (hi : (P.info? ty).map (·.size) = some cs.size)
    (h : wpList P ops Q rest (a.put op.dst (.agg cs)) w) : wpList P ops Q (op :: rest) a w :=
  wpList_load_mid hgd ty x ho b o hx cs.toList d hc hu hd hi h
set_option maxRecDepth 100000 in
theorem info_rbits : (Try.prog.info? 37).map (fun i => (i.zero, i.size, i.bytes)) = some (some (.agg #[.slice none 0 0, .slice none 0 0]), 2, 48) := by kernel_rfl
theorem skip_snoc {at_ : Nat} (x : Bt) : ∀ (xs : List Bt) (r : Bt) (i : Nat), Bt.skip at_ i (xs ++ [x]) r = if i + xs.length = at_ then Bt.skip at_ i xs r else (Bt.skip at_ i xs r).add x
  | [], r, i => by
    show (if i = at_ then r else r.add x) = _
    simp [Bt.skip]
  | y :: xs, r, i => by
    show Bt.skip at_ (i + 1) (xs ++ [x]) _ = _
    rw [skip_snoc x xs _ (i + 1), List.length_cons, show i + 1 + xs.length = i + (xs.length + 1) by omega]
    rfl
theorem imp_lenb {l : List UInt8} {p : Pkt} (h : parseR l = .ok p) : (imp l).len = (imp l).body.length := by
  obtain ⟨h1, h2⟩ := parse_back h
  rw [← h2, imp_len h1, imp_bytes]
theorem rest_pack {ys : List (List UInt8)} {k : Nat} (hk : k < ys.length) {p : Pkt} (h : parseR ys[k] = .ok p) : (Bt.skip k 0 (ys.map imp) (Bt.all (ys.map imp))).pack p.seq p.ssrc = .ok ys[k] := by
  have hk2 : k < (ys.map imp).length := by rw [List.length_map]; exact hk
  have hs := Bt.rest_same hk2
  rw [List.getElem_map] at hs
  rw [Bt.pack_same hs ?_ (imp_lenb h)]
  · have := back_pack h []
    rw [List.append_nil] at this
    exact this
  · refine Nat.le_trans ?_ (Bt.skip_len _ _ _)
    exact (Bt.fold_len (ys.map imp) Bt.zero).2 _ (List.mem_map.2 ⟨_, List.getElem_mem hk, rfl⟩)
theorem skip_small {at_ n : Nat} : ∀ (xs : List Bt) (r : Bt) (i : Nat), r.body.length ≤ n → (∀ x ∈ xs, x.body.length ≤ n) → (Bt.skip at_ i xs r).body.length ≤ n
  | [], r, i, h, _ => h
  | y :: xs, r, i, h, hx => by
    show (Bt.skip at_ (i + 1) xs _).body.length ≤ n
    refine skip_small xs _ _ ?_ (fun z hz => hx z (by simp [hz]))
    split
    · exact h
    · rw [Bt.add_body_len]; have := hx y (by simp); omega
theorem and1023 (c : Int) : ∃ n : Nat, bits .and .i64 c 1023 = (n : Int) ∧ n ≤ 1023 := by
  have h : (BitVec.ofInt 64 c &&& BitVec.ofInt 64 1023).toNat ≤ 1023 := by
    rw [BitVec.toNat_and]
    exact Nat.and_le_right
  refine ⟨_, ?_, h⟩
  show IntKind.i64.wrap ((BitVec.ofInt 64 c &&& BitVec.ofInt 64 1023).toNat : Int) = _
  exact IntWalk.i64_in _ (by omega)
set_option maxRecDepth 100000 in
set_option maxHeartbeats 8000000 in
theorem ImprintFolds_any {w : World} {v : Value} {ls : List (List UInt8)} (hl : BRows w v ls) (c : Int) :
    Calls Try.prog 3 #[v, .int .i64 c] w fun e w' => e = .returned (.bool true) ∧ Fr [] w w' := by
  obtain ⟨av, cv, rfl⟩ := hl.shape
  have hlen := hl.len.2
  unfold maxLen at hlen
  have HB := Lib.hid hl; have HBW := Lib.hid hl; have HF : Hid (Fr [] w w) := Lib.hid (Fr.refl _ _)
  clear hl
  go_enter Try.func3, Try.ntmps3
  go_wp2_with fail
  refine l12alive_any.mono ?_
  rintro e w1 ⟨rfl, hF⟩
  have HF := Lib.hid (HF.out.trans hF)
  have HB := Lib.hid (HB.out.keep hF)
  clear hF
  by_cases hbig : 20 < ls.length
  · go_wp2_with fail
    go_ret
    first | exact ⟨rfl, HF.out⟩ | exact ⟨ret_bool (by simp), HF.out⟩
  have hsm : ls.length ≤ 20 := by omega
  go_upto_region 5 with fail
  obtain ⟨w2, e2, hF2, hB2, hs2⟩ := one_new w1 #[] 28
  obtain ⟨w3, e3, hF3, hB3, hs3⟩ := one_new w2 #[.slice none 0 0] 24
  rw [hs2] at hB3
  have E2 := Lib.hid e2; have E3 := Lib.hid e3
  have x0 := hB3.cell 0; have f0 := hB3.free 0
  simp only [List.getElem?_toArray, List.getElem?_cons_succ, List.getElem?_cons_zero] at x0
  go_upto_region 7 with fail
  clear x0 f0
  obtain ⟨w4, e4, hF4, hB4, hs4⟩ := set_new hB3 0 (.slice (some ⟨w1.heap.size, 0, none⟩) 0 0)
  simp only [List.setIfInBounds_toArray, List.set_cons_zero] at hB4
  obtain ⟨w5, e5, hF5, hB5, hs5⟩ := one_new w4 #[] 25
  have hxs : OwnEls 9 BtR w5 w1.heap.size 28 (.slice (some ⟨w1.heap.size, 0, none⟩) 0 0) [] [] := by
    have h0 : OwnEls 9 BtR w2 w1.heap.size 28 (.slice (some ⟨w1.heap.size, 0, none⟩) 0 0) [] [] := by rw [← E2.out]; exact OwnEls.made w1 w1.heap.size _ (Nat.le_refl _)
    exact ((h0.keep Rep.bt hF3).fr Rep.bt hF4 (by simp) (by simp [blockOf])).keep Rep.bt hF5
  have hps : OwnEls 1 BytesR w5 w1.heap.size 25 (.slice (some ⟨w4.heap.size, 0, none⟩) 0 0) [] [] := by rw [← e5]; exact OwnEls.made w4 w1.heap.size _ (by omega)
  have hf15 : Fr [] w1 w5 := ((hF2.trans hF3).step hF4 (by simp)).trans hF5
  have HR : Hid (FRel w w5 w1.heap.size (w1.heap.size + 1) ls 0 (.slice (some ⟨w1.heap.size, 0, none⟩) 0 0) (.slice (some ⟨w4.heap.size, 0, none⟩) 0 0) [] []) := Lib.hid
    ⟨hB4.keep hF5, hxs, hps, by simp, by simp, by simp [blockOf]; omega, by simp [blockOf]; omega, ⟨_, rfl⟩, HF.out.trans hf15⟩
  have HB := Lib.hid (HB.out.keep hf15)
  have HN : Hid (w.heap.size ≤ w1.heap.size) := Lib.hid HF.out.size
  rw [e4, show w1.heap.size + 1 + 1 = w4.heap.size by omega, e5]
  clear e2 e3 e4 e5 E2 E3 hF2 hF3 hF4 hF5 hB2 hB3 hB4 hB5 hs2 hs3 hs4 hs5 hxs hps hf15 HF
  generalize hN1 : w1.heap.size = N at *
  clear hN1
  go_wp2_with fail
  go_loopw [6, 33] (fun pk iv wr => ∃ (j : Nat) (vx : Value) (B Bp : List Nat), j ≤ ls.length ∧ iv = .int .i64 j ∧ FRel w wr N (N + 1) ls j vx pk B Bp ∧ ∀ l ∈ ls.take j, l.length ≤ 500) (fun _ iv _ => ls.length - (intOf iv).toNat)
  case atStart => exact ⟨0, _, _, _, Nat.zero_le _, rfl, HR.out, by simp⟩
  case round =>
    clear HR HB
    obtain ⟨j, vx, B, Bp, hj, rfl, hR, h500⟩ := hrel
    have HR := Lib.hid hR; have H5 := Lib.hid h500
    obtain ⟨ax, cx, rfl⟩ := hR.xs.shape
    obtain ⟨ap, cp, rfl⟩ := hR.ps.shape
    rw [List.length_map] at HR
    clear hR h500
    by_cases hlt : j < ls.length
    · obtain ⟨b, o, x, y, ea, hb, hy, hc, hx⟩ := HBW.out.at_ hlt
      subst ea
      obtain rfl : ls[j] = y := by rw [List.getElem?_eq_getElem hlt] at hy; simpa using hy
      obtain ⟨al, cl, rfl⟩ := Sl.shape hx
      simp only [List.length_map] at hx hc
      have HX := Lib.hid hx
      have d0 := HR.out.fr.cellSome hc (by simp)
      clear hb hy hc hx
      by_cases h5 : 500 < (ls[j]).length
      · go_wp2_with fail
        go_ret
        exact ⟨rfl, HR.out.fr⟩
      go_wp2_with fail
      have HLO : Hid ((∀ b, blockOf (.slice ax (sel (ls.take j)).length cx) = some b → b < wr.heap.size) ∧ (∀ b, blockOf (.slice ap (sel (ls.take j)).length cp) = some b → b < wr.heap.size) ∧ N + 1 < wr.heap.size) := Lib.hid ⟨fun b hb => (HR.out.xs.block b hb).2, fun b hb => (HR.out.ps.block b hb).2, HR.out.box.lt⟩
      refine (impOf_any (Sl.keep HX.out HR.out.fr)).mono ?_
      rintro e w3 (⟨v3, p, hp, rfl, ⟨vb, rfl, hO⟩, hF⟩ | ⟨k, hp, rfl, hF⟩)
      rotate_left
      · have hk : (k == 0) = false := by simpa using parseR_err hp
        have hno : isPk ls[j] = false := by unfold isPk; rw [hp]
        have HR := Lib.hid ((HR.out.keep hF).no hlt hno)
        have H5 := Lib.hid (take500 hlt H5.out h5)
        clear hp hF hno
        go_wp2_with (refine wpList_store_row rfl 28 (.tmp 9) (.tmp 43) rfl w3.heap.size rfl _ _ rfl 28 (Box.new w3 28 (bc Bt.zero (.slice none 0 0))) (by kernel_rfl) rfl (by simp [bc, Value.oneCell']) ?_; intro w4 hY hG; have hFn := ((Fr.refl [] w3).alloc _).step hG (by simp); have HFn := Lib.hid hFn; have HY := Lib.hid hY; clear hG hFn hY)
        have HR := Lib.hid (HR.out.keep HFn.out)
        clear HFn HY
        go_roundw
        case rel => exact ⟨j + 1, _, B, Bp, by omega, by go_num, HR.out, H5.out⟩
        case measure => simp [intOf]; omega
      have hyes : isPk ls[j] = true := by unfold isPk; rw [hp]
      have HYES := Lib.hid hyes
      have H5 := Lib.hid (take500 hlt H5.out h5)
      have HWR : Hid (wr.heap.size ≤ w3.heap.size) := Lib.hid hF.size
      have HR := Lib.hid (HR.out.keep hF)
      have HXO := Lib.hid hO
      obtain ⟨ab, nb, cb, rfl⟩ := hO.isSlice
      clear hp hF hyes hO
      go_upto_region 14 with (refine wpList_store_row rfl 28 (.tmp 9) (.tmp 43) rfl w3.heap.size rfl _ _ rfl 28 (Box.new w3 28 (bc Bt.zero (.slice none 0 0))) (by kernel_rfl) rfl (by simp [bc, Value.oneCell']) ?_; intro w4 hY hG; have hFn := ((Fr.refl [] w3).alloc _).step hG (by simp); have HFn := Lib.hid hFn; have HY := Lib.hid hY; clear hG hFn hY)
      have HR := Lib.hid (HR.out.keep HFn.out); have HXO := Lib.hid (HXO.out.keep HFn.out); have HXB := HY
      have HS4 : Hid (w3.heap.size < w4.heap.size) := Lib.hid HY.out.lt
      clear HFn HY
      generalize hgx : w3.heap.size = gx at *
      clear hgx
      have x0 := HR.out.box.cell 0
      simp only [List.getElem?_toArray, List.getElem?_cons_succ, List.getElem?_cons_zero] at x0
      have hxl := HXB.out
      unfold bc at hxl
      have HXL := Lib.hid hxl
      obtain ⟨w5, e5, hF5, hB5, hs5⟩ := one_new w4 (bc (imp ls[j]) (.slice ab nb cb)) 28
      have HB5 := Lib.hid hB5; have HF5 := Lib.hid hF5; have HS5 := Lib.hid hs5
      unfold bc at e5
      have E5 := Lib.hid e5
      clear hxl e5 hB5 hF5 hs5
      have HD1 : Hid (∀ b, blockOf (.slice ax (sel (ls.take j)).length cx) = some b → b ∉ (liveOf (.slice ab nb cb)).toList) := Lib.hid (fun b hb hm => by have h1 := HLO.out.1 b hb; have h2 := HXO.out.block b (live_block (mem_toList.1 hm)); omega)
      have HSL := Lib.hid (sel_len ls j)
      have HL1 : Hid (((sel (ls.take j)).map imp).length + 1 ≤ maxLen) := Lib.hid (by have := HSL.out; rw [List.length_map]; unfold maxLen; omega)
      have HL2 : Hid ((((sel (ls.take j)).map imp).length + 1) * 32 ≤ 140737488355328) := Lib.hid (by have := HSL.out; rw [List.length_map]; omega)
      have HNW : Hid (N ≤ w4.heap.size ∧ N + 1 < w4.heap.size) := Lib.hid (by have := HR.out.box.lt; omega)
      have HL3 : Hid (N ≤ w5.heap.size) := Lib.hid (by have := HNW.out; have := HF5.out.size; omega)
      have HL1b : Hid ((sel (ls.take j)).length + 1 ≤ maxLen) := Lib.hid (by have := HSL.out; unfold maxLen; omega)
      have HL2b : Hid (((sel (ls.take j)).length + 1) * 24 ≤ 140737488355328) := Lib.hid (by have := HSL.out; omega)
      have HXN : Hid (∀ b ∈ (liveOf (.slice al ls[j].length cl)).toList, b < N) := Lib.hid (fun b hb => by have h1 := Sl.lt HX.out b (mem_toList.1 hb); have := HN.out; omega)
      have HD2 : Hid (∀ b, blockOf (.slice ap (sel (ls.take j)).length cp) = some b → b ∉ (liveOf (.slice al ls[j].length cl)).toList) := Lib.hid (fun b hb hm => by have h1 := HXN.out b hm; have h2 := (HR.out.ps.block b hb).1; omega)
      have PS7' : Hid (∀ w5 w6 w7 : World, Fr [] w4 w5 → Fr (blockOf (.slice ax (sel (ls.take j)).length cx)).toList w5 w6 → Fr [] w6 w7 → OwnEls 1 BytesR w7 N 25 (.slice ap (sel (ls.take j)).length cp) (sel (ls.take j)) Bp ∧ Bytes w7 (.slice al ls[j].length cl) ls[j] ∧ N ≤ w7.heap.size ∧ Box w7 (N + 1) 24 #[.slice ax (sel (ls.take j)).length cx]) := Lib.hid (fun w5 w6 w7 f5 f6 f7 => ⟨((HR.out.ps.keep Rep.bytes f5).fr Rep.bytes f6 (fun b hb hm => by have h1 := HR.out.b2 b hb; have h2 := (HR.out.xs.block b (mem_toList.1 hm)).1; omega) (fun b hb hm => (HR.out.x1 b (mem_toList.1 hm)).2 hb)).keep Rep.bytes f7,
        Sl.keep (Sl.frL (Sl.keep HX.out (HR.out.fr.trans f5)) f6 (fun b hb hm => by have h1 := HXN.out b (mem_toList.2 hb); have h2 := (HR.out.xs.block b (mem_toList.1 hm)).1; omega)) f7,
        by have := HNW.out; have := f5.size; have := f6.size; have := f7.size; omega,
        ((HR.out.box.keep f5).fr f6 (fun hm => (HR.out.x1 _ (mem_toList.1 hm)).1 rfl)).keep f7⟩)
      have PSX := Lib.hid HR.out.p1
      go_wp2_with (first | (refine wpList_load_row_w rfl 28 (.tmp 9) rfl gx rfl 28 _ _ HXL.out Try.underlying28 rfl (by kernel_rfl) ?_) | (at_builtin; (rw [E5.out]); refine wpList_append_el Rep.bt (by decide) rfl (.tmp 47) (.tmp 49) 24 rfl N 28 (.agg (bc Bt.zero (.slice none 0 0))) 32 Try.underlying24 info_bits rfl (.slice ax (sel (ls.take j)).length cx) ((sel (ls.take j)).map imp) B rfl (HR.out.keep HF5.out).xs w4.heap.size 0 1 rfl (bc (imp ls[j]) (.slice ab nb cb)).toList (imp ls[j]) (liveOf (.slice ab nb cb)).toList (box_range HB5.out) ⟨_, rfl, (HXO.out.keep HF5.out).bytes, rfl⟩ HD1.out HL1.out HL2.out HL3.out ?_; intro vx1 w6 hown1 hfr1 hbl1; have HX1 := Lib.hid hown1; have HF6 := Lib.hid hfr1; have HBL1 := Lib.hid hbl1; obtain ⟨ax1, cx1, rfl⟩ := hown1.shape; clear hown1 hfr1 hbl1; obtain ⟨w7, e7, hF7, hB7, hs7⟩ := one_new w6 #[.slice al ls[j].length cl] 25; have E7 := Lib.hid e7; have HF7 := Lib.hid hF7; have HB7 := Lib.hid hB7; have HS7 := Lib.hid hs7; clear e7 hF7 hB7 hs7) | (at_builtin; (rw [E7.out]); refine wpList_append_el Rep.bytes (by decide) rfl (.tmp 51) (.tmp 53) 22 rfl N 25 (.slice none 0 0) 24 Try.underlying22 info_u8s rfl (.slice ap (sel (ls.take j)).length cp) (sel (ls.take j)) Bp rfl (PS7'.out w5 w6 w7 HF5.out HF6.out HF7.out).1 w6.heap.size 0 1 rfl [.slice al ls[j].length cl] ls[j] (liveOf (.slice al ls[j].length cl)).toList (box_range HB7.out) ⟨_, rfl, (PS7'.out w5 w6 w7 HF5.out HF6.out HF7.out).2.1, rfl⟩ HD2.out HL1b.out HL2b.out (PS7'.out w5 w6 w7 HF5.out HF6.out HF7.out).2.2.1 ?_; intro vp1 w8 hown2 hfr2 hbl2; have HP1 := Lib.hid hown2; have HF8 := Lib.hid hfr2; have HBL2 := Lib.hid hbl2; obtain ⟨ap1, cp1, rfl⟩ := hown2.shape; clear hown2 hfr2 hbl2; have hbx8 := (PS7'.out w5 w6 w7 HF5.out HF6.out HF7.out).2.2.2.fr HF8.out (fun hm => (PSX.out _ (mem_toList.1 hm)).1 rfl); have x8 := hbx8.cell 0; have f8 := hbx8.free 0; (simp only [List.getElem?_toArray, List.getElem?_cons_zero] at x8); have HBX8 := Lib.hid hbx8; clear hbx8))
      obtain ⟨w9, e9, hF9, hB9, hs9⟩ := set_new HBX8.out 0 (.slice ax1 ((sel (ls.take j)).length + 1) cx1)
      rw [e9]
      simp only [List.setIfInBounds_toArray, List.set_cons_zero] at hB9
      have h1 := HX1.out; have h2 := HP1.out; have h3 := HBL1.out; have h4 := HBL2.out
      simp only [List.length_append, List.length_map, List.length_cons, List.length_nil, Nat.zero_add] at h1 h2 h3 h4
      exact ⟨⟨j + 1, _, _, _, by omega, by go_num, FRel.yes HR.out hlt HYES.out HN.out wr.heap.size HLO.out.1 HLO.out.2.1 HLO.out.2.2 (by omega) (by have := HWR.out; have := HS4.out; omega) (fun b hb => HXO.out.block b (live_block (mem_toList.1 hb))) HXN.out HF5.out h1 HF6.out h3 HF7.out h2 HF8.out h4 hF9 hB9, H5.out⟩, by simp [intOf]; omega⟩
    · obtain rfl : j = ls.length := by omega
      rw [List.take_length] at HR H5
      have hso := HR.out.so
      have hxs := HR.out.xs; have hps := HR.out.ps
      rw [List.take_length] at hxs hps
      obtain ⟨gX, oX, cells, rfl, hgN, hgl, hels, hrng, -⟩ := hxs.open_ hso
      have HXS := Lib.hid hxs.sl
      have HPS := Lib.hid hps.sl
      clear hxs hps
      have HBX := Lib.hid HR.out.box
      have hs500 : ∀ x ∈ (sel ls).map imp, x.body.length ≤ 500 := fun x hx => by
        obtain ⟨l, hl, rfl⟩ := List.mem_map.1 hx
        exact imp_small (H5.out l (List.mem_filter.1 hl).1)
      have HS5 := Lib.hid hs500
      obtain ⟨zs, hzs, hz⟩ := bt_zs hels (fun x hx => Nat.le_trans (hs500 x hx) (by omega))
      have hzl : zs.length = (sel ls).length := by have := congrArg List.length hzs; simpa using this
      have HSEL : Hid ((sel ls).length ≤ 20) := Lib.hid (by have := sel_len ls ls.length; rw [List.take_length] at this; omega)
      have HSEQ := Lib.hid (impFold_any (w := wr) (gf := 15) (lb := #[.pointer (some ⟨N + 1, 0, none⟩)]) zs (Sp := fun pre => pre <+: zs) (N := zs.length)
        (fun w0 hw0 => folds1_stops 5 (by omega) (N + 1) gX oX wr.heap.size cx w0 zs (by have := HSEL.out; omega) cells ((hw0.cell (p := ⟨N + 1, 0, none⟩) HBX.out.lt).trans (by have := HBX.out.cell 0; rw [hzl]; simpa using this)) (fun j u hj => (hw0.cell (p := ⟨gX, oX + j, none⟩) hgl).trans (hrng j u hj)) HBX.out.lt hgl hw0.size hz) (enters_of Try.func15 (by kernel_rfl) rfl))
      rw [hzs] at HSEQ
      have HF := Lib.hid HR.out.fr
      have HNX : Hid (N + 1 < wr.heap.size) := Lib.hid HBX.out.lt
      have HBBr : Hid (∀ b ∈ B, b < wr.heap.size) := Lib.hid (HXS.out.lt Rep.bt).1
      have hwr5 : wr.heap.size ≤ wr.heap.size := Nat.le_refl _
      clear hso hgN hgl hels hrng hs500 hz hzs hzl H5 HR HBW
      go_wp2_with fail
      refine HSEQ.out.mono ?_
      rintro e w5 ⟨v5, rfl, ⟨vb, rfl, hO⟩, hF⟩
      clear HSEQ
      obtain ⟨a6, n6, c6, rfl⟩ := hO.isSlice
      have HG := Lib.hid hO.bytes
      clear hO
      have HF := Lib.hid (HF.out.trans hF)
      have HXS := Lib.hid (HXS.out.keep Rep.bt hF)
      have HPS := Lib.hid (HPS.out.keep Rep.bytes hF)
      have HBX := Lib.hid (HBX.out.keep hF)
      have HSZ5 := Lib.hid hF.size
      clear hF
      have hwr5 : wr.heap.size ≤ w5.heap.size := HSZ5.out
      go_upto_region 17 with (refine wpList_store_row rfl 28 (.tmp 11) (.tmp 57) rfl w5.heap.size rfl _ _ rfl 28 (Box.new w5 28 (bc Bt.zero (.slice none 0 0))) (by kernel_rfl) rfl (by simp [bc, Value.oneCell']) ?_; intro w6 hY hG; have hFn := ((Fr.refl [] w5).alloc _).step hG (by simp); have HFn := Lib.hid hFn; have HY := Lib.hid hY; clear hG hFn hY)
      have hF := HFn.out
      have HF := Lib.hid (HF.out.trans hF)
      have HXS := Lib.hid (HXS.out.keep Rep.bt hF)
      have HPS := Lib.hid (HPS.out.keep Rep.bytes hF)
      have HBX := Lib.hid (HBX.out.keep hF)
      have HG := Lib.hid (Sl.keep HG.out hF)
      have HA := HY
      have hgw : w5.heap.size < w6.heap.size := HY.out.lt
      have HBB0 : Hid (∀ b ∈ B, b < w6.heap.size) := Lib.hid (fun b hb => by have := HBBr.out b hb; omega)
      clear hwr5 HBBr HSZ5
      clear hF HFn HY
      generalize hga : w5.heap.size = ga at *
      clear hga
      obtain ⟨w7, e7, hF, hB7, hs7⟩ := one_new w6 #[] 37
      have HV : Hid (OwnEls 2 RbR w7 w6.heap.size 37 (.slice (some ⟨w6.heap.size, 0, none⟩) 0 0) [] []) := Lib.hid (by rw [← e7]; exact OwnEls.made w6 w6.heap.size _ (Nat.le_refl _))
      have HF67 := Lib.hid hF
      have E7 := Lib.hid e7
      clear hF e7 hB7 hs7
      have x0 := (HBX.out.keep HF67.out).cell 0
      simp only [List.getElem?_toArray, List.getElem?_cons_zero] at x0
      go_upto_region 18 with fail
      rw [E7.out]
      clear E7
      go_wp2_with fail
      clear x0
      have HSN : Hid (ga < w6.heap.size) := Lib.hid HA.out.lt
      have HBB : Hid (∀ b ∈ B, b < w6.heap.size) := Lib.hid HBB0.out
      clear hgw
      go_loopw [12, 61] (fun sv iv wq => ∃ (k : Nat) (Br : List Nat), k ≤ (sel ls).length ∧ iv = .int .i64 k ∧ OwnEls 2 RbR wq w6.heap.size 37 sv (((sel ls).map imp).take k) Br ∧ Fr [] w6 wq) (fun _ iv _ => (sel ls).length - (intOf iv).toNat)
      case atStart => exact ⟨0, _, Nat.zero_le _, rfl, HV.out, HF67.out⟩
      case round =>
        clear HV
        obtain ⟨k, Br, hk, rfl, hV, hF⟩ := hrel
        have HV := Lib.hid hV
        obtain ⟨ar, cr, rfl⟩ := hV.shape
        have hkl : (((sel ls).map imp).take k).length = k := by rw [List.length_take, List.length_map]; omega
        rw [hkl] at HV
        clear hkl
        have HFQ := Lib.hid hF
        have HF := Lib.hid (HF.out.trans hF)
        have HXS := Lib.hid (HXS.out.keep Rep.bt hF)
        have HPS := Lib.hid (HPS.out.keep Rep.bytes hF)
        have HBX := Lib.hid (HBX.out.keep hF)
        have HG := Lib.hid (Sl.keep HG.out hF)
        have HA := Lib.hid (HA.out.keep hF)
        clear hV hF
        by_cases hlt2 : k < (sel ls).length
        · obtain ⟨b, o, c0, y, B1, ea, hb, hy, ⟨vy, rfl, hyb, hB1⟩, hsub, hrg⟩ := HXS.out.at_ Rep.bt hlt2
          simp only [Option.some.injEq, Addr.mk.injEq, and_true] at ea
          obtain ⟨rfl, rfl⟩ := ea
          have HYE : Hid (((sel ls).map imp).take (k + 1) = ((sel ls).map imp).take k ++ [y]) := Lib.hid (by rw [List.take_add_one, hy]; rfl)
          obtain ⟨ay, ny, cy, rfl⟩ := Sl.isSlice hyb
          have HYB := Lib.hid hyb; have HRG := Lib.hid hrg
          have hk20 : k < 20 := by have := HSEL.out; omega
          have HYL : Hid (∀ x, liveOf (.slice ay ny cy) = some x → x < w6.heap.size) := Lib.hid (fun x hx => HBB.out x (hsub x (by rw [hB1]; exact mem_toList.2 hx)))
          have HQS : Hid (∀ b, blockOf (.slice ar k cr) = some b → w6.heap.size ≤ b ∧ b < wr.heap.size) := Lib.hid (fun b hb => HV.out.block b hb)
          clear hy hB1 hsub hrg hb hyb
          go_upto_region 21 with (first | (refine wpList_load_midA rfl 28 (.tmp 63) rfl gX (oX + k * 9) rfl (bc y (.slice ay ny cy)) _ HRG.out Try.underlying28 rfl (by kernel_rfl) ?_) | (refine wpList_store_row rfl 28 (.tmp 14) (.tmp 64) rfl wr.heap.size rfl _ _ rfl 28 (Box.new wr 28 (bc Bt.zero (.slice none 0 0))) (by kernel_rfl) rfl (by simp [bc, Value.oneCell']) ?_; intro w10 hY hG; have hFn := ((Fr.refl [] wr).alloc _).step hG (by simp); have HFn := Lib.hid hFn; have HY := Lib.hid hY; clear hG hFn hY))
          have hF := HFn.out
          have HXB := HY
          have HV := Lib.hid (HV.out.keep Rep.rb hF); have HFQ := Lib.hid (HFQ.out.trans hF); have HYB := Lib.hid (Sl.keep HYB.out hF)
          have hq10 := hF.size
          have HQ1 : Hid (wr.heap.size ≤ w10.heap.size) := Lib.hid hF.size
          clear hF HFn HY hq10
          generalize hgx : wr.heap.size = gx at *
          clear hgx
          go_wp2_with (refine wpList_load_row_w rfl 28 (.tmp 14) rfl gx rfl 28 _ _ HXB.out Try.underlying28 rfl (by kernel_rfl) ?_)
          refine (l12as_own (x := y) HYB.out).mono ?_
          rintro e w11 ⟨vh, rfl, hh, hhl, hyb, hF⟩
          obtain ⟨ah, nh, ch, rfl⟩ := Sl.isSlice hh
          have HVH := Lib.hid hh; have HHL := Lib.hid hhl
          have HV := Lib.hid (HV.out.keep Rep.rb hF); have HFQ := Lib.hid (HFQ.out.trans hF); have HYB := Lib.hid hyb
          clear hh hhl hyb hF
          obtain ⟨w12, e12, hF12, hB12, hs12⟩ := one_new w11 #[.slice ah nh ch, .slice ay ny cy] 37
          have E12 := Lib.hid e12; have HF12 := Lib.hid hF12; have HB12 := Lib.hid hB12
          have HD : Hid (∀ b, blockOf (.slice ar k cr) = some b → b ∉ (liveOf (.slice ah nh ch)).toList ++ (liveOf (.slice ay ny cy)).toList) := Lib.hid (fun b hb hm => by
            have h1 := HQS.out b hb
            have h0 := HQ1.out
            rcases List.mem_append.1 hm with hm | hm
            · have := HHL.out b (mem_toList.1 hm); omega
            · have := HYL.out b (mem_toList.1 hm); omega)
          have HL1 : Hid ((((sel ls).map imp).take k).length + 1 ≤ maxLen) := Lib.hid (by have := HSEL.out; rw [List.length_take, List.length_map]; unfold maxLen; omega)
          have HL2 : Hid (((((sel ls).map imp).take k).length + 1) * 48 ≤ 140737488355328) := Lib.hid (by have := HSEL.out; rw [List.length_take, List.length_map]; omega)
          have HL3 : Hid (w6.heap.size ≤ w12.heap.size) := Lib.hid (by have := HSN.out; have := HFQ.out.size; have := hF12.size; omega)
          clear e12 hF12 hB12 hs12
          go_wp2_with (at_builtin; (rw [E12.out]); refine wpList_append_el Rep.rb (by decide) rfl (.tmp 65) (.tmp 68) 35 rfl w6.heap.size 37 (.agg #[.slice none 0 0, .slice none 0 0]) 48 Try.underlying35 info_rbits rfl (.slice ar k cr) (((sel ls).map imp).take k) Br rfl (HV.out.keep Rep.rb HF12.out) w11.heap.size 0 1 rfl [.slice ah nh ch, .slice ay ny cy] y ((liveOf (.slice ah nh ch)).toList ++ (liveOf (.slice ay ny cy)).toList) (box_range HB12.out) ⟨_, _, rfl, Sl.keep HVH.out HF12.out, Sl.keep HYB.out HF12.out, rfl⟩ HD.out HL1.out HL2.out HL3.out ?_; intro vr1 w13 hown1 hfr1 hbl1; have HV1 := Lib.hid hown1; have HF13 := Lib.hid hfr1; obtain ⟨ar1, cr1, rfl⟩ := hown1.shape; clear hown1 hfr1 hbl1)
          have h1 := HV1.out
          simp only [List.length_append, List.length_cons, List.length_nil, Nat.zero_add] at h1
          have hkl : (((sel ls).map imp).take k).length = k := by rw [List.length_take, List.length_map]; omega
          rw [hkl, ← HYE.out] at h1
          have HW1 := Lib.hid h1
          have HFE : Hid (Fr [] w6 w13) := Lib.hid ((HFQ.out.trans HF12.out).step HF13.out (fun x hx => .inr (HQS.out x (mem_toList.1 hx)).1))
          clear h1 hkl HV1
          exact ⟨⟨k + 1, _, by omega, by go_num, HW1.out, HFE.out⟩, by simp [intOf]; omega⟩
        · obtain rfl : k = (sel ls).length := by omega
          have hW := HFQ.out
          have HV2 := HV.out.sl
          rw [List.take_of_length_le (by rw [List.length_map]; exact Nat.le_refl _)] at HV2
          have HVV := Lib.hid HV2
          clear HFQ HV HV2 hW HBB HBB0 HSN HF67
          go_upto_region 23 with fail
          by_cases hn0 : (sel ls).length = 0
          · have HN0 := Lib.hid hn0
            clear hn0
            go_wp2_with (refine wpList_load_row_w rfl 28 (.tmp 11) rfl ga rfl 28 _ _ HA.out Try.underlying28 rfl (by kernel_rfl) ?_)
            refine (l12as_any (x := Bt.all ((sel ls).map imp)) ⟨_, rfl, HG.out⟩).mono ?_
            rintro e w8 ⟨v8, rfl, hR, hF⟩
            have HR8 := Lib.hid hR
            have HF := Lib.hid (HF.out.trans hF)
            have HG := Lib.hid (Sl.keep HG.out hF)
            have HXS := Lib.hid (HXS.out.keep Rep.bt hF)
            have HPS := Lib.hid (HPS.out.keep Rep.bytes hF)
            have HBX := Lib.hid (HBX.out.keep hF)
            have HA := Lib.hid (HA.out.keep hF)
            have HVV := Lib.hid (HVV.out.keep Rep.rb hF)
            clear hF hR
            go_wp2_with fail
            refine (r12All_any HVV.out (fun x hx => Nat.le_trans (HS5.out x hx) (by omega))).mono ?_
            rintro e w9 ⟨v9, rfl, hR9, hF⟩
            have HR8 := Lib.hid (HR8.out.keep hF)
            have HR9 := Lib.hid hR9
            have HF := Lib.hid (HF.out.trans hF)
            have HG := Lib.hid (Sl.keep HG.out hF)
            have HXS := Lib.hid (HXS.out.keep Rep.bt hF)
            have HPS := Lib.hid (HPS.out.keep Rep.bytes hF)
            have HBX := Lib.hid (HBX.out.keep hF)
            have HA := Lib.hid (HA.out.keep hF)
            have HVV := Lib.hid (HVV.out.keep Rep.rb hF)
            clear hF hR9
            have HAS : Hid ((Bt.all ((sel ls).map imp)).body.length ≤ 500) := Lib.hid (all_small HS5.out)
            have hsm2 : ((Bt.all ((sel ls).map imp)).head == (Bt.all ((sel ls).map imp)).head && gap0 (Bt.all ((sel ls).map imp)).body (Bt.all ((sel ls).map imp)).body) = true := Bt.same_refl _
            have HSM2 := Lib.hid hsm2
            clear hsm2
            go_wp2_with fail
            refine (r12Same_any HR8.out HR9.out (by simp [Bt.head]) (by simp [Bt.head]) (by have := HAS.out; omega) (by have := HAS.out; omega)).mono ?_
            rintro e w10 ⟨rfl, hF⟩
            rw [HSM2.out]
            have HF := Lib.hid (HF.out.trans hF)
            have HG := Lib.hid (Sl.keep HG.out hF)
            have HXS := Lib.hid (HXS.out.keep Rep.bt hF)
            have HPS := Lib.hid (HPS.out.keep Rep.bytes hF)
            have HBX := Lib.hid (HBX.out.keep hF)
            have HA := Lib.hid (HA.out.keep hF)
            have HVV := Lib.hid (HVV.out.keep Rep.rb hF)
            clear hF HR8 HR9 HSM2
            have x0 := HBX.out.cell 0
            simp only [List.getElem?_toArray, List.getElem?_cons_zero] at x0
            have hX0 : (sel ls).map imp = [] := List.eq_nil_of_length_eq_zero (by rw [List.length_map]; exact HN0.out)
            have HX0 := Lib.hid hX0
            clear hX0
            rw [HN0.out] at x0
            go_wp2_with (refine wpList_load_row_w rfl 28 (.tmp 11) rfl ga rfl 28 _ _ HA.out Try.underlying28 rfl (by kernel_rfl) ?_)
            refine (impEmpty_any (x := Bt.all ((sel ls).map imp)) ⟨_, rfl, HG.out⟩ (by have := HAS.out; omega)).mono ?_
            rintro e w11 ⟨rfl, hF⟩
            rw [show (Bt.all ((sel ls).map imp)).same Bt.zero = true by rw [HX0.out]; exact Bt.same_refl _]
            have HF := Lib.hid (HF.out.trans hF)
            clear hF
            go_wp2_with fail
            go_ret
            first | exact ⟨rfl, HF.out⟩ | exact ⟨ret_bool (by simp), HF.out⟩
          · obtain ⟨cn, hcn, hcl⟩ := and1023 c
            have HCN := Lib.hid hcn
            clear hcn
            have hpos : 0 < (sel ls).length := by omega
            go_wp2_with (refine wpList_load_row_w rfl 28 (.tmp 11) rfl ga rfl 28 _ _ HA.out Try.underlying28 rfl (by kernel_rfl) ?_)
            refine (l12as_any (x := Bt.all ((sel ls).map imp)) ⟨_, rfl, HG.out⟩).mono ?_
            rintro e w8 ⟨v8, rfl, hR, hF⟩
            have HR8 := Lib.hid hR
            have HF := Lib.hid (HF.out.trans hF)
            have HG := Lib.hid (Sl.keep HG.out hF)
            have HXS := Lib.hid (HXS.out.keep Rep.bt hF)
            have HPS := Lib.hid (HPS.out.keep Rep.bytes hF)
            have HBX := Lib.hid (HBX.out.keep hF)
            have HA := Lib.hid (HA.out.keep hF)
            have HVV := Lib.hid (HVV.out.keep Rep.rb hF)
            clear hF hR
            go_wp2_with fail
            refine (r12All_any HVV.out (fun x hx => Nat.le_trans (HS5.out x hx) (by omega))).mono ?_
            rintro e w9 ⟨v9, rfl, hR9, hF⟩
            have HR8 := Lib.hid (HR8.out.keep hF)
            have HR9 := Lib.hid hR9
            have HF := Lib.hid (HF.out.trans hF)
            have HG := Lib.hid (Sl.keep HG.out hF)
            have HXS := Lib.hid (HXS.out.keep Rep.bt hF)
            have HPS := Lib.hid (HPS.out.keep Rep.bytes hF)
            have HBX := Lib.hid (HBX.out.keep hF)
            have HA := Lib.hid (HA.out.keep hF)
            have HVV := Lib.hid (HVV.out.keep Rep.rb hF)
            clear hF hR9
            have HAS : Hid ((Bt.all ((sel ls).map imp)).body.length ≤ 500) := Lib.hid (all_small HS5.out)
            have hsm2 : ((Bt.all ((sel ls).map imp)).head == (Bt.all ((sel ls).map imp)).head && gap0 (Bt.all ((sel ls).map imp)).body (Bt.all ((sel ls).map imp)).body) = true := Bt.same_refl _
            have HSM2 := Lib.hid hsm2
            clear hsm2
            go_wp2_with fail
            refine (r12Same_any HR8.out HR9.out (by simp [Bt.head]) (by simp [Bt.head]) (by have := HAS.out; omega) (by have := HAS.out; omega)).mono ?_
            rintro e w10 ⟨rfl, hF⟩
            rw [HSM2.out]
            have HF := Lib.hid (HF.out.trans hF)
            have HG := Lib.hid (Sl.keep HG.out hF)
            have HXS := Lib.hid (HXS.out.keep Rep.bt hF)
            have HPS := Lib.hid (HPS.out.keep Rep.bytes hF)
            have HBX := Lib.hid (HBX.out.keep hF)
            have HA := Lib.hid (HA.out.keep hF)
            have HVV := Lib.hid (HVV.out.keep Rep.rb hF)
            clear hF HR8 HR9 HSM2
            have x0 := HBX.out.cell 0
            simp only [List.getElem?_toArray, List.getElem?_cons_zero] at x0
            obtain ⟨kk, hkk⟩ : ∃ kk, kk = cn % (sel ls).length := ⟨_, rfl⟩
            have hkl : kk < (sel ls).length := by rw [hkk]; exact Nat.mod_lt _ hpos
            have hKK : ((cn : Int) % ((sel ls).length : Int)) = (kk : Int) := by rw [hkk]; omega
            have HKK := Lib.hid hKK
            have HKL := Lib.hid hkl
            have hKD := HCN.out
            clear hkk
            clear HVV
            go_upto_region 27 with (first | (refine wpList_load_row_w rfl 28 (.tmp 11) rfl ga rfl 28 _ _ HA.out Try.underlying28 rfl (by kernel_rfl) ?_) | (refine wpList_store_row rfl 28 (.tmp 15) (.tmp 94) rfl w10.heap.size rfl _ _ rfl 28 (Box.new w10 28 (bc Bt.zero (.slice none 0 0))) (by kernel_rfl) rfl (by simp [bc, Value.oneCell']) ?_; intro w11 hY hG; have hFn := ((Fr.refl [] w10).alloc _).step hG (by simp); have HFn := Lib.hid hFn; have HY := Lib.hid hY; clear hG hFn hY))
            have HGR : Hid (ga < w10.heap.size ∧ N + 1 < w10.heap.size) := Lib.hid ⟨HA.out.lt, HBX.out.lt⟩
            have hF := HFn.out
            have HRB := HY
            have HF11 := Lib.hid hF
            have HBL : Hid (∀ b, liveOf (.slice a6 n6 c6) = some b → b < w10.heap.size) := Lib.hid (fun b hb => Sl.lt HG.out b hb)
            have HG11 := Lib.hid (Sl.keep HG.out hF)
            clear hF HFn HY
            generalize hgr : w10.heap.size = gR at *
            have HGZ := Lib.hid hgr
            clear hgr
            have hKK0 := hKK
            clear hKK hKK0 hKD x0
            have x1 := (HBX.out.keep HF11.out).cell 0
            simp only [List.getElem?_toArray, List.getElem?_cons_zero] at x1
            go_wp2_with fail
            clear x1
            go_loopw [97] (fun iv wq => ∃ (k : Nat) (vr : Value), k ≤ (sel ls).length ∧ iv = .int .i64 k ∧ Box wq gR 28 (bc (Bt.skip kk 0 (((sel ls).map imp).take k) (Bt.all ((sel ls).map imp))) vr) ∧ Bytes wq vr (Bt.skip kk 0 (((sel ls).map imp).take k) (Bt.all ((sel ls).map imp))).body ∧ (∀ b, liveOf vr = some b → b ≠ gR) ∧ Fr [] w10 wq) (fun iv _ => (sel ls).length - (intOf iv).toNat)
            case atStart => exact ⟨0, _, Nat.zero_le _, rfl, HRB.out, HG11.out, fun b hb => by have := HBL.out b hb; omega, HF11.out⟩
            case round =>
              clear HRB HG11 HF11
              obtain ⟨k, vr, hk, rfl, hRB, hRv, hRn, hF⟩ := hrel
              have HRB := Lib.hid hRB; have HRV := Lib.hid hRv; have HRN := Lib.hid hRn; have HFQ := Lib.hid hF
              obtain ⟨a7, n7, c7, rfl⟩ := Sl.isSlice hRv
              have HF := Lib.hid (HF.out.trans hF)
              have HXS := Lib.hid (HXS.out.keep Rep.bt hF)
              have HPS := Lib.hid (HPS.out.keep Rep.bytes hF)
              have HBX := Lib.hid (HBX.out.keep hF)
              have HXT : Hid (∀ k, k ≤ (sel ls).length → (Bt.skip kk 0 (((sel ls).map imp).take k) (Bt.all ((sel ls).map imp))).body.length ≤ 500) := Lib.hid (fun k _ => skip_small _ _ _ HAS.out (fun x hx => HS5.out x (List.mem_of_mem_take hx)))
              clear hRB hRv hRn hF
              by_cases hlt3 : k < (sel ls).length
              · obtain ⟨b, o, c0, y, B1, ea, hb, hy, ⟨vy, rfl, hyb, -⟩, -, hrg⟩ := HXS.out.at_ Rep.bt hlt3
                simp only [Option.some.injEq, Addr.mk.injEq, and_true] at ea
                obtain ⟨rfl, rfl⟩ := ea
                have HYE : Hid (((sel ls).map imp).take (k + 1) = ((sel ls).map imp).take k ++ [y]) := Lib.hid (by rw [List.take_add_one, hy]; rfl)
                have HY5 : Hid (y.body.length ≤ 500) := Lib.hid (HS5.out y (by rw [List.mem_iff_getElem?]; exact ⟨k, hy⟩))
                have HSK : Hid (Bt.skip kk 0 (((sel ls).map imp).take (k + 1)) (Bt.all ((sel ls).map imp)) = if k = kk then Bt.skip kk 0 (((sel ls).map imp).take k) (Bt.all ((sel ls).map imp)) else (Bt.skip kk 0 (((sel ls).map imp).take k) (Bt.all ((sel ls).map imp))).add y) := Lib.hid (by
                  rw [HYE.out, skip_snoc, List.length_take, List.length_map, Nat.min_eq_left hk, Nat.zero_add])
                obtain ⟨ay, ny, cy, rfl⟩ := Sl.isSlice hyb
                have HYB := Lib.hid hyb; have HRG := Lib.hid hrg
                have HXK := Lib.hid (HXT.out k hk)
                have hk20 : k < 20 := by have := HSEL.out; omega
                clear hy hb hyb hrg
                generalize hr0 : Bt.skip kk 0 (((sel ls).map imp).take k) (Bt.all ((sel ls).map imp)) = r0 at *
                clear hr0
                go_upto_region 30 with (first | (refine wpList_load_midA rfl 28 (.tmp 100) rfl gX (oX + k * 9) rfl (bc y (.slice ay ny cy)) _ HRG.out Try.underlying28 rfl (by kernel_rfl) ?_) | (refine wpList_store_row rfl 28 (.tmp 17) (.tmp 101) rfl wr.heap.size rfl _ _ rfl 28 (Box.new wr 28 (bc Bt.zero (.slice none 0 0))) (by kernel_rfl) rfl (by simp [bc, Value.oneCell']) ?_; intro w13 hY hG; have hFn := ((Fr.refl [] wr).alloc _).step hG (by simp); have HFn := Lib.hid hFn; have HY := Lib.hid hY; clear hG hFn hY))
                have hF := HFn.out
                have HXB := HY
                have HRB := Lib.hid (HRB.out.keep hF); have HRV := Lib.hid (Sl.keep HRV.out hF); have HFQ := Lib.hid (HFQ.out.trans hF); have HYB := Lib.hid (Sl.keep HYB.out hF)
                clear hF HFn HY
                generalize hgx : wr.heap.size = gx at *
                clear hgx
                by_cases hkk : k = kk
                · have HKE := Lib.hid hkk
                  have HSK2 := HSK.out
                  rw [if_pos hkk] at HSK2
                  have HSK3 := Lib.hid HSK2
                  have t1 : ((k : Int) != (kk : Int)) = false := by rw [hkk]; simp
                  clear hkk HSK2
                  go_wp2_with fail
                  clear t1
                  exact ⟨⟨k + 1, .slice a7 n7 c7, by omega, by go_num, by rw [HSK3.out]; exact HRB.out, by rw [HSK3.out]; exact HRV.out, HRN.out, HFQ.out⟩, by simp [intOf]; omega⟩
                · have HSK2 := HSK.out
                  rw [if_neg hkk] at HSK2
                  have HSK3 := Lib.hid HSK2
                  have t1 : ((k : Int) != (kk : Int)) = true := by simp; omega
                  clear HSK2
                  go_upto_region 31 with fail
                  clear t1
                  go_wp2_with (first | (refine wpList_load_row_w rfl 28 (.tmp 15) rfl gR rfl 28 _ _ HRB.out Try.underlying28 rfl (by kernel_rfl) ?_) | (refine wpList_load_row_w rfl 28 (.tmp 17) rfl gx rfl 28 _ _ HXB.out Try.underlying28 rfl (by kernel_rfl) ?_))
                  refine (impAdd_any (x := r0) (y := y) ⟨_, rfl, HRV.out⟩ ⟨_, rfl, HYB.out⟩ (by have := HXK.out; omega) (by have := HY5.out; omega)).mono ?_
                  rintro e w14 ⟨v14, rfl, ⟨v15, rfl, hO⟩, hF⟩
                  obtain ⟨a8, n8, c8, rfl⟩ := hO.isSlice
                  have HO := Lib.hid hO
                  have HRBL := Lib.hid HRB.out.lt
                  have HRB := Lib.hid (HRB.out.keep hF); have HFQ := Lib.hid (HFQ.out.trans hF)
                  have HGL : Hid (gR < w13.heap.size) := HRBL
                  clear hO hF
                  go_wp2_with (refine wpList_store_row rfl 28 (.tmp 15) (.tmp 107) rfl gR rfl _ _ rfl 28 HRB.out (by kernel_rfl) rfl (by simp [bc, Value.oneCell']) ?_; intro w15 hY hG; have HY := Lib.hid hY; have HGn := Lib.hid hG; clear hY hG)
                  have HV9 : Hid (Bytes w15 (.slice a8 n8 c8) (r0.add y).body) := Lib.hid (Sl.frL HO.out.bytes HGn.out (fun b hb hm => by have := (HO.out.block b (live_block hb)).1; have := HGL.out; simp at hm; omega))
                  exact ⟨⟨k + 1, .slice a8 n8 c8, by omega, by go_num, by rw [HSK3.out]; exact HY.out, by rw [HSK3.out]; exact HV9.out, fun b hb => by have := (HO.out.block b (live_block hb)).1; have := HGL.out; omega, HFQ.out.step HGn.out (fun x hx => .inr (by have := HGZ.out; simp at hx; omega))⟩, by simp [intOf]; omega⟩
              · obtain rfl : k = (sel ls).length := by omega
                rw [List.take_of_length_le (by rw [List.length_map]; exact Nat.le_refl _)] at HRB HRV
                have HR5 : Hid ((Bt.skip kk 0 ((sel ls).map imp) (Bt.all ((sel ls).map imp))).body.length ≤ 500) := Lib.hid (skip_small _ _ _ HAS.out HS5.out)
                have hkl := HKL.out
                obtain ⟨b1, o1, c1, y, B1, ea, hb, hy, ⟨vy, rfl, hyb, -⟩, -, hrg⟩ := HPS.out.at_ Rep.bytes hkl
                subst ea
                have hyk : (sel ls)[kk] = y := by rw [List.getElem?_eq_getElem hkl] at hy; simpa using hy
                obtain ⟨ay, ny, cy, rfl⟩ := Sl.isSlice hyb
                have d1 := hrg 0 (.slice ay ny cy) rfl
                simp only [Nat.mul_one, Nat.add_zero] at d1
                have HYB := Lib.hid hyb; have HD1 := Lib.hid d1
                have hym : y ∈ sel ls := by rw [← hyk]; exact List.getElem_mem hkl
                have hyp : isPk y = true := (List.mem_filter.1 hym).2
                have HYY := Lib.hid hyp
                have HPKA : Hid (∀ p, parseR y = .ok p → (Bt.skip kk 0 ((sel ls).map imp) (Bt.all ((sel ls).map imp))).pack p.seq p.ssrc = .ok y) := Lib.hid (fun p hp => by
                  rw [← hyk] at hp ⊢
                  exact rest_pack hkl hp)
                have HXSM : Hid (∀ z, ((sel ls).map imp)[kk]? = some z → (Bt.skip kk 0 ((sel ls).map imp) (Bt.all ((sel ls).map imp))).same z = true) := Lib.hid (fun z hz => by
                  have hk2 : kk < ((sel ls).map imp).length := by rw [List.length_map]; exact hkl
                  rw [List.getElem?_eq_getElem hk2] at hz
                  cases hz
                  exact Bt.rest_same hk2)
                obtain ⟨b2, o2, c2, z, B2, ea2, hb2, hz, ⟨vz, rfl, hzb, -⟩, -, hrg2⟩ := HXS.out.at_ Rep.bt hkl
                simp only [Option.some.injEq, Addr.mk.injEq, and_true] at ea2
                obtain ⟨rfl, rfl⟩ := ea2
                have HSZ := Lib.hid (HXSM.out z hz)
                obtain ⟨az, nz, cz, rfl⟩ := Sl.isSlice hzb
                have HZB := Lib.hid hzb; have HRG := Lib.hid hrg2
                have HZ5 : Hid (z.body.length ≤ 500) := Lib.hid (HS5.out z (List.mem_of_getElem? hz))
                generalize hr0 : Bt.skip kk 0 ((sel ls).map imp) (Bt.all ((sel ls).map imp)) = r0 at *
                clear hr0 hy hyk hrg hym hyp hb hb2 hz hzb hrg2 hyb HXSM
                have HQQ : Hid (Fr [] wr wr) := Lib.hid (Fr.refl _ _)
                go_upto_region 33 with fail
                go_wp2_with fail
                refine (Seq_any HYB.out).mono ?_
                rintro e w12 (⟨p, hp, rfl, hF⟩ | ⟨k, hp, rfl, hF⟩)
                rotate_left
                · exact absurd HYY.out (by unfold isPk; rw [hp]; simp)
                have HP := Lib.hid hp
                have HPK := Lib.hid (HPKA.out p hp)
                clear hp HPKA HYY
                have d1 := hF.cellSome HD1.out (by simp)
                have HQQ := Lib.hid (HQQ.out.trans hF)
                have HF := Lib.hid (HF.out.trans hF)
                clear hF
                go_wp2_with fail
                refine (SSRC_any (Sl.keep HYB.out HQQ.out)).mono ?_
                rintro e w13 (⟨p2, hp, rfl, hF⟩ | ⟨k, hp, rfl, hF⟩)
                rotate_left
                · rw [HP.out] at hp; cases hp
                obtain rfl : p = p2 := by rw [HP.out] at hp; cases hp; rfl
                have HQQ := Lib.hid (HQQ.out.trans hF)
                have HF := Lib.hid (HF.out.trans hF)
                have HRK := Lib.hid (HRB.out.keep HQQ.out)
                clear hp hF d1
                go_wp2_with (refine wpList_load_row_w rfl 28 (.tmp 15) rfl gR rfl 28 _ _ HRK.out Try.underlying28 rfl (by kernel_rfl) ?_)
                refine (impPacket_any (x := r0) ⟨_, rfl, Sl.keep HRV.out HQQ.out⟩ (by have := HR5.out; omega) p.seq p.ssrc).mono ?_
                rintro e w14 (⟨l, v14, hp, rfl, hO, hF⟩ | ⟨hp, rfl, hF⟩)
                rotate_left
                · rw [HPK.out] at hp; cases hp
                obtain rfl : y = l := by rw [HPK.out] at hp; cases hp; rfl
                obtain ⟨a9, n9, c9, rfl⟩ := hO.isSlice
                have HO := Lib.hid hO.bytes
                have HQQ := Lib.hid (HQQ.out.trans hF)
                have HF := Lib.hid (HF.out.trans hF)
                have HY5 : Hid (y.length ≤ 1099511627776) := Lib.hid (Nat.le_trans (parse_len HP.out).2 (by omega))
                clear hp hO hF HRK
                go_upto_region 36 with fail
                refine wp_region_rules (fun w' => Fr [] w14.drew w') (Fr []) [isV (.agg (bc r0 (.slice a7 n7 c7))), isV (.slice (some ⟨gX, oX, none⟩) (sel ls).length cx), isV ?p1x2, isV (.pointer (some ⟨gX, oX + kk * 9, none⟩)), isV (.agg (bc z (.slice az nz cz))), isV (.bool true), isV ?p1x6, isV ?p1x7, isV ?p1x8, isV ?p1x9, isV ?p1x10, isV ?p1x11, isV ?p1x12, isV ?p1x13, isV (.pointer (some ⟨b1, o1 + kk, none⟩)), isV (.slice ay ny cy), isV (.bool true), isV ?p1x17, isV ?p1x18] [[], [], [], [(1, 133), (2, 134)], [(3, 135)], [(0, 132), (4, 136)], [(5, 137)], [(6, 138)], [(6, 138), (7, 139)], [(6, 138), (8, 140)], [(9, 141)], [(10, 142)], [(10, 142)], [(10, 142)], [(10, 142), (12, 144), (13, 145)], [(10, 142), (14, 146)], [(10, 142), (11, 143), (15, 147)], [(10, 142), (16, 148)], [(17, 149)]] 150 [0, 1, 2, 3, 4, 5, 6, 7, 8, 9, 10, 11, 12, 13, 14, 15, 16, 17, 18] [(0, 132), (1, 133), (2, 134), (3, 135), (4, 136), (5, 137), (6, 138), (7, 139), (8, 140), (9, 141), (10, 142), (11, 143), (12, 144), (13, 145), (14, 146), (15, 147), (16, 148), (17, 149), (18, 4)] (by kernel_rfl) (by kernel_rfl) rfl (by kernel_rfl) (by kernel_rfl) (by kernel_rfl) (by kernel_rfl) (by intro c a a' W h hq; cases a; cases a'; cases h; exact hq) (fun w => Fr.refl _ w) (Fr.refl _ _) ⟨isV_stab, isV_stab, isV_stab, isV_stab, isV_stab, isV_stab, isV_stab, isV_stab, isV_stab, isV_stab, isV_stab, isV_stab, isV_stab, isV_stab, isV_stab, isV_stab, isV_stab, isV_stab, isV_stab, trivial⟩ ⟨?_, ?_, ?_, ?_, ?_, ?_, ?_, ?_, ?_, ?_, ?_, ?_, ?_, ?_, ?_, ?_, ?_, ?_, ?_, trivial⟩ ?_
                rotate_left 11
                · intro vs w' hG hd K hK
                  clear hd
                  simp only [canonD, Act.put, List.getElem_toArray, List.getElem_cons_zero, List.getElem_cons_succ, List.setIfInBounds_toArray, List.set_cons_zero, List.set_cons_succ] at hK ⊢
                  have hW : Fr [] w14 w' := (Fr.refl [] w14).drew.trans hG
                  have hV : Fr [] wr w' := HQQ.out.trans hW
                  refine Eq.mpr (if_pos (by rfl)) ?_
                  refine wp_load_row 28 (.tmp 15) rfl gR rfl 28 _ _ (HRB.out.keep hV) Try.underlying28 rfl (by kernel_rfl) ?_
                  refine hK.out _ _ (Fr.refl _ _) hG ?_
                  show _ = _
                  rfl
                · intro vs w' hG hd K hK
                  clear hd
                  simp only [canonD, Act.put, List.getElem_toArray, List.getElem_cons_zero, List.getElem_cons_succ, List.setIfInBounds_toArray, List.set_cons_zero, List.set_cons_succ] at hK ⊢
                  have hW : Fr [] w14 w' := (Fr.refl [] w14).drew.trans hG
                  have hV : Fr [] wr w' := HQQ.out.trans hW
                  have x0 := (HBX.out.keep hV).cell 0
                  simp only [List.getElem?_toArray, List.getElem?_cons_zero] at x0
                  refine Eq.mpr (if_pos (by rfl)) ?_
                  go_simp
                  refine hK.out _ _ (Fr.refl _ _) hG ?_
                  show _ = _
                  rfl
                · intro vs w' hG hd K hK
                  clear hd
                  simp only [canonD, Act.put, List.getElem_toArray, List.getElem_cons_zero, List.getElem_cons_succ, List.setIfInBounds_toArray, List.set_cons_zero, List.set_cons_succ] at hK ⊢
                  refine Eq.mpr (if_pos (by rfl)) ?_
                  go_simp
                  refine hK.out _ _ (Fr.refl _ _) hG ?_
                  show _ = _
                  rfl
                · intro vs w' hG hd K hK
                  obtain ⟨h1, h2, -⟩ := hd
                  replace h1 : vs 1 = _ := h1
                  replace h2 : vs 2 = _ := h2
                  simp only [canonD, Act.put, List.getElem_toArray, List.getElem_cons_zero, List.getElem_cons_succ, List.setIfInBounds_toArray, List.set_cons_zero, List.set_cons_succ, h1, h2] at hK ⊢
                  refine Eq.mpr (if_pos (by rfl)) ?_
                  go_simp
                  refine hK.out _ _ (Fr.refl _ _) hG ?_
                  show _ = _
                  rfl
                · intro vs w' hG hd K hK
                  obtain ⟨h3, -⟩ := hd
                  replace h3 : vs 3 = _ := h3
                  simp only [canonD, Act.put, List.getElem_toArray, List.getElem_cons_zero, List.getElem_cons_succ, List.setIfInBounds_toArray, List.set_cons_zero, List.set_cons_succ, h3] at hK ⊢
                  have hW : Fr [] w14 w' := (Fr.refl [] w14).drew.trans hG
                  have hV : Fr [] wr w' := HQQ.out.trans hW
                  refine Eq.mpr (if_pos (by rfl)) ?_
                  refine wp_load_mid 28 (.tmp 135) rfl gX (oX + kk * 9) rfl (bc z (.slice az nz cz)).toList _ (fun j u hj => (hV.cellSome (HRG.out j u hj) (by simp))) Try.underlying28 rfl (by kernel_rfl) ?_
                  refine hK.out _ _ (Fr.refl _ _) hG ?_
                  show _ = _
                  rfl
                · intro vs w' hG hd K hK
                  obtain ⟨h0, h4, -⟩ := hd
                  replace h0 : vs 0 = _ := h0
                  replace h4 : vs 4 = _ := h4
                  simp only [canonD, Act.put, List.getElem_toArray, List.getElem_cons_zero, List.getElem_cons_succ, List.setIfInBounds_toArray, List.set_cons_zero, List.set_cons_succ, h0, h4] at hK ⊢
                  have hW : Fr [] w14 w' := (Fr.refl [] w14).drew.trans hG
                  have hV : Fr [] wr w' := HQQ.out.trans hW
                  refine Eq.mpr (if_pos (by rfl)) ?_
                  go_simp
                  refine (impSame_any (x := r0) (y := z) ⟨_, rfl, Sl.keep HRV.out hV⟩ ⟨_, rfl, Sl.keep HZB.out hV⟩ (by have := HR5.out; omega) (by have := HZ5.out; omega)).mono ?_
                  rintro e w15 ⟨rfl, hF⟩
                  go_simp
                  exact hK.out _ _ hF (hG.trans hF) (by show Value.bool _ = _; rw [HSZ.out])
                · intro vs w' hG hd K hK
                  obtain ⟨h5, -⟩ := hd
                  replace h5 : vs 5 = _ := h5
                  simp only [canonD, Act.put, List.getElem_toArray, List.getElem_cons_zero, List.getElem_cons_succ, List.setIfInBounds_toArray, List.set_cons_zero, List.set_cons_succ, h5] at hK ⊢
                  refine Eq.mpr (if_pos (by rfl)) ?_
                  go_simp
                  refine hK.out _ _ (Fr.refl _ _) hG ?_
                  show _ = _
                  rfl
                · intro vs w' hG hd K hK
                  obtain ⟨h6, -⟩ := hd
                  replace h6 : vs 6 = _ := h6
                  simp only [canonD, Act.put, List.getElem_toArray, List.getElem_cons_zero, List.getElem_cons_succ, List.setIfInBounds_toArray, List.set_cons_zero, List.set_cons_succ, h6] at hK ⊢
                  refine Eq.mpr (if_pos (by rfl)) ?_
                  go_simp
                  refine hK.out _ _ (Fr.refl _ _) hG ?_
                  show _ = _
                  rfl
                · intro vs w' hG hd K hK
                  obtain ⟨h6, h7, -⟩ := hd
                  replace h6 : vs 6 = _ := h6
                  replace h7 : vs 7 = _ := h7
                  simp only [canonD, Act.put, List.getElem_toArray, List.getElem_cons_zero, List.getElem_cons_succ, List.setIfInBounds_toArray, List.set_cons_zero, List.set_cons_succ, h6, h7] at hK ⊢
                  refine Eq.mpr (if_pos (by rfl)) ?_
                  go_simp
                  refine hK.out _ _ (Fr.refl _ _) hG ?_
                  show _ = _
                  rfl
                · intro vs w' hG hd K hK
                  obtain ⟨h6, h8, -⟩ := hd
                  replace h6 : vs 6 = _ := h6
                  replace h8 : vs 8 = _ := h8
                  simp only [canonD, Act.put, List.getElem_toArray, List.getElem_cons_zero, List.getElem_cons_succ, List.setIfInBounds_toArray, List.set_cons_zero, List.set_cons_succ, h6, h8] at hK ⊢
                  refine Eq.mpr (if_pos (by rfl)) ?_
                  go_simp
                  refine hK.out _ _ (Fr.refl _ _) hG ?_
                  show _ = _
                  rfl
                · intro vs w' hG hd K hK
                  obtain ⟨h9, -⟩ := hd
                  replace h9 : vs 9 = _ := h9
                  simp only [canonD, Act.put, List.getElem_toArray, List.getElem_cons_zero, List.getElem_cons_succ, List.setIfInBounds_toArray, List.set_cons_zero, List.set_cons_succ, h9] at hK ⊢
                  refine Eq.mpr (if_pos (by rfl)) ?_
                  go_simp
                  refine hK.out _ _ (Fr.refl _ _) hG ?_
                  show _ = _
                  rfl
                · intro vs w' hG hd K hK
                  obtain ⟨h10, -⟩ := hd
                  replace h10 : vs 10 = _ := h10
                  simp only [canonD, Act.put, List.getElem_toArray, List.getElem_cons_zero, List.getElem_cons_succ, List.setIfInBounds_toArray, List.set_cons_zero, List.set_cons_succ, h10] at hK ⊢
                  refine Eq.mpr (if_pos (by rfl)) ?_
                  go_simp
                  refine hK.out _ _ (Fr.refl _ _) hG ?_
                  show _ = _
                  rfl
                · intro vs w' hG hd K hK
                  obtain ⟨h10, -⟩ := hd
                  replace h10 : vs 10 = _ := h10
                  simp only [canonD, Act.put, List.getElem_toArray, List.getElem_cons_zero, List.getElem_cons_succ, List.setIfInBounds_toArray, List.set_cons_zero, List.set_cons_succ, h10] at hK ⊢
                  refine Eq.mpr (if_pos (by rfl)) ?_
                  go_simp
                  refine hK.out _ _ (Fr.refl _ _) hG ?_
                  show _ = _
                  rfl
                · intro vs w' hG hd K hK
                  obtain ⟨h10, -⟩ := hd
                  replace h10 : vs 10 = _ := h10
                  simp only [canonD, Act.put, List.getElem_toArray, List.getElem_cons_zero, List.getElem_cons_succ, List.setIfInBounds_toArray, List.set_cons_zero, List.set_cons_succ, h10] at hK ⊢
                  refine Eq.mpr (if_pos (by rfl)) ?_
                  go_simp
                  refine hK.out _ _ (Fr.refl _ _) hG ?_
                  show _ = _
                  rfl
                · intro vs w' hG hd K hK
                  obtain ⟨h10, h12, h13, -⟩ := hd
                  replace h10 : vs 10 = _ := h10
                  replace h12 : vs 12 = _ := h12
                  replace h13 : vs 13 = _ := h13
                  simp only [canonD, Act.put, List.getElem_toArray, List.getElem_cons_zero, List.getElem_cons_succ, List.setIfInBounds_toArray, List.set_cons_zero, List.set_cons_succ, h10, h12, h13] at hK ⊢
                  refine Eq.mpr (if_pos (by rfl)) ?_
                  go_simp
                  refine hK.out _ _ (Fr.refl _ _) hG ?_
                  show _ = _
                  rfl
                · intro vs w' hG hd K hK
                  obtain ⟨h10, h14, -⟩ := hd
                  replace h10 : vs 10 = _ := h10
                  replace h14 : vs 14 = _ := h14
                  simp only [canonD, Act.put, List.getElem_toArray, List.getElem_cons_zero, List.getElem_cons_succ, List.setIfInBounds_toArray, List.set_cons_zero, List.set_cons_succ, h10, h14] at hK ⊢
                  have hW : Fr [] w14 w' := (Fr.refl [] w14).drew.trans hG
                  have hV : Fr [] wr w' := HQQ.out.trans hW
                  have x0 := hV.cellSome HD1.out (by simp)
                  refine Eq.mpr (if_pos (by rfl)) ?_
                  go_simp
                  refine hK.out _ _ (Fr.refl _ _) hG ?_
                  show _ = _
                  rfl
                · intro vs w' hG hd K hK
                  obtain ⟨h10, h11, h15, -⟩ := hd
                  replace h10 : vs 10 = _ := h10
                  replace h11 : vs 11 = _ := h11
                  replace h15 : vs 15 = _ := h15
                  simp only [canonD, Act.put, List.getElem_toArray, List.getElem_cons_zero, List.getElem_cons_succ, List.setIfInBounds_toArray, List.set_cons_zero, List.set_cons_succ, h10, h11, h15] at hK ⊢
                  have hW : Fr [] w14 w' := (Fr.refl [] w14).drew.trans hG
                  have hV : Fr [] wr w' := HQQ.out.trans hW
                  refine Eq.mpr (if_pos (by rfl)) ?_
                  go_simp
                  refine (RSame_any (Sl.keep HO.out hW) (Sl.keep HYB.out hV) HY5.out HY5.out).mono ?_
                  rintro e w15 ⟨rfl, hF⟩
                  go_simp
                  exact hK.out _ _ hF (hG.trans hF) (by show Value.bool _ = _; simp)
                · intro vs w' hG hd K hK
                  obtain ⟨h10, h16, -⟩ := hd
                  replace h10 : vs 10 = _ := h10
                  replace h16 : vs 16 = _ := h16
                  simp only [canonD, Act.put, List.getElem_toArray, List.getElem_cons_zero, List.getElem_cons_succ, List.setIfInBounds_toArray, List.set_cons_zero, List.set_cons_succ, h10, h16] at hK ⊢
                  refine Eq.mpr (if_pos (by rfl)) ?_
                  go_simp
                  refine hK.out _ _ (Fr.refl _ _) hG ?_
                  show _ = _
                  rfl
                · intro vs w' hG hd K hK
                  obtain ⟨h17, -⟩ := hd
                  replace h17 : vs 17 = _ := h17
                  simp only [canonD, Act.put, List.getElem_toArray, List.getElem_cons_zero, List.getElem_cons_succ, List.setIfInBounds_toArray, List.set_cons_zero, List.set_cons_succ, h17] at hK ⊢
                  refine Eq.mpr (if_pos (by rfl)) ?_
                  go_simp
                  refine hK.out _ _ (Fr.refl _ _) hG ?_
                  show _ = _
                  rfl
                intro vs w' hG hP
                obtain ⟨h0, h1, h2, h3, h4, h5, h6, h7, h8, h9, h10, h11, h12, h13, h14, h15, h16, h17, h18, -⟩ := hP
                replace h0 : vs 0 = _ := h0
                replace h1 : vs 1 = _ := h1
                replace h2 : vs 2 = _ := h2
                replace h3 : vs 3 = _ := h3
                replace h4 : vs 4 = _ := h4
                replace h5 : vs 5 = _ := h5
                replace h6 : vs 6 = _ := h6
                replace h7 : vs 7 = _ := h7
                replace h8 : vs 8 = _ := h8
                replace h9 : vs 9 = _ := h9
                replace h10 : vs 10 = _ := h10
                replace h11 : vs 11 = _ := h11
                replace h12 : vs 12 = _ := h12
                replace h13 : vs 13 = _ := h13
                replace h14 : vs 14 = _ := h14
                replace h15 : vs 15 = _ := h15
                replace h16 : vs 16 = _ := h16
                replace h17 : vs 17 = _ := h17
                replace h18 : vs 18 = _ := h18
                simp only [canonD, Act.put, List.getElem_toArray, List.getElem_cons_zero, List.getElem_cons_succ, List.setIfInBounds_toArray, List.set_cons_zero, List.set_cons_succ, h0, h1, h2, h3, h4, h5, h6, h7, h8, h9, h10, h11, h12, h13, h14, h15, h16, h17, h18]
                clear h0 h1 h2 h3 h4 h5 h6 h7 h8 h9 h10 h11 h12 h13 h14 h15 h16 h17 h18
                have HF := Lib.hid (HF.out.trans ((Fr.refl [] w14).drew.trans hG))
                clear hG
                go_wp2_with fail
                go_ret
                first | exact ⟨rfl, HF.out⟩ | exact ⟨ret_bool (by simp), HF.out⟩
end Go.Proofs.Ytchbgiindfoepaa
