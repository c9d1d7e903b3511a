import Derived.Sort.CutIn
import Derived.Test.YtchbgiindfoepaaMs34
import Derived.Test.YtchbgiindfoepaaMs8
import Derived.Test.YtchbgiindfoepaaMs28
import Derived.Test.YtchbgiindfoepaaMs29
/- The walk of solve.rest (printed by gen_rest.py). -/
namespace Go.Proofs.Ytchbgiindfoepaa
open Go.RowKit Go.Shelf

attribute [local go_sem] Oper.semAt_some

def restStep (K : UInt16 → Option (List UInt8)) (ss : UInt32) (s : Bt × List UInt16) (n : UInt16) : Bt × List UInt16 := match lookB K ss n with
  | some y => (s.1.add y, s.2)
  | none => (s.1, s.2 ++ [n])
def restL (K : UInt16 → Option (List UInt8)) (ss : UInt32) (r : Rep_) : Bt × List UInt16 := (seqsOf r.base r.m).foldl (restStep K ss) (r.bt.cut, [])
theorem lookB_small {K : UInt16 → Option (List UInt8)} {ss : UInt32} {n : UInt16} {y : Bt} (h : lookB K ss n = some y) : y.body.length ≤ 1500 := by
  unfold lookB at h
  split at h
  · cases h
  rename_i l _
  split at h
  · rename_i p hp
    split at h
    · cases h
      have := (parse_len hp).2
      show (l.drop 12).length ≤ _
      rw [List.length_drop]
      omega
    · cases h
  · cases h
theorem rest_small {K : UInt16 → Option (List UInt8)} {ss : UInt32} {n : Nat} : ∀ (xs : List UInt16) (s : Bt × List UInt16), s.1.body.length ≤ n → 1500 ≤ n → (xs.foldl (restStep K ss) s).1.body.length ≤ n
  | [], s, h, _ => h
  | x :: xs, s, h, hn => by
    rw [List.foldl_cons]
    refine rest_small xs _ ?_ hn
    unfold restStep
    split
    · rename_i y hy
      have := lookB_small hy
      show (s.1.add y).body.length ≤ n
      rw [Bt.add_body_len]
      omega
    · exact h
theorem rest_miss {K : UInt16 → Option (List UInt8)} {ss : UInt32} : ∀ (xs : List UInt16) (s : Bt × List UInt16), (xs.foldl (restStep K ss) s).2.length ≤ s.2.length + xs.length
  | [], s => by simp
  | x :: xs, s => by
    rw [List.foldl_cons, List.length_cons]
    have := rest_miss (K := K) (ss := ss) xs (restStep K ss s x)
    have h2 : (restStep K ss s x).2.length ≤ s.2.length + 1 := by
      unfold restStep
      split <;> simp
    omega
def sAt (K : UInt16 → Option (List UInt8)) (ss : UInt32) (r : Rep_) (pre : List Nat) : Bt × List UInt16 := (pre.map fun (i : Nat) => add16 r.base i).foldl (restStep K ss) (r.bt.cut, [])
theorem sAt_snoc (K : UInt16 → Option (List UInt8)) (ss : UInt32) (r : Rep_) (pre : List Nat) (i : Nat) : sAt K ss r (pre ++ [i]) = restStep K ss (sAt K ss r pre) (add16 r.base i) := by
  unfold sAt
  rw [List.map_append, List.foldl_append]
  rfl
theorem sAt_small {K : UInt16 → Option (List UInt8)} {ss : UInt32} {r : Rep_} {pre : List Nat} (h : r.bt.body.length ≤ 1099511627776) : (sAt K ss r pre).1.body.length ≤ 1099511627776 := rest_small _ _ h (by omega)
theorem sAt_miss {K : UInt16 → Option (List UInt8)} {ss : UInt32} {r : Rep_} {pre : List Nat} : (sAt K ss r pre).2.length ≤ pre.length := by
  have h := rest_miss (K := K) (ss := ss) (pre.map fun (i : Nat) => add16 r.base i) (r.bt.cut, [])
  rw [List.length_map] at h
  exact Nat.le_trans h (by show 0 + _ ≤ _; omega)
/-- What holds of the boxes X (the imprint) and M (the numbers that are missing); B: the size at the loop's start. -/
structure RRel (w0 W : World) (N X M : Nat) (s : Bt × List UInt16) : Prop where
  x : ∃ vb v, Box W X 28 (bc s.1 vb) ∧ OwnB W N vb s.1.body ∧ Box W M 77 #[v] ∧ W.ownsRow w0.heap.size 42 1 v s.2.length (s.2.map W16) ∧ (∀ b, blockOf vb = some b → b ≠ X ∧ b ≠ M ∧ blockOf v ≠ some b)
  fr : Fr [X, M] w0 W
theorem RRel.abx {β : Type} {w0 : World} {N X M : Nat} (f : β → Bt × List UInt16) (hX : X < w0.heap.size) (hM : M < w0.heap.size) : AbX [(X, 8), (M, 0)] w0.heap.size (fun (s : β) W => RRel w0 W N X M (f s)) := fun s W W' row hs hg hr => by
  obtain ⟨⟨vb, v, h1, h2, h3, h4, h5⟩, h6⟩ := hs
  have cX := h1.cell 8; have cM := h3.cell 0
  simp only [bc, List.getElem?_toArray, List.getElem?_cons_succ, List.getElem?_cons_zero] at cX cM
  have hn : ∀ (k : Nat) (e : TypeId) (u : Value) (cnt : Nat) (xs : List Value) (base : Nat) (p : Nat × Nat), p ∈ [(X, 8), (M, 0)] → W.cell? ⟨p.1, p.2, none⟩ = some u → W.ownsRow base e k u cnt xs → ∀ b, blockOf u = some b → b ∉ row.toList := by
    intro k e u cnt xs base p hp hu ho b hb hm
    obtain ⟨hB, hc⟩ := hr b (by simpa using hm)
    rcases hc with ⟨o, hoo, hc⟩ | hc
    · obtain ⟨-, h | ⟨g, cap, cur, rfl, hbg, hgg, -⟩⟩ := ho
      · rw [h.1] at hb; simp [blockOf] at hb
      · simp only [blockOf, Option.some.injEq] at hb
        subst hb
        rw [hgg] at hoo; cases hoo; cases hc
    · exact (hc p hp).2 u hu hb
  have nX : ∀ g : Nat, g < w0.heap.size → g ∉ row.toList := fun g hg hm => by have := (hr g (by simpa using hm)).1; omega
  have hF : Fr row.toList W W' := Fr.ofGrown hg
  exact ⟨⟨vb, v, h1.fr hF (nX X hX), OwnB.fr h2 hF (hn _ _ _ _ _ _ (X, 8) (by simp) cX h2), h3.fr hF (nX M hM), Own.fr h4 hF (hn _ _ _ _ _ _ (M, 0) (by simp) cM h4), h5⟩, h6.step hF (fun x hx => .inr (by have := (hr x (by simpa using hx)).1; exact this))⟩
theorem stepIn_load_row {F : Fence} {n : Nat} {P : Program} {o : Oper} {a : Act} {w : World} {K : Act → World → Prop} {Q : Exit → Act → World → Prop} {E : Prop} {y : Nat → Option Bool} (hw : Region.wanted o y = true) (ty : TypeId) (x : Operand) (ho : o.op = .load ty x)
    (g : Nat) (hx : a.eval x = .pointer (some ⟨g, 0, none⟩)) (t : TypeId) (cs : Array Value) (d : TypeDesc) (hg : Box w g t cs)
    (hu : P.underlying ty = some d) (hd : (match d with | .struct _ | .array _ _ => true | _ => false) = true) (hi : (P.info? ty).map (·.size) = some cs.size)
    (h : K (a.put o.dst (.agg cs)) w) : if Region.wanted o y = true then Oper.wpIn F n P o a w K Q else E := by
  rw [if_pos hw]
  unfold Oper.wpIn
  refine ⟨by simp [Oper.about, ho], ?_⟩
  rw [Oper.semAt_plain F _ _ (by rw [ho]; intro c hc'; cases hc')]
  unfold execOp
  simp only [ho, hx, Instr.loadAt, Instr.sureAddr, Sem.run_bind, Sem.run_pure, Result.andThen_ok, run_loadVar_row w g t ty cs (0, 0) d hg hu hd hi]
  exact h
theorem stepIn_store_row {F : Fence} {n : Nat} {P : Program} {w : World} {o : Oper} {a : Act} {K : Act → World → Prop} {Q : Exit → Act → World → Prop} {E : Prop} {yy : Nat → Option Bool} (hw : Region.wanted o yy = true) (ty : TypeId) (x y : Operand)
    (ho : o.op = .store ty x y) (g : Nat) (hx : a.eval x = .pointer (some ⟨g, 0, none⟩)) (c c' : Array Value) (hy : a.eval y = .agg c') (t : TypeId) (hb : Box w g t c)
    (hi : (P.info? ty).map (·.size) = some c'.size) (hs : c'.size = c.size) (h1 : ∀ u ∈ c'.toList, u.oneCell' = true)
    (h : ∀ w', Box w' g t c' → Fr [g] w w' → K (a.put o.dst undef) w') : if Region.wanted o yy = true then Oper.wpIn F n P o a w K Q else E := by
  rw [if_pos hw]
  have hst := run_storeCells_at P g 0 t c'.toList 0 c w hb (by simp [hs]) h1
  simp only [Nat.add_zero, List.take_zero, List.nil_append, Nat.zero_add] at hst
  rw [List.drop_of_length_le (by simp [hs]), List.append_nil, Array.toArray_toList] at hst
  cases hq : P.info? ty with
  | none => simp [hq] at hi
  | some i =>
    have hsz : i.size = c'.size := by simpa [hq] using hi
    unfold Oper.wpIn
    refine ⟨by simp [Oper.about, ho], ?_⟩
    rw [Oper.semAt_plain F _ _ (by rw [ho]; intro c hc'; cases hc')]
    unfold execOp
    simp only [ho, hx, hy]
    simp [Instr.storeAt, Instr.sureAddr, storeVar, Sem.run_bind, sizeOf, typeInfo, hq, hsz, Value.cells, hst]
    exact h _ (hb.setRow c') (Box.frSetRow w g c')
theorem own_ne {W : World} {base : Nat} {e : TypeId} {k : Nat} {v : Value} {n : Nat} {xs : List Value} {D : Nat} {d : Option (List Deferred)} (h : W.ownsRow base e k v n xs) (hD : W.heap[D]? = some (.deferred d)) : ∀ b, blockOf v = some b → b ≠ D := fun b hb e => by
  subst e
  obtain ⟨-, h | ⟨g, cap, cur, rfl, hbg, hgg, -⟩⟩ := h
  · rw [h.1] at hb; simp [blockOf] at hb
  · simp only [blockOf, Option.some.injEq] at hb
    subst hb
    rw [hgg] at hD
    cases hD
set_option maxRecDepth 100000 in
set_option maxHeartbeats 8000000 in
theorem svRest_any {w : World} {v : Value} {r : Rep_} {gf : Nat} {lb : Array Value} {K : UInt16 → Option (List UInt8)} (h : RpV w v r) (hs : r.bt.body.length ≤ 1099511627776) (hK : Knows w gf lb K) (ss : UInt32) :
    Calls Try.prog 77 #[v, .int .u32 (ss.toNat : Nat), .func (.func gf) #[] lb] w fun e w' => ∃ vx vm, e = .returned (.tuple #[vx, vm]) ∧ BtV w' vx (restL K ss r).1 ∧ Sl w' vm ((restL K ss r).2.map W16) ∧ Fr [] w w' := by
  obtain ⟨vb, rfl, hb⟩ := h
  obtain ⟨a, n, c, rfl⟩ := Sl.isSlice hb
  refine (callsIn_wide (n := 12)).1 ?_
  refine callsIn_of_wp_marks Try.func77 rfl trivial ?_ rfl
  simp only [Try.ntmps77, List.size_toArray, List.length_cons, List.length_nil, Nat.reduceAdd, Nat.reduceSub, Array.replicate_succ, Array.replicate_zero, List.push_toArray, List.append_toArray, List.nil_append, List.cons_append]
  obtain ⟨wa, ea, hFa, hBa1, hBa2, hsa⟩ := two_new w (rpc r (.slice a n c)) 58 #[.int .u32 (ss.toNat : Nat)] 45
  obtain ⟨wb, eb, hFb, hBb1, hBb2, hsb⟩ := two_new wa #[.func (.func gf) #[] lb] 84 (bc Bt.zero (.slice none 0 0)) 28
  rw [hsa] at hBb1 hBb2
  have EA := Lib.hid ea; have EB := Lib.hid eb
  have HF := Lib.hid (hFa.trans hFb)
  have HR := Lib.hid (hBa1.keep hFb); have HSS : Hid (Box wb (w.heap.size + 1) 45 #[.int .u32 (ss.toNat : Nat)]) := Lib.hid (hBa2.keep hFb); have HFU : Hid (Box wb (w.heap.size + 1 + 1) 84 #[.func (.func gf) #[] lb]) := Lib.hid hBb1; have HZ : Hid (Box wb (w.heap.size + 1 + 1 + 1) 28 (bc Bt.zero (.slice none 0 0))) := Lib.hid hBb2
  have HBD := Lib.hid (Sl.keep hb (hFa.trans hFb)); have HK0 := Lib.hid hK
  have HSB : Hid (wb.heap.size = w.heap.size + 4) := Lib.hid (by omega)
  clear hFa hBa1 hBa2 hsa hFb hBb1 hBb2 hsb ea eb hb hK
  gi_upto_region 1 with fail
  rw [EA.out]
  first | rw [EB.out] | (have := EB.out; simp only [bc_zero] at this; rw [this]; clear this)
  clear EA EB
  generalize hg6 : w.heap.size + 1 + 1 + 1 = g6 at *
  generalize hg5 : w.heap.size + 1 + 1 = g5 at *
  generalize hg4 : w.heap.size + 1 = g4 at *
  have HG : Hid (g4 = w.heap.size + 1 ∧ g5 = w.heap.size + 2 ∧ g6 = w.heap.size + 3) := Lib.hid (by omega)
  clear hg4 hg5 hg6
  gi_wp2_with (refine wpListIn_load_row_w rfl 58 (.tmp 3) rfl w.heap.size rfl 58 _ _ HR.out Try.underlying58 rfl (by kernel_rfl) ?_)
  refine ⟨trivial, ?_⟩
  refine (callsIn_wide.2 (pBytes_any (r := r) ⟨_, rfl, HBD.out⟩ hs)).mono ?_
  rintro e w2 ⟨v2, rfl, ⟨vx, rfl, hO⟩, hF⟩
  obtain ⟨ax, nx, cx, rfl⟩ := hO.isSlice
  have HO := Lib.hid (OwnB.mono hO (show w.heap.size + 4 ≤ wb.heap.size by have := HSB.out; omega))
  have HF := Lib.hid (HF.out.trans hF)
  have HR := Lib.hid (HR.out.keep hF)
  have HSS := Lib.hid (HSS.out.keep hF)
  have HFU := Lib.hid (HFU.out.keep hF)
  have HZ := Lib.hid (HZ.out.keep hF)
  have HZ4 := Lib.hid hF.size
  clear hO hF HBD
  have HZ2 : Hid (w.heap.size + 4 ≤ w2.heap.size) := Lib.hid (by have := HSB.out; have := HZ4.out; omega)
  gi_upto_region 2 with (refine wpListIn_store_row rfl 28 (.tmp 8) (.tmp 15) rfl w2.heap.size rfl _ (bc r.bt.cut (.slice ax nx cx)) rfl 28 (Box.new w2 28 (bc Bt.zero (.slice none 0 0))) (by kernel_rfl) rfl (by simp [bc, Value.oneCell']) ?_; intro w3 hY hG; have hFn := ((Fr.refl [] w2).alloc _).step hG (by simp); have HFn := Lib.hid hFn; have HY := Lib.hid hY; clear hG hFn hY)
  have hF := HFn.out
  have HOB : Hid (∀ b, blockOf (.slice ax nx cx) = some b → b < w2.heap.size) := Lib.hid (fun b hb => (HO.out.block b hb).2)
  have HF := Lib.hid (HF.out.trans hF)
  have HR := Lib.hid (HR.out.keep hF)
  have HSS := Lib.hid (HSS.out.keep hF)
  have HFU := Lib.hid (HFU.out.keep hF)
  have HZ := Lib.hid (HZ.out.keep hF)
  have HO := Lib.hid (HO.out.keep hF)
  have HX := HY
  clear hF HFn HY
  generalize hgX : w2.heap.size = X at *
  clear hgX
  gi_upto_region 3 with fail
  have HXP := HX
  obtain ⟨w4, e4, hF, hB4, hs4⟩ := one_new w3 #[.slice none 0 0] 77
  rw [e4]
  have HF := Lib.hid (HF.out.trans hF)
  have HR := Lib.hid (HR.out.keep hF)
  have HSS := Lib.hid (HSS.out.keep hF)
  have HFU := Lib.hid (HFU.out.keep hF)
  have HZ := Lib.hid (HZ.out.keep hF)
  have HO := Lib.hid (HO.out.keep hF)
  have HX := Lib.hid (HX.out.keep hF)
  have HXL := Lib.hid HXP.out.lt
  have HM := Lib.hid hB4; have HM4 := Lib.hid hB4
  have HXM : Hid (X < w3.heap.size) := HXL
  clear e4 hF hB4 hs4 HXL
  generalize hgM : w3.heap.size = M at *
  clear hgM
  have x8 := HR.out.cell 8; have x9 := HR.out.cell 9; have x10 := HR.out.cell 10
  simp only [rpc, List.getElem?_toArray, List.getElem?_cons_succ, List.getElem?_cons_zero] at x8 x9 x10
  gi_wp2_with fail
  clear x8 x9 x10
  refine ⟨trivial, ?_⟩
  refine (callsIn_wide.2 (cvEach_any r.base r.m _)).mono ?_
  rintro e w5 ⟨rfl, hB3, hB4, hF⟩
  have HF := Lib.hid (HF.out.trans hF)
  have HR := Lib.hid (HR.out.keep hF)
  have HSS := Lib.hid (HSS.out.keep hF)
  have HFU := Lib.hid (HFU.out.keep hF)
  have HZ := Lib.hid (HZ.out.keep hF)
  have HO := Lib.hid (HO.out.keep hF)
  have HX := Lib.hid (HX.out.keep hF)
  have HM := Lib.hid (HM.out.keep hF)
  have HME : Hid (M < w4.heap.size) := Lib.hid HM4.out.lt
  have HXX : Hid (∀ p ∈ [(X, 8), (M, 0)], p.1 < w5.heap.size) := Lib.hid (fun p hp => by
    simp only [List.mem_cons, List.not_mem_nil, or_false] at hp
    rcases hp with rfl | rfl
    · exact HX.out.lt
    · exact HM.out.lt)
  have HCX : Hid (w5.cell? ⟨X, 8, none⟩ = some (.slice ax nx cx)) := Lib.hid (HX.out.cell 8)
  have HCM : Hid (w5.cell? ⟨M, 0, none⟩ = some (.slice none 0 0)) := Lib.hid (HM.out.cell 0)
  have HLow : Hid (Low [(X, 8), (M, 0)] w5) := Lib.hid (fun p hp v b hv hb => by
    simp only [List.mem_cons, List.not_mem_nil, or_false] at hp
    rcases hp with rfl | rfl
    · rw [HCX.out] at hv; cases hv; exact (HO.out.block b hb).2
    · rw [HCM.out] at hv; cases hv; simp [blockOf] at hb)
  have HSEQ := Lib.hid (cvEach1_seq (w := w5) 11 (by omega) (w4.heap.size + 1) w4.heap.size r.m r.base [(X, 8), (M, 0)] HXX.out hB4 hB3 (fun p hp => by
    simp only [List.mem_cons, List.not_mem_nil, or_false] at hp
    rcases hp with rfl | rfl
    · refine ⟨by have := HXM.out; have := HME.out; simp; omega, fun v hv hb => ?_⟩
      rw [HCX.out] at hv; cases hv
      have := HOB.out _ hb; have := HXM.out; have := HME.out; omega
    · refine ⟨by have := HME.out; simp; omega, fun v hv hb => ?_⟩
      rw [HCM.out] at hv; cases hv; simp [blockOf] at hb))
  have HR0 : Hid (RRel w5 w5 (w.heap.size + 4) X M (sAt K ss r [])) := Lib.hid ⟨⟨.slice ax nx cx, .slice none 0 0, HX.out, HO.out, HM.out, World.ownsRow_nil _ _ _ _, fun b hb => by have := HOB.out b hb; have := HXM.out; refine ⟨by omega, by omega, by simp [blockOf]⟩⟩, Fr.refl _ _⟩
  clear hB3 hB4 hF HCX HCM
  gi_wp2
  refine wpIn_rangeAll rfl (by omega) (gf := 119) (lb := #[.pointer (some ⟨w4.heap.size + 1, 0, none⟩), .pointer (some ⟨w4.heap.size, 0, none⟩)]) rfl trivial (enters_of Try.func119 (by kernel_rfl) rfl) HSEQ.out (Below.refl _ _) (fun _ => rfl) HXX.out HLow.out
    (fun pre W' => RRel w5 W' (w.heap.size + 4) X M (sAt K ss r pre))
    (RRel.abx (sAt K ss r) HX.out.lt HM.out.lt)
    HR0.out
    (fun i => { tmps := #[.agg (rpc r (.slice a n c)), .int .u32 (ss.toNat : Nat), .func (.func gf) #[] lb, .pointer (some ⟨w.heap.size, 0, none⟩), .pointer (some ⟨g4, 0, none⟩), .pointer (some ⟨g5, 0, none⟩), .pointer (some ⟨g6, 0, none⟩), .slice none 0 0, .pointer (some ⟨X, 0, none⟩), .pointer (some ⟨M, 0, none⟩), undef, .int .u16 ((add16 r.base (i : Nat)).toNat : Nat), undef, undef, .agg (rpc r (.slice a n c)), .agg (bc r.bt.cut (.slice ax nx cx)), .pointer (some ⟨w.heap.size, 8, none⟩), .int .u16 (r.base.toNat : Nat), .pointer (some ⟨w.heap.size, 9, none⟩), .int .u64 (r.m.hi.toNat : Nat), .pointer (some ⟨w.heap.size, 10, none⟩), .int .u64 (r.m.lo.toNat : Nat), .agg #[.int .u64 (r.m.hi.toNat : Nat), .int .u64 (r.m.lo.toNat : Nat)], .func (.func 119) #[] #[.pointer (some ⟨w4.heap.size + 1, 0, none⟩), .pointer (some ⟨w4.heap.size, 0, none⟩)], .int .i64 i, .int .u16 ((add16 r.base (i : Nat)).toNat : Nat), undef, undef, undef, undef, undef, undef, undef, undef, undef, undef, undef, undef, undef, undef, undef, undef, undef], defers := [] }) ?assign ?body ?done
  case assign =>
    intro l' x W' K' hK'
    gi_wp2
    exact hK'
  case body =>
    rintro l' pre i W' hl' hpre ⟨⟨vb, v, hX, hO', hM, hOwn, hsep⟩, hFr⟩ hlw hsz
    have hlen : pre.length + 1 ≤ 128 := by
      have h1 := hpre.length_le
      have h2 := r.m.list_len
      simp at h1
      omega
    have hSN := sAt_snoc K ss r pre i
    have hSS := sAt_small (K := K) (ss := ss) (pre := pre) hs
    have hSM := sAt_miss (K := K) (ss := ss) (r := r) (pre := pre)
    generalize sAt K ss r pre = s at *
    generalize add16 r.base (i : Nat) = q at *
    obtain ⟨x, ms⟩ := s
    simp only at hX hO' hM hOwn hSS hSM
    have HSN := Lib.hid hSN; have HSS' := Lib.hid hSS; have HSM := Lib.hid hSM
    obtain ⟨ab, nb, cb, rfl⟩ := hO'.isSlice
    obtain ⟨am, cm, rfl⟩ : ∃ a c, v = .slice a ms.length c := by
      have := Sl.shape (Sl.ofOwn hOwn)
      simpa using this
    have HFW : Hid (Fr [] w W') := Lib.hid (HF.out.step hFr (fun x hx => .inr (by have := HZ2.out; have := HXM.out; simp at hx; omega)))
    have HS4 := Lib.hid (HSS.out.fr hFr (by have := HG.out; have := HZ2.out; have := HXM.out; simp; omega))
    have HU5 := Lib.hid (HFU.out.fr hFr (by have := HG.out; have := HZ2.out; have := HXM.out; simp; omega))
    have x4 := HS4.out.cell 0; have x5 := HU5.out.cell 0
    simp only [List.getElem?_toArray, List.getElem?_cons_zero] at x4 x5
    have HBX := Lib.hid hX; have HBO := Lib.hid hO'; have HBM := Lib.hid hM; have HOW := Lib.hid hOwn; have HSEP := Lib.hid hsep; have HFR := Lib.hid hFr
    clear hX hO' hM hOwn hsep hFr hSN hSS hSM
    gi_wp2_with fail
    clear x4 x5
    refine ⟨trivial, ?_⟩
    refine (CallsIn.inRound l' (callsIn_wide.2 (svLook_any (HK0.out.keep HFW.out) q ss))).mono ?_
    rintro e w6 ⟨vy, rfl, ⟨vz, rfl, hz⟩, hF⟩
    obtain ⟨az, nz, cz, rfl⟩ := Sl.isSlice hz
    have HZB := Lib.hid hz
    have HLO : Hid (∀ b, blockOf (.slice ab nb cb) = some b → b < W'.heap.size) := Lib.hid (fun b hb => (HBO.out.block b hb).2)
    have HLM : Hid (∀ b, blockOf (.slice am ms.length cm) = some b → w5.heap.size ≤ b ∧ b < W'.heap.size) := Lib.hid (fun b hb => Own.block HOW.out b hb)
    have HBOW := Lib.hid HBO.out; have HBXW := Lib.hid HBX.out; have HBMW := Lib.hid HBM.out; have HOWW := Lib.hid HOW.out
    have HFD := Lib.hid hF
    have HBX := Lib.hid (HBX.out.keep hF)
    have HBO := Lib.hid (HBO.out.keep hF)
    have HBM := Lib.hid (HBM.out.keep hF)
    have HOW := Lib.hid (Own.keep HOW.out hF)
    clear hF hz
    have HZS : Hid (((lookB K ss q).getD Bt.zero).body.length ≤ 1099511627776) := Lib.hid (by
      cases hlk : lookB K ss q with
      | none => simp [Bt.zero]
      | some y => have := lookB_small hlk; show y.body.length ≤ _; omega)
    gi_upto_region 6 with (refine wpListIn_store_row rfl 28 (.tmp 12) (.tmp 31) rfl w6.heap.size rfl _ (bc ((lookB K ss q).getD Bt.zero) (.slice az nz cz)) rfl 28 (Box.new w6 28 (bc Bt.zero (.slice none 0 0))) (by kernel_rfl) rfl (by simp [bc, Value.oneCell']) ?_; intro w7 hY hG; have hFn := ((Fr.refl [] w6).alloc _).step hG (by simp); have HFn := Lib.hid hFn; have HY := Lib.hid hY; clear hG hFn hY)
    have hF := HFn.out
    have HFD := Lib.hid (HFD.out.trans hF)
    have HBX := Lib.hid (HBX.out.keep hF)
    have HBO := Lib.hid (HBO.out.keep hF)
    have HBM := Lib.hid (HBM.out.keep hF)
    have HOW := Lib.hid (Own.keep HOW.out hF)
    have HZB := Lib.hid (Sl.keep HZB.out hF)
    have HYB := HY
    clear hF HFn HY
    generalize hgY : w6.heap.size = Y at *
    clear hgY
    have hnX : ¬ Gd [(X, 8), (M, 0)] W' X := fun h => (h (X, 8) (by simp)).1 rfl
    have hnM : ¬ Gd [(X, 8), (M, 0)] W' M := fun h => (h (M, 0) (by simp)).1 rfl
    have hnb : ∀ b, blockOf (.slice ab nb cb) = some b → ¬ Gd [(X, 8), (M, 0)] W' b := fun b hb h => (h (X, 8) (by simp)).2 _ (by exact HBXW.out.cell 8) hb
    have hnm : ∀ b, blockOf (.slice am ms.length cm) = some b → ¬ Gd [(X, 8), (M, 0)] W' b := fun b hb h => (h (M, 0) (by simp)).2 _ (by exact HBMW.out.cell 0) hb
    have HNX := Lib.hid hnX; have HNM := Lib.hid hnM; have HNB := Lib.hid hnb; have HNN := Lib.hid hnm
    clear hnX hnM hnb hnm
    cases hlk : lookB K ss q with
    | some y =>
      have HST : Hid (sAt K ss r (pre ++ [i]) = (x.add y, ms)) := Lib.hid (by rw [HSN.out]; unfold restStep; rw [hlk])
      rw [hlk] at HYB HZB HZS
      have HYB : Hid (Box w7 Y 28 (bc y (.slice az nz cz))) := HYB
      have HZB : Hid (Bytes w7 (.slice az nz cz) y.body) := HZB
      have HZS : Hid (y.body.length ≤ 1099511627776) := HZS
      clear hlk
      gi_wp2_with (first | (refine wpListIn_load_row_w rfl 28 (.tmp 8) rfl X rfl 28 _ _ HBX.out Try.underlying28 rfl (by kernel_rfl) ?_) | (refine wpListIn_load_row_w rfl 28 (.tmp 12) rfl Y rfl 28 _ _ HYB.out Try.underlying28 rfl (by kernel_rfl) ?_))
      refine ⟨trivial, ?_⟩
      refine (CallsIn.inRound l' (callsIn_wide.2 (impAdd_any (x := x) (y := y) ⟨_, rfl, HBO.out.bytes⟩ ⟨_, rfl, HZB.out⟩ HSS'.out HZS.out))).mono ?_
      rintro e w8 ⟨v8, rfl, ⟨vo, rfl, hO8⟩, hF⟩
      obtain ⟨ao, no, co, rfl⟩ := hO8.isSlice
      have HO8 := Lib.hid hO8
      have HFD7 := Lib.hid HFD.out.size
      have HFD := Lib.hid (HFD.out.trans hF)
      have HBX := Lib.hid (HBX.out.keep hF)
      have HBO := Lib.hid (HBO.out.keep hF)
      have HBM := Lib.hid (HBM.out.keep hF)
      have HOW := Lib.hid (Own.keep HOW.out hF)
      have HZB := Lib.hid (Sl.keep HZB.out hF)
      have HYB := Lib.hid (HYB.out.keep hF)
      clear hF hO8
      gi_wp2_with (refine wpListIn_store_row rfl 28 (.tmp 8) (.tmp 36) rfl X rfl _ (bc (x.add y) (.slice ao no co)) rfl 28 HBX.out (by kernel_rfl) rfl (by simp [bc, Value.oneCell']) ?_; intro w9 hY hG)
      have hxl := HXX.out (X, 8) (by simp); have hml := HXX.out (M, 0) (by simp)
      simp only at hxl hml
      have hob := HO8.out.block
      have z7 := HFD7.out; have z8 := hG.size; have z9 := HFD.out.size; have zx := HXM.out; have zz := HZ2.out
      have hMX : M ≠ X := by omega
      have hBM9 := HBM.out.fr hG (by simp; omega)
      have hOW9 := Own.fr HOW.out hG (fun b hb hm => by have := (HLM.out b hb).1; simp at hm; omega)
      have hO9 := HO8.out.fr hG (fun b hb hm => by have := (hob b hb).1; simp at hm; omega)
      refine ⟨Kx.body (HFD.out.any.trans hG) ?_ ?_, ?_⟩
      · intro g hg
        simp only [List.mem_singleton] at hg
        subst hg
        exact .inr ⟨HNX.out, _, HBXW.out, rfl⟩
      · intro p hp v b hv hb
        simp only [List.mem_cons, List.not_mem_nil, or_false] at hp
        rcases hp with rfl | rfl
        · have := hY.cell 8
          rw [show w9.cell? ⟨X, 8, none⟩ = some (.slice ao no co) from this] at hv
          cases hv
          have := hob b hb
          exact ⟨by omega, .inl (by omega)⟩
        · have := hBM9.cell 0
          rw [show w9.cell? ⟨M, 0, none⟩ = some (.slice am ms.length cm) from this] at hv
          cases hv
          have := HLM.out b hb
          exact ⟨by omega, .inr (HNN.out b hb)⟩
      · show RRel w5 _ (w.heap.size + 4) X M (sAt K ss r (pre ++ [i]))
        rw [HST.out]
        refine ⟨⟨.slice ao no co, .slice am ms.length cm, hY, hO9.mono (by omega), hBM9, hOW9, fun b hb => ?_⟩, HFR.out.step (HFD.out.any.trans hG) (fun x hx => .inl (by simp at hx; simp [hx]))⟩
        have := (hob b hb).1
        refine ⟨by omega, by omega, fun hb2 => ?_⟩
        have := HLM.out b hb2
        omega
    | none =>
      have HST : Hid (sAt K ss r (pre ++ [i]) = (x, ms ++ [q])) := Lib.hid (by rw [HSN.out]; unfold restStep; rw [hlk])
      clear hlk
      have x0 := HBM.out.cell 0
      simp only [List.getElem?_toArray, List.getElem?_cons_zero] at x0
      obtain ⟨w8, e8, hF8, hB8, hs8⟩ := one_new w7 #[.int .u16 (q.toNat : Nat)] 42
      have E8 := Lib.hid e8; have HF8 := Lib.hid hF8
      have HCELL : Hid (∀ (j : Nat) (u : Value), [W16 q][j]? = some u → w8.cell? ((⟨w7.heap.size, 0, none⟩ : Addr).add j) = some u) := Lib.hid (fun j u hj => by
        have : j = 0 := by
          have := (List.getElem?_eq_some_iff.1 hj).1
          simp at this
          exact this
        subst this
        simp at hj
        subst hj
        have h3 := hB8.cell 0
        simp only [List.getElem?_toArray, List.getElem?_cons_zero] at h3
        rw [Addr.add_mid, Nat.add_zero]
        exact h3)
      have HOWN := Lib.hid (Own.keep HOW.out hF8); have HBM8 := Lib.hid (HBM.out.keep hF8)
      have L8 : Hid (w5.heap.size ≤ w8.heap.size) := Lib.hid (by have := HFD.out.size; have := hF8.size; omega)
      have HSM1 : Hid (ms.length + 1 ≤ 128) := Lib.hid (by have := HSM.out; omega)
      clear e8 hF8 hB8 hs8
      gi_wp2_with (gi_at_builtin; (rw [E8.out]); refine wpListIn_append_fr rfl (.tmp 37) (.tmp 39) 77 rfl w5.heap.size 42 (.int .u16 0) 1 2 Try.underlying77 info_u16 rfl (by omega) (.slice am ms.length cm) ms.length (ms.map W16) rfl HOWN.out ⟨w7.heap.size, 0, none⟩ 1 1 [W16 q] rfl rfl HCELL.out (by simp [W16, Value.oneCell']) (by have := HSM1.out; unfold maxLen; omega) (by have := HSM1.out; omega) L8.out ?_; intro v9 w9 hown9 hfr9 hbl9 _; have HOWN9 := Lib.hid hown9; have HFR9 := Lib.hid hfr9; have HBL9 := Lib.hid hbl9; obtain ⟨a9, c9, rfl⟩ : ∃ a c, v9 = .slice a (ms.length + 1) c := (by have h := Sl.shape (Sl.ofOwn hown9); simpa using h); clear hown9 hfr9 hbl9; have hM9 := HBM8.out.fr HFR9.out (fun hm => by have h := (HLM.out _ (by simpa using hm)).1; have := HXX.out (M, 0) (by simp); simp at this; omega); have x9 := hM9.cell 0; have f9 := hM9.free 0; (simp only [List.getElem?_toArray, List.getElem?_cons_zero] at x9); have HM9 := Lib.hid hM9; clear hM9)
      obtain ⟨w10, e10, hF10, hB10, hs10⟩ := set_new HM9.out 0 (.slice a9 (ms.length + 1) c9)
      rw [e10]
      simp only [List.setIfInBounds_toArray, List.set_cons_zero] at hB10
      have hxl := HXX.out (X, 8) (by simp); have hml := HXX.out (M, 0) (by simp)
      simp only at hxl hml
      have z7 := HFD.out.size; have z8 := HF8.out.size; have z9 := HFR9.out.size; have zx := HXM.out; have zz := HZ2.out
      have hown9 := Own.block HOWN9.out
      have hv9 : ∀ b, blockOf (.slice a9 (ms.length + 1) c9) = some b → b ≠ M ∧ b < w10.heap.size ∧ (W'.heap.size ≤ b ∨ ¬ Gd [(X, 8), (M, 0)] W' b) := fun b hb => by
        have h1 := hown9 b hb
        refine ⟨by omega, by omega, ?_⟩
        rcases HBL9.out b hb with h | h
        · exact .inr (HNN.out b h)
        · exact .inl (by omega)
      have hfr : Fr ((blockOf (.slice am ms.length cm)).toList ++ [M]) W' w10 := (((HFD.out.trans HF8.out).any).trans (HFR9.out.mono (fun x hx => by simp [hx]))).trans (hF10.mono (fun x hx => by simp at hx; simp [hx]))
      have hmm : ∀ b, b ∈ (blockOf (.slice am ms.length cm)).toList ++ [M] → b = M ∨ w5.heap.size ≤ b := fun b hb => by
        rcases List.mem_append.1 hb with hb | hb
        · exact .inr (HLM.out b (mem_toList.1 hb)).1
        · exact .inl (by simpa using hb)
      have hnx : X ∉ (blockOf (.slice am ms.length cm)).toList ++ [M] := fun hm => by
        rcases hmm X hm with h | h <;> omega
      have hX10 := HBXW.out.fr hfr hnx
      have hnb : ∀ b, blockOf (.slice ab nb cb) = some b → b ∉ (blockOf (.slice am ms.length cm)).toList ++ [M] := fun b hb hm => by
        have h1 := HSEP.out b hb
        rcases List.mem_append.1 hm with hm | hm
        · exact h1.2.2 (mem_toList.1 hm)
        · exact h1.2.1 (by simpa using hm)
      have hO10 := OwnB.fr HBOW.out hfr hnb
      refine ⟨Kx.body hfr ?_ ?_, ?_⟩
      · intro g hg
        rcases List.mem_append.1 hg with hg | hg
        · have hg' := mem_toList.1 hg
          refine .inr ⟨HNN.out g hg', ?_⟩
          obtain ⟨-, h | ⟨g', cap, cur, ev, hbg, hgg, -⟩⟩ := HOWW.out
          · rw [h.1] at hg'; simp [blockOf] at hg'
          · rw [ev] at hg'
            simp only [blockOf, Option.some.injEq] at hg'
            subst hg'
            exact ⟨_, hgg, rfl⟩
        · simp only [List.mem_singleton] at hg
          subst hg
          exact .inr ⟨HNM.out, _, HBMW.out, rfl⟩
      · intro p hp v b hv hb
        simp only [List.mem_cons, List.not_mem_nil, or_false] at hp
        rcases hp with rfl | rfl
        · have := hX10.cell 8
          rw [show w10.cell? ⟨X, 8, none⟩ = some (.slice ab nb cb) from this] at hv
          cases hv
          have := HLO.out b hb
          exact ⟨by omega, .inr (HNB.out b hb)⟩
        · have := hB10.cell 0
          rw [show w10.cell? ⟨M, 0, none⟩ = some (.slice a9 (ms.length + 1) c9) from this] at hv
          cases hv
          exact ⟨(hv9 b hb).2.1, (hv9 b hb).2.2⟩
      · show RRel w5 _ (w.heap.size + 4) X M (sAt K ss r (pre ++ [i]))
        rw [HST.out]
        have h := HOWN9.out
        rw [show ms.map W16 ++ [W16 q] = (ms ++ [q]).map W16 by simp] at h
        refine ⟨⟨.slice ab nb cb, .slice a9 (ms.length + 1) c9, hX10, hO10, hB10, ?_, fun b hb => ?_⟩, HFR.out.step hfr (fun x hx => ?_)⟩
        · rw [show (x, ms ++ [q]).2.length = ms.length + 1 by simp]
          exact Own.fr h hF10 (fun b hb hm => by simp at hm; exact (hv9 b hb).1 hm)
        · have h1 := HSEP.out b hb
          refine ⟨h1.1, h1.2.1, fun hb2 => ?_⟩
          rcases HBL9.out b hb2 with h2 | h2
          · exact h1.2.2 h2
          · have := HLO.out b hb; omega
        · rcases hmm x hx with h | h
          · exact .inl (by simp [h])
          · exact .inr h
  case done =>
    rintro D W' hD ⟨⟨vb, v, hX, hO', hM, hOwn, hsep⟩, hFr⟩ hK hDk
    have hxl := HXX.out (X, 8) (by simp); have hml := HXX.out (M, 0) (by simp)
    simp only at hxl hml
    have zx := HXM.out; have zz := HZ2.out; have zg := HG.out
    have hRL : sAt K ss r r.m.list = restL K ss r := rfl
    rw [hRL] at hX hO' hOwn
    have hz0 := HZ.out.fr hFr (by simp; omega)
    obtain ⟨x, ms, hRE⟩ : ∃ x ms, restL K ss r = (x, ms) := ⟨_, _, rfl⟩
    rw [hRE] at hX hO' hOwn
    have HRE := Lib.hid hRE
    clear hRE
    simp only at hX hO' hOwn
    obtain ⟨ab, nb, cb, rfl⟩ := hO'.isSlice
    obtain ⟨am, cm, rfl⟩ : ∃ a c, v = .slice a ms.length c := by
      have := Sl.shape (Sl.ofOwn hOwn)
      simpa using this
    have hfd := (Fr.refl [] W').drew
    have hFW : Fr [] w W' := HF.out.step hFr (fun x hx => .inr (by simp at hx; omega))
    have hdk : W'.drew.heap[D]? = some (.deferred (some [])) := hDk
    have HXd := Lib.hid (hX.keep hfd); have HMd := Lib.hid (hM.keep hfd); have HOd := Lib.hid (hO'.keep hfd); have HWd := Lib.hid (Own.keep hOwn hfd); have HZd := Lib.hid (hz0.keep hfd); have HDd := Lib.hid hdk
    have HFW := Lib.hid (hFW.trans hfd)
    have HNB : Hid (∀ b, blockOf (.slice ab nb cb) = some b → w.heap.size + 4 ≤ b) := Lib.hid (fun b hb => (hO'.block b hb).1)
    have HNM : Hid (∀ b, blockOf (.slice am ms.length cm) = some b → w5.heap.size ≤ b) := Lib.hid (fun b hb => (Own.block hOwn b hb).1)
    have HND : Hid (∀ b, (blockOf (.slice ab nb cb) = some b ∨ blockOf (.slice am ms.length cm) = some b) → b ≠ D) := Lib.hid (fun b hb e => by
      subst e
      rcases hb with hb | hb
      · exact own_ne hO' hDk b hb rfl
      · exact own_ne hOwn hDk b hb rfl)
    have xM := HMd.out.cell 0
    simp only [List.getElem?_toArray, List.getElem?_cons_zero] at xM
    have hmx : Try.prog.follows .mixedOrders = true := by kernel_rfl
    clear hX hO' hM hOwn hsep hFr hz0 hfd hFW hdk hRL hDk hK
    gi_wp2_with fail
    have HF5Z : Hid (w5.heap.size ≤ D ∧ w.heap.size + 4 ≤ w5.heap.size) := Lib.hid ⟨by omega, by omega⟩
    clear hxl hml zx zz zg
    refine wpIn_region_any (by assumption) ?_
    try (change wpAnyIn _ _ _ _ _ _ _ _ _ (World.drew _))
    refine wpAnyIn_ready (rs := [0, 1]) (by kernel_rfl) (by simp) ?_
    refine AllReadyIn.cons rfl (fun K hK => ?_) ?_
    · refine stepIn_load_row (by rfl) 28 (.tmp 8) rfl X rfl 28 _ _ HXd.out Try.underlying28 rfl (by kernel_rfl) ?_
      refine hK _ _ ?_
      clear hK K
      try simp only [Act.put, List.getElem_toArray, List.getElem_cons_zero, List.getElem_cons_succ, List.setIfInBounds_toArray, List.set_cons_zero, List.set_cons_succ]
      refine wpAnyIn_ready (rs := [1, 2]) (by kernel_rfl) (by simp) ?_
      refine AllReadyIn.cons rfl (fun K hK => ?_) ?_
      · go_simp
        refine hK _ _ ?_
        clear hK K
        try simp only [Act.put, List.getElem_toArray, List.getElem_cons_zero, List.getElem_cons_succ, List.setIfInBounds_toArray, List.set_cons_zero, List.set_cons_succ]
        refine wpAnyIn_ready (rs := [2]) (by kernel_rfl) (by simp) ?_
        refine AllReadyIn.cons rfl (fun K hK => ?_) ?_
        · refine stepIn_store_row (by rfl) 28 (.tmp 6) (.tmp 41) rfl g6 rfl _ (bc x (.slice ab nb cb)) rfl 28 HZd.out (by kernel_rfl) rfl (by simp [bc, Value.oneCell']) ?_
          intro w9 hY hG
          have HG9 := Lib.hid hG; have HY9 := Lib.hid hY
          clear hY hG
          have xM9 := (HMd.out.fr HG9.out (by have := HG.out; have := HXM.out; have := HZ2.out; simp; omega)).cell 0
          simp only [List.getElem?_toArray, List.getElem?_cons_zero] at xM9
          refine hK _ _ ?_
          clear hK K
          try simp only [Act.put, List.getElem_toArray, List.getElem_cons_zero, List.getElem_cons_succ, List.setIfInBounds_toArray, List.set_cons_zero, List.set_cons_succ]
          refine wpAnyIn_ready (rs := [3]) (by kernel_rfl) (by simp) ?_
          refine AllReadyIn.cons rfl (fun K hK => ?_) ?_
          · go_simp
            refine hK _ _ ?_
            clear hK K
            try simp only [Act.put, List.getElem_toArray, List.getElem_cons_zero, List.getElem_cons_succ, List.setIfInBounds_toArray, List.set_cons_zero, List.set_cons_succ]
            refine wpAnyIn_done (by kernel_rfl) ?_ _
            gi_wp2_with fail
            have hDk9 : w9.heap[D]? = some (.deferred (some [])) := (HG9.out.block D (Array.getElem?_eq_some_iff.1 HDd.out).1 (by have := HG.out; have := HF5Z.out; simp; omega)).trans HDd.out
            refine ⟨by simp, .inl ⟨_, _, rfl, run_takeDeferred hDk9, ?_⟩⟩
            have hFD : Fr [D] w9 (w9.putObj D (.deferred none)) := Fr.ofGrown (grownBy_putObj' w9 D _)
            have hDg : D ≠ g6 := by have := HG.out; have := HF5Z.out; omega
            have hY2 := HY9.out.fr hFD (by simp; omega)
            have hO2 := (HOd.out.fr HG9.out (fun b hb hm => by have := HNB.out b hb; have := HG.out; simp at hm; omega)).fr hFD (fun b hb hm => HND.out b (.inl hb) (by simpa using hm))
            have hW2 := Own.fr (Own.fr HWd.out HG9.out (fun b hb hm => by have := HNM.out b hb; have := HG.out; have := HF5Z.out; simp at hm; omega)) hFD (fun b hb hm => HND.out b (.inr hb) (by simpa using hm))
            exact ⟨_, results_row_1 rfl _ _ g6 28 _ _ rfl hY2 Try.underlying28 rfl (by kernel_rfl), _, _, rfl, by rw [HRE.out]; exact ⟨_, rfl, hO2.bytes⟩, by rw [HRE.out]; exact Sl.ofOwn hW2, (HFW.out.step HG9.out (fun x hx => .inr (by have := HG.out; simp at hx; omega))).step hFD (fun x hx => .inr (by have := HF5Z.out; simp at hx; omega))⟩
          exact AllReadyIn.nil
        exact AllReadyIn.nil
      refine AllReadyIn.cons rfl (fun K hK => ?_) ?_
      · refine stepIn_store_row (by rfl) 28 (.tmp 6) (.tmp 41) rfl g6 rfl _ (bc x (.slice ab nb cb)) rfl 28 HZd.out (by kernel_rfl) rfl (by simp [bc, Value.oneCell']) ?_
        intro w9 hY hG
        have HG9 := Lib.hid hG; have HY9 := Lib.hid hY
        clear hY hG
        have xM9 := (HMd.out.fr HG9.out (by have := HG.out; have := HXM.out; have := HZ2.out; simp; omega)).cell 0
        simp only [List.getElem?_toArray, List.getElem?_cons_zero] at xM9
        refine hK _ _ ?_
        clear hK K
        try simp only [Act.put, List.getElem_toArray, List.getElem_cons_zero, List.getElem_cons_succ, List.setIfInBounds_toArray, List.set_cons_zero, List.set_cons_succ]
        refine wpAnyIn_ready (rs := [1]) (by kernel_rfl) (by simp) ?_
        refine AllReadyIn.cons rfl (fun K hK => ?_) ?_
        · go_simp
          refine hK _ _ ?_
          clear hK K
          try simp only [Act.put, List.getElem_toArray, List.getElem_cons_zero, List.getElem_cons_succ, List.setIfInBounds_toArray, List.set_cons_zero, List.set_cons_succ]
          refine wpAnyIn_ready (rs := [3]) (by kernel_rfl) (by simp) ?_
          refine AllReadyIn.cons rfl (fun K hK => ?_) ?_
          · go_simp
            refine hK _ _ ?_
            clear hK K
            try simp only [Act.put, List.getElem_toArray, List.getElem_cons_zero, List.getElem_cons_succ, List.setIfInBounds_toArray, List.set_cons_zero, List.set_cons_succ]
            refine wpAnyIn_done (by kernel_rfl) ?_ _
            gi_wp2_with fail
            have hDk9 : w9.heap[D]? = some (.deferred (some [])) := (HG9.out.block D (Array.getElem?_eq_some_iff.1 HDd.out).1 (by have := HG.out; have := HF5Z.out; simp; omega)).trans HDd.out
            refine ⟨by simp, .inl ⟨_, _, rfl, run_takeDeferred hDk9, ?_⟩⟩
            have hFD : Fr [D] w9 (w9.putObj D (.deferred none)) := Fr.ofGrown (grownBy_putObj' w9 D _)
            have hDg : D ≠ g6 := by have := HG.out; have := HF5Z.out; omega
            have hY2 := HY9.out.fr hFD (by simp; omega)
            have hO2 := (HOd.out.fr HG9.out (fun b hb hm => by have := HNB.out b hb; have := HG.out; simp at hm; omega)).fr hFD (fun b hb hm => HND.out b (.inl hb) (by simpa using hm))
            have hW2 := Own.fr (Own.fr HWd.out HG9.out (fun b hb hm => by have := HNM.out b hb; have := HG.out; have := HF5Z.out; simp at hm; omega)) hFD (fun b hb hm => HND.out b (.inr hb) (by simpa using hm))
            exact ⟨_, results_row_1 rfl _ _ g6 28 _ _ rfl hY2 Try.underlying28 rfl (by kernel_rfl), _, _, rfl, by rw [HRE.out]; exact ⟨_, rfl, hO2.bytes⟩, by rw [HRE.out]; exact Sl.ofOwn hW2, (HFW.out.step HG9.out (fun x hx => .inr (by have := HG.out; simp at hx; omega))).step hFD (fun x hx => .inr (by have := HF5Z.out; simp at hx; omega))⟩
          exact AllReadyIn.nil
        exact AllReadyIn.nil
      exact AllReadyIn.nil
    refine AllReadyIn.cons rfl (fun K hK => ?_) ?_
    · go_simp
      refine hK _ _ ?_
      clear hK K
      try simp only [Act.put, List.getElem_toArray, List.getElem_cons_zero, List.getElem_cons_succ, List.setIfInBounds_toArray, List.set_cons_zero, List.set_cons_succ]
      refine wpAnyIn_ready (rs := [0]) (by kernel_rfl) (by simp) ?_
      refine AllReadyIn.cons rfl (fun K hK => ?_) ?_
      · refine stepIn_load_row (by rfl) 28 (.tmp 8) rfl X rfl 28 _ _ HXd.out Try.underlying28 rfl (by kernel_rfl) ?_
        refine hK _ _ ?_
        clear hK K
        try simp only [Act.put, List.getElem_toArray, List.getElem_cons_zero, List.getElem_cons_succ, List.setIfInBounds_toArray, List.set_cons_zero, List.set_cons_succ]
        refine wpAnyIn_ready (rs := [2]) (by kernel_rfl) (by simp) ?_
        refine AllReadyIn.cons rfl (fun K hK => ?_) ?_
        · refine stepIn_store_row (by rfl) 28 (.tmp 6) (.tmp 41) rfl g6 rfl _ (bc x (.slice ab nb cb)) rfl 28 HZd.out (by kernel_rfl) rfl (by simp [bc, Value.oneCell']) ?_
          intro w9 hY hG
          have HG9 := Lib.hid hG; have HY9 := Lib.hid hY
          clear hY hG
          have xM9 := (HMd.out.fr HG9.out (by have := HG.out; have := HXM.out; have := HZ2.out; simp; omega)).cell 0
          simp only [List.getElem?_toArray, List.getElem?_cons_zero] at xM9
          refine hK _ _ ?_
          clear hK K
          try simp only [Act.put, List.getElem_toArray, List.getElem_cons_zero, List.getElem_cons_succ, List.setIfInBounds_toArray, List.set_cons_zero, List.set_cons_succ]
          refine wpAnyIn_ready (rs := [3]) (by kernel_rfl) (by simp) ?_
          refine AllReadyIn.cons rfl (fun K hK => ?_) ?_
          · go_simp
            refine hK _ _ ?_
            clear hK K
            try simp only [Act.put, List.getElem_toArray, List.getElem_cons_zero, List.getElem_cons_succ, List.setIfInBounds_toArray, List.set_cons_zero, List.set_cons_succ]
            refine wpAnyIn_done (by kernel_rfl) ?_ _
            gi_wp2_with fail
            have hDk9 : w9.heap[D]? = some (.deferred (some [])) := (HG9.out.block D (Array.getElem?_eq_some_iff.1 HDd.out).1 (by have := HG.out; have := HF5Z.out; simp; omega)).trans HDd.out
            refine ⟨by simp, .inl ⟨_, _, rfl, run_takeDeferred hDk9, ?_⟩⟩
            have hFD : Fr [D] w9 (w9.putObj D (.deferred none)) := Fr.ofGrown (grownBy_putObj' w9 D _)
            have hDg : D ≠ g6 := by have := HG.out; have := HF5Z.out; omega
            have hY2 := HY9.out.fr hFD (by simp; omega)
            have hO2 := (HOd.out.fr HG9.out (fun b hb hm => by have := HNB.out b hb; have := HG.out; simp at hm; omega)).fr hFD (fun b hb hm => HND.out b (.inl hb) (by simpa using hm))
            have hW2 := Own.fr (Own.fr HWd.out HG9.out (fun b hb hm => by have := HNM.out b hb; have := HG.out; have := HF5Z.out; simp at hm; omega)) hFD (fun b hb hm => HND.out b (.inr hb) (by simpa using hm))
            exact ⟨_, results_row_1 rfl _ _ g6 28 _ _ rfl hY2 Try.underlying28 rfl (by kernel_rfl), _, _, rfl, by rw [HRE.out]; exact ⟨_, rfl, hO2.bytes⟩, by rw [HRE.out]; exact Sl.ofOwn hW2, (HFW.out.step HG9.out (fun x hx => .inr (by have := HG.out; simp at hx; omega))).step hFD (fun x hx => .inr (by have := HF5Z.out; simp at hx; omega))⟩
          exact AllReadyIn.nil
        exact AllReadyIn.nil
      exact AllReadyIn.nil
    exact AllReadyIn.nil
end Go.Proofs.Ytchbgiindfoepaa

/- The walks of solve.One, Check, Count (printed by gen_one.py). -/
namespace Go.Proofs.Ytchbgiindfoepaa
open Go.RowKit

def oneF (ss : UInt32) (x : Bt) : List UInt16 → UInt16 × List UInt8 × Int
  | [] => (0, [], 40)
  | [n] => match x.pack n ss with
    | .ok b => (n, b, 0)
    | .error _ => (0, [], 42)
  | _ :: _ :: _ => (0, [], 41)
def oneL (K : UInt16 → Option (List UInt8)) (ss : UInt32) (r : Rep_) : UInt16 × List UInt8 × Int :=
  if r.m.hi = 0 ∧ r.m.lo = 0 then (0, [], 30) else oneF ss (restL K ss r).1 (restL K ss r).2
theorem oneF_ok {ss : UInt32} {x : Bt} {n : UInt16} {b : List UInt8} (h : x.pack n ss = .ok b) : oneF ss x [n] = (n, b, 0) := by simp only [oneF, h]
theorem oneF_err {ss : UInt32} {x : Bt} {n : UInt16} {k : Int} (h : x.pack n ss = .error k) : oneF ss x [n] = (0, [], 42) := by simp only [oneF, h]
theorem oneL_ne {K : UInt16 → Option (List UInt8)} {ss : UInt32} {r : Rep_} {x : Bt} {ms : List UInt16} (hz : ¬(r.m.hi = 0 ∧ r.m.lo = 0)) (h : restL K ss r = (x, ms)) : oneL K ss r = oneF ss x ms := by unfold oneL; rw [if_neg hz, h]
def checkL (K : UInt16 → Option (List UInt8)) (ss : UInt32) (r : Rep_) : Bool := (restL K ss r).2.isEmpty && (restL K ss r).1.same Bt.zero
theorem bv_beq0 (a : BitVec 64) : (((a.toNat : Nat) : Int) == 0) = (a == 0) := by
  rw [Bool.eq_iff_iff]
  simp [← BitVec.toNat_inj]
theorem restL_small {K : UInt16 → Option (List UInt8)} {ss : UInt32} {r : Rep_} (h : r.bt.body.length ≤ 1099511627776) : (restL K ss r).1.body.length ≤ 1099511627776 := rest_small _ _ h (by omega)
set_option maxRecDepth 100000 in
set_option maxHeartbeats 8000000 in
theorem svCount_any {w : World} {v : Value} {r : Rep_} {gf : Nat} {lb : Array Value} {K : UInt16 → Option (List UInt8)} (h : RpV w v r) (hs : r.bt.body.length ≤ 1099511627776) (hK : Knows w gf lb K) (ss : UInt32) :
    Calls Try.prog 48 #[v, .func (.func gf) #[] lb, .int .u32 (ss.toNat : Nat)] w fun e w' => e = .returned (.int .i64 ((restL K ss r).2.length : Nat)) ∧ Fr [] w w' := by
  obtain ⟨vb, rfl, hb⟩ := h
  obtain ⟨a, n, c, rfl⟩ := Sl.isSlice hb
  obtain ⟨w1, e1, hF1, hB1, hs1⟩ := one_new w (rpc r (.slice a n c)) 58
  have HF := Lib.hid hF1; have HR := Lib.hid hB1; have E1 := Lib.hid e1; have HK := Lib.hid (hK.keep hF1); have HBD := Lib.hid (Sl.keep hb hF1)
  clear hF1 hB1 e1 hs1 hb hK
  go_enter Try.func48, Try.ntmps48
  go_upto_region 1 with fail
  rw [E1.out]
  clear E1
  go_wp2_with (refine wpList_load_row_w rfl 58 (.tmp 3) rfl w.heap.size rfl 58 _ _ HR.out Try.underlying58 rfl (by kernel_rfl) ?_)
  refine (svRest_any (r := r) ⟨_, rfl, HBD.out⟩ hs HK.out ss).mono ?_
  rintro e w2 ⟨vx, vm, rfl, ⟨vz, rfl, hz⟩, hm, hF⟩
  have hxs := restL_small (K := K) (ss := ss) (r := r) hs
  have HRE0 : Hid (restL K ss r = ((restL K ss r).1, (restL K ss r).2)) := Lib.hid rfl
  have HXS := Lib.hid hxs
  obtain ⟨x, ms, hRE⟩ : ∃ x ms, restL K ss r = (x, ms) := ⟨_, _, rfl⟩
  rw [hRE] at hz hm HXS ⊢
  clear hxs HRE0
  obtain ⟨az, nz, cz, rfl⟩ := Sl.isSlice hz
  obtain ⟨am, cm, rfl⟩ : ∃ a c, vm = .slice a ms.length c := by
    have := Sl.shape hm
    simpa using this
  have HZ := Lib.hid hz; have HM := Lib.hid hm; have HRE := Lib.hid hRE
  have HF := Lib.hid (HF.out.trans hF)
  have HR := Lib.hid (HR.out.keep hF)
  clear hF hz hm hRE HK HBD
  go_upto_region 2 with (refine wpList_store_row rfl 28 (.tmp 7) (.tmp 14) rfl w2.heap.size rfl _ _ rfl 28 (Box.new w2 28 (bc Bt.zero (.slice none 0 0))) (by kernel_rfl) rfl (by simp [bc, Value.oneCell']) ?_; intro w3 hY hG; have hFn := ((Fr.refl [] w2).alloc _).step hG (by simp); have HFn := Lib.hid hFn; have HY := Lib.hid hY; clear hG hFn hY)
  have hF := HFn.out
  have HF := Lib.hid (HF.out.trans hF)
  have HR := Lib.hid (HR.out.keep hF)
  have HZ := Lib.hid (Sl.keep HZ.out hF)
  have HM := Lib.hid (Sl.keep HM.out hF)
  have HX := HY
  clear hF HFn HY
  generalize hgx : w2.heap.size = gx at *
  clear hgx
  go_wp2_with fail
  go_ret
  exact ⟨by rw [HRE.out]; rfl, HF.out⟩
set_option maxRecDepth 100000 in
set_option maxHeartbeats 8000000 in
theorem svCheck_any {w : World} {v : Value} {r : Rep_} {gf : Nat} {lb : Array Value} {K : UInt16 → Option (List UInt8)} (h : RpV w v r) (hs : r.bt.body.length ≤ 1099511627776) (hK : Knows w gf lb K) (ss : UInt32) :
    Calls Try.prog 52 #[v, .int .u32 (ss.toNat : Nat), .func (.func gf) #[] lb] w fun e w' => e = .returned (.bool (checkL K ss r)) ∧ Fr [] w w' := by
  obtain ⟨vb, rfl, hb⟩ := h
  obtain ⟨a, n, c, rfl⟩ := Sl.isSlice hb
  obtain ⟨w1, e1, hF1, hB1, hs1⟩ := one_new w (rpc r (.slice a n c)) 58
  have HF := Lib.hid hF1; have HR := Lib.hid hB1; have E1 := Lib.hid e1; have HK := Lib.hid (hK.keep hF1); have HBD := Lib.hid (Sl.keep hb hF1)
  clear hF1 hB1 e1 hs1 hb hK
  go_enter Try.func52, Try.ntmps52
  go_upto_region 1 with fail
  rw [E1.out]
  clear E1
  go_wp2_with (refine wpList_load_row_w rfl 58 (.tmp 3) rfl w.heap.size rfl 58 _ _ HR.out Try.underlying58 rfl (by kernel_rfl) ?_)
  refine (svRest_any (r := r) ⟨_, rfl, HBD.out⟩ hs HK.out ss).mono ?_
  rintro e w2 ⟨vx, vm, rfl, ⟨vz, rfl, hz⟩, hm, hF⟩
  have hxs := restL_small (K := K) (ss := ss) (r := r) hs
  have HRE0 : Hid (restL K ss r = ((restL K ss r).1, (restL K ss r).2)) := Lib.hid rfl
  have HXS := Lib.hid hxs
  obtain ⟨x, ms, hRE⟩ : ∃ x ms, restL K ss r = (x, ms) := ⟨_, _, rfl⟩
  rw [hRE] at hz hm HXS ⊢
  clear hxs HRE0
  obtain ⟨az, nz, cz, rfl⟩ := Sl.isSlice hz
  obtain ⟨am, cm, rfl⟩ : ∃ a c, vm = .slice a ms.length c := by
    have := Sl.shape hm
    simpa using this
  have HZ := Lib.hid hz; have HM := Lib.hid hm; have HRE := Lib.hid hRE
  have HF := Lib.hid (HF.out.trans hF)
  have HR := Lib.hid (HR.out.keep hF)
  clear hF hz hm hRE HK HBD
  go_upto_region 2 with (refine wpList_store_row rfl 28 (.tmp 7) (.tmp 14) rfl w2.heap.size rfl _ _ rfl 28 (Box.new w2 28 (bc Bt.zero (.slice none 0 0))) (by kernel_rfl) rfl (by simp [bc, Value.oneCell']) ?_; intro w3 hY hG; have hFn := ((Fr.refl [] w2).alloc _).step hG (by simp); have HFn := Lib.hid hFn; have HY := Lib.hid hY; clear hG hFn hY)
  have hF := HFn.out
  have HF := Lib.hid (HF.out.trans hF)
  have HR := Lib.hid (HR.out.keep hF)
  have HZ := Lib.hid (Sl.keep HZ.out hF)
  have HM := Lib.hid (Sl.keep HM.out hF)
  have HX := HY
  clear hF HFn HY
  generalize hgx : w2.heap.size = gx at *
  clear hgx
  cases ms with
  | cons n rest =>
    simp only [List.length_cons] at HM ⊢
    go_wp2_with fail
    go_ret
    exact ⟨by unfold checkL; rw [HRE.out]; rfl, HF.out⟩
  | nil =>
    obtain ⟨x0, x1, x2, x3, x4, x5, x6, x7, x8⟩ := HX.out.bcells
    simp only [List.length_nil] at HM ⊢
    go_wp2_with fail
    refine (impEmpty_any (x := x) ⟨_, rfl, HZ.out⟩ HXS.out).mono ?_
    rintro e w4 ⟨rfl, hF⟩
    have HF := Lib.hid (HF.out.trans hF)
    clear hF x0 x1 x2 x3 x4 x5 x6 x7 x8
    go_wp2_with fail
    go_ret
    exact ⟨by unfold checkL; rw [HRE.out]; simp, HF.out⟩
end Go.Proofs.Ytchbgiindfoepaa

/- The walk of solve.One (printed by gen_one.py). -/
namespace Go.Proofs.Ytchbgiindfoepaa
open Go.RowKit

theorem res_tmp3 {fn : Func} {t u s : Tmp} (h : fn.results = #[.tmp t, .tmp u, .tmp s]) (tmps : Array Value) (P : Program) (w : World) :
    (results fn tmps).run P w = .ok (.tuple #[tmps.getD t undef, tmps.getD u undef, tmps.getD s undef]) w := by
  simp [results, h]
set_option maxRecDepth 100000 in
set_option maxHeartbeats 8000000 in
theorem svOne_any {w : World} {v : Value} {r : Rep_} {gf : Nat} {lb : Array Value} {K : UInt16 → Option (List UInt8)} (h : RpV w v r) (hs : r.bt.body.length ≤ 1099511627776) (hK : Knows w gf lb K) (ss : UInt32) :
    Calls Try.prog 43 #[v, .int .u32 (ss.toNat : Nat), .func (.func gf) #[] lb] w fun e w' => ∃ v', e = .returned (.tuple #[.int .u16 ((oneL K ss r).1.toNat : Nat), v', .int .i64 (oneL K ss r).2.2]) ∧ Bytes w' v' (oneL K ss r).2.1 ∧ Fr [] w w' := by
  obtain ⟨vb, rfl, hb⟩ := h
  obtain ⟨a, n, c, rfl⟩ := Sl.isSlice hb
  obtain ⟨w1, e1, hF1, hB1, hs1⟩ := one_new w (rpc r (.slice a n c)) 58
  have HF := Lib.hid hF1; have HR := Lib.hid hB1; have E1 := Lib.hid e1; have HK := Lib.hid (hK.keep hF1); have HBD := Lib.hid (Sl.keep hb hF1)
  clear hF1 hB1 e1 hs1 hb hK
  go_enter Try.func43, Try.ntmps43
  go_upto_region 1 with fail
  rw [E1.out]
  clear E1
  go_wp2_with (refine wpList_load_row_w rfl 58 (.tmp 3) rfl w.heap.size rfl 58 _ _ HR.out Try.underlying58 rfl (by kernel_rfl) ?_)
  refine (svRest_any (r := r) ⟨_, rfl, HBD.out⟩ hs HK.out ss).mono ?_
  rintro e w2 ⟨vx, vm, rfl, ⟨vz, rfl, hz⟩, hm, hF⟩
  have hxs := restL_small (K := K) (ss := ss) (r := r) hs
  have HRE0 : Hid (restL K ss r = ((restL K ss r).1, (restL K ss r).2)) := Lib.hid rfl
  have HXS := Lib.hid hxs
  obtain ⟨x, ms, hRE⟩ : ∃ x ms, restL K ss r = (x, ms) := ⟨_, _, rfl⟩
  rw [hRE] at hz hm HXS ⊢
  clear hxs HRE0
  obtain ⟨az, nz, cz, rfl⟩ := Sl.isSlice hz
  obtain ⟨am, cm, rfl⟩ : ∃ a c, vm = .slice a ms.length c := by
    have := Sl.shape hm
    simpa using this
  have HZ := Lib.hid hz; have HM := Lib.hid hm; have HRE := Lib.hid hRE
  have HF := Lib.hid (HF.out.trans hF)
  have HR := Lib.hid (HR.out.keep hF)
  clear hF hz hm hRE HK HBD
  go_upto_region 2 with (refine wpList_store_row rfl 28 (.tmp 9) (.tmp 18) rfl w2.heap.size rfl _ _ rfl 28 (Box.new w2 28 (bc Bt.zero (.slice none 0 0))) (by kernel_rfl) rfl (by simp [bc, Value.oneCell']) ?_; intro w3 hY hG; have hFn := ((Fr.refl [] w2).alloc _).step hG (by simp); have HFn := Lib.hid hFn; have HY := Lib.hid hY; clear hG hFn hY)
  have hF := HFn.out
  have HF := Lib.hid (HF.out.trans hF)
  have HR := Lib.hid (HR.out.keep hF)
  have HZ := Lib.hid (Sl.keep HZ.out hF)
  have HM := Lib.hid (Sl.keep HM.out hF)
  have HX := HY
  clear hF HFn HY
  generalize hgx : w2.heap.size = gx at *
  clear hgx
  have x9 := HR.out.cell 9; have x10 := HR.out.cell 10
  simp only [rpc, List.getElem?_toArray, List.getElem?_cons_succ, List.getElem?_cons_zero] at x9 x10
  by_cases hz : r.m.hi = 0 ∧ r.m.lo = 0
  · have t1 : (((r.m.hi.toNat : Nat) : Int) == 0) = true := by rw [bv_beq0, hz.1]; rfl
    have t2 : (((r.m.lo.toNat : Nat) : Int) == 0) = true := by rw [bv_beq0, hz.2]; rfl
    have HL : Hid (oneL K ss r = (0, [], 30)) := Lib.hid (by unfold oneL; rw [if_pos hz])
    clear hz
    go_upto_region 3 with fail
    clear t1 t2 x9 x10
    go_wp2_with fail
    exact bodyPost_ret (res_tmp3 rfl _ _ _) rfl ⟨.slice none 0 0, by rw [HL.out]; rfl, by rw [HL.out]; exact Sl.nil _, HF.out⟩
  have HOL : Hid (oneL K ss r = oneF ss x ms) := Lib.hid (oneL_ne hz HRE.out)
  have hor : (((r.m.hi.toNat : Nat) : Int) == 0) = false ∨ (((r.m.hi.toNat : Nat) : Int) == 0) = true ∧ (((r.m.lo.toNat : Nat) : Int) == 0) = false := by
    rw [bv_beq0, bv_beq0]
    by_cases h1 : r.m.hi = 0
    · right
      exact ⟨by simpa using h1, by simpa using fun h2 => hz ⟨h1, h2⟩⟩
    · left
      simpa using h1
  have HOR := Lib.hid hor
  clear hz hor
  cases ms with
  | nil =>
    have HL : Hid (oneL K ss r = (0, [], 40)) := Lib.hid (HOL.out.trans rfl)
    simp only [List.length_nil] at HM ⊢
    rcases HOR.out with t1 | ⟨t1, t2⟩
    · go_upto_region 5 with fail
      clear t1 x9 x10
      go_wp2_with fail
      exact bodyPost_ret (res_tmp3 rfl _ _ _) rfl ⟨.slice none 0 0, by rw [HL.out]; rfl, by rw [HL.out]; exact Sl.nil _, HF.out⟩
    · go_upto_region 5 with fail
      clear t1 t2 x9 x10
      go_wp2_with fail
      exact bodyPost_ret (res_tmp3 rfl _ _ _) rfl ⟨.slice none 0 0, by rw [HL.out]; rfl, by rw [HL.out]; exact Sl.nil _, HF.out⟩
  | cons n rest =>
    cases rest with
    | cons m rest =>
      have HL : Hid (oneL K ss r = (0, [], 41)) := Lib.hid (HOL.out.trans rfl)
      simp only [List.length_cons] at HM ⊢
      rcases HOR.out with t1 | ⟨t1, t2⟩
      · go_upto_region 7 with fail
        clear t1 x9 x10
        go_wp2_with fail
        exact bodyPost_ret (res_tmp3 rfl _ _ _) rfl ⟨.slice none 0 0, by rw [HL.out]; rfl, by rw [HL.out]; exact Sl.nil _, HF.out⟩
      · go_upto_region 7 with fail
        clear t1 t2 x9 x10
        go_wp2_with fail
        exact bodyPost_ret (res_tmp3 rfl _ _ _) rfl ⟨.slice none 0 0, by rw [HL.out]; rfl, by rw [HL.out]; exact Sl.nil _, HF.out⟩
    | nil =>
      obtain ⟨b, o, ea, -, hc⟩ := Sl.at_ HM.out (k := 0) (by simp)
      subst ea
      have HC : Hid (w3.cell? ⟨b, o, none⟩ = some (.int .u16 (n.toNat : Nat))) := Lib.hid (by have := hc 0 _ rfl; simpa [W16] using this)
      clear hc
      simp only [List.length_cons, List.length_nil, Nat.zero_add] at HM ⊢
      have HW0 : Hid (Fr [] w w3) := Lib.hid HF.out
      cases hpk : x.pack n ss with
      | ok l0 =>
        have HL : Hid (oneL K ss r = (n, l0, 0)) := Lib.hid (HOL.out.trans (oneF_ok hpk))
        have HPK := Lib.hid hpk
        clear hpk
        rcases HOR.out with t1 | ⟨t1, t2⟩
        · go_upto_region 8 with fail
          clear t1 x9 x10
          refine wp_region_T (fun w' => Fr [] w3.drew w') [] 11 #[false, false, false, false, false, false, false, false, false, false, false] (by kernel_rfl) rfl rfl ?_
          have hF := (Fr.refl [] w3).drew
          have HF := Lib.hid (HF.out.trans hF)
          have HR := Lib.hid (HR.out.keep hF)
          have HZ := Lib.hid (Sl.keep HZ.out hF)
          have HM := Lib.hid (Sl.keep HM.out hF)
          have HX := Lib.hid (HX.out.keep hF)
          have HC := Lib.hid (hF.cellSome HC.out (by simp))
          clear hF
          have HSS : Hid (Fr [] w3.drew w3.drew) := Lib.hid (Fr.refl _ _)
          generalize w3.drew = wd at *
          refine wpAnyT_load (i := 0) (v := ?_) rfl (by kernel_rfl) (by kernel_rfl) (by kernel_rfl) (by kernel_rfl) (by kernel_rfl) (fun _ _ _ h => h) HSS.out (by rfl) ?_ ?_
          rotate_left
          · intro w' hSw; refine run_load_row 28 (.tmp 9) ?_ gx ?_ 28 _ _ (HX.out.keep hSw) Try.underlying28 rfl (by kernel_rfl) <;> rfl
          simp only [Act.put, List.getElem_toArray, List.getElem_cons_zero, List.getElem_cons_succ, List.setIfInBounds_toArray, List.set_cons_zero, List.set_cons_succ]
          refine wpAnyT_load (i := 1) (v := ?_) rfl (by kernel_rfl) (by kernel_rfl) (by kernel_rfl) (by kernel_rfl) (by kernel_rfl) (fun _ _ _ h => h) HSS.out (by rfl) ?_ ?_
          rotate_left
          · intro w hSw; skip; go_simp; try with_reducible rfl
          simp only [Act.put, List.getElem_toArray, List.getElem_cons_zero, List.getElem_cons_succ, List.setIfInBounds_toArray, List.set_cons_zero, List.set_cons_succ]
          refine wpAnyT_load (i := 2) (v := ?_) rfl (by kernel_rfl) (by kernel_rfl) (by kernel_rfl) (by kernel_rfl) (by kernel_rfl) (fun _ _ _ h => h) HSS.out (by rfl) ?_ ?_
          rotate_left
          · intro w hSw; skip; go_simp; try with_reducible rfl
          simp only [Act.put, List.getElem_toArray, List.getElem_cons_zero, List.getElem_cons_succ, List.setIfInBounds_toArray, List.set_cons_zero, List.set_cons_succ]
          refine wpAnyT_load (i := 3) (v := ?_) rfl (by kernel_rfl) (by kernel_rfl) (by kernel_rfl) (by kernel_rfl) (by kernel_rfl) (fun _ _ _ h => h) HSS.out (by rfl) ?_ ?_
          rotate_left
          · intro w hSw; have d0 := hSw.cellSome HC.out (by simp); go_simp; try with_reducible rfl
          simp only [Act.put, List.getElem_toArray, List.getElem_cons_zero, List.getElem_cons_succ, List.setIfInBounds_toArray, List.set_cons_zero, List.set_cons_succ]
          refine wpAnyT_load (i := 4) (v := ?_) rfl (by kernel_rfl) (by kernel_rfl) (by kernel_rfl) (by kernel_rfl) (by kernel_rfl) (fun _ _ _ h => h) HSS.out (by rfl) ?_ ?_
          rotate_left
          · intro w hSw; skip; go_simp; try with_reducible rfl
          simp only [Act.put, List.getElem_toArray, List.getElem_cons_zero, List.getElem_cons_succ, List.setIfInBounds_toArray, List.set_cons_zero, List.set_cons_succ]
          refine wpAnyT_one (i := 5) (by kernel_rfl) rfl (fun K hK => ?_)
          rw [if_pos (by rfl)]
          go_simp
          refine (impPacket_any (x := x) ⟨_, rfl, HZ.out⟩ HXS.out n ss).mono ?_
          rintro e w5 (⟨l, v5, hp2, rfl, hO, hF⟩ | ⟨hp2, rfl, hF⟩)
          rotate_left
          · rw [HPK.out] at hp2; cases hp2
          obtain rfl : l0 = l := by rw [HPK.out] at hp2; cases hp2; rfl
          obtain ⟨a9, n9, c9, rfl⟩ := hO.isSlice
          have HO9 := Lib.hid hO.bytes
          have HSS := Lib.hid (HSS.out.trans hF)
          clear hp2 hO hF
          go_simp
          refine hK.out _ _ (fun _ => HSS.out) ?_
          clear hK K
          simp only [Act.put, List.getElem_toArray, List.getElem_cons_zero, List.getElem_cons_succ, List.setIfInBounds_toArray, List.set_cons_zero, List.set_cons_succ]
          refine wpAnyT_load (i := 6) (v := ?_) rfl (by kernel_rfl) (by kernel_rfl) (by kernel_rfl) (by kernel_rfl) (by kernel_rfl) (fun _ _ _ h => h) HSS.out (by rfl) ?_ ?_
          rotate_left
          · intro w hSw; skip; go_simp; try with_reducible rfl
          simp only [Act.put, List.getElem_toArray, List.getElem_cons_zero, List.getElem_cons_succ, List.setIfInBounds_toArray, List.set_cons_zero, List.set_cons_succ]
          refine wpAnyT_load (i := 7) (v := ?_) rfl (by kernel_rfl) (by kernel_rfl) (by kernel_rfl) (by kernel_rfl) (by kernel_rfl) (fun _ _ _ h => h) HSS.out (by rfl) ?_ ?_
          rotate_left
          · intro w hSw; skip; go_simp; try with_reducible rfl
          simp only [Act.put, List.getElem_toArray, List.getElem_cons_zero, List.getElem_cons_succ, List.setIfInBounds_toArray, List.set_cons_zero, List.set_cons_succ]
          refine wpAnyT_load (i := 8) (v := ?_) rfl (by kernel_rfl) (by kernel_rfl) (by kernel_rfl) (by kernel_rfl) (by kernel_rfl) (fun _ _ _ h => h) HSS.out (by rfl) ?_ ?_
          rotate_left
          · intro w hSw; skip; go_simp; try with_reducible rfl
          simp only [Act.put, List.getElem_toArray, List.getElem_cons_zero, List.getElem_cons_succ, List.setIfInBounds_toArray, List.set_cons_zero, List.set_cons_succ]
          refine wpAnyT_load (i := 9) (v := ?_) rfl (by kernel_rfl) (by kernel_rfl) (by kernel_rfl) (by kernel_rfl) (by kernel_rfl) (fun _ _ _ h => h) HSS.out (by rfl) ?_ ?_
          rotate_left
          · intro w hSw; skip; go_simp; try with_reducible rfl
          simp only [Act.put, List.getElem_toArray, List.getElem_cons_zero, List.getElem_cons_succ, List.setIfInBounds_toArray, List.set_cons_zero, List.set_cons_succ]
          refine wpAnyT_load (i := 10) (v := ?_) rfl (by kernel_rfl) (by kernel_rfl) (by kernel_rfl) (by kernel_rfl) (by kernel_rfl) (fun _ _ _ h => h) HSS.out (by rfl) ?_ ?_
          rotate_left
          · intro w hSw; skip; go_simp; try with_reducible rfl
          simp only [Act.put, List.getElem_toArray, List.getElem_cons_zero, List.getElem_cons_succ, List.setIfInBounds_toArray, List.set_cons_zero, List.set_cons_succ]
          refine wpAnyT_done (by kernel_rfl) ?_ _
          have d0 := HSS.out.cellSome HC.out (by simp)
          go_wp2_with fail
          exact bodyPost_ret (res_tmp3 rfl _ _ _) rfl ⟨.slice a9 n9 c9, by rw [HL.out]; rfl, by rw [HL.out]; exact HO9.out, HF.out.trans HSS.out⟩
        · go_upto_region 8 with fail
          clear t1 t2 x9 x10
          refine wp_region_T (fun w' => Fr [] w3.drew w') [] 11 #[false, false, false, false, false, false, false, false, false, false, false] (by kernel_rfl) rfl rfl ?_
          have hF := (Fr.refl [] w3).drew
          have HF := Lib.hid (HF.out.trans hF)
          have HR := Lib.hid (HR.out.keep hF)
          have HZ := Lib.hid (Sl.keep HZ.out hF)
          have HM := Lib.hid (Sl.keep HM.out hF)
          have HX := Lib.hid (HX.out.keep hF)
          have HC := Lib.hid (hF.cellSome HC.out (by simp))
          clear hF
          have HSS : Hid (Fr [] w3.drew w3.drew) := Lib.hid (Fr.refl _ _)
          generalize w3.drew = wd at *
          refine wpAnyT_load (i := 0) (v := ?_) rfl (by kernel_rfl) (by kernel_rfl) (by kernel_rfl) (by kernel_rfl) (by kernel_rfl) (fun _ _ _ h => h) HSS.out (by rfl) ?_ ?_
          rotate_left
          · intro w' hSw; refine run_load_row 28 (.tmp 9) ?_ gx ?_ 28 _ _ (HX.out.keep hSw) Try.underlying28 rfl (by kernel_rfl) <;> rfl
          simp only [Act.put, List.getElem_toArray, List.getElem_cons_zero, List.getElem_cons_succ, List.setIfInBounds_toArray, List.set_cons_zero, List.set_cons_succ]
          refine wpAnyT_load (i := 1) (v := ?_) rfl (by kernel_rfl) (by kernel_rfl) (by kernel_rfl) (by kernel_rfl) (by kernel_rfl) (fun _ _ _ h => h) HSS.out (by rfl) ?_ ?_
          rotate_left
          · intro w hSw; skip; go_simp; try with_reducible rfl
          simp only [Act.put, List.getElem_toArray, List.getElem_cons_zero, List.getElem_cons_succ, List.setIfInBounds_toArray, List.set_cons_zero, List.set_cons_succ]
          refine wpAnyT_load (i := 2) (v := ?_) rfl (by kernel_rfl) (by kernel_rfl) (by kernel_rfl) (by kernel_rfl) (by kernel_rfl) (fun _ _ _ h => h) HSS.out (by rfl) ?_ ?_
          rotate_left
          · intro w hSw; skip; go_simp; try with_reducible rfl
          simp only [Act.put, List.getElem_toArray, List.getElem_cons_zero, List.getElem_cons_succ, List.setIfInBounds_toArray, List.set_cons_zero, List.set_cons_succ]
          refine wpAnyT_load (i := 3) (v := ?_) rfl (by kernel_rfl) (by kernel_rfl) (by kernel_rfl) (by kernel_rfl) (by kernel_rfl) (fun _ _ _ h => h) HSS.out (by rfl) ?_ ?_
          rotate_left
          · intro w hSw; have d0 := hSw.cellSome HC.out (by simp); go_simp; try with_reducible rfl
          simp only [Act.put, List.getElem_toArray, List.getElem_cons_zero, List.getElem_cons_succ, List.setIfInBounds_toArray, List.set_cons_zero, List.set_cons_succ]
          refine wpAnyT_load (i := 4) (v := ?_) rfl (by kernel_rfl) (by kernel_rfl) (by kernel_rfl) (by kernel_rfl) (by kernel_rfl) (fun _ _ _ h => h) HSS.out (by rfl) ?_ ?_
          rotate_left
          · intro w hSw; skip; go_simp; try with_reducible rfl
          simp only [Act.put, List.getElem_toArray, List.getElem_cons_zero, List.getElem_cons_succ, List.setIfInBounds_toArray, List.set_cons_zero, List.set_cons_succ]
          refine wpAnyT_one (i := 5) (by kernel_rfl) rfl (fun K hK => ?_)
          rw [if_pos (by rfl)]
          go_simp
          refine (impPacket_any (x := x) ⟨_, rfl, HZ.out⟩ HXS.out n ss).mono ?_
          rintro e w5 (⟨l, v5, hp2, rfl, hO, hF⟩ | ⟨hp2, rfl, hF⟩)
          rotate_left
          · rw [HPK.out] at hp2; cases hp2
          obtain rfl : l0 = l := by rw [HPK.out] at hp2; cases hp2; rfl
          obtain ⟨a9, n9, c9, rfl⟩ := hO.isSlice
          have HO9 := Lib.hid hO.bytes
          have HSS := Lib.hid (HSS.out.trans hF)
          clear hp2 hO hF
          go_simp
          refine hK.out _ _ (fun _ => HSS.out) ?_
          clear hK K
          simp only [Act.put, List.getElem_toArray, List.getElem_cons_zero, List.getElem_cons_succ, List.setIfInBounds_toArray, List.set_cons_zero, List.set_cons_succ]
          refine wpAnyT_load (i := 6) (v := ?_) rfl (by kernel_rfl) (by kernel_rfl) (by kernel_rfl) (by kernel_rfl) (by kernel_rfl) (fun _ _ _ h => h) HSS.out (by rfl) ?_ ?_
          rotate_left
          · intro w hSw; skip; go_simp; try with_reducible rfl
          simp only [Act.put, List.getElem_toArray, List.getElem_cons_zero, List.getElem_cons_succ, List.setIfInBounds_toArray, List.set_cons_zero, List.set_cons_succ]
          refine wpAnyT_load (i := 7) (v := ?_) rfl (by kernel_rfl) (by kernel_rfl) (by kernel_rfl) (by kernel_rfl) (by kernel_rfl) (fun _ _ _ h => h) HSS.out (by rfl) ?_ ?_
          rotate_left
          · intro w hSw; skip; go_simp; try with_reducible rfl
          simp only [Act.put, List.getElem_toArray, List.getElem_cons_zero, List.getElem_cons_succ, List.setIfInBounds_toArray, List.set_cons_zero, List.set_cons_succ]
          refine wpAnyT_load (i := 8) (v := ?_) rfl (by kernel_rfl) (by kernel_rfl) (by kernel_rfl) (by kernel_rfl) (by kernel_rfl) (fun _ _ _ h => h) HSS.out (by rfl) ?_ ?_
          rotate_left
          · intro w hSw; skip; go_simp; try with_reducible rfl
          simp only [Act.put, List.getElem_toArray, List.getElem_cons_zero, List.getElem_cons_succ, List.setIfInBounds_toArray, List.set_cons_zero, List.set_cons_succ]
          refine wpAnyT_load (i := 9) (v := ?_) rfl (by kernel_rfl) (by kernel_rfl) (by kernel_rfl) (by kernel_rfl) (by kernel_rfl) (fun _ _ _ h => h) HSS.out (by rfl) ?_ ?_
          rotate_left
          · intro w hSw; skip; go_simp; try with_reducible rfl
          simp only [Act.put, List.getElem_toArray, List.getElem_cons_zero, List.getElem_cons_succ, List.setIfInBounds_toArray, List.set_cons_zero, List.set_cons_succ]
          refine wpAnyT_load (i := 10) (v := ?_) rfl (by kernel_rfl) (by kernel_rfl) (by kernel_rfl) (by kernel_rfl) (by kernel_rfl) (fun _ _ _ h => h) HSS.out (by rfl) ?_ ?_
          rotate_left
          · intro w hSw; skip; go_simp; try with_reducible rfl
          simp only [Act.put, List.getElem_toArray, List.getElem_cons_zero, List.getElem_cons_succ, List.setIfInBounds_toArray, List.set_cons_zero, List.set_cons_succ]
          refine wpAnyT_done (by kernel_rfl) ?_ _
          have d0 := HSS.out.cellSome HC.out (by simp)
          go_wp2_with fail
          exact bodyPost_ret (res_tmp3 rfl _ _ _) rfl ⟨.slice a9 n9 c9, by rw [HL.out]; rfl, by rw [HL.out]; exact HO9.out, HF.out.trans HSS.out⟩
      | error k0 =>
        have HL : Hid (oneL K ss r = (0, [], 42)) := Lib.hid (HOL.out.trans (oneF_err hpk))
        have HPK := Lib.hid hpk
        clear hpk
        rcases HOR.out with t1 | ⟨t1, t2⟩
        · go_upto_region 8 with fail
          clear t1 x9 x10
          refine wp_region_T (fun w' => Fr [] w3.drew w') [] 11 #[false, false, false, false, false, false, false, false, false, false, false] (by kernel_rfl) rfl rfl ?_
          have hF := (Fr.refl [] w3).drew
          have HF := Lib.hid (HF.out.trans hF)
          have HR := Lib.hid (HR.out.keep hF)
          have HZ := Lib.hid (Sl.keep HZ.out hF)
          have HM := Lib.hid (Sl.keep HM.out hF)
          have HX := Lib.hid (HX.out.keep hF)
          have HC := Lib.hid (hF.cellSome HC.out (by simp))
          clear hF
          have HSS : Hid (Fr [] w3.drew w3.drew) := Lib.hid (Fr.refl _ _)
          generalize w3.drew = wd at *
          refine wpAnyT_load (i := 0) (v := ?_) rfl (by kernel_rfl) (by kernel_rfl) (by kernel_rfl) (by kernel_rfl) (by kernel_rfl) (fun _ _ _ h => h) HSS.out (by rfl) ?_ ?_
          rotate_left
          · intro w' hSw; refine run_load_row 28 (.tmp 9) ?_ gx ?_ 28 _ _ (HX.out.keep hSw) Try.underlying28 rfl (by kernel_rfl) <;> rfl
          simp only [Act.put, List.getElem_toArray, List.getElem_cons_zero, List.getElem_cons_succ, List.setIfInBounds_toArray, List.set_cons_zero, List.set_cons_succ]
          refine wpAnyT_load (i := 1) (v := ?_) rfl (by kernel_rfl) (by kernel_rfl) (by kernel_rfl) (by kernel_rfl) (by kernel_rfl) (fun _ _ _ h => h) HSS.out (by rfl) ?_ ?_
          rotate_left
          · intro w hSw; skip; go_simp; try with_reducible rfl
          simp only [Act.put, List.getElem_toArray, List.getElem_cons_zero, List.getElem_cons_succ, List.setIfInBounds_toArray, List.set_cons_zero, List.set_cons_succ]
          refine wpAnyT_load (i := 2) (v := ?_) rfl (by kernel_rfl) (by kernel_rfl) (by kernel_rfl) (by kernel_rfl) (by kernel_rfl) (fun _ _ _ h => h) HSS.out (by rfl) ?_ ?_
          rotate_left
          · intro w hSw; skip; go_simp; try with_reducible rfl
          simp only [Act.put, List.getElem_toArray, List.getElem_cons_zero, List.getElem_cons_succ, List.setIfInBounds_toArray, List.set_cons_zero, List.set_cons_succ]
          refine wpAnyT_load (i := 3) (v := ?_) rfl (by kernel_rfl) (by kernel_rfl) (by kernel_rfl) (by kernel_rfl) (by kernel_rfl) (fun _ _ _ h => h) HSS.out (by rfl) ?_ ?_
          rotate_left
          · intro w hSw; have d0 := hSw.cellSome HC.out (by simp); go_simp; try with_reducible rfl
          simp only [Act.put, List.getElem_toArray, List.getElem_cons_zero, List.getElem_cons_succ, List.setIfInBounds_toArray, List.set_cons_zero, List.set_cons_succ]
          refine wpAnyT_load (i := 4) (v := ?_) rfl (by kernel_rfl) (by kernel_rfl) (by kernel_rfl) (by kernel_rfl) (by kernel_rfl) (fun _ _ _ h => h) HSS.out (by rfl) ?_ ?_
          rotate_left
          · intro w hSw; skip; go_simp; try with_reducible rfl
          simp only [Act.put, List.getElem_toArray, List.getElem_cons_zero, List.getElem_cons_succ, List.setIfInBounds_toArray, List.set_cons_zero, List.set_cons_succ]
          refine wpAnyT_one (i := 5) (by kernel_rfl) rfl (fun K hK => ?_)
          rw [if_pos (by rfl)]
          go_simp
          refine (impPacket_any (x := x) ⟨_, rfl, HZ.out⟩ HXS.out n ss).mono ?_
          rintro e w5 (⟨l, v5, hp2, rfl, hO, hF⟩ | ⟨hp2, rfl, hF⟩)
          · rw [HPK.out] at hp2; cases hp2
          have HSS := Lib.hid (HSS.out.trans hF)
          clear hp2 hF
          go_simp
          refine hK.out _ _ (fun _ => HSS.out) ?_
          clear hK K
          simp only [Act.put, List.getElem_toArray, List.getElem_cons_zero, List.getElem_cons_succ, List.setIfInBounds_toArray, List.set_cons_zero, List.set_cons_succ]
          refine wpAnyT_load (i := 6) (v := ?_) rfl (by kernel_rfl) (by kernel_rfl) (by kernel_rfl) (by kernel_rfl) (by kernel_rfl) (fun _ _ _ h => h) HSS.out (by rfl) ?_ ?_
          rotate_left
          · intro w hSw; skip; go_simp; try with_reducible rfl
          simp only [Act.put, List.getElem_toArray, List.getElem_cons_zero, List.getElem_cons_succ, List.setIfInBounds_toArray, List.set_cons_zero, List.set_cons_succ]
          refine wpAnyT_load (i := 7) (v := ?_) rfl (by kernel_rfl) (by kernel_rfl) (by kernel_rfl) (by kernel_rfl) (by kernel_rfl) (fun _ _ _ h => h) HSS.out (by rfl) ?_ ?_
          rotate_left
          · intro w hSw; skip; go_simp; try with_reducible rfl
          simp only [Act.put, List.getElem_toArray, List.getElem_cons_zero, List.getElem_cons_succ, List.setIfInBounds_toArray, List.set_cons_zero, List.set_cons_succ]
          refine wpAnyT_load (i := 8) (v := ?_) rfl (by kernel_rfl) (by kernel_rfl) (by kernel_rfl) (by kernel_rfl) (by kernel_rfl) (fun _ _ _ h => h) HSS.out (by rfl) ?_ ?_
          rotate_left
          · intro w hSw; skip; go_simp; try with_reducible rfl
          simp only [Act.put, List.getElem_toArray, List.getElem_cons_zero, List.getElem_cons_succ, List.setIfInBounds_toArray, List.set_cons_zero, List.set_cons_succ]
          refine wpAnyT_load (i := 9) (v := ?_) rfl (by kernel_rfl) (by kernel_rfl) (by kernel_rfl) (by kernel_rfl) (by kernel_rfl) (fun _ _ _ h => h) HSS.out (by rfl) ?_ ?_
          rotate_left
          · intro w hSw; skip; go_simp; try with_reducible rfl
          simp only [Act.put, List.getElem_toArray, List.getElem_cons_zero, List.getElem_cons_succ, List.setIfInBounds_toArray, List.set_cons_zero, List.set_cons_succ]
          refine wpAnyT_load (i := 10) (v := ?_) rfl (by kernel_rfl) (by kernel_rfl) (by kernel_rfl) (by kernel_rfl) (by kernel_rfl) (fun _ _ _ h => h) HSS.out (by rfl) ?_ ?_
          rotate_left
          · intro w hSw; skip; go_simp; try with_reducible rfl
          simp only [Act.put, List.getElem_toArray, List.getElem_cons_zero, List.getElem_cons_succ, List.setIfInBounds_toArray, List.set_cons_zero, List.set_cons_succ]
          refine wpAnyT_done (by kernel_rfl) ?_ _
          go_wp2_with fail
          exact bodyPost_ret (res_tmp3 rfl _ _ _) rfl ⟨.slice none 0 0, by rw [HL.out]; rfl, by rw [HL.out]; exact Sl.nil _, HF.out.trans HSS.out⟩
        · go_upto_region 8 with fail
          clear t1 t2 x9 x10
          refine wp_region_T (fun w' => Fr [] w3.drew w') [] 11 #[false, false, false, false, false, false, false, false, false, false, false] (by kernel_rfl) rfl rfl ?_
          have hF := (Fr.refl [] w3).drew
          have HF := Lib.hid (HF.out.trans hF)
          have HR := Lib.hid (HR.out.keep hF)
          have HZ := Lib.hid (Sl.keep HZ.out hF)
          have HM := Lib.hid (Sl.keep HM.out hF)
          have HX := Lib.hid (HX.out.keep hF)
          have HC := Lib.hid (hF.cellSome HC.out (by simp))
          clear hF
          have HSS : Hid (Fr [] w3.drew w3.drew) := Lib.hid (Fr.refl _ _)
          generalize w3.drew = wd at *
          refine wpAnyT_load (i := 0) (v := ?_) rfl (by kernel_rfl) (by kernel_rfl) (by kernel_rfl) (by kernel_rfl) (by kernel_rfl) (fun _ _ _ h => h) HSS.out (by rfl) ?_ ?_
          rotate_left
          · intro w' hSw; refine run_load_row 28 (.tmp 9) ?_ gx ?_ 28 _ _ (HX.out.keep hSw) Try.underlying28 rfl (by kernel_rfl) <;> rfl
          simp only [Act.put, List.getElem_toArray, List.getElem_cons_zero, List.getElem_cons_succ, List.setIfInBounds_toArray, List.set_cons_zero, List.set_cons_succ]
          refine wpAnyT_load (i := 1) (v := ?_) rfl (by kernel_rfl) (by kernel_rfl) (by kernel_rfl) (by kernel_rfl) (by kernel_rfl) (fun _ _ _ h => h) HSS.out (by rfl) ?_ ?_
          rotate_left
          · intro w hSw; skip; go_simp; try with_reducible rfl
          simp only [Act.put, List.getElem_toArray, List.getElem_cons_zero, List.getElem_cons_succ, List.setIfInBounds_toArray, List.set_cons_zero, List.set_cons_succ]
          refine wpAnyT_load (i := 2) (v := ?_) rfl (by kernel_rfl) (by kernel_rfl) (by kernel_rfl) (by kernel_rfl) (by kernel_rfl) (fun _ _ _ h => h) HSS.out (by rfl) ?_ ?_
          rotate_left
          · intro w hSw; skip; go_simp; try with_reducible rfl
          simp only [Act.put, List.getElem_toArray, List.getElem_cons_zero, List.getElem_cons_succ, List.setIfInBounds_toArray, List.set_cons_zero, List.set_cons_succ]
          refine wpAnyT_load (i := 3) (v := ?_) rfl (by kernel_rfl) (by kernel_rfl) (by kernel_rfl) (by kernel_rfl) (by kernel_rfl) (fun _ _ _ h => h) HSS.out (by rfl) ?_ ?_
          rotate_left
          · intro w hSw; have d0 := hSw.cellSome HC.out (by simp); go_simp; try with_reducible rfl
          simp only [Act.put, List.getElem_toArray, List.getElem_cons_zero, List.getElem_cons_succ, List.setIfInBounds_toArray, List.set_cons_zero, List.set_cons_succ]
          refine wpAnyT_load (i := 4) (v := ?_) rfl (by kernel_rfl) (by kernel_rfl) (by kernel_rfl) (by kernel_rfl) (by kernel_rfl) (fun _ _ _ h => h) HSS.out (by rfl) ?_ ?_
          rotate_left
          · intro w hSw; skip; go_simp; try with_reducible rfl
          simp only [Act.put, List.getElem_toArray, List.getElem_cons_zero, List.getElem_cons_succ, List.setIfInBounds_toArray, List.set_cons_zero, List.set_cons_succ]
          refine wpAnyT_one (i := 5) (by kernel_rfl) rfl (fun K hK => ?_)
          rw [if_pos (by rfl)]
          go_simp
          refine (impPacket_any (x := x) ⟨_, rfl, HZ.out⟩ HXS.out n ss).mono ?_
          rintro e w5 (⟨l, v5, hp2, rfl, hO, hF⟩ | ⟨hp2, rfl, hF⟩)
          · rw [HPK.out] at hp2; cases hp2
          have HSS := Lib.hid (HSS.out.trans hF)
          clear hp2 hF
          go_simp
          refine hK.out _ _ (fun _ => HSS.out) ?_
          clear hK K
          simp only [Act.put, List.getElem_toArray, List.getElem_cons_zero, List.getElem_cons_succ, List.setIfInBounds_toArray, List.set_cons_zero, List.set_cons_succ]
          refine wpAnyT_load (i := 6) (v := ?_) rfl (by kernel_rfl) (by kernel_rfl) (by kernel_rfl) (by kernel_rfl) (by kernel_rfl) (fun _ _ _ h => h) HSS.out (by rfl) ?_ ?_
          rotate_left
          · intro w hSw; skip; go_simp; try with_reducible rfl
          simp only [Act.put, List.getElem_toArray, List.getElem_cons_zero, List.getElem_cons_succ, List.setIfInBounds_toArray, List.set_cons_zero, List.set_cons_succ]
          refine wpAnyT_load (i := 7) (v := ?_) rfl (by kernel_rfl) (by kernel_rfl) (by kernel_rfl) (by kernel_rfl) (by kernel_rfl) (fun _ _ _ h => h) HSS.out (by rfl) ?_ ?_
          rotate_left
          · intro w hSw; skip; go_simp; try with_reducible rfl
          simp only [Act.put, List.getElem_toArray, List.getElem_cons_zero, List.getElem_cons_succ, List.setIfInBounds_toArray, List.set_cons_zero, List.set_cons_succ]
          refine wpAnyT_load (i := 8) (v := ?_) rfl (by kernel_rfl) (by kernel_rfl) (by kernel_rfl) (by kernel_rfl) (by kernel_rfl) (fun _ _ _ h => h) HSS.out (by rfl) ?_ ?_
          rotate_left
          · intro w hSw; skip; go_simp; try with_reducible rfl
          simp only [Act.put, List.getElem_toArray, List.getElem_cons_zero, List.getElem_cons_succ, List.setIfInBounds_toArray, List.set_cons_zero, List.set_cons_succ]
          refine wpAnyT_load (i := 9) (v := ?_) rfl (by kernel_rfl) (by kernel_rfl) (by kernel_rfl) (by kernel_rfl) (by kernel_rfl) (fun _ _ _ h => h) HSS.out (by rfl) ?_ ?_
          rotate_left
          · intro w hSw; skip; go_simp; try with_reducible rfl
          simp only [Act.put, List.getElem_toArray, List.getElem_cons_zero, List.getElem_cons_succ, List.setIfInBounds_toArray, List.set_cons_zero, List.set_cons_succ]
          refine wpAnyT_load (i := 10) (v := ?_) rfl (by kernel_rfl) (by kernel_rfl) (by kernel_rfl) (by kernel_rfl) (by kernel_rfl) (fun _ _ _ h => h) HSS.out (by rfl) ?_ ?_
          rotate_left
          · intro w hSw; skip; go_simp; try with_reducible rfl
          simp only [Act.put, List.getElem_toArray, List.getElem_cons_zero, List.getElem_cons_succ, List.setIfInBounds_toArray, List.set_cons_zero, List.set_cons_succ]
          refine wpAnyT_done (by kernel_rfl) ?_ _
          go_wp2_with fail
          exact bodyPost_ret (res_tmp3 rfl _ _ _) rfl ⟨.slice none 0 0, by rw [HL.out]; rfl, by rw [HL.out]; exact Sl.nil _, HF.out.trans HSS.out⟩
end Go.Proofs.Ytchbgiindfoepaa
