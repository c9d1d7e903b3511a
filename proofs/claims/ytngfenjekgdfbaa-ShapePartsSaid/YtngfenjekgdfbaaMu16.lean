import Derived.Laws.OwnMore
import Derived.Test.YtngfenjekgdfbaaMu14
import Derived.Test.YtngfenjekgdfbaaMu13
import Derived.Test.YtngfenjekgdfbaaMu1
/- Rows of ints of a call's own, each in a block of its own; a shape by a predicate with a state. -/
namespace Go.Proofs.Ytngfenjekgdfbaa
open Go.RowKit

structure RowsAt (w : World) (base : Nat) (v : Value) (s : List (List Int)) (vs : List Value) : Prop where
  len : vs.length = s.length
  own : w.ownsRow base 33 1 v s.length vs
  row : ∀ (i : Nat) (x : Value) (ys : List Int), vs[i]? = some x → s[i]? = some ys → OwnV w base 3 (Value.int .i64) x ys
  apart : ∀ (i j : Nat) (x y : Value) (b : Nat), i ≠ j → vs[i]? = some x → vs[j]? = some y → blockOf x = some b → blockOf y ≠ some b
  off : ∀ (i : Nat) (x : Value) (b : Nat), vs[i]? = some x → blockOf x = some b → blockOf v ≠ some b
def RowsO (w : World) (base : Nat) (v : Value) (s : List (List Int)) : Prop := ∃ vs, RowsAt w base v s vs
namespace RowsAt
variable {w w' : World} {base : Nat} {v : Value} {s : List (List Int)} {vs : List Value}
theorem shape (h : RowsAt w base v s vs) : ∃ a c, v = .slice a s.length c := by
  obtain ⟨a, c, e⟩ := (Sl.ofOwn h.own).shape
  rw [h.len] at e
  exact ⟨a, c, e⟩
theorem irows (h : RowsAt w base v s vs) : IRows w v s := ⟨vs, Sl.ofOwn h.own, h.len, fun i x a hx ha => (h.row i x a hx ha).sl⟩
theorem one (h : RowsAt w base v s vs) : ∀ u ∈ vs, u.oneCell' = true := by
  intro u hu
  obtain ⟨i, hi, rfl⟩ := List.getElem_of_mem hu
  obtain ⟨a, c, e⟩ := (h.row i _ _ (List.getElem?_eq_getElem hi) (List.getElem?_eq_getElem (by rw [← h.len]; exact hi))).shape
  rw [e]
  rfl
theorem fr {S : List Nat} (h : RowsAt w base v s vs) (hf : Fr S w w') (hS : ∀ b ∈ S, b < base) : RowsAt w' base v s vs :=
  ⟨h.len, Own.low h.own hf hS, fun i x ys hx hy => Own.low (h.row i x ys hx hy) hf hS, h.apart, h.off⟩
theorem keep (h : RowsAt w base v s vs) (hf : Fr [] w w') : RowsAt w' base v s vs := h.fr hf (by simp)
theorem mono {base' : Nat} (h : RowsAt w base v s vs) (hb : base' ≤ base) : RowsAt w base' v s vs :=
  ⟨h.len, Own.mono h.own hb, fun i x ys hx hy => Own.mono (h.row i x ys hx hy) hb, h.apart, h.off⟩
theorem block (h : RowsAt w base v s vs) : ∀ b, blockOf v = some b → base ≤ b ∧ b < w.heap.size := Own.block h.own
theorem rowBlock (h : RowsAt w base v s vs) (i : Nat) (x : Value) (hx : vs[i]? = some x) : ∀ b, blockOf x = some b → base ≤ b ∧ b < w.heap.size := by
  have hi := (List.getElem?_eq_some_iff.1 hx).1
  exact Own.block (h.row i x _ hx (List.getElem?_eq_getElem (by rw [← h.len]; exact hi)))
/-- One row more. -/
theorem snoc {v' x : Value} {ys : List Int} (h : RowsAt w base v s vs) (hx : OwnV w base 3 (Value.int .i64) x ys) (hd : ∀ (i : Nat) (y : Value) (b : Nat), vs[i]? = some y → blockOf y = some b → blockOf x ≠ some b) (hdv : ∀ b, blockOf v = some b → blockOf x ≠ some b)
    (hown : w'.ownsRow base 33 1 v' (s.length + 1) (vs ++ [x])) (hf : Fr (blockOf v).toList w w') (hfr : ∀ b, blockOf v' = some b → blockOf v = some b ∨ w.heap.size ≤ b) : RowsAt w' base v' (s ++ [ys]) (vs ++ [x]) := by
  have hat : ∀ (i : Nat) (y : Value), (vs ++ [x])[i]? = some y → vs[i]? = some y ∨ (i = vs.length ∧ y = x) := fun i y hy => by
    by_cases hi : i < vs.length
    · rw [List.getElem?_append_left hi] at hy; exact .inl hy
    · rw [List.getElem?_append_right (by omega)] at hy
      have hi2 := (List.getElem?_eq_some_iff.1 hy).1
      simp at hi2
      have e : i - vs.length = 0 := by omega
      rw [e] at hy
      simp at hy
      exact .inr ⟨by omega, hy.symm⟩
  refine ⟨by simp [h.len], by simpa using hown, ?_, ?_, ?_⟩
  · intro i y zs hy hz
    rcases hat i y hy with h1 | ⟨rfl, rfl⟩
    · have hi := (List.getElem?_eq_some_iff.1 h1).1
      rw [List.getElem?_append_left (by rw [← h.len]; exact hi)] at hz
      exact Own.fr (h.row i y zs h1 hz) hf (fun b hb hm => h.off i y b h1 hb (mem_toList.1 hm))
    · rw [h.len, List.getElem?_append_right (Nat.le_refl _)] at hz
      simp at hz
      subst hz
      exact Own.fr hx hf (fun b hb hm => hdv b (mem_toList.1 hm) hb)
  · intro i j y z b hij hy hz hb
    rcases hat i y hy with h1 | ⟨rfl, rfl⟩
    · rcases hat j z hz with h2 | ⟨rfl, rfl⟩
      · exact h.apart i j y z b hij h1 h2 hb
      · exact hd i y b h1 hb
    · rcases hat j z hz with h2 | ⟨rfl, rfl⟩
      · exact fun hzb => hd j z b h2 hzb hb
      · exact (hij rfl).elim
  · intro i y b hy hb hv
    have hlt : b < w.heap.size := by
      rcases hat i y hy with h1 | ⟨rfl, rfl⟩
      · exact (h.rowBlock i y h1 b hb).2
      · exact (hx.block b hb).2
    rcases hfr b hv with h3 | h3
    · rcases hat i y hy with h1 | ⟨rfl, rfl⟩
      · exact h.off i y b h1 hb h3
      · exact hdv b h3 hb
    · omega
/-- A row that is another. -/
theorem set {x x' : Value} {ys : List Int} {i : Nat} (h : RowsAt w base v s vs) (hx : vs[i]? = some x) (hown : w'.ownsRow base 33 1 v s.length (vs.set i x')) (hx' : OwnV w' base 3 (Value.int .i64) x' ys)
    (hf : Fr ((blockOf v).toList ++ (blockOf x).toList) w w') (hfr : ∀ b, blockOf x' = some b → blockOf x = some b ∨ w.heap.size ≤ b) : RowsAt w' base v (s.set i ys) (vs.set i x') := by
  have hi := (List.getElem?_eq_some_iff.1 hx).1
  have hat : ∀ (j : Nat) (y : Value), (vs.set i x')[j]? = some y → (i ≠ j ∧ vs[j]? = some y) ∨ (i = j ∧ y = x') := fun j y hy => by
    by_cases hij : i = j
    · subst hij
      rw [List.getElem?_set_self hi] at hy
      cases hy
      exact .inr ⟨rfl, rfl⟩
    · rw [List.getElem?_set_ne hij] at hy
      exact .inl ⟨hij, hy⟩
  have hnew : ∀ (j : Nat) (y : Value) (b : Nat), i ≠ j → vs[j]? = some y → blockOf y = some b → blockOf x' ≠ some b := fun j y b hij hy hb hx1 => by
    rcases hfr b hx1 with h1 | h1
    · exact h.apart i j x y b hij hx hy h1 hb
    · have := (h.rowBlock j y hy b hb).2; omega
  refine ⟨by simp [h.len], by simpa using hown, ?_, ?_, ?_⟩
  · intro j y zs hy hz
    rcases hat j y hy with ⟨hij, h1⟩ | ⟨rfl, rfl⟩
    · rw [List.getElem?_set_ne hij] at hz
      refine Own.fr (h.row j y zs h1 hz) hf (fun b hb hm => ?_)
      rcases List.mem_append.1 hm with hm | hm
      · exact h.off j y b h1 hb (mem_toList.1 hm)
      · exact h.apart j i y x b (fun e => hij e.symm) h1 hx hb (mem_toList.1 hm)
    · rw [List.getElem?_set_self (by rw [← h.len]; exact hi)] at hz
      cases hz
      exact hx'
  · intro j k y z b hjk hy hz hb
    rcases hat j y hy with ⟨hij, h1⟩ | ⟨rfl, rfl⟩
    · rcases hat k z hz with ⟨hik, h2⟩ | ⟨rfl, rfl⟩
      · exact h.apart j k y z b hjk h1 h2 hb
      · exact hnew j y b hij h1 hb
    · rcases hat k z hz with ⟨hik, h2⟩ | ⟨rfl, rfl⟩
      · exact fun hzb => hnew k z b hik h2 hzb hb
      · exact (hjk rfl).elim
  · intro j y b hy hb hv
    rcases hat j y hy with ⟨hij, h1⟩ | ⟨rfl, rfl⟩
    · exact h.off j y b h1 hb hv
    · rcases hfr b hb with h1 | h1
      · exact h.off i x b hx h1 hv
      · have := (h.block b hv).2; omega
end RowsAt
namespace RowsO
variable {w w' : World} {base : Nat} {v : Value} {s : List (List Int)}
theorem nil (w : World) (base : Nat) : RowsO w base (.slice none 0 0) [] := ⟨[], rfl, ⟨by simp, .inl ⟨rfl, rfl⟩⟩, by simp, by simp, by simp⟩
theorem made (w : World) (base : Nat) (hb : base ≤ w.heap.size) : RowsO (w.alloc (.cells #[] 33)) base (.slice (some ⟨w.heap.size, 0, none⟩) 0 0) [] :=
  ⟨[], rfl, World.ownsRow_made w #[] 0 hb (by unfold maxLen; omega) (by simp), by simp, by simp, by simp⟩
theorem shape (h : RowsO w base v s) : ∃ a c, v = .slice a s.length c := by obtain ⟨vs, h⟩ := h; exact h.shape
theorem irows (h : RowsO w base v s) : IRows w v s := by obtain ⟨vs, h⟩ := h; exact h.irows
theorem fr {S : List Nat} (h : RowsO w base v s) (hf : Fr S w w') (hS : ∀ b ∈ S, b < base) : RowsO w' base v s := by obtain ⟨vs, h⟩ := h; exact ⟨vs, h.fr hf hS⟩
theorem keep (h : RowsO w base v s) (hf : Fr [] w w') : RowsO w' base v s := h.fr hf (by simp)
theorem mono {base' : Nat} (h : RowsO w base v s) (hb : base' ≤ base) : RowsO w base' v s := by obtain ⟨vs, h⟩ := h; exact ⟨vs, h.mono hb⟩
end RowsO
/-- A row by a predicate with a state. -/
def rowF {σ : Type} (step : σ → Nat → Nat → Bool × σ) (i : Nat) : Nat → σ → List Int × σ
  | 0, s => ([], s)
  | k + 1, s => let r := rowF step i k s; let t := step r.2 i k; (if t.1 then r.1 ++ [((k : Nat) : Int)] else r.1, t.2)
def fillF {σ : Type} (step : σ → Nat → Nat → Bool × σ) (k : Nat) : Nat → σ → List (List Int) × σ
  | 0, s => ([], s)
  | n + 1, s => let r := fillF step k n s; let t := rowF step n k r.2; (r.1 ++ [t.1], t.2)
theorem rowF_len {σ : Type} (step : σ → Nat → Nat → Bool × σ) (i : Nat) (s : σ) : ∀ k, (rowF step i k s).1.length ≤ k
  | 0 => by simp [rowF]
  | k + 1 => by
    have := rowF_len step i s k
    unfold rowF
    dsimp only
    split <;> simp <;> omega
theorem fillF_len {σ : Type} (step : σ → Nat → Nat → Bool × σ) (k : Nat) (s : σ) : ∀ n, (fillF step k n s).1.length = n
  | 0 => rfl
  | n + 1 => by unfold fillF; simp [fillF_len step k s n]
/-- What a function value tells of a repair and a place; with what state. -/
structure HasC {σ : Type} (gf : Nat) (bd lb : Array Value) (step : σ → Nat → Nat → Bool × σ) (Inv : σ → World → Prop) (S : List Nat) (bnd N K : Nat) : Prop where
  eg : ∀ args W, (callFunc gf args).run Try.prog W = .ok (.enter gf args) W
  ask : ∀ (W : World) (s : σ) (i p : Nat), i < N → p < K → Inv s W → Calls Try.prog gf (bd ++ (#[.int .i64 (i : Nat), .int .i64 (p : Nat)] ++ lb)) W fun e W' => e = .returned (.bool (step s i p).1) ∧ Inv (step s i p).2 W' ∧ Fr S W W'
  keep : ∀ (W W' : World) (T : List Nat) (s : σ), Inv s W → Fr T W W' → (∀ b ∈ T, bnd ≤ b) → Inv s W'
  lt : ∀ b ∈ S, b < bnd
set_option maxRecDepth 100000 in
theorem info_ints : (Try.prog.info? 33).map (fun i => (i.zero, i.size, i.bytes)) = some (some (.slice none 0 0), 1, 24) := by kernel_rfl
end Go.Proofs.Ytngfenjekgdfbaa

/- The walk of shape.fill (printed by gen_sh6.py). -/
namespace Go.Proofs.Ytngfenjekgdfbaa
open Go.RowKit

set_option maxRecDepth 100000 in
set_option maxHeartbeats 4000000 in
theorem shFill_any {σ : Type} {gf : Nat} {bd lb : Array Value} {step : σ → Nat → Nat → Bool × σ} {Inv : σ → World → Prop} {S : List Nat} {N K : Nat} {w : World} {s0 : σ} (hC : HasC gf bd lb step Inv S w.heap.size N K) (h0 : Inv s0 w) (hN : N ≤ 48) (hK : K ≤ 48) :
    Calls Try.prog 26 #[.int .i64 (K : Nat), .int .i64 (N : Nat), .func (.func gf) bd lb] w fun e w' => ∃ v, e = .returned v ∧ RowsO w' w.heap.size v (fillF step K N s0).1 ∧ Inv (fillF step K N s0).2 w' ∧ Fr S w w' := by
  have HC := Lib.hid hC; have HI := Lib.hid h0
  have eg := hC.eg
  clear hC h0
  go_enter Try.func26, Try.ntmps26
  go_upto_region 3 with fail
  go_loopw [7, 12] (fun ov iv wr => ∃ (i : Nat) (rows : List (List Int)) (st : σ), i ≤ N ∧ iv = .int .i64 i ∧ fillF step K i s0 = (rows, st) ∧ RowsO wr w.heap.size ov rows ∧ Inv st wr ∧ Fr S w wr) (fun _ iv _ => N - (intOf iv).toNat)
  case atStart => exact ⟨0, [], s0, by omega, rfl, rfl, RowsO.nil _ _, HI.out, Fr.refl _ _⟩
  case round =>
    clear HI
    obtain ⟨i, rows, st, hi, rfl, hr, hO, hI, hF⟩ := hrel
    obtain ⟨ao, co, rfl⟩ := hO.shape
    have HLR : Hid (rows.length ≤ 48) := Lib.hid (by have := fillF_len step K s0 i; rw [hr] at this; simp at this; omega)
    have HR := Lib.hid hr; have HO := Lib.hid hO; have HI := Lib.hid hI; have HF := Lib.hid hF
    clear hr hO hI hF
    by_cases hlt : i < N
    · have HFS : Hid (fillF step K (i + 1) s0 = (rows ++ [(rowF step i K st).1], (rowF step i K st).2)) := Lib.hid (by show (_, _) = _; rw [HR.out])
      go_upto_region 7 with fail
      generalize wr = wo at *
      go_loopw [9, 16] (fun pv iv wr => ∃ (p : Nat) (ys : List Int) (sp : σ), p ≤ K ∧ iv = .int .i64 p ∧ rowF step i p st = (ys, sp) ∧ OwnV wr wo.heap.size 3 (Value.int .i64) pv ys ∧ Inv sp wr ∧ Fr S wo wr) (fun _ iv _ => K - (intOf iv).toNat)
      case atStart => exact ⟨0, [], st, by omega, rfl, rfl, OwnV.nil _ _ _ _, HI.out, Fr.refl _ _⟩
      case round =>
        obtain ⟨p, ys, sp, hp, rfl, hrp, hP, hIq, hFq⟩ := hrel
        obtain ⟨ap, cp, rfl⟩ := hP.shape
        have HLO : Hid (ys.length ≤ 1099511627776) := Lib.hid (by have := rowF_len step i st p; rw [hrp] at this; simp at this; omega)
        have HRP := Lib.hid hrp; have HP := Lib.hid hP; have HIQ := Lib.hid hIq; have HFQ := Lib.hid hFq
        clear hrp hP hIq hFq
        by_cases hpk : p < K
        · have HRS : Hid (rowF step i (p + 1) st = (if (step sp i p).1 then ys ++ [(p : Int)] else ys, (step sp i p).2)) := Lib.hid (by show (_, _) = _; rw [HRP.out])
          go_wp2_with fail
          refine (HC.out.ask wr sp i p hlt hpk HIQ.out).mono ?_
          rintro e w3 ⟨rfl, hI3, hF3⟩
          have HIQ := Lib.hid hI3
          have HFQ := Lib.hid (HFQ.out.trans hF3)
          have HP : Hid (OwnV w3 wo.heap.size 3 (Value.int .i64) (.slice ap ys.length cp) ys) := Lib.hid (Own.low HP.out hF3 (fun b hb => by have h1 := HC.out.lt b hb; have h2 := HF.out.size; omega))
          clear hI3 hF3
          cases hb : (step sp i p).1 with
          | false =>
            rw [hb] at HRS
            clear hb
            go_wp2_with fail
            exact ⟨⟨p + 1, ys, (step sp i p).2, by omega, by go_num, HRS.out, HP.out, HIQ.out, HFQ.out⟩, by simp [intOf]; omega⟩
          | true =>
            rw [hb] at HRS
            clear hb
            go_upto_region 10 with fail
            have A0 : Hid ((w3.alloc (.cells #[Value.int .i64 (p : Int)] 3)).ownsRow wo.heap.size 3 1 (.slice ap ys.length cp) (ys).length ((ys).map (Value.int .i64))) := Lib.hid (Own.keep HP.out ((Fr.refl [] w3).alloc _))
            have A1 : Hid ((ys).length + [Value.int .i64 (p : Int)].length ≤ maxLen) := Lib.hid (by have := HLO.out; unfold maxLen; simp only [List.length_singleton]; omega)
            have A2 : Hid (((ys).length + [Value.int .i64 (p : Int)].length) * 8 ≤ 140737488355328) := Lib.hid (by have := HLO.out; simp only [List.length_singleton]; omega)
            have A3 : Hid (Sl (w3.alloc (.cells #[Value.int .i64 (p : Int)] 3)) (.slice (some ⟨w3.heap.size, 0, none⟩) 1 1) [Value.int .i64 (p : Int)]) := Lib.hid (Sl.one w3 _ _)
            have A4 : Hid (wo.heap.size ≤ (w3.alloc (.cells #[Value.int .i64 (p : Int)] 3)).heap.size) := Lib.hid (by have := HFQ.out.size; simp; omega)
            go_wp2_with (at_builtin; refine wpList_append_slf rfl (.tmp 23) (.tmp 25) 33 rfl wo.heap.size 3 (.int .i64 0) 8 Try.underlying33 info_int rfl (.slice ap ys.length cp) (ys).length ((ys).map (Value.int .i64)) rfl A0.out (.slice (some ⟨w3.heap.size, 0, none⟩) 1 1) [Value.int .i64 (p : Int)] rfl A3.out (by simp [Value.oneCell']) A1.out A2.out A4.out ?_; intro v4 w4 ho hg hfr; have HO3 := Lib.hid ho; have HG := Lib.hid hg; have HBL := Lib.hid hfr; clear ho hg hfr)
            have HN : Hid (OwnV w4 wo.heap.size 3 (Value.int .i64) v4 (ys ++ [(p : Int)])) := Lib.hid (by
              have := HO3.out
              unfold OwnV
              rw [List.map_append, List.length_append]
              exact this)
            have HF3 : Hid (Fr S wo w4) := Lib.hid ((HFQ.out.alloc _).step HG.out (fun x hx => .inr (HP.out.block x (by simpa using hx)).1))
            have HI4 : Hid (Inv (step sp i p).2 w4) := Lib.hid (HC.out.keep _ _ (blockOf (.slice ap ys.length cp)).toList _ (HC.out.keep _ _ [] _ HIQ.out ((Fr.refl [] w3).alloc _) (by simp)) HG.out (fun b hb => by have h1 := (HP.out.block b (mem_toList.1 hb)).1; have h2 := HF.out.size; omega))
            go_wp2_with fail
            exact ⟨⟨p + 1, ys ++ [(p : Int)], (step sp i p).2, by omega, by go_num, HRS.out, HN.out, HI4.out, HF3.out⟩, by simp [intOf]; omega⟩
        · obtain rfl : p = K := by omega
          obtain ⟨vs, hvs⟩ := HO.out
          have hvs2 := hvs.fr HFQ.out HC.out.lt
          obtain ⟨w5, e5, hF5, hB5, hs5⟩ := one_new wr #[.slice ap ys.length cp] 33
          have E5 := Lib.hid e5
          have HV5 := Lib.hid (hvs2.keep hF5)
          have A0 := Lib.hid HV5.out.own
          have A3 : Hid (Sl w5 (.slice (some ⟨wr.heap.size, 0, none⟩) 1 1) [.slice ap ys.length cp]) := Lib.hid (by subst e5; exact Sl.one wr _ _)
          have A1 : Hid (rows.length + [Value.slice ap ys.length cp].length ≤ maxLen) := Lib.hid (by have := HLR.out; unfold maxLen; simp only [List.length_singleton]; omega)
          have A2 : Hid ((rows.length + [Value.slice ap ys.length cp].length) * 24 ≤ 140737488355328) := Lib.hid (by have := HLR.out; simp only [List.length_singleton]; omega)
          have A4 : Hid (w.heap.size ≤ w5.heap.size) := Lib.hid (by have h1 := HF.out.size; have h2 := HFQ.out.size; omega)
          have HP5 : Hid (OwnV w5 wo.heap.size 3 (Value.int .i64) (.slice ap ys.length cp) ys) := Lib.hid (Own.keep HP.out hF5)
          have HI5 : Hid (Inv sp w5) := Lib.hid (HC.out.keep _ _ [] _ HIQ.out hF5 (by simp))
          have HF5 : Hid (Fr S w w5) := Lib.hid (HF.out.trans (HFQ.out.trans hF5.any))
          have HRB : Hid (∀ (k : Nat) (y : Value) (b : Nat), vs[k]? = some y → blockOf y = some b → blockOf (.slice ap ys.length cp) ≠ some b) := Lib.hid (fun k y b hy hb hp => by
            have h1 := (hvs.rowBlock k y hy b hb).2
            have h2 := (HP.out.block b hp).1
            omega)
          have HVB : Hid (∀ b, blockOf (.slice ao rows.length co) = some b → blockOf (.slice ap ys.length cp) ≠ some b) := Lib.hid (fun b hb hp => by
            have h1 := (hvs.block b hb).2
            have h2 := (HP.out.block b hp).1
            omega)
          have HBB : Hid (∀ b, blockOf (.slice ao rows.length co) = some b → w.heap.size ≤ b) := Lib.hid (fun b hb => (hvs.block b hb).1)
          have HSZ : Hid (w.heap.size ≤ wo.heap.size) := Lib.hid HF.out.size
          clear e5 hF5 hB5 hs5 hvs hvs2
          go_wp2_with (at_builtin; (rw [E5.out]); refine wpList_append_slf rfl (.tmp 28) (.tmp 30) 27 rfl w.heap.size 33 (.slice none 0 0) 24 Try.underlying27 info_ints rfl (.slice ao rows.length co) rows.length vs rfl A0.out (.slice (some ⟨wr.heap.size, 0, none⟩) 1 1) [.slice ap ys.length cp] rfl A3.out (by simp [Value.oneCell']) A1.out A2.out A4.out ?_; intro v6 w6 ho hg hfr; have HO6 := Lib.hid ho; have HG := Lib.hid hg; have HBL := Lib.hid hfr; clear ho hg hfr)
          have HR6 : Hid (RowsO w6 w.heap.size v6 (rows ++ [ys])) := Lib.hid ⟨_, RowsAt.snoc HV5.out (Own.mono HP5.out HSZ.out) HRB.out HVB.out HO6.out HG.out HBL.out⟩
          have HI6 : Hid (Inv sp w6) := Lib.hid (HC.out.keep _ _ _ _ HI5.out HG.out (fun b hb => HBB.out b (mem_toList.1 hb)))
          have HF6 : Hid (Fr S w w6) := Lib.hid (HF5.out.step HG.out (fun b hb => .inr (HBB.out b (mem_toList.1 hb))))
          rw [HRP.out] at HFS
          exact ⟨⟨i + 1, rows ++ [ys], sp, by omega, by go_num, HFS.out, HR6.out, HI6.out, HF6.out⟩, by simp [intOf]; omega⟩
    · obtain rfl : i = N := by omega
      go_wp2_with fail
      go_ret
      exact ⟨_, rfl, by rw [HR.out]; exact HO.out, by rw [HR.out]; exact HI.out, HF.out⟩
end Go.Proofs.Ytngfenjekgdfbaa

/- The walks of shape.bounds, Next, lot and of the function values of Run and Spread (printed by gen_sh7.py). -/
namespace Go.Proofs.Ytngfenjekgdfbaa
open Go.RowKit

theorem res_tmp3' {fn : Func} {t u s : Tmp} (h : fn.results = #[.tmp t, .tmp u, .tmp s]) (tmps : Array Value) (P : Program) (w : World) :
    (results fn tmps).run P w = .ok (.tuple #[tmps.getD t undef, tmps.getD u undef, tmps.getD s undef]) w := by
  simp [results, h]
/-- Is there a shape? -/
def okS (k n : Int) : Bool := decide (1 ≤ k) && decide (k ≤ 48) && decide (1 ≤ n)
theorem next_nat (s : UInt64) : (((nextS s).toNat : Nat) : Int) = IntKind.u64.wrap (IntKind.u64.wrap (((s.toNat : Nat) : Int) * 6364136223846793005) + 1442695040888963407) := by
  unfold nextS
  rw [UInt64.toNat_add, UInt64.toNat_mul]
  rw [IntKind.wrap_u64, IntKind.wrap_u64]
  have h1 : (6364136223846793005 : UInt64).toNat = 6364136223846793005 := rfl
  have h2 : (1442695040888963407 : UInt64).toNat = 1442695040888963407 := rfl
  rw [h1, h2]
  omega
theorem next_nat' (s : UInt64) : (((nextS s).toNat : Nat) : Int) = IntKind.u64.wrap (IntKind.u64.wrap (6364136223846793005 * ((s.toNat : Nat) : Int)) + 1442695040888963407) := by
  rw [Int.mul_comm]
  exact next_nat s
set_option maxRecDepth 100000 in
set_option maxHeartbeats 4000000 in
theorem shBounds_any {w : World} (k n : Int) :
    Calls Try.prog 25 #[.int .i64 k, .int .i64 n] w fun e w' => e = .returned (.tuple #[.int .i64 k, .int .i64 (min n k), .bool (okS k n)]) ∧ Fr [] w w' := by
  by_cases h1 : 1 ≤ k
  · by_cases h2 : k ≤ 48
    · by_cases h3 : 1 ≤ n
      · have HE : Hid (okS k n = true) := Lib.hid (by unfold okS; simp [h1, h2, h3])
        go_enter Try.func25, Try.ntmps25
        go_wp2_with fail
        exact bodyPost_ret (res_tmp3' rfl _ _ _) rfl ⟨by rw [HE.out]; rfl, Fr.refl _ _⟩
      · have HE : Hid (okS k n = false) := Lib.hid (by unfold okS; simp [h3])
        go_enter Try.func25, Try.ntmps25
        go_wp2_with fail
        exact bodyPost_ret (res_tmp3' rfl _ _ _) rfl ⟨by rw [HE.out]; rfl, Fr.refl _ _⟩
    · have HE : Hid (okS k n = false) := Lib.hid (by unfold okS; simp [h2])
      go_enter Try.func25, Try.ntmps25
      go_wp2_with fail
      exact bodyPost_ret (res_tmp3' rfl _ _ _) rfl ⟨by rw [HE.out]; rfl, Fr.refl _ _⟩
  · have HE : Hid (okS k n = false) := Lib.hid (by unfold okS; simp [h1])
    go_enter Try.func25, Try.ntmps25
    go_wp2_with fail
    exact bodyPost_ret (res_tmp3' rfl _ _ _) rfl ⟨by rw [HE.out]; rfl, Fr.refl _ _⟩
set_option maxRecDepth 100000 in
set_option maxHeartbeats 4000000 in
theorem shNext_any {w : World} (s : UInt64) :
    Calls Try.prog 11 #[.int .u64 (s.toNat : Nat)] w fun e w' => e = .returned (.int .u64 ((nextS s).toNat : Nat)) ∧ Fr [] w w' := by
  have HN := Lib.hid (next_nat s)
  go_enter Try.func11, Try.ntmps11
  go_wp2_with fail
  go_ret
  exact ⟨by rw [HN.out]; rfl, Fr.refl _ _⟩
set_option maxRecDepth 100000 in
set_option maxHeartbeats 4000000 in
theorem shLot_any {w : World} {g : Nat} {s : UInt64} (hb : Box w g 25 #[.int .u64 (s.toNat : Nat)]) (i p : Int) :
    Calls Try.prog 29 #[.pointer (some ⟨g, 0, none⟩), .int .i64 i, .int .i64 p] w fun e w' => e = .returned (.bool (decide (9223372036854775808 ≤ (nextS s).toNat))) ∧ Box w' g 25 #[.int .u64 ((nextS s).toNat : Nat)] ∧ Fr [g] w w' := by
  have x0 := hb.cell 0
  simp only [List.getElem?_toArray, List.getElem?_cons_zero] at x0
  have f0 := hb.free 0
  have HB := Lib.hid hb
  clear hb
  go_enter Try.func29, Try.ntmps29
  go_wp2_with fail
  refine (shNext_any s).mono ?_
  rintro e w2 ⟨rfl, hF⟩
  have HF := Lib.hid hF; have HB := Lib.hid (HB.out.keep hF)
  clear hF x0 f0
  have x0 := HB.out.cell 0
  simp only [List.getElem?_toArray, List.getElem?_cons_zero] at x0
  have f0 := HB.out.free 0
  go_upto_region 2 with fail
  obtain ⟨w3, e3, hF3, hB3, hs3⟩ := set_new HB.out 0 (.int .u64 ((nextS s).toNat : Nat))
  rw [e3]
  have HF3 := Lib.hid hF3
  have hB4 : Box w3 g 25 #[.int .u64 ((nextS s).toNat : Nat)] := hB3
  have HB3 := Lib.hid hB4
  clear x0 f0 e3 hF3 hB3 hs3 HB
  have x0 := hB4.cell 0
  simp only [List.getElem?_toArray, List.getElem?_cons_zero] at x0
  clear hB4
  go_wp2_with fail
  go_ret
  exact ⟨by
    have h : ((((nextS s).toNat : Nat) : Int) / 9223372036854775808 == 1) = decide (9223372036854775808 ≤ (nextS s).toNat) := by
      have := (nextS s).toNat_lt
      rw [Bool.eq_iff_iff, beq_iff_eq, decide_eq_true_eq]
      omega
    rw [← h]; rfl, HB3.out, HF.out.any.trans HF3.out⟩
set_option maxRecDepth 100000 in
set_option maxHeartbeats 4000000 in
theorem r18Next_any {w : World} (s : UInt64) :
    Calls Try.prog 12 #[.int .u64 (s.toNat : Nat)] w fun e w' => e = .returned (.int .u64 ((nextS s).toNat : Nat)) ∧ Fr [] w w' := by
  have HN := Lib.hid (next_nat' s)
  go_enter Try.func12, Try.ntmps12
  go_wp2_with fail
  go_ret
  exact ⟨by rw [HN.out]; rfl, Fr.refl _ _⟩
set_option maxRecDepth 100000 in
set_option maxHeartbeats 4000000 in
theorem shRun1_any {w : World} {gk gn : Nat} {K N : Nat} (hk : Box w gk 3 #[.int .i64 (K : Nat)]) (hn : Box w gn 3 #[.int .i64 (N : Nat)]) (hN : 0 < N) (hK : K ≤ 48) (hN2 : N ≤ 48) (i p : Nat) (hi : i < N) :
    Calls Try.prog 27 #[.int .i64 (i : Nat), .int .i64 (p : Nat), .pointer (some ⟨gk, 0, none⟩), .pointer (some ⟨gn, 0, none⟩)] w fun e w' => e = .returned (.bool (decide (i * K / N ≤ p) && decide (p < (i + 1) * K / N))) ∧ Fr [] w w' := by
  have x0 := hk.cell 0
  simp only [List.getElem?_toArray, List.getElem?_cons_zero] at x0
  have x1 := hn.cell 0
  simp only [List.getElem?_toArray, List.getElem?_cons_zero] at x1
  clear hk hn
  have hm0 : i * K ≤ 48 * 48 := Nat.mul_le_mul (by omega) hK
  have hm1 : (i + 1) * K ≤ 48 * 48 := Nat.mul_le_mul (by omega) hK
  obtain ⟨m, hm⟩ : ∃ m, i * K = m := ⟨_, rfl⟩
  obtain ⟨m2, hm2⟩ : ∃ m, (i + 1) * K = m := ⟨_, rfl⟩
  rw [hm] at hm0 ⊢
  rw [hm2] at hm1 ⊢
  obtain ⟨q, hq⟩ : ∃ q, m / N = q := ⟨_, rfl⟩
  obtain ⟨q2, hq2⟩ : ∃ q, m2 / N = q := ⟨_, rfl⟩
  have hq0 : q ≤ m := by rw [← hq]; exact Nat.div_le_self _ _
  have hq1 : q2 ≤ m2 := by rw [← hq2]; exact Nat.div_le_self _ _
  rw [hq, hq2]
  have hw1 : wrap64 ((i : Int) * (K : Int)) = (m : Int) := by
    have e : (i : Int) * (K : Int) = (m : Int) := by rw [← hm, Int.natCast_mul]
    rw [e]
    exact IntWalk.wrap64_in _ ⟨by omega, by omega⟩
  have hw2 : wrap64 (((i : Int) + 1) * (K : Int)) = (m2 : Int) := by
    have e : ((i : Int) + 1) * (K : Int) = (m2 : Int) := by rw [← hm2, Int.natCast_mul, Int.natCast_add]; simp
    rw [e]
    exact IntWalk.wrap64_in _ ⟨by omega, by omega⟩
  have hw3 : wrap64 ((m : Int) / (N : Int)) = (q : Int) := by
    have e : (m : Int) / (N : Int) = (q : Int) := by rw [← hq, Int.natCast_ediv]
    rw [e]
    exact IntWalk.wrap64_in _ ⟨by clear hq hq2 hm hm2 e hw1 hw2; omega, by clear hq hq2 hm hm2 e hw1 hw2; omega⟩
  have hw4 : wrap64 ((m2 : Int) / (N : Int)) = (q2 : Int) := by
    have e : (m2 : Int) / (N : Int) = (q2 : Int) := by rw [← hq2, Int.natCast_ediv]
    rw [e]
    exact IntWalk.wrap64_in _ ⟨by clear hq hq2 hm hm2 e hw1 hw2 hw3; omega, by clear hq hq2 hm hm2 e hw1 hw2 hw3; omega⟩
  clear hm hm2 hq hq2
  by_cases h1 : q ≤ p
  · have h1' : (q : Int) ≤ (p : Int) := Int.ofNat_le.2 h1
    by_cases h2 : p < q2
    · have h2' : (p : Int) < (q2 : Int) := Int.ofNat_lt.2 h2
      have HE : Hid ((decide (q ≤ p) && decide (p < q2)) = true) := Lib.hid (by simp [h1, h2])
      clear h1 h2
      go_enter Try.func27, Try.ntmps27
      go_wp2_with fail
      go_ret
      exact ⟨by rw [HE.out]; rfl, Fr.refl _ _⟩
    · have h2' : ¬ (p : Int) < (q2 : Int) := fun h => h2 (Int.ofNat_lt.1 h)
      have HE : Hid ((decide (q ≤ p) && decide (p < q2)) = false) := Lib.hid (by simp [h1, h2])
      clear h1 h2
      go_enter Try.func27, Try.ntmps27
      go_wp2_with fail
      go_ret
      exact ⟨by rw [HE.out]; rfl, Fr.refl _ _⟩
  · have h1' : ¬ (q : Int) ≤ (p : Int) := fun h => h1 (Int.ofNat_le.1 h)
    have HE : Hid ((decide (q ≤ p) && decide (p < q2)) = false) := Lib.hid (by simp [h1])
    clear h1
    go_enter Try.func27, Try.ntmps27
    go_wp2_with fail
    go_ret
    exact ⟨by rw [HE.out]; rfl, Fr.refl _ _⟩
set_option maxRecDepth 100000 in
set_option maxHeartbeats 4000000 in
theorem shSpread1_any {w : World} {gn : Nat} {N : Nat} (hn : Box w gn 3 #[.int .i64 (N : Nat)]) (hN : 0 < N) (i p : Nat) :
    Calls Try.prog 28 #[.int .i64 (i : Nat), .int .i64 (p : Nat), .pointer (some ⟨gn, 0, none⟩)] w fun e w' => e = .returned (.bool (p % N == i)) ∧ Fr [] w w' := by
  have x1 := hn.cell 0
  simp only [List.getElem?_toArray, List.getElem?_cons_zero] at x1
  clear hn
  go_enter Try.func28, Try.ntmps28
  go_wp2_with fail
  go_ret
  exact ⟨by
    have h : (((p : Nat) : Int) % ((N : Nat) : Int) == ((i : Nat) : Int)) = (p % N == i) := by
      rw [Bool.eq_iff_iff, beq_iff_eq, beq_iff_eq]
      omega
    rw [← h]; rfl, Fr.refl _ _⟩
end Go.Proofs.Ytngfenjekgdfbaa

/- The walks of shape.give; slices.Index, Contains, IndexFunc, ContainsFunc with the function values of shape (printed by gen_sh8.py). -/
namespace Go.Proofs.Ytngfenjekgdfbaa
open Go.RowKit

/-- A step that writes only from a block on. -/
def FrB (base : Nat) (w w' : World) : Prop := ∃ S : List Nat, (∀ b ∈ S, base ≤ b) ∧ Fr S w w'
theorem FrB.fr {base : Nat} {w0 w w' : World} {S : List Nat} (h : FrB base w w') (hf : Fr S w0 w) (hb : w0.heap.size ≤ base) : Fr S w0 w' := by
  obtain ⟨T, h1, h2⟩ := h
  exact hf.step h2 (fun x hx => .inr (by have := h1 x hx; omega))
theorem World.ownsRow.at0 {w : World} {base : Nat} {e : TypeId} {v : Value} {n : Nat} {xs : List Value} (h : w.ownsRow base e 1 v n xs) {i : Nat} {x : Value} (hx : xs[i]? = some x) : ∃ g c, v = .slice (some ⟨g, 0, none⟩) n c ∧ w.cell? ⟨g, i, none⟩ = some x ∧ w.frozen? ⟨g, i, none⟩ = false := by
  have hi := (List.getElem?_eq_some_iff.1 hx).1
  have hn : xs.length = n := by simpa using h.1
  rcases h.2 with ⟨rfl, h0⟩ | ⟨g, cap, cur, rfl, _⟩
  · omega
  · refine ⟨g, cap, rfl, ?_, h.frozenAt i⟩
    have h2 := h.cells (g := g) rfl i x hx
    have hadd : (⟨g, 0, none⟩ : Addr).add i = ⟨g, 0 + i, none⟩ := by unfold Addr.add; split <;> simp_all
    rw [hadd, Nat.zero_add] at h2
    exact h2

set_option maxRecDepth 100000 in
set_option maxHeartbeats 4000000 in
theorem shGive_any {w : World} {base : Nat} {v : Value} {s : List (List Int)} {i : Nat} {r : List Int} (x : Int) (h : RowsO w base v s) (hr : s[i]? = some r) (hs : r.Pairwise (· ≤ ·)) (hz : r.length ≤ 1073741824) (hl : s.length ≤ 1073741824) (hb : base ≤ w.heap.size) :
    Calls Try.prog 33 #[v, .int .i64 (i : Nat), .int .i64 x] w fun e w' => e = .returned (.tuple #[]) ∧ RowsO w' base v (giveS s i x) ∧ FrB base w w' := by
  obtain ⟨vs, hV⟩ := h
  have hi := (List.getElem?_eq_some_iff.1 hr).1
  have hiv : i < vs.length := by rw [hV.len]; exact hi
  obtain ⟨xv, hxv⟩ : ∃ xv, vs[i]? = some xv := ⟨_, List.getElem?_eq_getElem hiv⟩
  have hO := hV.row i xv r hxv hr
  obtain ⟨g, cg, rfl, hc, hf⟩ := World.ownsRow.at0 hV.own hxv
  obtain ⟨ax, cx, rfl⟩ := hO.shape
  obtain ⟨w1, e1, hF1, hB1, hs1⟩ := one_new w #[.int .i64 x] 3
  have hgl : giveS s i x = s.set i (insI r x) := by unfold giveS; rw [List.getD_eq_getElem?_getD, hr]; rfl
  have HGL := Lib.hid hgl
  have HV := Lib.hid hV; have E1 := Lib.hid e1; have HF1 := Lib.hid hF1
  have HXV := Lib.hid hxv; have HS := Lib.hid hs
  have HGB : Hid (base ≤ g ∧ g < w.heap.size) := Lib.hid (hV.block g rfl)
  have HXB : Hid (∀ b, blockOf (.slice ax r.length cx) = some b → base ≤ b ∧ b < w.heap.size ∧ b ≠ g) := Lib.hid (fun b hb => ⟨(hO.block b hb).1, (hO.block b hb).2, fun e => hV.off i _ b hxv hb (by simp [blockOf, e])⟩)
  have A0 := Lib.hid (Own.keep hO hF1)
  have A1 : Hid (r.length + [Value.int .i64 x].length ≤ maxLen) := Lib.hid (by unfold maxLen; simp only [List.length_singleton]; omega)
  have A2 : Hid ((r.length + [Value.int .i64 x].length) * 8 ≤ 140737488355328) := Lib.hid (by simp only [List.length_singleton]; omega)
  have A3 : Hid (Sl w1 (.slice (some ⟨w.heap.size, 0, none⟩) 1 1) [Value.int .i64 x]) := Lib.hid (by rw [← e1]; exact Sl.one w _ _)
  have A4 : Hid (base ≤ w1.heap.size) := Lib.hid (by omega)
  have HLZ : Hid (r.length ≤ 1073741824) := Lib.hid hz
  have HCF : Hid (w.cell? ⟨g, i, none⟩ = some (.slice ax r.length cx) ∧ w.frozen? ⟨g, i, none⟩ = false) := Lib.hid ⟨hc, hf⟩
  clear hV hxv hO hF1 hB1 hs1 e1 hgl hs hiv hf hr hz
  go_enter Try.func33, Try.ntmps33
  go_upto_region 1 with (at_builtin; (rw [E1.out]); refine wpList_append_slf rfl (.tmp 11) (.tmp 13) 33 rfl base 3 (.int .i64 0) 8 Try.underlying33 info_int rfl (.slice ax r.length cx) r.length (r.map (Value.int .i64)) rfl A0.out (.slice (some ⟨w.heap.size, 0, none⟩) 1 1) [Value.int .i64 x] rfl A3.out (by simp [Value.oneCell']) A1.out A2.out A4.out ?_; intro v3 w3 ho hg hfr; have ho4 : OwnV w3 base 3 (Value.int .i64) v3 (r ++ [x]) := (by unfold OwnV; rw [List.map_append, List.length_append]; exact ho); obtain ⟨a3, c3, e3⟩ := ho4.shape; rw [List.length_append, List.length_singleton] at e3; subst e3; have HO4 := Lib.hid ho4; clear ho4; have HG := Lib.hid hg; have HBL := Lib.hid hfr; have HNG : Hid (g ∉ (blockOf (.slice ax r.length cx)).toList) := Lib.hid (fun hm => (HXB.out g (mem_toList.1 hm)).2.2 rfl); have hc3 : w3.cell? ⟨g, i, none⟩ = some (.slice ax r.length cx) := hg.cellSome (HF1.out.cellSome HCF.out.1 (by simp)) HNG.out; have hf3 : w3.frozen? ⟨g, i, none⟩ = false := (hg.frozen (p := ⟨g, i, none⟩) (by have h1 := HGB.out.2; have h2 := HF1.out.size; show g < w1.heap.size; omega) HNG.out).trans ((HF1.out.frozen (p := ⟨g, i, none⟩) HGB.out.2 (by simp)).trans HCF.out.2); clear ho hg hfr)
  have HV3 : Hid (w3.ownsRow base 33 1 (.slice (some ⟨g, 0, none⟩) s.length cg) s.length vs) := Lib.hid (Own.fr (Own.keep HV.out.own HF1.out) HG.out (fun b hb hm => by cases hb; exact HNG.out hm))
  obtain ⟨w4, e4⟩ : ∃ w4, w3.setCell ⟨g, i, none⟩ (.slice a3 (r.length + 1) c3) = w4 := ⟨_, rfl⟩
  have hst := HV3.out.stored i (.slice a3 (r.length + 1) c3)
  rw [e4] at hst ⊢
  have HV4 := Lib.hid hst.1
  have HF4 : Hid (Fr [g] w3 w4) := Lib.hid ((Fr.refl [g] w3).grown hst.2 (fun k hk => by cases hk; exact .inl (by simp)))
  have HB3 : Hid (∀ b, blockOf (.slice a3 (r.length + 1) c3) = some b → b ≠ g) := Lib.hid (fun b hb e => by
    subst e
    rcases HBL.out b hb with h | h
    · exact (HXB.out b h).2.2 rfl
    · have := HGB.out.2; have := HF1.out.size; omega)
  have HO5 : Hid (OwnV w4 base 3 (Value.int .i64) (.slice a3 (r.length + 1) c3) (r ++ [x])) := Lib.hid (Own.fr HO4.out HF4.out (fun b hb hm => HB3.out b hb (by simpa using hm)))
  have hset : (vs.set i (.slice a3 (r.length + 1) c3))[i]? = some (.slice a3 (r.length + 1) c3) := List.getElem?_set_self (List.getElem?_eq_some_iff.1 HXV.out).1
  obtain ⟨g', cg', e', hc4, hf4⟩ := World.ownsRow.at0 HV4.out hset
  injection e' with e1' e2' e3'
  injection e1' with e1'
  injection e1' with e1'
  subst e1'
  clear hc3 hf3 hst hf4 hset e2' e3' e4
  have HNE : Hid (blockOf (.slice a3 (r.length + 1) c3) ≠ none) := Lib.hid (by
    rcases HO4.out.2 with ⟨h0, h1⟩ | ⟨q, cap, cur, h0, _⟩
    · simp at h1
    · rw [h0]; simp [blockOf])
  have HSZ : Hid ((r ++ [x]).length < 4611686018427387904) := Lib.hid (by have := HLZ.out; simp; omega)
  go_wp2_with fail
  refine (sortInts_own HO5.out HNE.out HSZ.out).mono ?_
  rintro e w5 ⟨rfl, ys, hys, hyp, hO6, hF6⟩
  have HYS := Lib.hid (sort_ins HS.out hys hyp)
  have HO6 := Lib.hid hO6; have HF6 := Lib.hid hF6
  clear hys hyp hO6 hF6 hc4
  go_wp2_with fail
  go_end0
  rw [HGL.out]
  have hfw : Fr ([g] ++ (blockOf (.slice ax r.length cx)).toList) w w5 := by
    have h1 : Fr ([g] ++ (blockOf (.slice ax r.length cx)).toList) w w3 := (HF1.out.any).step HG.out (fun b hb => .inl (by simp [hb]))
    have h2 := h1.step HF4.out (fun b hb => .inl (by simp at hb; simp [hb]))
    refine h2.step HF6.out (fun b hb => ?_)
    rcases HBL.out b (mem_toList.1 hb) with h | h
    · exact .inl (by simp [mem_toList.2 h])
    · exact .inr (by have := HF1.out.size; omega)
  have hbl5 : ∀ b, blockOf (.slice a3 (r.length + 1) c3) = some b → blockOf (.slice ax r.length cx) = some b ∨ w.heap.size ≤ b := fun b hb => by
    rcases HBL.out b hb with h | h
    · exact .inl h
    · exact .inr (by have := HF1.out.size; omega)
  rw [← HYS.out]
  refine ⟨rfl, ⟨_, RowsAt.set HV.out HXV.out (x' := .slice a3 (r.length + 1) c3) ?_ HO6.out hfw hbl5⟩, _, ?_, hfw⟩
  · exact Own.fr HV4.out HF6.out (fun b hb hm => by cases hb; exact HB3.out _ (mem_toList.1 hm) rfl)
  · intro b hb
    rcases List.mem_append.1 hb with hb | hb
    · simp at hb; rw [hb]; exact HGB.out.1
    · exact (HXB.out b (mem_toList.1 hb)).1
end Go.Proofs.Ytngfenjekgdfbaa

/- The walks of shape.Run, Spread (printed by gen_sh15.py). -/
namespace Go.Proofs.Ytngfenjekgdfbaa
open Go.RowKit

theorem rowF_pure (f : Nat → Nat → Bool) (i : Nat) : ∀ k : Nat, rowF (fun (u : Unit) i p => (f i p, u)) i k () = (rowBy k (f i), ())
  | 0 => rfl
  | k + 1 => by
    unfold rowF
    rw [rowF_pure f i k, rowBy_succ]
    cases f i k <;> simp
theorem fillF_pure (f : Nat → Nat → Bool) (k : Nat) : ∀ n : Nat, fillF (fun (u : Unit) i p => (f i p, u)) k n () = ((List.range n).map fun i => rowBy k (f i), ())
  | 0 => rfl
  | n + 1 => by
    unfold fillF
    rw [fillF_pure f k n]
    dsimp only
    rw [rowF_pure, List.range_succ, List.map_append]
    rfl
theorem three_new (w : World) (c1 : Array Value) (t1 : TypeId) (c2 : Array Value) (t2 : TypeId) (c3 : Array Value) (t3 : TypeId) :
    ∃ w3, (((w.alloc (.cells c1 t1)).alloc (.cells c2 t2)).alloc (.cells c3 t3)) = w3 ∧ Fr [] w w3 ∧ Box w3 w.heap.size t1 c1 ∧ Box w3 (w.heap.size + 1) t2 c2 ∧ Box w3 (w.heap.size + 1 + 1) t3 c3 ∧ w3.heap.size = w.heap.size + 3 := by
  obtain ⟨w2, e, hF, h1, h2, hs⟩ := two_new w c1 t1 c2 t2
  obtain ⟨w3, e3, hF3, h3, hs3⟩ := one_new w2 c3 t3
  refine ⟨w3, by rw [e]; exact e3, hF.trans hF3, h1.keep hF3, h2.keep hF3, ?_, by omega⟩
  rw [hs] at h3
  exact h3
theorem ofS_no {kind k n : Int} {s : UInt64} (h : okS k n = false) : ofS kind s k n = [] := by
  unfold ofS
  rw [if_pos ?_]
  unfold okS at h
  simp at h
  by_cases h1 : k < 1
  · exact .inl h1
  · by_cases h2 : 48 < k
    · exact .inr (.inl h2)
    · exact .inr (.inr (by have := h (by omega) (by omega); omega))
theorem okS_yes {k n : Int} (h : okS k n = true) : ∃ K N : Nat, k = (K : Int) ∧ min n k = (N : Int) ∧ 1 ≤ K ∧ K ≤ 48 ∧ 1 ≤ N ∧ N ≤ K ∧ 1 ≤ n := by
  unfold okS at h
  simp at h
  exact ⟨k.toNat, (min n k).toNat, by omega, by omega, by omega, by omega, by omega, by omega, by omega⟩
theorem ofS_yes {kind k n : Int} {s : UInt64} {K N : Nat} (hk : k = (K : Int)) (hn : min n k = (N : Int)) (h1 : 1 ≤ K) (h2 : K ≤ 48) (h3 : 1 ≤ n) : ofS kind s k n = if kind = 1 then spreadS K N else if kind = 2 then randomS s K N else runS K N := by
  unfold ofS
  rw [if_neg (by omega)]
  rw [hn, hk]
  rfl
set_option maxRecDepth 100000 in
set_option maxHeartbeats 4000000 in
theorem shRun_any {w : World} (s : UInt64) (k n : Int) :
    Calls Try.prog 13 #[.agg #[.int .u64 (s.toNat : Nat)], .int .i64 k, .int .i64 n] w fun e w' => ∃ v, e = .returned v ∧ RowsO w' w.heap.size v (ofS 0 s k n) ∧ Fr [] w w' := by
  obtain ⟨w1, e1, hF1, hB1, hB2, hB3, hs1⟩ := three_new w #[.int .u64 (s.toNat : Nat)] 25 #[.int .i64 k] 3 #[.int .i64 n] 3
  have E1 := Lib.hid e1; have HF := Lib.hid hF1; have HB2 := Lib.hid hB2; have HB3 := Lib.hid hB3; have HS1 := Lib.hid hs1
  have x2 := hB2.cell 0; have x3 := hB3.cell 0
  simp only [List.getElem?_toArray, List.getElem?_cons_zero] at x2 x3
  clear hF1 hB1 hB2 hB3 hs1 e1
  go_enter Try.func13, Try.ntmps13
  go_upto_region 1 with fail
  rw [E1.out]
  clear E1
  go_wp2_with fail
  refine (shBounds_any k n).mono ?_
  rintro e w2 ⟨rfl, hF2⟩
  have HF := Lib.hid (HF.out.trans hF2)
  have HB2 := Lib.hid (HB2.out.keep hF2); have HB3 := Lib.hid (HB3.out.keep hF2)
  have HS2 : Hid (w.heap.size + 3 ≤ w2.heap.size) := Lib.hid (by have := HS1.out; have := hF2.size; omega)
  obtain ⟨mn, hmn⟩ : ∃ mn, min n k = mn := ⟨_, rfl⟩
  obtain ⟨ok, hok⟩ : ∃ ok, okS k n = ok := ⟨_, rfl⟩
  rw [hok, hmn]
  have HMN := Lib.hid hmn; have HOK := Lib.hid hok
  clear hF2 hmn hok x2 x3
  have x2 := HB2.out.cell 0; have x3 := HB3.out.cell 0
  simp only [List.getElem?_toArray, List.getElem?_cons_zero] at x2 x3
  have f2 := HB2.out.free 0; have f3 := HB3.out.free 0
  obtain ⟨w3, e3, hF3, hB3', hs3⟩ := set_new HB2.out 0 (.int .i64 k)
  obtain ⟨w4, e4, hF4, hB4', hs4⟩ := set_new (HB3.out.fr hF3 (by simp)) 0 (.int .i64 mn)
  have hK4 : Box w4 (w.heap.size + 1) 3 #[.int .i64 k] := Box.fr (show Box w3 (w.heap.size + 1) 3 #[.int .i64 k] from hB3') hF4 (by simp)
  have hN4 : Box w4 (w.heap.size + 1 + 1) 3 #[.int .i64 mn] := hB4'
  have HK4 := Lib.hid hK4; have HN4 := Lib.hid hN4
  have HF4 : Hid (Fr [] w w4) := Lib.hid ((HF.out.step hF3 (fun x hx => .inr (by simp at hx; omega))).step hF4 (fun x hx => .inr (by simp at hx; omega)))
  have HS4 : Hid (w.heap.size + 3 ≤ w4.heap.size) := Lib.hid (by have := HS2.out; omega)
  have E3 := Lib.hid e3; have E4 := Lib.hid e4
  clear hF3 hF4 hB3' hB4' hs3 hs4 hK4 hN4 e3 e4
  go_upto_region 2 with fail
  rw [E3.out, E4.out]
  clear E3 E4 x2 x3 f2 f3
  cases ok with
  | false =>
    have HE : Hid (ofS 0 s k n = []) := Lib.hid (ofS_no HOK.out)
    go_wp2_with fail
    go_ret
    exact ⟨_, rfl, by rw [HE.out]; exact RowsO.nil _ _, HF4.out⟩
  | true =>
    obtain ⟨K, N, hk, hn, hK1, hK2, hN1, hN2, hn1⟩ := okS_yes HOK.out
    have HE : Hid (ofS 0 s k n = runS K N) := Lib.hid (by rw [ofS_yes hk hn hK1 hK2 hn1]; rfl)
    have hmn : mn = (N : Int) := by rw [← hn]; exact HMN.out.symm
    clear hn hn1
    subst hk hmn
    have x2 := HK4.out.cell 0; have x3 := HN4.out.cell 0
    simp only [List.getElem?_toArray, List.getElem?_cons_zero] at x2 x3
    have HC : Hid (HasC 27 #[] #[.pointer (some ⟨w.heap.size + 1, 0, none⟩), .pointer (some ⟨w.heap.size + 1 + 1, 0, none⟩)] (fun (u : Unit) i p => (decide (i * K / N ≤ p) && decide (p < (i + 1) * K / N), u)) (fun _ W => Box W (w.heap.size + 1) 3 #[.int .i64 (K : Nat)] ∧ Box W (w.heap.size + 1 + 1) 3 #[.int .i64 (N : Nat)]) [] w4.heap.size N K) := Lib.hid (by
      refine ⟨enters_of Try.func27 (by kernel_rfl) rfl, ?_, ?_, by simp⟩
      · rintro W u i p hi hp ⟨h1, h2⟩
        have e : (#[] ++ (#[Value.int .i64 (i : Nat), Value.int .i64 (p : Nat)] ++ #[Value.pointer (some ⟨w.heap.size + 1, 0, none⟩), Value.pointer (some ⟨w.heap.size + 1 + 1, 0, none⟩)]) : Array Value) = #[.int .i64 (i : Nat), .int .i64 (p : Nat), .pointer (some ⟨w.heap.size + 1, 0, none⟩), .pointer (some ⟨w.heap.size + 1 + 1, 0, none⟩)] := by simp
        rw [e]
        refine (shRun1_any h1 h2 (by omega) hK2 (by omega) i p hi).mono ?_
        rintro e W' ⟨rfl, hF⟩
        exact ⟨rfl, ⟨h1.keep hF, h2.keep hF⟩, hF⟩
      · rintro W W' T u ⟨h1, h2⟩ hF hT
        have := HS4.out
        exact ⟨h1.fr hF (fun hm => by have := hT _ hm; omega), h2.fr hF (fun hm => by have := hT _ hm; omega)⟩)
    have HI0 : Hid (Box w4 (w.heap.size + 1) 3 #[.int .i64 (K : Nat)] ∧ Box w4 (w.heap.size + 1 + 1) 3 #[.int .i64 (N : Nat)]) := Lib.hid ⟨HK4.out, HN4.out⟩
    have hN48 : N ≤ 48 := by omega
    go_wp2_with fail
    refine (shFill_any (σ := Unit) HC.out (s0 := ()) HI0.out hN48 hK2).mono ?_
    rintro e w5 ⟨v5, rfl, hR, -, hF5⟩
    rw [fillF_pure] at hR
    obtain ⟨a5, c5, rfl⟩ := hR.shape
    simp only [List.length_map, List.length_range] at hR ⊢
    have HR : Hid (RowsO w5 w.heap.size _ (runS K N)) := Lib.hid (hR.mono (by have := HS4.out; omega))
    have HF5 := Lib.hid (HF4.out.trans hF5)
    clear hR hF5 x2 x3
    go_wp2_with fail
    go_ret
    exact ⟨_, rfl, by rw [HE.out]; exact HR.out, HF5.out⟩
set_option maxRecDepth 100000 in
set_option maxHeartbeats 4000000 in
theorem shSpread_any {w : World} (s : UInt64) (k n : Int) :
    Calls Try.prog 14 #[.agg #[.int .u64 (s.toNat : Nat)], .int .i64 k, .int .i64 n] w fun e w' => ∃ v, e = .returned v ∧ RowsO w' w.heap.size v (ofS 1 s k n) ∧ Fr [] w w' := by
  obtain ⟨w1, e1, hF1, hB1, hB3, hs1⟩ := two_new w #[.int .u64 (s.toNat : Nat)] 25 #[.int .i64 n] 3
  have E1 := Lib.hid e1; have HF := Lib.hid hF1; have HB3 := Lib.hid hB3; have HS1 := Lib.hid hs1
  have x3 := hB3.cell 0
  simp only [List.getElem?_toArray, List.getElem?_cons_zero] at x3
  clear hF1 hB1 hB3 hs1 e1
  go_enter Try.func14, Try.ntmps14
  go_upto_region 1 with fail
  rw [E1.out]
  clear E1
  go_wp2_with fail
  refine (shBounds_any k n).mono ?_
  rintro e w2 ⟨rfl, hF2⟩
  have HF := Lib.hid (HF.out.trans hF2)
  have HB3 := Lib.hid (HB3.out.keep hF2)
  have HS2 : Hid (w.heap.size + 2 ≤ w2.heap.size) := Lib.hid (by have := HS1.out; have := hF2.size; omega)
  obtain ⟨mn, hmn⟩ : ∃ mn, min n k = mn := ⟨_, rfl⟩
  obtain ⟨ok, hok⟩ : ∃ ok, okS k n = ok := ⟨_, rfl⟩
  rw [hok, hmn]
  have HMN := Lib.hid hmn; have HOK := Lib.hid hok
  clear hF2 hmn hok x3
  have x3 := HB3.out.cell 0
  simp only [List.getElem?_toArray, List.getElem?_cons_zero] at x3
  have f3 := HB3.out.free 0
  obtain ⟨w4, e4, hF4, hB4', hs4⟩ := set_new HB3.out 0 (.int .i64 mn)
  have hN4 : Box w4 (w.heap.size + 1) 3 #[.int .i64 mn] := hB4'
  have HN4 := Lib.hid hN4
  have HF4 : Hid (Fr [] w w4) := Lib.hid (HF.out.step hF4 (fun x hx => .inr (by simp at hx; omega)))
  have HS4 : Hid (w.heap.size + 2 ≤ w4.heap.size) := Lib.hid (by have := HS2.out; omega)
  have E4 := Lib.hid e4
  clear hF4 hB4' hs4 hN4 e4
  go_upto_region 2 with fail
  rw [E4.out]
  clear E4 x3 f3
  cases ok with
  | false =>
    have HE : Hid (ofS 1 s k n = []) := Lib.hid (ofS_no HOK.out)
    go_wp2_with fail
    go_ret
    exact ⟨_, rfl, by rw [HE.out]; exact RowsO.nil _ _, HF4.out⟩
  | true =>
    obtain ⟨K, N, hk, hn, hK1, hK2, hN1, hN2, hn1⟩ := okS_yes HOK.out
    have HE : Hid (ofS 1 s k n = spreadS K N) := Lib.hid (by rw [ofS_yes hk hn hK1 hK2 hn1]; rfl)
    have hmn : mn = (N : Int) := by rw [← hn]; exact HMN.out.symm
    clear hn hn1
    subst hk hmn
    have x3 := HN4.out.cell 0
    simp only [List.getElem?_toArray, List.getElem?_cons_zero] at x3
    have HC : Hid (HasC 28 #[] #[.pointer (some ⟨w.heap.size + 1, 0, none⟩)] (fun (u : Unit) i p => (p % N == i, u)) (fun _ W => Box W (w.heap.size + 1) 3 #[.int .i64 (N : Nat)]) [] w4.heap.size N K) := Lib.hid (by
      refine ⟨enters_of Try.func28 (by kernel_rfl) rfl, ?_, ?_, by simp⟩
      · rintro W u i p hi hp h2
        have e : (#[] ++ (#[Value.int .i64 (i : Nat), Value.int .i64 (p : Nat)] ++ #[Value.pointer (some ⟨w.heap.size + 1, 0, none⟩)]) : Array Value) = #[.int .i64 (i : Nat), .int .i64 (p : Nat), .pointer (some ⟨w.heap.size + 1, 0, none⟩)] := by simp
        rw [e]
        refine (shSpread1_any h2 (by omega) i p).mono ?_
        rintro e W' ⟨rfl, hF⟩
        exact ⟨rfl, h2.keep hF, hF⟩
      · rintro W W' T u h2 hF hT
        have := HS4.out
        exact h2.fr hF (fun hm => by have := hT _ hm; omega))
    have HI0 : Hid (Box w4 (w.heap.size + 1) 3 #[.int .i64 (N : Nat)]) := Lib.hid HN4.out
    have hN48 : N ≤ 48 := by omega
    go_wp2_with fail
    refine (shFill_any (σ := Unit) HC.out (s0 := ()) HI0.out hN48 hK2).mono ?_
    rintro e w5 ⟨v5, rfl, hR, -, hF5⟩
    rw [fillF_pure (fun i p => p % N == i)] at hR
    obtain ⟨a5, c5, rfl⟩ := hR.shape
    simp only [List.length_map, List.length_range] at hR ⊢
    have HR : Hid (RowsO w5 w.heap.size _ (spreadS K N)) := Lib.hid (hR.mono (by have := HS4.out; omega))
    have HF5 := Lib.hid (HF4.out.trans hF5)
    clear hR hF5 x3
    go_wp2_with fail
    go_ret
    exact ⟨_, rfl, by rw [HE.out]; exact HR.out, HF5.out⟩
end Go.Proofs.Ytngfenjekgdfbaa

/- The walks of slices.Index, Contains, IndexFunc, ContainsFunc with the function values of shape; of shape.places (printed by gen_sh9.py). -/
namespace Go.Proofs.Ytngfenjekgdfbaa
open Go.RowKit

set_option maxRecDepth 100000 in
set_option maxHeartbeats 4000000 in
theorem ixInts_any {w : World} {v : Value} {xs : List Int} (h : Ints w v xs) (x : Int) :
    Calls Try.prog 42 #[v, .int .i64 x] w fun e w' => ∃ i : Int, e = .returned (.int .i64 i) ∧ decide (0 ≤ i) = xs.contains x ∧ Fr [] w w' := by
  obtain ⟨a, c, rfl⟩ := h.shape
  have hlen := h.len
  have HL := Lib.hid h
  clear h
  go_enter Try.func42, Try.ntmps42
  go_upto_region 2 with fail
  go_loopw [8] (fun iv wr => ∃ j : Nat, j ≤ xs.length ∧ iv = .int .i64 j ∧ x ∉ xs.take j ∧ Fr [] w wr) (fun iv _ => xs.length - (intOf iv).toNat)
  case atStart => exact ⟨0, Nat.zero_le _, rfl, by simp, Fr.refl _ _⟩
  case round =>
    obtain ⟨j, hj, rfl, hno, hF⟩ := hrel
    have HN := Lib.hid hno; have HF := Lib.hid hF
    clear hno hF
    by_cases hlt : j < xs.length
    · obtain ⟨b, o, ea, hb, -⟩ := Sl.at_ HL.out hlt
      subst ea
      have d := HF.out.cellSome (Ints.at_ HL.out j hlt) (by simp)
      have HT : Hid (xs.take (j + 1) = xs.take j ++ [xs[j]]) := Lib.hid (List.take_succ_eq_append_getElem hlt)
      have HM : Hid (xs[j] ∈ xs) := Lib.hid (List.getElem_mem hlt)
      generalize xs[j] = y at *
      by_cases hy : y = x
      · have HE : Hid (xs.contains x = true) := Lib.hid (by rw [List.contains_iff_mem, ← hy]; exact HM.out)
        subst hy
        go_wp2_with fail
        go_ret
        exact ⟨j, rfl, by rw [decide_eq_true (by omega)]; exact HE.out.symm, HF.out⟩
      · have HY := Lib.hid hy
        have hyb : (x == y) = false := beq_eq_false_iff_ne.2 (fun e => hy e.symm)
        have hyc : (y == x) = false := beq_eq_false_iff_ne.2 hy
        clear hy
        go_wp2_with fail
        exact ⟨⟨j + 1, by omega, by go_num, by
          rw [HT.out]
          intro hm
          rcases List.mem_append.1 hm with hm | hm
          · exact HN.out hm
          · simp at hm; exact HY.out hm.symm, HF.out⟩, by simp [intOf]; omega⟩
    · have HE : Hid (xs.contains x = false) := Lib.hid (by
        have := HN.out
        rw [List.take_of_length_le (by omega)] at this
        rw [← Bool.not_eq_true, List.contains_iff_mem]
        exact this)
      go_wp2_with fail
      go_ret
      exact ⟨-1, rfl, by rw [decide_eq_false (by omega)]; exact HE.out.symm, HF.out⟩
set_option maxRecDepth 100000 in
set_option maxHeartbeats 4000000 in
theorem ctInts_any {w : World} {v : Value} {xs : List Int} (h : Ints w v xs) (x : Int) :
    Calls Try.prog 32 #[v, .int .i64 x] w fun e w' => e = .returned (.bool (xs.contains x)) ∧ Fr [] w w' := by
  obtain ⟨a, c, rfl⟩ := h.shape
  have HL := Lib.hid h
  clear h
  go_enter Try.func32, Try.ntmps32
  go_wp2_with fail
  refine (ixInts_any HL.out x).mono ?_
  rintro e w2 ⟨i, rfl, hi, hF⟩
  have HI := Lib.hid hi; have HF := Lib.hid hF
  clear hi hF
  go_wp2_with fail
  go_ret
  exact ⟨by rw [← HI.out]; rfl, HF.out⟩
set_option maxRecDepth 100000 in
set_option maxHeartbeats 4000000 in
theorem shRandom1_any {w : World} {v : Value} {xs : List Int} {g : Nat} {x : Int} (h : Ints w v xs) (hb : Box w g 3 #[.int .i64 x]) :
    Calls Try.prog 31 #[v, .pointer (some ⟨g, 0, none⟩)] w fun e w' => e = .returned (.bool (xs.contains x)) ∧ Fr [] w w' := by
  obtain ⟨a, c, rfl⟩ := h.shape
  have HL := Lib.hid h
  have x0 := hb.cell 0
  simp only [List.getElem?_toArray, List.getElem?_cons_zero] at x0
  clear h hb
  go_enter Try.func31, Try.ntmps31
  go_wp2_with fail
  refine (ctInts_any HL.out x).mono ?_
  rintro e w2 ⟨rfl, hF⟩
  have HF := Lib.hid hF
  obtain ⟨r, hr⟩ : ∃ r, xs.contains x = r := ⟨_, rfl⟩
  rw [hr]
  have HR := Lib.hid hr
  clear hF hr
  go_wp2_with fail
  go_ret
  exact ⟨by rw [HR.out]; rfl, HF.out⟩
set_option maxRecDepth 100000 in
set_option maxHeartbeats 4000000 in
theorem shCovers1_any {w : World} {va : Value} {xs : List Int} {g : Nat} (x : Int) (hb : Box w g 33 #[va]) (h : Ints w va xs) :
    Calls Try.prog 37 #[.int .i64 x, .pointer (some ⟨g, 0, none⟩)] w fun e w' => e = .returned (.bool (!xs.contains x)) ∧ Fr [] w w' := by
  obtain ⟨a, c, rfl⟩ := h.shape
  have HL := Lib.hid h
  have x0 := hb.cell 0
  simp only [List.getElem?_toArray, List.getElem?_cons_zero] at x0
  clear h hb
  go_enter Try.func37, Try.ntmps37
  go_wp2_with fail
  refine (ctInts_any HL.out x).mono ?_
  rintro e w2 ⟨rfl, hF⟩
  have HF := Lib.hid hF
  obtain ⟨r, hr⟩ : ∃ r, xs.contains x = r := ⟨_, rfl⟩
  rw [hr]
  have HR := Lib.hid hr
  clear hF hr
  go_wp2_with fail
  go_ret
  exact ⟨by rw [HR.out]; rfl, HF.out⟩
set_option maxRecDepth 100000 in
set_option maxHeartbeats 4000000 in
theorem ifRows_any {w : World} {v : Value} {s : List (List Int)} {g : Nat} {x : Int} (h : IRows w v s) (hb : Box w g 3 #[.int .i64 x]) :
    Calls Try.prog 41 #[v, .func (.func 31) #[] #[.pointer (some ⟨g, 0, none⟩)]] w fun e w' => ∃ i : Int, e = .returned (.int .i64 i) ∧ decide (0 ≤ i) = hasS s x ∧ Fr [] w w' := by
  obtain ⟨a, c, rfl⟩ := SlOf.shape h
  have hlen := h.len
  have HL := Lib.hid h; have HB := Lib.hid hb
  clear h hb
  go_enter Try.func41, Try.ntmps41
  go_upto_region 2 with fail
  go_loopw [8] (fun iv wr => ∃ j : Nat, j ≤ s.length ∧ iv = .int .i64 j ∧ (∀ r ∈ s.take j, r.contains x = false) ∧ Fr [] w wr) (fun iv _ => s.length - (intOf iv).toNat)
  case atStart => exact ⟨0, Nat.zero_le _, rfl, by simp, Fr.refl _ _⟩
  case round =>
    obtain ⟨j, hj, rfl, hno, hF⟩ := hrel
    have HN := Lib.hid hno; have HF := Lib.hid hF
    clear hno hF
    by_cases hlt : j < s.length
    · obtain ⟨b, o, al, cl, ea, hb, hcell, hR⟩ := IRows.at_ HL.out j hlt
      subst ea
      have d := HF.out.cellSome hcell (by simp)
      have HR := Lib.hid (hR.keep HF.out)
      have HT : Hid (s.take (j + 1) = s.take j ++ [s[j]]) := Lib.hid (List.take_succ_eq_append_getElem hlt)
      have HM : Hid (s[j] ∈ s) := Lib.hid (List.getElem_mem hlt)
      clear hcell hR
      generalize s[j] = r at *
      go_wp2_with fail
      refine (shRandom1_any HR.out (HB.out.keep HF.out)).mono ?_
      rintro e w2 ⟨rfl, hF⟩
      have HF := Lib.hid (HF.out.trans hF)
      clear hF d
      cases hc : r.contains x with
      | true =>
        have HE := Lib.hid (hasS_mem HM.out hc)
        clear hc
        go_wp2_with fail
        go_ret
        exact ⟨j, rfl, by rw [decide_eq_true (by omega)]; exact HE.out.symm, HF.out⟩
      | false =>
        have HC := Lib.hid hc
        clear hc
        go_wp2_with fail
        exact ⟨⟨j + 1, by omega, by go_num, by
          intro q hq
          rw [HT.out] at hq
          rcases List.mem_append.1 hq with hq | hq
          · exact HN.out q hq
          · simp at hq; rw [hq]; exact HC.out, HF.out⟩, by simp [intOf]; omega⟩
    · have HE : Hid (hasS s x = false) := Lib.hid (by
        have := HN.out
        rw [List.take_of_length_le (by omega)] at this
        unfold hasS
        rw [List.any_eq_false]
        intro r hr
        rw [this r hr]; simp)
      go_wp2_with fail
      go_ret
      exact ⟨-1, rfl, by rw [decide_eq_false (by omega)]; exact HE.out.symm, HF.out⟩
set_option maxRecDepth 100000 in
set_option maxHeartbeats 4000000 in
theorem cfRows_any {w : World} {v : Value} {s : List (List Int)} {g : Nat} {x : Int} (h : IRows w v s) (hb : Box w g 3 #[.int .i64 x]) :
    Calls Try.prog 30 #[v, .func (.func 31) #[] #[.pointer (some ⟨g, 0, none⟩)]] w fun e w' => e = .returned (.bool (hasS s x)) ∧ Fr [] w w' := by
  obtain ⟨a, c, rfl⟩ := SlOf.shape h
  have HL := Lib.hid h; have HB := Lib.hid hb
  clear h hb
  go_enter Try.func30, Try.ntmps30
  go_wp2_with fail
  refine (ifRows_any HL.out HB.out).mono ?_
  rintro e w2 ⟨i, rfl, hi, hF⟩
  have HI := Lib.hid hi; have HF := Lib.hid hF
  clear hi hF
  go_wp2_with fail
  go_ret
  exact ⟨by rw [← HI.out]; rfl, HF.out⟩
set_option maxRecDepth 100000 in
set_option maxHeartbeats 4000000 in
theorem ifInts_any {w : World} {v va : Value} {ps xs : List Int} {g : Nat} (h : Ints w v ps) (hb : Box w g 33 #[va]) (hx : Ints w va xs) :
    Calls Try.prog 45 #[v, .func (.func 37) #[] #[.pointer (some ⟨g, 0, none⟩)]] w fun e w' => ∃ i : Int, e = .returned (.int .i64 i) ∧ decide (0 ≤ i) = (ps.any fun p => !xs.contains p) ∧ Fr [] w w' := by
  obtain ⟨a, c, rfl⟩ := h.shape
  have hlen := h.len
  have HL := Lib.hid h; have HB := Lib.hid hb; have HX := Lib.hid hx
  clear h hb hx
  go_enter Try.func45, Try.ntmps45
  go_upto_region 2 with fail
  go_loopw [8] (fun iv wr => ∃ j : Nat, j ≤ ps.length ∧ iv = .int .i64 j ∧ (∀ r ∈ ps.take j, xs.contains r = true) ∧ Fr [] w wr) (fun iv _ => ps.length - (intOf iv).toNat)
  case atStart => exact ⟨0, Nat.zero_le _, rfl, by simp, Fr.refl _ _⟩
  case round =>
    obtain ⟨j, hj, rfl, hno, hF⟩ := hrel
    have HN := Lib.hid hno; have HF := Lib.hid hF
    clear hno hF
    by_cases hlt : j < ps.length
    · obtain ⟨b, o, ea, hb, -⟩ := Sl.at_ HL.out hlt
      subst ea
      have d := HF.out.cellSome (Ints.at_ HL.out j hlt) (by simp)
      have HT : Hid (ps.take (j + 1) = ps.take j ++ [ps[j]]) := Lib.hid (List.take_succ_eq_append_getElem hlt)
      have HM : Hid (ps[j] ∈ ps) := Lib.hid (List.getElem_mem hlt)
      generalize ps[j] = r at *
      go_wp2_with fail
      refine (shCovers1_any r (HB.out.keep HF.out) (HX.out.keep HF.out)).mono ?_
      rintro e w2 ⟨rfl, hF⟩
      have HF := Lib.hid (HF.out.trans hF)
      clear hF d
      cases hc : xs.contains r with
      | false =>
        have HE : Hid ((ps.any fun p => !xs.contains p) = true) := Lib.hid (by rw [List.any_eq_true]; exact ⟨r, HM.out, by rw [hc]; rfl⟩)
        clear hc
        go_wp2_with fail
        go_ret
        exact ⟨j, rfl, by rw [decide_eq_true (by omega)]; exact HE.out.symm, HF.out⟩
      | true =>
        have HC := Lib.hid hc
        clear hc
        go_wp2_with fail
        exact ⟨⟨j + 1, by omega, by go_num, by
          intro q hq
          rw [HT.out] at hq
          rcases List.mem_append.1 hq with hq | hq
          · exact HN.out q hq
          · simp at hq; rw [hq]; exact HC.out, HF.out⟩, by simp [intOf]; omega⟩
    · have HE : Hid ((ps.any fun p => !xs.contains p) = false) := Lib.hid (by
        have := HN.out
        rw [List.take_of_length_le (by omega)] at this
        rw [List.any_eq_false]
        intro r hr
        rw [this r hr]; simp)
      go_wp2_with fail
      go_ret
      exact ⟨-1, rfl, by rw [decide_eq_false (by omega)]; exact HE.out.symm, HF.out⟩
set_option maxRecDepth 100000 in
set_option maxHeartbeats 4000000 in
theorem cfInts_any {w : World} {v va : Value} {ps xs : List Int} {g : Nat} (h : Ints w v ps) (hb : Box w g 33 #[va]) (hx : Ints w va xs) :
    Calls Try.prog 35 #[v, .func (.func 37) #[] #[.pointer (some ⟨g, 0, none⟩)]] w fun e w' => e = .returned (.bool (ps.any fun p => !xs.contains p)) ∧ Fr [] w w' := by
  obtain ⟨a, c, rfl⟩ := h.shape
  have HL := Lib.hid h; have HB := Lib.hid hb; have HX := Lib.hid hx
  clear h hb hx
  go_enter Try.func35, Try.ntmps35
  go_wp2_with fail
  refine (ifInts_any HL.out HB.out HX.out).mono ?_
  rintro e w2 ⟨i, rfl, hi, hF⟩
  have HI := Lib.hid hi; have HF := Lib.hid hF
  clear hi hF
  go_wp2_with fail
  go_ret
  exact ⟨by rw [← HI.out]; rfl, HF.out⟩
set_option maxRecDepth 100000 in
set_option maxHeartbeats 4000000 in
theorem shPlaces_any {w : World} (k : Int) (hk : k ≤ 1000) :
    Calls Try.prog 36 #[.int .i64 k] w fun e w' => ∃ v, e = .returned v ∧ OwnV w' w.heap.size 3 (Value.int .i64) v (uptoI k.toNat) ∧ Fr [] w w' := by
  obtain ⟨K, hK⟩ : ∃ K : Nat, max k 0 = (K : Int) := ⟨k.toNat, by omega⟩
  have HKE : Hid (k.toNat = K) := Lib.hid (by omega)
  have hK2 : K ≤ 1000 := by omega
  go_enter Try.func36, Try.ntmps36
  go_upto_region 3 with fail
  go_loopw [3, 7] (fun ov iv wr => ∃ (j : Nat) (ys : List Int), j ≤ K ∧ iv = .int .i64 j ∧ ys = uptoI j ∧ OwnV wr w.heap.size 3 (Value.int .i64) ov ys ∧ Fr [] w wr) (fun _ iv _ => K - (intOf iv).toNat)
  case atStart => exact ⟨0, [], by omega, rfl, rfl, OwnV.nil _ _ _ _, Fr.refl _ _⟩
  case round =>
    obtain ⟨j, ys, hj, rfl, hys, hO, hF⟩ := hrel
    obtain ⟨ao, co, rfl⟩ := hO.shape
    have HLO : Hid (ys.length ≤ 1099511627776) := Lib.hid (by rw [hys, upto_len]; omega)
    have HYS := Lib.hid hys; have HO := Lib.hid hO; have HFQ := Lib.hid hF
    clear hys hO hF
    by_cases hlt : j < K
    · have HSN : Hid (ys ++ [(j : Int)] = uptoI (j + 1)) := Lib.hid (by rw [HYS.out, upto_succ])
      have A0 : Hid ((wr.alloc (.cells #[Value.int .i64 (j : Int)] 3)).ownsRow w.heap.size 3 1 (.slice ao ys.length co) (ys).length ((ys).map (Value.int .i64))) := Lib.hid (Own.keep HO.out ((Fr.refl [] wr).alloc _))
      have A1 : Hid ((ys).length + [Value.int .i64 (j : Int)].length ≤ maxLen) := Lib.hid (by have := HLO.out; unfold maxLen; simp only [List.length_singleton]; omega)
      have A2 : Hid (((ys).length + [Value.int .i64 (j : Int)].length) * 8 ≤ 140737488355328) := Lib.hid (by have := HLO.out; simp only [List.length_singleton]; omega)
      have A3 : Hid (Sl (wr.alloc (.cells #[Value.int .i64 (j : Int)] 3)) (.slice (some ⟨wr.heap.size, 0, none⟩) 1 1) [Value.int .i64 (j : Int)]) := Lib.hid (Sl.one wr _ _)
      have A4 : Hid (w.heap.size ≤ (wr.alloc (.cells #[Value.int .i64 (j : Int)] 3)).heap.size) := Lib.hid (by have := HFQ.out.size; simp; omega)
      go_wp2_with (at_builtin; refine wpList_append_slf rfl (.tmp 10) (.tmp 12) 33 rfl w.heap.size 3 (.int .i64 0) 8 Try.underlying33 info_int rfl (.slice ao ys.length co) (ys).length ((ys).map (Value.int .i64)) rfl A0.out (.slice (some ⟨wr.heap.size, 0, none⟩) 1 1) [Value.int .i64 (j : Int)] rfl A3.out (by simp [Value.oneCell']) A1.out A2.out A4.out ?_; intro v3 w3 ho hg hfr; have HO3 := Lib.hid ho; have HG := Lib.hid hg; have HBL := Lib.hid hfr; clear ho hg hfr)
      have HN : Hid (OwnV w3 w.heap.size 3 (Value.int .i64) v3 (ys ++ [(j : Int)])) := Lib.hid (by
        have := HO3.out
        unfold OwnV
        rw [List.map_append, List.length_append]
        exact this)
      have HF3 : Hid (Fr [] w w3) := Lib.hid ((HFQ.out.alloc _).step HG.out (fun x hx => .inr (HO.out.block x (by simpa using hx)).1))
      go_wp2_with fail
      exact ⟨⟨j + 1, ys ++ [(j : Int)], by omega, by go_num, HSN.out, HN.out, HF3.out⟩, by simp [intOf]; omega⟩
    · obtain rfl : j = K := by omega
      have HE : Hid (ys = uptoI k.toNat) := Lib.hid (by rw [HYS.out, HKE.out])
      go_wp2_with fail
      go_ret
      exact ⟨_, rfl, by rw [← HE.out]; exact HO.out, HFQ.out⟩
end Go.Proofs.Ytngfenjekgdfbaa

/- The walks of slices.Grow, Concat; of shape.Covers (printed by gen_sh10.py). -/
namespace Go.Proofs.Ytngfenjekgdfbaa
open Go.RowKit

theorem ownsRow_none {w : World} {base : Nat} {e : TypeId} {a : Option Addr} {n c : Nat} {xs : List Value} (h : w.ownsRow base e 1 (.slice a n c) n xs) (ha : ∃ g, a = some ⟨g, 0, none⟩) : w.ownsRow base e 1 (.slice a 0 c) 0 [] := by
  rcases h.2 with ⟨h0, _⟩ | ⟨g, cap, cur, h0, hb, hg, hc, hm, hs, ht⟩
  · obtain ⟨g, rfl⟩ := ha; cases h0
  · cases h0
    exact ⟨by simp, .inr ⟨g, c, cur, rfl, hb, hg, Nat.zero_le _, hm, hs, by simp⟩⟩
theorem covers_eq (s : List (List Int)) (k : Int) : (!(uptoI (min k 49).toNat).any fun p => !s.flatten.contains p) = coversS s k := by
  unfold coversS uptoI
  rw [Bool.eq_iff_iff, List.all_eq_true, Bool.not_eq_true', List.any_eq_false]
  have hh : ∀ x : Int, s.flatten.contains x = hasS s x := fun x => by
    unfold hasS
    rw [Bool.eq_iff_iff, List.contains_iff_mem, List.mem_flatten, List.any_eq_true]
    exact ⟨fun ⟨r, h1, h2⟩ => ⟨r, h1, List.contains_iff_mem.2 h2⟩, fun ⟨r, h1, h2⟩ => ⟨r, h1, List.contains_iff_mem.1 h2⟩⟩
  constructor
  · intro h p hp
    have := h (p : Int) (List.mem_map.2 ⟨p, hp, rfl⟩)
    rw [hh] at this
    simpa using this
  · intro h x hx
    obtain ⟨p, hp, rfl⟩ := List.mem_map.1 hx
    rw [hh, h p hp]
    simp
set_option maxRecDepth 100000 in
set_option maxHeartbeats 4000000 in
theorem growInts_any {w : World} (N : Nat) (hN : N ≤ 1073741824) :
    Calls Try.prog 44 #[.slice none 0 0, .int .i64 (N : Nat)] w fun e w' => ∃ v, e = .returned v ∧ OwnV w' w.heap.size 3 (Value.int .i64) v [] ∧ Fr [] w w' := by
  by_cases h0 : N = 0
  · subst h0
    go_enter Try.func44, Try.ntmps44
    go_wp2_with fail
    go_ret
    exact ⟨_, rfl, OwnV.nil _ _ _ _, Fr.refl _ _⟩
  · obtain ⟨ii, hi1, hi2, hi3, hi4⟩ := info_parts info_int
    obtain ⟨v3, w3, hr3, ho3, hF3, hn3⟩ := run_append_zeros (P := Try.prog) w w.heap.size 33 3 33 3 ii (.int .i64 0) 8 Try.underlying33 Try.underlying3 hi1 hi2 hi3 hi4 rfl rfl (.slice none 0 0) 0 [] (World.ownsRow_nil _ _ _ _) N (by omega) (by unfold maxLen; omega) (by omega) (Nat.le_refl _)
    have HR3 := Lib.hid hr3
    rcases ho3.2 with ⟨h1, h2⟩ | ⟨g, cap, cur, h1, hb, hg, hc, hm, hs, ht⟩
    · omega
    · subst h1
      have HO : Hid (OwnV w3 w.heap.size 3 (Value.int .i64) (.slice (some ⟨g, 0, none⟩) 0 cap) []) := Lib.hid (ownsRow_none ho3 ⟨g, rfl⟩)
      have HF : Hid (Fr [] w w3) := Lib.hid hF3
      clear hr3 ho3 hF3 hn3 hg hs ht hi1 hi2 hi3 hi4
      have hp : (0 : Int) < (N : Int) := by omega
      have h0n : ¬ (N : Int) = 0 := by omega
      unfold maxLen at hm
      go_enter Try.func44, Try.ntmps44
      go_wp2_with (at_builtin; refine Lib.wpList_append_run _ rfl _ _ _ _ rfl _ _ rfl rfl _ _ HR3.out ?_)
      go_ret
      exact ⟨_, rfl, HO.out, HF.out⟩
set_option maxRecDepth 100000 in
set_option maxHeartbeats 4000000 in
theorem concatInts_any {w : World} {v : Value} {s : List (List Int)} (h : IRows w v s) (hz : sumLen s ≤ 1073741824) :
    Calls Try.prog 34 #[v] w fun e w' => ∃ v', e = .returned v' ∧ OwnV w' w.heap.size 3 (Value.int .i64) v' s.flatten ∧ Fr [] w w' := by
  obtain ⟨a, c, rfl⟩ := SlOf.shape h
  have hlen := h.len
  have HL := Lib.hid h
  have HTS : Hid (∀ j, sumLen (s.take j) ≤ 1073741824) := Lib.hid (fun j => by
    have h1 : sumLen s = sumLen (s.take j) + sumLen (s.drop j) := by unfold sumLen; rw [← List.sum_append, ← List.map_append, List.take_append_drop]
    omega)
  have HZ := Lib.hid hz
  clear h hz
  go_enter Try.func34, Try.ntmps34
  go_upto_region 3 with fail
  go_loopw [3, 11] (fun zv iv wr => ∃ j m : Nat, j ≤ s.length ∧ iv = .int .i64 j ∧ zv = .int .i64 m ∧ m = sumLen (s.take j) ∧ Fr [] w wr) (fun _ iv _ => s.length - (intOf iv).toNat)
  case atStart => exact ⟨0, 0, Nat.zero_le _, rfl, rfl, rfl, Fr.refl _ _⟩
  case round =>
    obtain ⟨j, m, hj, rfl, rfl, hm, hF⟩ := hrel
    have hm0 : m ≤ 1073741824 := by rw [hm]; exact HTS.out j
    have HM := Lib.hid hm; have HF := Lib.hid hF
    clear hm hF
    by_cases hlt : j < s.length
    · obtain ⟨b, o, al, cl, ea, hb, hcell, hR⟩ := IRows.at_ HL.out j hlt
      subst ea
      have d := HF.out.cellSome hcell (by simp)
      have HT : Hid (s.take (j + 1) = s.take j ++ [s[j]]) := Lib.hid (List.take_succ_eq_append_getElem hlt)
      have hs2 : m + s[j].length ≤ 1073741824 := by have h1 := HTS.out (j + 1); rw [HT.out, sumLen_snoc, ← HM.out] at h1; exact h1
      have HS : Hid (m + s[j].length = sumLen (s.take (j + 1))) := Lib.hid (by rw [HT.out, sumLen_snoc, HM.out])
      clear hcell hR
      generalize s[j].length = nr at *
      have hng : ¬ (m : Int) + (nr : Int) < 0 := by omega
      go_wp2_with fail
      exact ⟨⟨j + 1, m + nr, by omega, by go_num, by go_num, HS.out, HF.out⟩, by simp [intOf]; omega⟩
    · have HE : Hid (sumLen s = m) := Lib.hid (by rw [HM.out, List.take_of_length_le (by omega)])
      go_wp2_with fail
      refine (growInts_any m hm0).mono ?_
      rintro e w2 ⟨v2, rfl, hO, hF2⟩
      have HO : Hid (OwnV w2 w.heap.size 3 (Value.int .i64) v2 []) := Lib.hid (hO.mono HF.out.size)
      have HF := Lib.hid (HF.out.trans hF2)
      clear hO hF2
      go_upto_region 11 with fail
      go_loopw [6, 27] (fun ov iv wr => ∃ (j : Nat) (ys : List Int), j ≤ s.length ∧ iv = .int .i64 j ∧ ys = (s.take j).flatten ∧ OwnV wr w.heap.size 3 (Value.int .i64) ov ys ∧ Fr [] w wr) (fun _ iv _ => s.length - (intOf iv).toNat)
      case atStart => exact ⟨0, [], Nat.zero_le _, rfl, rfl, HO.out, HF.out⟩
      case round =>
        clear HO HF
        obtain ⟨j, ys, hj, rfl, hys, hO, hF⟩ := hrel
        obtain ⟨ao, co, rfl⟩ := hO.shape
        have HYS := Lib.hid hys; have HO := Lib.hid hO; have HFQ := Lib.hid hF
        clear hys hO hF
        by_cases hlt : j < s.length
        · obtain ⟨b, o, al, cl, ea, hb, hcell, hR⟩ := IRows.at_ HL.out j hlt
          subst ea
          have d := HFQ.out.cellSome hcell (by simp)
          have HR := Lib.hid (hR.keep HFQ.out)
          have HT : Hid (s.take (j + 1) = s.take j ++ [s[j]]) := Lib.hid (List.take_succ_eq_append_getElem hlt)
          have HSN : Hid (ys ++ s[j] = (s.take (j + 1)).flatten) := Lib.hid (by rw [HT.out, List.flatten_append, HYS.out]; simp)
          have HLB : Hid (ys.length + s[j].length ≤ 1073741824) := Lib.hid (by
            have h1 := HTS.out (j + 1)
            have h2 := congrArg List.length HSN.out
            rw [List.length_append, List.length_flatten] at h2
            unfold sumLen at h1
            omega)
          clear hcell hR
          generalize s[j] = r at *
          have A1 : Hid (ys.length + (r.map (Value.int .i64)).length ≤ maxLen) := Lib.hid (by have := HLB.out; unfold maxLen; rw [List.length_map]; omega)
          have A2 : Hid ((ys.length + (r.map (Value.int .i64)).length) * 8 ≤ 140737488355328) := Lib.hid (by have := HLB.out; rw [List.length_map]; omega)
          have A4 : Hid (w.heap.size ≤ wr.heap.size) := Lib.hid HFQ.out.size
          have hone : Hid (∀ u ∈ r.map (Value.int .i64), u.oneCell' = true) := Lib.hid (by intro u hu; obtain ⟨x, -, rfl⟩ := List.mem_map.1 hu; rfl)
          go_wp2_with (at_builtin; refine wpList_append_slf rfl (.tmp 31) (.tmp 32) 33 rfl w.heap.size 3 (.int .i64 0) 8 Try.underlying33 info_int rfl (.slice ao ys.length co) ys.length (ys.map (Value.int .i64)) rfl HO.out (.slice al r.length cl) (r.map (Value.int .i64)) rfl HR.out hone.out A1.out A2.out A4.out ?_; intro v3 w3 ho hg hfr; have HO3 := Lib.hid ho; have HG := Lib.hid hg; clear ho hg hfr)
          have HN : Hid (OwnV w3 w.heap.size 3 (Value.int .i64) v3 (ys ++ r)) := Lib.hid (by
            have := HO3.out
            rw [List.length_map] at this
            unfold OwnV
            rw [List.map_append, List.length_append]
            exact this)
          have HF3 : Hid (Fr [] w w3) := Lib.hid (HFQ.out.step HG.out (fun x hx => .inr (HO.out.block x (mem_toList.1 hx)).1))
          exact ⟨⟨j + 1, ys ++ r, by omega, by go_num, HSN.out, HN.out, HF3.out⟩, by simp [intOf]; omega⟩
        · have HE : Hid (ys = s.flatten) := Lib.hid (by rw [HYS.out, List.take_of_length_le (by omega)])
          go_wp2_with fail
          go_ret
          exact ⟨_, rfl, by rw [← HE.out]; exact HO.out, HFQ.out⟩
set_option maxRecDepth 100000 in
set_option maxHeartbeats 4000000 in
theorem shCovers_any {w : World} {v : Value} {s : List (List Int)} (h : IRows w v s) (k : Int) (hz : sumLen s ≤ 1073741824) :
    Calls Try.prog 17 #[v, .int .i64 k] w fun e w' => e = .returned (.bool (coversS s k)) ∧ Fr [] w w' := by
  have HL := Lib.hid h; have HZ := Lib.hid hz
  have HE := Lib.hid (covers_eq s k)
  clear h hz
  go_enter Try.func17, Try.ntmps17
  go_wp2_with fail
  refine (concatInts_any HL.out HZ.out).mono ?_
  rintro e w2 ⟨v2, rfl, hO, hF2⟩
  obtain ⟨a2, c2, rfl⟩ := hO.shape
  have HO : Hid (Ints w2 _ s.flatten) := Lib.hid hO.sl
  have HF := Lib.hid hF2
  have HB2 : Hid (∀ b, liveOf (.slice a2 s.flatten.length c2) = some b → b < w2.heap.size) := Lib.hid (Sl.lt hO.sl)
  clear hO hF2
  obtain ⟨fl, hfl⟩ : ∃ fl, s.flatten = fl := ⟨_, rfl⟩
  rw [hfl] at HE HO HB2 ⊢
  clear hfl
  go_upto_region 2 with fail
  obtain ⟨w3, e3, hF3, hB3, hs3⟩ := one_new w2 #[.slice a2 fl.length c2] 33
  rw [e3]
  have HO := Lib.hid (HO.out.keep hF3)
  have HF := Lib.hid (HF.out.trans hF3)
  have HB3 := Lib.hid hB3
  obtain ⟨km, hkm⟩ : ∃ km, min k 49 = km := ⟨_, rfl⟩
  have hkb : km ≤ 1000 := by omega
  rw [hkm] at HE
  have HKM := Lib.hid hkm
  clear e3 hF3 hB3 hs3
  generalize w2.heap.size = g at *
  go_wp2_with fail
  try rw [HKM.out]
  refine (shPlaces_any km hkb).mono ?_
  rintro e w4 ⟨v4, rfl, hO4, hF4⟩
  have HP : Hid (Ints w4 v4 (uptoI km.toNat)) := Lib.hid hO4.sl
  have HO := Lib.hid (HO.out.keep hF4)
  have HF := Lib.hid (HF.out.trans hF4)
  have HB3 := Lib.hid (HB3.out.keep hF4)
  clear hO4 hF4
  go_wp2_with fail
  refine (cfInts_any HP.out HB3.out HO.out).mono ?_
  rintro e w5 ⟨rfl, hF5⟩
  have HF := Lib.hid (HF.out.trans hF5)
  obtain ⟨r, hr⟩ : ∃ r, ((uptoI km.toNat).any fun p => !fl.contains p) = r := ⟨_, rfl⟩
  rw [hr]
  rw [hr] at HE
  clear hr hF5
  go_wp2_with fail
  go_ret
  exact ⟨by rw [← HE.out]; rfl, HF.out⟩
end Go.Proofs.Ytngfenjekgdfbaa
