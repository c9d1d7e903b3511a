import Derived.Maps.OwnSet
import Derived.Test.YtchbgiindfoepaaMs34
import Derived.Test.YtchbgiindfoepaaMs17
/- The walk of solve.Book: packets by their numbers in a map of its own (printed by gen_book.py). -/
namespace Go.Proofs.Ytchbgiindfoepaa
open Go.RowKit Go.Maps

def heldR (v : Value) : Option (DataW Value × List MemPlace) := some (.held v, [])
def bkey (n : UInt16) : Lit := .int .u16 (n.toNat : Nat)
theorem bkey_ne {a b : UInt16} (h : a ≠ b) : bkey a ≠ bkey b := by
  intro e
  unfold bkey at e
  injection e with _ e
  exact h (UInt16.toNat_inj.1 (by omega))
theorem bkey_wf (n : UInt16) : (bkey n).wf = true := WalkArith.wf_u16 (by have := n.toNat_lt; omega)
theorem keyU16 : Keyed Try.prog 42 := int_keyed Try.underlying42
theorem zeroBytes (w : World) : (zeroValue 25).run Try.prog w = .ok (.slice none 0 0) w := by kernel_rfl
/-- A map of its own, packets' bytes by their numbers. -/
structure BookV (w : World) (base b : Nat) (D : DataW Value) (K : UInt16 → Option (List UInt8)) (c : Nat) : Prop where
  own : w.ownsMap Try.prog 42 heldR b c D
  tidy : Tidy D
  none_ : ∀ n, K n = none → ∀ z, D.atKey (bkey n) z = z
  some_ : ∀ n l, K n = some l → ∃ v, (∀ z, D.atKey (bkey n) z = .held v) ∧ Bytes w v l ∧ ∀ x, liveOf v = some x → base ≤ x
  size : Maps.size D = c
theorem bkey_is (n : UInt16) : WideAt.IsKeyLit (bkey n) := trivial
set_option maxRecDepth 100000 in
theorem BookV.run {w : World} {base b c : Nat} {D : DataW Value} {K : UInt16 → Option (List UInt8)} (h : BookV w base b D K c) (n : UInt16) :
    ∃ v, (∀ t : Bool, (Instr.lookup 96 (.map (some b)) (.int .u16 (n.toNat : Nat)) t).run Try.prog w = .ok (if t then .tuple #[v, .bool (K n).isSome] else v) w) ∧ Bytes w v ((K n).getD []) := by
  obtain ⟨own, -, hn, hs, -⟩ := h
  obtain ⟨es, clock, hb, F, -, rfl⟩ := own
  have hkey : keyOf Try.prog 42 (.int .u16 (n.toNat : Nat)) = some (bkey n) := keyOf_int_mk Try.underlying42 (bkey_wf n)
  have X := fun t => fit_look t keyU16 Try.underlying96 (zeroBytes w) hb F hkey
  cases hk : K n with
  | none =>
    refine ⟨.slice none 0 0, fun t => ?_, Sl.nil w⟩
    rcases X t with ⟨hrun, -, -⟩ | ⟨e0, y, -, -, -, hR, hat, -⟩
    · rw [hrun]; cases t <;> rfl
    · exfalso
      cases hR
      have := (hat .nil).symm.trans (hn n hk .nil)
      cases this
  | some l =>
    obtain ⟨v, hv, hB, -⟩ := hs n l hk
    refine ⟨v, fun t => ?_, hB⟩
    rcases X t with ⟨-, -, hat⟩ | ⟨e0, y, -, -, hrun, hR, hat, -⟩
    · exfalso
      have := (hat .nil).symm.trans (hv .nil)
      cases this
    · cases hR
      have := (hat .nil).symm.trans (hv .nil)
      injection this with this
      rw [hrun, this]; cases t <;> rfl
theorem BookV.keep {w w' : World} {base b c : Nat} {D : DataW Value} {K : UInt16 → Option (List UInt8)} (h : BookV w base b D K c) (hf : Fr [] w w') : BookV w' base b D K c :=
  ⟨hf.ownsMap h.own (by simp), h.tidy, h.none_, fun n l hl => by obtain ⟨v, h1, h2, h3⟩ := h.some_ n l hl; exact ⟨v, h1, Sl.keep h2 hf, h3⟩, h.size⟩
theorem BookV.made (w : World) (base : Nat) : BookV (w.alloc (.map #[] 0)) base w.heap.size (.map []) (fun _ => none) 0 :=
  ⟨World.ownsMap_made _ _ _ _, tidy_empty, fun n _ z => rfl, fun n l h => (by cases h), rfl⟩
/-- Is a packet the first of its number? -/
def fresh (ls : List (List UInt8)) (l : List UInt8) : Bool := match parseR l with | .ok p => (findL ls p.seq).isNone | .error _ => false
def bookC (ls : List (List UInt8)) (k : Nat) : Nat := ((List.range k).filter fun i => fresh (ls.take i) (ls.getD i [])).length
theorem bookC_succ (ls : List (List UInt8)) (k : Nat) : bookC ls (k + 1) = bookC ls k + if fresh (ls.take k) (ls.getD k []) then 1 else 0 := by
  unfold bookC
  rw [List.range_succ, List.filter_append, List.length_append]
  by_cases h : fresh (ls.take k) (ls.getD k []) = true
  · rw [if_pos h, List.filter_cons_of_pos (by simpa using h)]; rfl
  · rw [if_neg h, List.filter_cons_of_neg (by simpa using h)]; rfl
theorem bookC_le (ls : List (List UInt8)) (k : Nat) : bookC ls k ≤ k := by
  unfold bookC
  have := List.length_filter_le (fun i => fresh (ls.take i) (ls.getD i [])) (List.range k)
  rw [List.length_range] at this
  exact this
theorem findL_snoc (ls : List (List UInt8)) (l : List UInt8) (n : UInt16) : findL (ls ++ [l]) n = (findL ls n).or (if isNo n l then some l else none) := by
  unfold findL
  rw [List.find?_append]
  cases h : isNo n l <;> simp [List.find?_cons, h]
theorem findL_bad {l : List UInt8} {k : Int} (h : parseR l = .error k) (ls : List (List UInt8)) : findL (ls ++ [l]) = findL ls := by
  funext n
  rw [findL_snoc, show isNo n l = false by unfold isNo; rw [h]]
  simp
theorem findL_old {l : List UInt8} {p : Pkt} (h : parseR l = .ok p) {ls : List (List UInt8)} {x : List UInt8} (hx : findL ls p.seq = some x) : findL (ls ++ [l]) = findL ls := by
  funext n
  rw [findL_snoc]
  by_cases e : p.seq = n
  · subst e; rw [hx]; rfl
  · rw [show isNo n l = false by unfold isNo; rw [h]; simpa using e]; simp
theorem findL_new {l : List UInt8} {p : Pkt} (h : parseR l = .ok p) {ls : List (List UInt8)} (hx : findL ls p.seq = none) (n : UInt16) : findL (ls ++ [l]) n = if p.seq = n then some l else findL ls n := by
  rw [findL_snoc]
  by_cases e : p.seq = n
  · subst e; rw [hx, if_pos rfl, show isNo p.seq l = true by unfold isNo; rw [h]; simp]; rfl
  · rw [if_neg e, show isNo n l = false by unfold isNo; rw [h]; simpa using e]; simp
theorem BookV.put {w w' : World} {base b c : Nat} {D : DataW Value} {ls : List (List UInt8)} {l : List UInt8} {p : Pkt} {v : Value} (h : BookV w base b D (findL ls) c) (hp : parseR l = .ok p) (hx : findL ls p.seq = none)
    (hv : Bytes w v l) (hl : ∀ x, liveOf v = some x → base ≤ x) (hb : b < base)
    (hown : w'.ownsMap Try.prog 42 heldR b (c + 1) (D.put (bkey p.seq) (.held v))) (hg : Fr [b] w w') : BookV w' base b (D.put (bkey p.seq) (.held v)) (findL (ls ++ [l])) (c + 1) := by
  refine ⟨hown, h.tidy.put (bkey_is _) _, fun n hn z => ?_, fun n x hn => ?_, ?_⟩
  · rw [findL_new hp hx] at hn
    split at hn
    · cases hn
    · rename_i ne
      rw [atKey_put_other (bkey_ne (Ne.symm ne)), h.none_ n hn]
  · rw [findL_new hp hx] at hn
    split at hn
    · rename_i e
      cases hn
      subst e
      exact ⟨v, fun z => atKey_put_same h.tidy.isMap (bkey_is _) _ _, Sl.frL hv hg (fun y hy hm => by have := hl y hy; simp at hm; omega), hl⟩
    · rename_i ne
      obtain ⟨v1, h1, h2, h3⟩ := h.some_ n x hn
      exact ⟨v1, fun z => by rw [atKey_put_other (bkey_ne (Ne.symm ne)), h1], Sl.frL h2 hg (fun y hy hm => by have := h3 y hy; simp at hm; omega), h3⟩
  · rw [size_put h.tidy, has_false_of_atKey (h.none_ _ hx), h.size]
    rfl
set_option maxRecDepth 100000 in
set_option maxHeartbeats 8000000 in
theorem svBook_any {w : World} {v : Value} {ls : List (List UInt8)} (hl : BRows w v ls) (hs : ls.length ≤ 1000) :
    Calls Try.prog 50 #[v] w fun e w' => ∃ b D, e = .returned (.map (some b)) ∧ BookV w' (b + 1) b D (findL ls) (bookC ls ls.length) ∧ Fr [] w w' := by
  obtain ⟨av, cv, rfl⟩ := hl.shape
  obtain ⟨w1, hw1⟩ : ∃ w1, w.alloc (.map #[] 0) = w1 := ⟨_, rfl⟩
  have hF : Fr [] w w1 := by rw [← hw1]; exact (Fr.refl _ _).alloc _
  have hB : BookV w1 (w.heap.size + 1) w.heap.size (.map []) (fun _ => none) 0 := by rw [← hw1]; exact BookV.made _ _
  have hz : w1.heap.size = w.heap.size + 1 := by rw [← hw1]; simp
  have HL := Lib.hid (hl.keep hF); have HF := Lib.hid hF; have E1 := Lib.hid hw1; have HBK := Lib.hid hB; have HL0 := Lib.hid hl; have HZ := Lib.hid hz
  have hmm := @run_makeMap Try.prog
  clear hl hF hw1 hB hz
  go_enter Try.func50, Try.ntmps50
  go_upto_region 2 with fail
  rw [E1.out]
  clear E1 hmm
  generalize hmb : w.heap.size = mb at *
  have HMB := Lib.hid hmb
  clear hmb
  go_wp2_with fail
  go_loopw [13] (fun iv wr => ∃ (k : Nat) (D : DataW Value), k ≤ ls.length ∧ iv = .int .i64 k ∧ BookV wr (mb + 1) mb D (findL (ls.take k)) (bookC ls k) ∧ Fr [] w wr ∧ mb + 1 ≤ wr.heap.size) (fun iv _ => ls.length - (intOf iv).toNat)
  case atStart => exact ⟨0, _, Nat.zero_le _, rfl, HBK.out, HF.out, by have := HZ.out; omega⟩
  case round =>
    clear HBK
    obtain ⟨k, D, hk, rfl, hB, hF, hz⟩ := hrel
    have HB := Lib.hid hB; have HFQ := Lib.hid hF; have HZQ := Lib.hid hz
    clear hB hF hz
    by_cases hlt : k < ls.length
    · obtain ⟨b, o, al, cl, ea, -, hc, hx⟩ := (HL0.out.keep HFQ.out).at_ k hlt
      subst ea
      have HT : Hid (ls.take (k + 1) = ls.take k ++ [ls[k]]) := Lib.hid (List.take_succ_eq_append_getElem hlt)
      have HG : Hid (ls.getD k [] = ls[k]) := Lib.hid (by rw [List.getD_eq_getElem?_getD, List.getElem?_eq_getElem hlt]; rfl)
      have HX := Lib.hid hx
      have d0 := hc
      clear hx hc
      generalize ls[k] = l at *
      go_wp2_with fail
      refine (Seq_any HX.out).mono ?_
      rintro e w2 (⟨p, hp, rfl, hF⟩ | ⟨k2, hp, rfl, hF⟩)
      · have HB := Lib.hid (HB.out.keep hF); have HFQ := Lib.hid (HFQ.out.trans hF); have HX := Lib.hid (Sl.keep HX.out hF); have HP := Lib.hid hp; have HZQ : Hid (mb + 1 ≤ w2.heap.size) := Lib.hid (Nat.le_trans HZQ.out hF.size)
        clear hp hF d0
        obtain ⟨vk, hrun, -⟩ := HB.out.run p.seq
        replace hrun := hrun true
        simp only [if_true] at hrun
        cases hfk : findL (ls.take k) p.seq with
        | some x =>
          rw [hfk] at hrun
          have HN : Hid (findL (ls.take (k + 1)) = findL (ls.take k)) := Lib.hid (by rw [HT.out]; exact findL_old HP.out hfk)
          have HC : Hid (bookC ls (k + 1) = bookC ls k) := Lib.hid (by rw [bookC_succ, HG.out, show fresh (ls.take k) l = false by unfold fresh; rw [HP.out]; simp only [hfk]; rfl]; rfl)
          clear hfk
          go_wp2_with fail
          exact ⟨⟨k + 1, D, by omega, by go_num, by rw [HN.out, HC.out]; exact HB.out, HFQ.out, HZQ.out⟩, by simp [intOf]; omega⟩
        | none =>
          rw [hfk] at hrun
          have HFK := Lib.hid hfk
          have HC : Hid (bookC ls (k + 1) = bookC ls k + 1) := Lib.hid (by rw [bookC_succ, HG.out, show fresh (ls.take k) l = true by unfold fresh; rw [HP.out]; simp only [hfk]; rfl]; rfl)
          clear hfk
          have HLL : Hid (l.length ≤ 1099511627776) := Lib.hid (by have := (parse_len HP.out).2; omega)
          go_wp2_with fail
          refine (cloneB_any HX.out HLL.out).mono ?_
          rintro e w3 ⟨v', rfl, hO, hF⟩
          obtain ⟨a3, n3, c3, rfl⟩ := hO.isSlice
          have HO := Lib.hid hO; have HB := Lib.hid (HB.out.keep hF); have HFQ := Lib.hid (HFQ.out.trans hF); have HZ3 : Hid (mb + 1 ≤ w3.heap.size) := Lib.hid (Nat.le_trans HZQ.out hF.size)
          clear hO hF hrun
          have HCM : Hid (bookC ls k < maxLen) := Lib.hid (by have := bookC_le ls k; unfold maxLen; omega)
          go_wp2_with (at_mapUpdate; refine wpList_mapUpdate_own _ rfl _ _ _ 96 rfl 42 25 keyU16 Try.underlying96 heldR mb (bookC ls k) D rfl HB.out.own HCM.out (.int .u16 (p.seq.toNat : Nat)) (.slice a3 n3 c3) (bkey p.seq) rfl rfl (keyOf_int_mk Try.underlying42 (bkey_wf p.seq)) (.held (.slice a3 n3 c3)) [] rfl ?_; intro w4 hm4 hg4; have HM4 := Lib.hid hm4; have HF4 := Lib.hid (Fr.ofGrown hg4); clear hm4 hg4)
          have hfin : BookV w4 (mb + 1) mb (D.put (bkey p.seq) (.held (.slice a3 n3 c3))) (findL (ls.take (k + 1))) (bookC ls (k + 1)) := by
            rw [HT.out, HC.out]
            exact HB.out.put HP.out HFK.out HO.out.bytes (fun x hx => Nat.le_trans HZQ.out (HO.out.block x (live_block hx)).1) (Nat.lt_succ_self _) HM4.out (by have := HF4.out; simpa using this)
          exact ⟨⟨k + 1, _, by omega, by go_num, hfin, HFQ.out.step HF4.out (fun x hx => .inr (by have := HMB.out; simp at hx; omega)), Nat.le_trans HZ3.out HF4.out.size⟩, by simp [intOf]; omega⟩
      · have HB := Lib.hid (HB.out.keep hF); have HFQ := Lib.hid (HFQ.out.trans hF); have HZQ : Hid (mb + 1 ≤ w2.heap.size) := Lib.hid (Nat.le_trans HZQ.out hF.size)
        have HN : Hid (findL (ls.take (k + 1)) = findL (ls.take k)) := Lib.hid (by rw [HT.out]; exact findL_bad hp _)
        have HC : Hid (bookC ls (k + 1) = bookC ls k) := Lib.hid (by rw [bookC_succ, HG.out, show fresh (ls.take k) l = false by unfold fresh; rw [hp]]; rfl)
        clear hp hF d0
        obtain ⟨vk, hrun, -⟩ := HB.out.run 0
        replace hrun := hrun true
        simp only [if_true, show (((0 : UInt16).toNat : Nat) : Int) = 0 from rfl] at hrun
        generalize (findL (ls.take k) 0).isSome = fb at *
        go_wp2_with fail
        exact ⟨⟨k + 1, D, by omega, by go_num, by rw [HN.out, HC.out]; exact HB.out, HFQ.out, HZQ.out⟩, by simp [intOf]; omega⟩
    · obtain rfl : k = ls.length := by omega
      go_wp2_with fail
      go_ret
      exact ⟨mb, D, rfl, by have h := HB.out; rw [List.take_length] at h; exact h, HFQ.out⟩
end Go.Proofs.Ytchbgiindfoepaa
