import Derived.Test.YtchbgiindfoepaaMs35
import Derived.Test.YtchbgiindfoepaaMs30
/- Plain laws of layer 14: what is left of a repair held against packets that are known. -/
namespace Go.Proofs.Ytchbgiindfoepaa
open Go.RowKit

theorem oneL_ne' {K : UInt16 → Option (List UInt8)} {ss : UInt32} {r : Rep_} (hz : ¬(r.m.hi = 0 ∧ r.m.lo = 0)) : oneL K ss r = oneF ss (restL K ss r).1 (restL K ss r).2 := by unfold oneL; rw [if_neg hz]
theorem rest_fold (K : UInt16 → Option (List UInt8)) (ss : UInt32) : ∀ (xs : List UInt16) (s : Bt × List UInt16), xs.foldl (restStep K ss) s = ((xs.filterMap (lookB K ss)).foldl Bt.add s.1, s.2 ++ xs.filter fun n => (lookB K ss n).isNone)
  | [], s => by simp
  | x :: xs, s => by
    rw [List.foldl_cons, rest_fold K ss xs]
    unfold restStep
    cases h : lookB K ss x with
    | none => simp [List.filterMap_cons, List.filter_cons, h]
    | some y => simp [List.filterMap_cons, List.filter_cons, h]
theorem restL_eq (K : UInt16 → Option (List UInt8)) (ss : UInt32) (r : Rep_) : restL K ss r = (((seqsOf r.base r.m).filterMap (lookB K ss)).foldl Bt.add r.bt.cut, (seqsOf r.base r.m).filter fun n => (lookB K ss n).isNone) := by
  unfold restL
  rw [rest_fold]
  simp
theorem mkP_seqs {ls : List (List UInt8)} {r : Rep_} (h : mkP ls = .ok r) : (seqsOf r.base r.m).Perm (ls.map seqF) := (cvOf_count (cvOf_ok.2 (mkP_iff.1 h).near)).2
theorem isNo_iff {n : UInt16} {l : List UInt8} : isNo n l = true ↔ okF l ∧ seqF l = n := by
  unfold isNo okF seqF
  cases h : parseR l <;> simp
theorem find_not {ls : List (List UInt8)} {n : UInt16} (h : ∀ x ∈ ls, okF x → seqF x ≠ n) : findL ls n = none := by
  unfold findL
  rw [List.find?_eq_none]
  intro x hx hn
  have := isNo_iff.1 hn
  exact h x hx this.1 this.2
theorem find_in : ∀ {ls : List (List UInt8)}, (∀ x ∈ ls, okF x) → (ls.map seqF).Nodup → ∀ l ∈ ls, findL ls (seqF l) = some l
  | [], _, _, l, hl => by cases hl
  | x :: xs, ho, hn, l, hl => by
    unfold findL
    rw [List.find?_cons]
    by_cases h : seqF x = seqF l
    · rw [show isNo (seqF l) x = true from isNo_iff.2 ⟨ho x (by simp), h⟩]
      rcases List.mem_cons.1 hl with rfl | hl
      · rfl
      · exfalso
        rw [List.map_cons, List.nodup_cons] at hn
        exact hn.1 (by rw [h]; exact List.mem_map_of_mem hl)
    · have hb : isNo (seqF l) x = false := by
        cases hq : isNo (seqF l) x with
        | false => rfl
        | true => exact absurd (isNo_iff.1 hq).2 h
      rw [hb]
      rcases List.mem_cons.1 hl with rfl | hl
      · exact absurd rfl h
      · rw [List.map_cons, List.nodup_cons] at hn
        exact find_in (fun y hy => ho y (by simp [hy])) hn.2 l hl
theorem lookB_some {K : UInt16 → Option (List UInt8)} {ss : UInt32} {l : List UInt8} (ho : okF l) (hs : ssF l = ss) (hk : K (seqF l) = some l) : lookB K ss (seqF l) = some (imp l) := by
  obtain ⟨p, hp⟩ := ho
  have e1 : seqF l = p.seq := by unfold seqF; rw [hp]
  have e2 : ssF l = p.ssrc := by unfold ssF; rw [hp]
  unfold lookB
  rw [hk]
  simp only [hp]
  rw [if_pos ⟨e1.symm, by rw [← e2, hs]⟩]
theorem lookB_none {K : UInt16 → Option (List UInt8)} {ss : UInt32} {n : UInt16} (hk : K n = none) : lookB K ss n = none := by
  unfold lookB
  rw [hk]
theorem filterMap_known {K : UInt16 → Option (List UInt8)} {ss : UInt32} : ∀ (known : List (List UInt8)), (∀ l ∈ known, lookB K ss (seqF l) = some (imp l)) → (known.map seqF).filterMap (lookB K ss) = known.map imp ∧ (known.map seqF).filter (fun n => (lookB K ss n).isNone) = []
  | [], _ => ⟨rfl, rfl⟩
  | l :: ls, h => by
    obtain ⟨h1, h2⟩ := filterMap_known ls (fun x hx => h x (by simp [hx]))
    have h0 := h l (by simp)
    constructor
    · rw [List.map_cons, List.filterMap_cons, h0]
      simp only [h1, List.map_cons]
    · rw [List.map_cons, List.filter_cons, h0]
      simpa using h2
theorem filterMap_lost {K : UInt16 → Option (List UInt8)} {ss : UInt32} : ∀ (lost : List (List UInt8)), (∀ l ∈ lost, lookB K ss (seqF l) = none) → (lost.map seqF).filterMap (lookB K ss) = [] ∧ (lost.map seqF).filter (fun n => (lookB K ss n).isNone) = lost.map seqF
  | [], _ => ⟨rfl, rfl⟩
  | l :: ls, h => by
    obtain ⟨h1, h2⟩ := filterMap_lost ls (fun x hx => h x (by simp [hx]))
    have h0 := h l (by simp)
    constructor
    · rw [List.map_cons, List.filterMap_cons, h0]
      simpa using h1
    · rw [List.map_cons, List.filter_cons, h0]
      simp only [Option.isNone_none, if_true, h2]
theorem same_fold {x y : Bt} : ((x.add y).add x).same y = true := by
  rw [Bt.same_byte]
  intro i
  rw [Bt.byte_add, Bt.byte_add, UInt8.xor_comm (x.byte i), UInt8.xor_assoc, UInt8.xor_self, UInt8.xor_zero]
/-- A repair of packets, some of them known, the others not. -/
theorem rest_law {ls known lost : List (List UInt8)} {r : Rep_} {K : UInt16 → Option (List UInt8)} {ss : UInt32} (h : mkP ls = .ok r) (hp : ls.Perm (known ++ lost)) (hss : ∀ l ∈ ls, ssF l = ss)
    (hk : ∀ l ∈ known, K (seqF l) = some l) (hl : ∀ l ∈ lost, K (seqF l) = none) :
    (restL K ss r).1.same (Bt.all (lost.map imp)) = true ∧ (Bt.all (lost.map imp)).body.length ≤ (restL K ss r).1.body.length ∧ (restL K ss r).2.Perm (lost.map seqF) := by
  have hR := mkP_iff.1 h
  have g1 := filterMap_known (K := K) (ss := ss) known (fun l hm => lookB_some (hR.ok l (hp.mem_iff.2 (by simp [hm]))) (hss l (hp.mem_iff.2 (by simp [hm]))) (hk l hm))
  have g2 := filterMap_lost (K := K) (ss := ss) lost (fun l hm => lookB_none (hl l hm))
  have hq : (seqsOf r.base r.m).Perm (known.map seqF ++ lost.map seqF) := by
    have := (mkP_seqs h).trans (hp.map seqF)
    rwa [List.map_append] at this
  rw [restL_eq]
  have e1 : ((seqsOf r.base r.m).filterMap (lookB K ss)).Perm (known.map imp) := by
    have := hq.filterMap (lookB K ss)
    rwa [List.filterMap_append, g1.1, g2.1, List.append_nil] at this
  have e2 : ((seqsOf r.base r.m).filter fun n => (lookB K ss n).isNone).Perm (lost.map seqF) := by
    have := hq.filter fun n => (lookB K ss n).isNone
    rwa [List.filter_append, g1.2, g2.2, List.nil_append] at this
  have e3 : ((seqsOf r.base r.m).filterMap (lookB K ss)).foldl Bt.add r.bt.cut = ((Bt.all (known.map imp)).add (Bt.all (lost.map imp))).add (Bt.all (known.map imp)) := by
    rw [Bt.fold_add, Bt.all_perm e1, mkP_cut h, hR.sum, Bt.all_perm (hp.map imp), List.map_append, Bt.all_append]
  refine ⟨by rw [e3]; exact same_fold, ?_, e2⟩
  rw [e3, Bt.add_body_len, Bt.add_body_len]
  omega
theorem bit_ne {ls : List (List UInt8)} {r : Rep_} (h : mkP ls = .ok r) : ¬(r.m.hi = 0 ∧ r.m.lo = 0) := by
  rintro ⟨h1, h2⟩
  have hn := mkP_count h
  have : r.m = ⟨0, 0⟩ := by obtain ⟨_, _, ⟨a, b⟩⟩ := r; simp only at h1 h2; rw [h1, h2]
  rw [this] at hn
  have h0 : (seqsOf r.base ⟨0, 0⟩).length = 0 := by
    unfold seqsOf
    rw [List.length_map, show (⟨0, 0⟩ : Msk).list = [] by decide +kernel]
    rfl
  rw [h0] at hn
  exact (mkP_iff.1 h).ne (List.length_eq_zero_iff.1 hn.symm)
theorem imp_pack {l : List UInt8} (ho : okF l) : (imp l).pack (seqF l) (ssF l) = .ok l := by
  obtain ⟨p, hp⟩ := ho
  have := back_pack hp []
  rw [List.append_nil] at this
  have e1 : seqF l = p.seq := by unfold seqF; rw [hp]
  have e2 : ssF l = p.ssrc := by unfold ssF; rw [hp]
  rw [e1, e2]
  exact this
theorem imp_len' {l : List UInt8} (ho : okF l) : (imp l).len = (imp l).body.length := by
  obtain ⟨p, hp⟩ := ho
  have h := parse_len hp
  have hb : (imp l).body.length = l.length - 12 := by show (l.drop 12).length = _; rw [List.length_drop]
  rw [hb]
  exact ofNat_len (n := l.length - 12) (by omega)
theorem one_lost {ls known : List (List UInt8)} {l : List UInt8} {r : Rep_} {K : UInt16 → Option (List UInt8)} {ss : UInt32} (h : mkP ls = .ok r) (hp : ls.Perm (known ++ [l])) (hss : ∀ l ∈ ls, ssF l = ss)
    (hk : ∀ l ∈ known, K (seqF l) = some l) (hl : K (seqF l) = none) : oneL K ss r = (seqF l, l, 0) ∧ checkL K ss r = false ∧ (restL K ss r).2.length = 1 := by
  obtain ⟨g1, g2, g3⟩ := rest_law h hp hss hk (by simpa using hl)
  have ho : okF l := (mkP_iff.1 h).ok l (hp.mem_iff.2 (by simp))
  have hs : ssF l = ss := hss l (hp.mem_iff.2 (by simp))
  rw [List.map_cons, List.map_nil, Bt.all_one] at g1 g2
  have hm : (restL K ss r).2 = [seqF l] := List.perm_singleton.1 g3
  refine ⟨?_, by unfold checkL; rw [hm]; rfl, by rw [hm]; rfl⟩
  rw [oneL_ne' (bit_ne h), hm]
  refine oneF_ok ?_
  rw [Bt.pack_same g1 g2 (imp_len' ho), ← hs]
  exact imp_pack ho
theorem none_lost {ls : List (List UInt8)} {r : Rep_} {K : UInt16 → Option (List UInt8)} {ss : UInt32} (h : mkP ls = .ok r) (hss : ∀ l ∈ ls, ssF l = ss)
    (hk : ∀ l ∈ ls, K (seqF l) = some l) : oneL K ss r = (0, [], 40) ∧ checkL K ss r = true ∧ (restL K ss r).2.length = 0 := by
  obtain ⟨g1, g2, g3⟩ := rest_law (known := ls) (lost := []) h (by simp) hss hk (by simp)
  have hm : (restL K ss r).2 = [] := List.perm_nil.1 g3
  refine ⟨?_, by unfold checkL; rw [hm]; exact g1, by rw [hm]; rfl⟩
  rw [oneL_ne' (bit_ne h), hm]
  rfl
theorem two_lost {ls known : List (List UInt8)} {l k : List UInt8} {r : Rep_} {K : UInt16 → Option (List UInt8)} {ss : UInt32} (h : mkP ls = .ok r) (hp : ls.Perm (known ++ [l, k])) (hss : ∀ l ∈ ls, ssF l = ss)
    (hk : ∀ l ∈ known, K (seqF l) = some l) (hl : K (seqF l) = none) (hl2 : K (seqF k) = none) : oneL K ss r = (0, [], 41) := by
  obtain ⟨g1, g2, g3⟩ := rest_law h hp hss hk (by intro x hx; simp at hx; rcases hx with rfl | rfl <;> assumption)
  rw [oneL_ne' (bit_ne h)]
  have hn : (restL K ss r).2.length = 2 := by rw [g3.length_eq]; rfl
  obtain ⟨a, b, e⟩ : ∃ a b, (restL K ss r).2 = [a, b] := by
    revert hn
    generalize (restL K ss r).2 = q
    intro hn
    match q, hn with
    | [a, b], _ => exact ⟨a, b, rfl⟩
  rw [e]
  rfl
theorem mkP_nodup {ls : List (List UInt8)} {r : Rep_} (h : mkP ls = .ok r) : (ls.map seqF).Nodup := (mkP_iff.1 h).near.nodup
/-- What is known by a part of the packets. -/
theorem known_part {ls known lost : List (List UInt8)} {r : Rep_} (h : mkP ls = .ok r) (hp : ls.Perm (known ++ lost)) : (∀ l ∈ known, findL known (seqF l) = some l) ∧ ∀ l ∈ lost, findL known (seqF l) = none := by
  have hn := (hp.map seqF).nodup_iff.1 (mkP_nodup h)
  rw [List.map_append, List.nodup_append] at hn
  have ho : ∀ x ∈ known, okF x := fun x hx => (mkP_iff.1 h).ok x (hp.mem_iff.2 (by simp [hx]))
  refine ⟨find_in ho hn.1, fun l hl => find_not fun x hx _ e => ?_⟩
  exact hn.2.2 _ (List.mem_map_of_mem hx) _ (List.mem_map_of_mem hl) e
end Go.Proofs.Ytchbgiindfoepaa
