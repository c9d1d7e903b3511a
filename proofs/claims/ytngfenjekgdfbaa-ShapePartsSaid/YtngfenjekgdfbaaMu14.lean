import Derived.Shelf.SortM.Plain
import Derived.Sort.OwnSortedInts
import Derived.Test.YtngfenjekgdfbaaMu13
/- slices.Sort of a slice of ints of the call's own. -/
namespace Go.Proofs.Ytngfenjekgdfbaa
open Go.RowKit Go.Sort Go.Shelf

def sort18_ren : Go.Shelf.Ren := ⟨fun | 5 => 43 | 8 => 49 | 7 => 48 | 19 => 62 | 20 => 63 | 10 => 53 | 11 => 54 | 12 => 55 | 13 => 56 | 14 => 57 | 15 => 58 | 16 => 59 | 17 => 60 | 18 => 61 | 30 => 66 | 31 => 67 | 32 => 68 | 33 => 69 | 34 => 70 | 35 => 71 | 40 => 74 | n => n, fun | 23 => 33 | 25 => 3 | 3 => 3 | 32 => 59 | 22 => 33 | 0 => 0 | 44 => 83 | 46 => 22 | 4 => 4 | 36 => 76 | 35 => 75 | 41 => 80 | 5 => 5 | 9 => 9 | 53 => 89 | 57 => 93 | 63 => 97 | 64 => 98 | n => n, fun | n => n⟩
theorem sort18 : Go.Proofs.SlLaysM.n5 Try.prog sort18_ren := {
  mixed := by kernel_rfl
  f5 := ⟨Try.f43.name, by decide, Try.func43.trans (congrArg some (by kernel_rfl))⟩
  f7 := ⟨Try.f48.name, by decide, Try.func48.trans (congrArg some (by kernel_rfl))⟩
  f8 := Try.func49.trans (congrArg some (by kernel_rfl))
  f10 := ⟨Try.f53.name, by decide, Try.func53.trans (congrArg some (by kernel_rfl))⟩
  f11 := ⟨Try.f54.name, by decide, Try.func54.trans (congrArg some (by kernel_rfl))⟩
  f12 := ⟨Try.f55.name, by decide, Try.func55.trans (congrArg some (by kernel_rfl))⟩
  f13 := ⟨Try.f56.name, by decide, Try.func56.trans (congrArg some (by kernel_rfl))⟩
  f14 := ⟨Try.f57.name, by decide, Try.func57.trans (congrArg some (by kernel_rfl))⟩
  f15 := ⟨Try.f58.name, by decide, Try.func58.trans (congrArg some (by kernel_rfl))⟩
  f16 := ⟨Try.f59.name, by decide, Try.func59.trans (congrArg some (by kernel_rfl))⟩
  f17 := ⟨Try.f60.name, by decide, Try.func60.trans (congrArg some (by kernel_rfl))⟩
  f18 := ⟨Try.f61.name, by decide, Try.func61.trans (congrArg some (by kernel_rfl))⟩
  f19 := Try.func62.trans (congrArg some (by kernel_rfl))
  f20 := Try.func63.trans (congrArg some (by kernel_rfl))
  f30 := ⟨Try.f66.name, by decide, Try.func66.trans (congrArg some (by kernel_rfl))⟩
  f31 := Try.func67.trans (congrArg some (by kernel_rfl))
  f32 := Try.func68.trans (congrArg some (by kernel_rfl))
  f33 := ⟨Try.f69.name, by decide, Try.func69.trans (congrArg some (by kernel_rfl))⟩
  f34 := ⟨Try.f70.name, by decide, Try.func70.trans (congrArg some (by kernel_rfl))⟩
  f35 := ⟨Try.f71.name, by decide, Try.func71.trans (congrArg some (by kernel_rfl))⟩
  f40 := ⟨Try.f74.name, by decide, Try.func74.trans (congrArg some (by kernel_rfl))⟩
  t0 := Try.underlying0
  a0 := Try.isAgg0
  z0 := Try.sizeOf0
  v0 := Try.zeroValue0
  t3 := Try.underlying3
  a3 := Try.isAgg3
  z3 := Try.sizeOf3
  v3 := Try.zeroValue3
  t4 := Try.underlying4
  a4 := Try.isAgg4
  z4 := Try.sizeOf4
  v4 := Try.zeroValue4
  t5 := Try.underlying5
  a5 := Try.isAgg5
  z5 := Try.sizeOf5
  v5 := Try.zeroValue5
  t9 := Try.underlying9
  a9 := Try.isAgg9
  z9 := Try.sizeOf9
  v9 := Try.zeroValue9
  t22 := Try.underlying33
  a22 := Try.isAgg33
  z22 := Try.sizeOf33
  v22 := Try.zeroValue33
  t23 := Try.underlying33
  a23 := Try.isAgg33
  z23 := Try.sizeOf33
  v23 := Try.zeroValue33
  t25 := Try.underlying3
  a25 := Try.isAgg3
  z25 := Try.sizeOf3
  v25 := Try.zeroValue3
  t32 := Try.underlying59
  a32 := Try.isAgg59
  z32 := Try.sizeOf59
  v32 := Try.zeroValue59
  t35 := Try.underlying75
  a35 := Try.isAgg75
  z35 := Try.sizeOf75
  v35 := Try.zeroValue75
  t36 := Try.underlying76
  a36 := Try.isAgg76
  z36 := Try.sizeOf76
  v36 := Try.zeroValue76
  t41 := Try.underlying80
  a41 := Try.isAgg80
  z41 := Try.sizeOf80
  v41 := Try.zeroValue80
  t44 := Try.underlying83
  a44 := Try.isAgg83
  z44 := Try.sizeOf83
  v44 := Try.zeroValue83
  t46 := Try.underlying22
  a46 := Try.isAgg22
  z46 := Try.sizeOf22
  v46 := Try.zeroValue22
  t53 := Try.underlying89
  a53 := Try.isAgg89
  z53 := Try.sizeOf89
  v53 := Try.zeroValue89
  t57 := Try.underlying93
  a57 := Try.isAgg93
  z57 := Try.sizeOf93
  v57 := Try.zeroValue93
  t63 := Try.underlying97
  a63 := Try.isAgg97
  z63 := Try.sizeOf97
  v63 := Try.zeroValue97
  t64 := Try.underlying98
  a64 := Try.isAgg98
  z64 := Try.sizeOf98
  v64 := Try.zeroValue98 }

set_option maxRecDepth 100000 in
theorem sortInts_own {w : World} {base : Nat} {v : Value} {xs : List Int} (h : OwnV w base 3 (Value.int .i64) v xs) (hne : blockOf v ≠ none) (hsz : xs.length < 4611686018427387904) :
    Calls Try.prog 43 #[v] w fun e w' => e = .returned (.tuple #[]) ∧ ∃ ys, ys.Pairwise (· ≤ ·) ∧ ys.Perm xs ∧ OwnV w' base 3 (Value.int .i64) v ys ∧ Fr (blockOf v).toList w w' := by
  rcases h.2 with ⟨rfl, _⟩ | ⟨g, cap, cur, rfl, hb, hg, hc, hm, hs, ht⟩
  · exact (hne rfl).elim
  · have hH : Holds (Value.int .i64) w g 0 xs.toArray := holds_of_blockI hg (by simpa using ht)
    refine (AnyM.slices_Sort_int sort18 g 0 cap xs w hH (Array.getElem?_eq_some_iff.1 hg).1 hsz).mono ?_
    rintro e w' ⟨rfl, n, os, rfl⟩
    refine ⟨rfl, xs.mergeSort fun x y => decide (x ≤ y), ?_, List.mergeSort_perm _ _, ?_, ?_⟩
    · have := List.pairwise_mergeSort (le := fun x y : Int => decide (x ≤ y)) (by intro a b c; simp; omega) (by intro a b; simp; omega) xs
      simpa using this
    · have := ownsRow_sortedI (n := n) (os := os) (ts := xs.mergeSort fun x y => decide (x ≤ y)) (ss := xs) (List.length_mergeSort _) hb hg hc hm hs
      unfold OwnV
      rw [List.length_mergeSort]
      exact this
    · exact (Fr.refl _ w).grown (grownBy_sortedI _) (fun k hk => by cases hk; exact .inl (by simp [blockOf]))
end Go.Proofs.Ytngfenjekgdfbaa
