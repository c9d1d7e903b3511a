/- The walks of the library's small slice functions. -/
import Derived.Test.YtchbgiindfoepaaProg
import Derived.Test.YtchbgiindfoepaaBase
namespace Go.Proofs.Ytchbgiindfoepaa
open Go.RowKit

theorem info_u8 : (Try.prog.info? 5).map (fun i => (i.zero, i.size, i.bytes)) = some (some (.int .u8 0), 1, 1) := by kernel_rfl
/-- The bytes of a slice value that the call owns. -/
def OwnB (w : World) (base : Nat) (v : Value) (l : List UInt8) : Prop := w.ownsRow base 5 1 v l.length (l.map B8)
theorem OwnB.bytes {w : World} {base : Nat} {v : Value} {l : List UInt8} (h : OwnB w base v l) : Bytes w v l := Sl.ofOwn h
theorem OwnB.isSlice {w : World} {base : Nat} {v : Value} {l : List UInt8} (h : OwnB w base v l) : ∃ a n c, v = .slice a n c := by
  obtain ⟨a, c, e⟩ := h.bytes.shape
  exact ⟨a, _, c, e⟩
theorem OwnB.mono {w : World} {base base' : Nat} {v : Value} {l : List UInt8} (h : OwnB w base v l) (hb : base' ≤ base) : OwnB w base' v l := Own.mono h hb
theorem OwnB.keep {w w' : World} {base : Nat} {v : Value} {l : List UInt8} (h : OwnB w base v l) (hf : Fr [] w w') : OwnB w' base v l := Own.keep h hf
theorem OwnB.fr {w w' : World} {base : Nat} {v : Value} {l : List UInt8} {S : List Nat} (h : OwnB w base v l) (hf : Fr S w w') (hS : ∀ b, blockOf v = some b → b ∉ S) : OwnB w' base v l := Own.fr h hf hS

theorem info_u32 : (Try.prog.info? 45).map (fun i => (i.zero, i.size, i.bytes)) = some (some (.int .u32 0), 1, 4) := by kernel_rfl
def OwnW (w : World) (base : Nat) (v : Value) (l : List UInt32) : Prop := w.ownsRow base 45 1 v l.length (l.map W32)
theorem OwnW.words {w : World} {base : Nat} {v : Value} {l : List UInt32} (h : OwnW w base v l) : Words w v l := Sl.ofOwn h
theorem OwnW.isSlice {w : World} {base : Nat} {v : Value} {l : List UInt32} (h : OwnW w base v l) : ∃ a n c, v = .slice a n c := by
  obtain ⟨a, c, e⟩ := h.words.shape
  exact ⟨a, _, c, e⟩
theorem OwnB.block {w : World} {base : Nat} {v : Value} {l : List UInt8} (h : OwnB w base v l) : ∀ b, blockOf v = some b → base ≤ b ∧ b < w.heap.size := Own.block h
theorem OwnW.block {w : World} {base : Nat} {v : Value} {l : List UInt32} (h : OwnW w base v l) : ∀ b, blockOf v = some b → base ≤ b ∧ b < w.heap.size := Own.block h
theorem OwnB.low {w w' : World} {base : Nat} {v : Value} {l : List UInt8} {S : List Nat} (h : OwnB w base v l) (hf : Fr S w w') (hS : ∀ b ∈ S, b < base) : OwnB w' base v l := Own.low h hf hS
theorem OwnW.low {w w' : World} {base : Nat} {v : Value} {l : List UInt32} {S : List Nat} (h : OwnW w base v l) (hf : Fr S w w') (hS : ∀ b ∈ S, b < base) : OwnW w' base v l := Own.low h hf hS
theorem OwnW.mono {w : World} {base base' : Nat} {v : Value} {l : List UInt32} (h : OwnW w base v l) (hb : base' ≤ base) : OwnW w base' v l := Own.mono h hb
theorem OwnW.keep {w w' : World} {base : Nat} {v : Value} {l : List UInt32} (h : OwnW w base v l) (hf : Fr [] w w') : OwnW w' base v l := Own.keep h hf
theorem OwnW.fr {w w' : World} {base : Nat} {v : Value} {l : List UInt32} {S : List Nat} (h : OwnW w base v l) (hf : Fr S w w') (hS : ∀ b, blockOf v = some b → b ∉ S) : OwnW w' base v l := Own.fr h hf hS

set_option maxHeartbeats 400000 in
theorem cloneB_any {w : World} {v : Value} {l : List UInt8} (h : Bytes w v l) (hl : l.length ≤ 1099511627776) :
    Calls Try.prog 81 #[v] w fun e w' => ∃ v', e = .returned v' ∧ OwnB w' w.heap.size v' l ∧ Fr [] w w' := by
  obtain ⟨a, cap, rfl⟩ := h.shape
  simp only [List.length_map] at h ⊢
  have hcap : a = none → l = [] := by
    intro ha
    obtain ⟨_, h2, _, h4⟩ := h.len
    have := h4 ha
    exact List.eq_nil_of_length_eq_zero (by omega)
  have HC := Lib.hid hcap
  have H := Lib.hid h
  clear h hcap
  have hn := fun (w : World) => Lib.run_eql_slice_nil (P := Try.prog) w 25 5 a l.length cap 0 0 Try.underlying25
  cases a with
  | none =>
    obtain rfl := HC.out rfl
    clear hl
    clear HC H
    simp only [Option.isNone_none, List.length_nil] at hn ⊢
    go_enter Try.func81, Try.ntmps81
    go_wp2_with fail
    go_ret
    exact ⟨_, rfl, World.ownsRow_nil _ _ _ _, Fr.refl _ _⟩
  | some p =>
    simp only [Option.isNone_some] at hn
    clear HC
    go_enter Try.func81, Try.ntmps81
    go_wp2_with (at_builtin; refine wpList_append_sl rfl _ _ _ rfl w.heap.size 5 _ _ Try.underlying25 info_u8 rfl _ 0 [] rfl (World.ownsRow_made w #[] 0 (Nat.le_refl _) (by unfold maxLen; omega) (by simp)) (.slice (some p) l.length cap) (l.map B8) rfl (Sl.keep H.out ((Fr.refl _ _).alloc _)) (oneCell_B8 l) (by unfold maxLen; simp; omega) (by simp; omega) (by simp) ?_)
    intro v' w' ho hg _
    have HO := Lib.hid ho
    have HG := Lib.hid hg
    clear ho hg
    go_wp2_with fail
    go_ret
    refine ⟨v', rfl, ?_, (((Fr.refl [] w).alloc _).grown HG.out (fun k hk => .inr (by simp [blockOf] at hk; omega)))⟩
    have := HO.out
    simpa [OwnB] using this
end Go.Proofs.Ytchbgiindfoepaa
