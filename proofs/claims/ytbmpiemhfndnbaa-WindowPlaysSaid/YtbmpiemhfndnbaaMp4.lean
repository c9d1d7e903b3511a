import Derived.Test.YtbmpiemhfndnbaaProg
import Derived.Test.YtbmpiemhfndnbaaMp3
/- The walks of the library's small slice functions. -/
namespace Go.Proofs.Ytbmpiemhfndnbaa
open Go.RowKit

theorem info_u8 : (Try.prog.info? 5).map (fun i => (i.zero, i.size, i.bytes)) = some (some (.int .u8 0), 1, 1) := by kernel_rfl
/-- The bytes of a slice value that the call owns. -/
def OwnB (w : World) (base : Nat) (v : Value) (l : List UInt8) : Prop := w.ownsRow base 5 1 v l.length (l.map B8)
theorem OwnB.bytes {w : World} {base : Nat} {v : Value} {l : List UInt8} (h : OwnB w base v l) : Bytes w v l := Sl.ofOwn h
theorem OwnB.isSlice {w : World} {base : Nat} {v : Value} {l : List UInt8} (h : OwnB w base v l) : ∃ a n c, v = .slice a n c := by
  obtain ⟨a, c, e⟩ := h.bytes.shape
  exact ⟨a, _, c, e⟩
theorem OwnB.mono {w : World} {base base' : Nat} {v : Value} {l : List UInt8} (h : OwnB w base v l) (hb : base' ≤ base) : OwnB w base' v l := Own.mono h hb
theorem OwnB.keep {w w' : World} {base : Nat} {v : Value} {l : List UInt8} (h : OwnB w base v l) (hf : Fr [] w w') : OwnB w' base v l := Own.keep h hf
theorem OwnB.fr {w w' : World} {base : Nat} {v : Value} {l : List UInt8} {S : List Nat} (h : OwnB w base v l) (hf : Fr S w w') (hS : ∀ b, blockOf v = some b → b ∉ S) : OwnB w' base v l := Own.fr h hf hS

theorem info_u32 : (Try.prog.info? 101).map (fun i => (i.zero, i.size, i.bytes)) = some (some (.int .u32 0), 1, 4) := by kernel_rfl
def OwnW (w : World) (base : Nat) (v : Value) (l : List UInt32) : Prop := w.ownsRow base 101 1 v l.length (l.map W32)
theorem OwnW.words {w : World} {base : Nat} {v : Value} {l : List UInt32} (h : OwnW w base v l) : Words w v l := Sl.ofOwn h
theorem OwnW.isSlice {w : World} {base : Nat} {v : Value} {l : List UInt32} (h : OwnW w base v l) : ∃ a n c, v = .slice a n c := by
  obtain ⟨a, c, e⟩ := h.words.shape
  exact ⟨a, _, c, e⟩
theorem OwnB.block {w : World} {base : Nat} {v : Value} {l : List UInt8} (h : OwnB w base v l) : ∀ b, blockOf v = some b → base ≤ b ∧ b < w.heap.size := Own.block h
theorem OwnW.block {w : World} {base : Nat} {v : Value} {l : List UInt32} (h : OwnW w base v l) : ∀ b, blockOf v = some b → base ≤ b ∧ b < w.heap.size := Own.block h
theorem OwnB.low {w w' : World} {base : Nat} {v : Value} {l : List UInt8} {S : List Nat} (h : OwnB w base v l) (hf : Fr S w w') (hS : ∀ b ∈ S, b < base) : OwnB w' base v l := Own.low h hf hS
theorem OwnW.low {w w' : World} {base : Nat} {v : Value} {l : List UInt32} {S : List Nat} (h : OwnW w base v l) (hf : Fr S w w') (hS : ∀ b ∈ S, b < base) : OwnW w' base v l := Own.low h hf hS
theorem OwnW.mono {w : World} {base base' : Nat} {v : Value} {l : List UInt32} (h : OwnW w base v l) (hb : base' ≤ base) : OwnW w base' v l := Own.mono h hb
theorem OwnW.keep {w w' : World} {base : Nat} {v : Value} {l : List UInt32} (h : OwnW w base v l) (hf : Fr [] w w') : OwnW w' base v l := Own.keep h hf
theorem OwnW.fr {w w' : World} {base : Nat} {v : Value} {l : List UInt32} {S : List Nat} (h : OwnW w base v l) (hf : Fr S w w') (hS : ∀ b, blockOf v = some b → b ∉ S) : OwnW w' base v l := Own.fr h hf hS

end Go.Proofs.Ytbmpiemhfndnbaa

/- The walks of wire.Reader. -/
namespace Go.Proofs.Ytbmpiemhfndnbaa
open Go.RowKit

/-- A reader at block R: over the slice value v, which reads as l, at a place. -/
structure Rd (w : World) (R : Nat) (v : Value) (at_ : Nat) (l : List UInt8) : Prop where
  c0 : w.cell? ⟨R, 0, none⟩ = some v
  c1 : w.cell? ⟨R, 1, none⟩ = some (.int .i64 at_)
  f1 : w.frozen? ⟨R, 1, none⟩ = false
  sl : Bytes w v l
  apart : liveOf v ≠ some R
  place : at_ ≤ l.length
  small : l.length ≤ 1099511627776

theorem Rd.keep {w w' : World} {R : Nat} {v : Value} {k : Nat} {l : List UInt8} (h : Rd w R v k l) (hf : Fr [] w w') : Rd w' R v k l :=
  ⟨hf.cellSome h.c0 (by simp), hf.cellSome h.c1 (by simp), (hf.frozen (World.block_lt_of_cell? _ _ h.c1) (by simp)).trans h.f1, h.sl.keep hf, h.apart, h.place, h.small⟩
theorem Rd.fr {w w' : World} {R : Nat} {v : Value} {k : Nat} {l : List UInt8} {S : List Nat} (h : Rd w R v k l) (hf : Fr S w w') (hS : R ∉ S) (hv : ∀ b, liveOf v = some b → b ∉ S) : Rd w' R v k l :=
  ⟨hf.cellSome h.c0 hS, hf.cellSome h.c1 hS, (hf.frozen (World.block_lt_of_cell? _ _ h.c1) hS).trans h.f1, h.sl.frL hf hv, h.apart, h.place, h.small⟩
theorem Rd.grown {w w' : World} {R base : Nat} {v : Value} {k : Nat} {l : List UInt8} {row : Option Nat} (h : Rd w R v k l) (hg : w.grownBy w' row) (hr : ∀ g, row = some g → base ≤ g) (hR : R < base) (hv : ∀ b, liveOf v = some b → b < base) : Rd w' R v k l :=
  h.fr (S := row.toList) ⟨hg.os, hg.tape, hg.output, hg.size, fun k hk hn => hg.block k hk (fun e => hn (by simp [← e]))⟩
    (fun hm => by have := hr R (by simpa using hm); omega) (fun b hb hm => by have := hr b (by simpa using hm); have := hv b hb; omega)
theorem Rd.vlt {w : World} {R : Nat} {v : Value} {k : Nat} {l : List UInt8} (h : Rd w R v k l) : ∀ b, liveOf v = some b → b < w.heap.size := h.sl.lt
theorem next_post {w : World} {R : Nat} {a : Option Addr} {cap k : Nat} {l : List UInt8} (hR : Rd w R (.slice a l.length cap) k l) (m : Nat) (h : k + m ≤ l.length)
    (q : Option Addr) (hq : Hid ((if cap = k then a else Option.map (fun x => x.add k) a) = q)) (N : Nat) (x : Int) (hx : x = (k + m : Nat)) (c' m' : Nat) (hc : c' = cap - k) (hm' : m' = m) :
    Rd ((w.drewN N).setCell ⟨R, 1, none⟩ (.int .i64 x)) R (.slice a l.length cap) (k + m) l ∧ Fr [R] w ((w.drewN N).setCell ⟨R, 1, none⟩ (.int .i64 x)) ∧
      Bytes ((w.drewN N).setCell ⟨R, 1, none⟩ (.int .i64 x)) (.slice q m' c') ((l.drop k).take m) ∧ liveOf (.slice q m' c') ≠ some R := by
  rw [hm']
  clear hm'
  obtain ⟨c0, c1, f1, hs, ha, hp, hsm⟩ := hR
  have hcc := hc
  have hb : ∀ (b : Nat), liveOf (.slice q m c') = some b → b ∉ [R] := by
    intro b hb hm
    simp only [List.mem_singleton] at hm
    subst hm
    rw [← hq.out, hcc] at hb
    exact ha (Sl.live_sub a k m cap l.length _ hb)
  have hF : Fr [R] w ((w.drewN N).setCell ⟨R, 1, none⟩ (.int .i64 x)) := ((Fr.refl _ _).drewN N).setCell (.inl (by simp)) _
  have c1' : (w.drewN N).cell? ⟨R, 1, none⟩ = some (.int .i64 k) := c1
  refine ⟨⟨?_, ?_, ?_, hs.frL hF ?_, ha, h, hsm⟩, hF, ?_, fun e => hb R e (by simp)⟩
  · rw [World.cell?_setCell_other _ _ _ _ (by simp)]; exact c0
  · rw [World.cell?_setCell_same _ _ _ c1', hx]
  · rw [World.frozen?_setCell]; exact f1
  · intro b hb' hm
    simp only [List.mem_singleton] at hm
    subst hm
    exact ha hb'
  · have hs' : Sl w (.slice a l.length cap) (l.map B8) := hs
    have hq' := hs'.sub k m h
    rw [hq.out, ← List.map_drop, ← List.map_take] at hq'
    rw [hc] at hb ⊢
    exact Sl.frL hq' hF hb

/-- The next bytes of a reader as a number. -/
def nb (l : List UInt8) (k m : Nat) : Nat := be ((l.drop k).take m)
theorem nb_lt (l : List UInt8) (k m : Nat) : nb l k m < 256 ^ m := by
  refine Nat.lt_of_lt_of_le (be_lt _) (Nat.pow_le_pow_right (by omega) ?_)
  rw [List.length_take]; omega

end Go.Proofs.Ytbmpiemhfndnbaa
