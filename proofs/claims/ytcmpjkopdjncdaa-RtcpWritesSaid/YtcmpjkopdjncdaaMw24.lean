import Derived.Test.YtcmpjkopdjncdaaMw23
import Derived.Test.YtcmpjkopdjncdaaMw17
import Derived.Test.YtcmpjkopdjncdaaMw14
/- Slices of slices of bytes that a literal makes; Join over them. -/
namespace Go.Proofs.Ytcmpjkopdjncdaa
open Go.RowKit

def allB (w : World) : List Value → List (List UInt8) → Prop
  | [], [] => True
  | v :: vs, l :: ls => Bytes w v l ∧ allB w vs ls
  | _, _ => False
theorem allB_len {w : World} : ∀ {vs : List Value} {ls : List (List UInt8)}, allB w vs ls → vs.length = ls.length
  | [], [], _ => rfl
  | v :: vs, l :: ls, h => by rw [List.length_cons, List.length_cons, allB_len h.2]
  | [], l :: ls, h => h.elim
  | v :: vs, [], h => h.elim
theorem allB_at {w : World} : ∀ {vs : List Value} {ls : List (List UInt8)}, allB w vs ls → ∀ (i : Nat) (x : Value) (l : List UInt8), vs[i]? = some x → ls[i]? = some l → Bytes w x l
  | [], [], _, i, x, l, hx, _ => by simp at hx
  | v :: vs, m :: ls, h, 0, x, l, hx, hl => by simp at hx hl; subst hx hl; exact h.1
  | v :: vs, m :: ls, h, i + 1, x, l, hx, hl => allB_at h.2 i x l (by simpa using hx) (by simpa using hl)
  | [], l :: ls, h, _, _, _, _, _ => h.elim
  | v :: vs, [], h, _, _, _, _, _ => h.elim
theorem sl_made (w : World) (xs : List Value) (t : TypeId) (n : Nat) (hn : xs.length = n) (hm : n ≤ maxLen) : Sl (w.alloc (.cells xs.toArray t)) (.slice (some ⟨w.heap.size, 0, none⟩) n n) xs := by
  subst hn
  exact box_sl (off := 0) (Box.new w t xs.toArray) xs (fun i x h => by simpa using h) (Nat.le_refl _) hm
theorem brows_made {w : World} {vs : List Value} {ls : List (List UInt8)} (t : TypeId) (n : Nat) (h : allB w vs ls) (hn : vs.length = n) (hm : n ≤ maxLen) : BRows (w.alloc (.cells vs.toArray t)) (.slice (some ⟨w.heap.size, 0, none⟩) n n) ls :=
  ⟨vs, sl_made w vs t n hn hm, allB_len h, fun i x a hx ha => Sl.keep (allB_at h i x a hx ha) ((Fr.refl _ _).alloc _)⟩
theorem Join_rowsO {w : World} {v : Value} {ls : List (List UInt8)} (h : BRows w v ls) (hsz : ls.flatten.length ≤ 1099511627776) (hcnt : ls.length ≤ 1099511627776) :
    Calls Try.prog 22 #[v] w fun e w' => ∃ v', e = .returned v' ∧ OwnB w' w.heap.size v' ls.flatten ∧ Fr [] w w' := by
  obtain ⟨vs, h1, h2, h3⟩ := h
  exact Join_own h1 h2 h3 hsz hcnt
theorem Join_rows {w : World} {v : Value} {ls : List (List UInt8)} (h : BRows w v ls) (hsz : ls.flatten.length ≤ 1099511627776) (hcnt : ls.length ≤ 1099511627776) :
    Calls Try.prog 22 #[v] w fun e w' => ∃ v', e = .returned v' ∧ Bytes w' v' ls.flatten ∧ Fr [] w w' := by
  obtain ⟨vs, h1, h2, h3⟩ := h
  exact Join_any h1 h2 h3 hsz hcnt
theorem bytes2_made (w : World) (a b : UInt8) (t : TypeId) : Bytes (w.alloc (.cells #[.int .u8 (a.toNat : Nat), .int .u8 (b.toNat : Nat)] t)) (.slice (some ⟨w.heap.size, 0, none⟩) 2 2) [a, b] :=
  sl_made w [.int .u8 (a.toNat : Nat), .int .u8 (b.toNat : Nat)] t 2 rfl (by unfold maxLen; omega)
theorem ib_wrap (n : Int) : IntKind.u8.wrap n = ((ib n).toNat : Nat) := by
  unfold ib
  rw [IntKind.wrap_u8, UInt8.toNat_ofNat']
  omega
end Go.Proofs.Ytcmpjkopdjncdaa
