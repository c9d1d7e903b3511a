import Derived.Test.YtcmpjkopdjncdaaMw47
import Derived.Test.YtcmpjkopdjncdaaMw25
/- An item as an argument. -/
namespace Go.Proofs.Ytcmpjkopdjncdaa
open Go.RowKit Go.ChangeShapes Go.WideShapes Go.ChangeAt

set_option maxRecDepth 100000 in
theorem open_item_arg {H : Type} {enc : TypeId × Value → H} {w : World} {base b0 : Nat} {v : Value} {d : DataW H} {ps : List MemPlace} (hok : Value.okWide Try.prog w .any b0 42 v) (h : DataW.Trod enc Try.prog w base (fun _ => true) true 42 v d ps) (hs : Sized7 Try.prog 42 d) : ∃ (c : Array Value) (x : Itm) (B : List Nat), v = .agg c ∧ ItR w c.toList x B ∧ QItm x := by
  have hC : Try.prog.cellsOf 42 = 10 := by kernel_rfl
  obtain ⟨c, rfl, hsz⟩ := okWide_struct Try.underlying42 hok
  obtain ⟨fuel, hf⟩ := h
  obtain ⟨x, B, hx, hq⟩ := open_itm (cs := c.toList) hf (by rw [Array.length_toList, hsz, hC]) hs
  exact ⟨c, x, B, rfl, hx, hq⟩
end Go.Proofs.Ytcmpjkopdjncdaa
