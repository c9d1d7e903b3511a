import Derived.Laws.StructEq
import Derived.Test.YtcmpjkopdjncdaaMw1
import Derived.Test.YtcmpjkopdjncdaaMw2
import Derived.Test.YtcmpjkopdjncdaaMw14
import Derived.Test.YtcmpjkopdjncdaaMw17
import Derived.Test.YtcmpjkopdjncdaaMw20
/- The walks of mask: And, Or, bit, Has, With, Without, First (printed by gen_mask1.py). -/
namespace Go.Proofs.Ytcmpjkopdjncdaa
open Go.RowKit

theorem bv_ofInt (a : BitVec 64) : BitVec.ofInt 64 (a.toNat : Int) = a := by simp
theorem u64_wrap (a : BitVec 64) : IntKind.u64.wrap (a.toNat : Int) = (a.toNat : Int) := by
  have := a.isLt
  rw [IntKind.wrap_u64]
  omega
theorem u64_and (a b : BitVec 64) : bits .and .u64 (a.toNat : Int) (b.toNat : Int) = ((a &&& b).toNat : Int) := by
  show IntKind.u64.wrap ((BitVec.ofInt 64 (a.toNat : Int) &&& BitVec.ofInt 64 (b.toNat : Int)).toNat : Int) = _
  rw [bv_ofInt, bv_ofInt, u64_wrap]
theorem u64_or (a b : BitVec 64) : bits .or .u64 (a.toNat : Int) (b.toNat : Int) = ((a ||| b).toNat : Int) := by
  show IntKind.u64.wrap ((BitVec.ofInt 64 (a.toNat : Int) ||| BitVec.ofInt 64 (b.toNat : Int)).toNat : Int) = _
  rw [bv_ofInt, bv_ofInt, u64_wrap]
theorem u64_andNot (a b : BitVec 64) : bits .andNot .u64 (a.toNat : Int) (b.toNat : Int) = ((a &&& ~~~b).toNat : Int) := by
  show IntKind.u64.wrap ((BitVec.ofInt 64 (a.toNat : Int) &&& ~~~BitVec.ofInt 64 (b.toNat : Int)).toNat : Int) = _
  rw [bv_ofInt, bv_ofInt, u64_wrap]
abbrev mkc (m : Msk) : Array Value := #[.int .u64 (m.hi.toNat : Nat), .int .u64 (m.lo.toNat : Nat)]
theorem mkc_one (m : Msk) : ∀ u ∈ (mkc m).toList, u.oneCell' = true := by simp [Value.oneCell']

theorem bit_hi {i : Nat} (h : i < 64) : mkc (Msk.bit i) = #[.int .u64 (IntKind.u64.wrap (2 ^ (63 - i))), .int .u64 0] := by
  have e : ((BitVec.twoPow 64 (63 - i)).toNat : Int) = IntKind.u64.wrap (2 ^ (63 - i)) := by
    rw [BitVec.toNat_twoPow, Nat.mod_eq_of_lt (Nat.pow_lt_pow_right (by omega) (by omega)), IntKind.wrap_u64]
    have : 2 ^ (63 - i) < 2 ^ 64 := Nat.pow_lt_pow_right (by omega) (by omega)
    have h2 : ((2 : Int) ^ (63 - i)) = ((2 ^ (63 - i) : Nat) : Int) := by simp
    rw [h2]
    obtain ⟨q, hq⟩ : ∃ q : Nat, q = 2 ^ (63 - i) := ⟨_, rfl⟩
    rw [← hq] at this ⊢
    omega
  unfold Msk.bit
  rw [if_pos h]
  show #[Value.int .u64 _, Value.int .u64 _] = _
  rw [e]
  rfl
theorem bit_lo {i : Nat} (h : ¬ i < 64) (h1 : i < 128) : mkc (Msk.bit i) = #[.int .u64 0, .int .u64 (IntKind.u64.wrap (2 ^ (127 - i)))] := by
  have e : ((BitVec.twoPow 64 (127 - i)).toNat : Int) = IntKind.u64.wrap (2 ^ (127 - i)) := by
    rw [BitVec.toNat_twoPow, Nat.mod_eq_of_lt (Nat.pow_lt_pow_right (by omega) (by omega)), IntKind.wrap_u64]
    have : 2 ^ (127 - i) < 2 ^ 64 := Nat.pow_lt_pow_right (by omega) (by omega)
    have h2 : ((2 : Int) ^ (127 - i)) = ((2 ^ (127 - i) : Nat) : Int) := by simp
    rw [h2]
    obtain ⟨q, hq⟩ : ∃ q : Nat, q = 2 ^ (127 - i) := ⟨_, rfl⟩
    rw [← hq] at this ⊢
    omega
  unfold Msk.bit
  rw [if_neg h]
  show #[Value.int .u64 _, Value.int .u64 _] = _
  rw [e]
  rfl
end Go.Proofs.Ytcmpjkopdjncdaa

/- The walks of serial.Ahead, Span and cover.From, Of (printed by gen_ser.py). -/
namespace Go.Proofs.Ytcmpjkopdjncdaa
open Go.RowKit

def W16 (n : UInt16) : Value := .int .u16 (n.toNat : Nat)
def Seqs (w : World) (v : Value) (l : List UInt16) : Prop := Sl w v (l.map W16)
theorem oneCell_W16 (l : List UInt16) : ∀ u ∈ l.map W16, u.oneCell' = true := by
  intro u hu
  obtain ⟨n, _, rfl⟩ := List.mem_map.1 hu
  rfl
theorem wrap_i16 (n : Int) : IntKind.i16.wrap n = (n + 32768) % 65536 - 32768 := by
  simp [IntKind.wrap, IntKind.bits, IntKind.signed]
  split <;> omega
theorem Seqs.at_ {w : World} {b o n c : Nat} {l : List UInt16} (h : Seqs w (.slice (some ⟨b, o, none⟩) n c) l) (i : Nat) (hi : i < l.length) : w.cell? ⟨b, o + i, none⟩ = some (.int .u16 ((l[i]).toNat : Nat)) := by
  have hlen : n = l.length := by have := Sl.len h; simpa using this.1
  obtain ⟨b', o', e, _, hc⟩ := Sl.at_ h (k := i) (by omega)
  cases e
  exact hc i (W16 l[i]) (by rw [List.getElem?_map, List.getElem?_eq_getElem hi]; rfl)
theorem results_1row1 {P : Program} {fn : Func} {p q r : Tmp} {ty : TypeId} (h : fn.results = #[.tmp q, .cell p ty, .tmp r]) (tmps : Array Value) (w : World) (g : Nat) (t : TypeId) (c : Array Value) (d : TypeDesc)
    (hp : tmps.getD p undef = .pointer (some ⟨g, 0, none⟩)) (hb : Box w g t c) (hu : P.underlying ty = some d) (hd : (match d with | .struct _ | .array _ _ => true | _ => false) = true) (hi : (P.info? ty).map (·.size) = some c.size) :
    (results fn tmps).run P w = .ok (.tuple #[tmps.getD q undef, .agg c, tmps.getD r undef]) w := by
  have hp' : tmps[p]?.getD undef = .pointer (some ⟨g, 0, none⟩) := by simpa using hp
  have h1 := run_loadVar_row (P := P) w g t ty c (0, 0) d hb hu hd hi
  simp [results, h, hp', asAddr, h1]
end Go.Proofs.Ytcmpjkopdjncdaa
