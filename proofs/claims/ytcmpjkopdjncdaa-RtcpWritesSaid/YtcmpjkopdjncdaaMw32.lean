import Derived.Test.YtcmpjkopdjncdaaMw31
import Derived.Test.YtcmpjkopdjncdaaMw23
import Derived.Test.YtcmpjkopdjncdaaMw14
/- The walk of parity.Make (printed by gen_make.py). -/
namespace Go.Proofs.Ytcmpjkopdjncdaa
open Go.RowKit

def runL : List (List UInt8) → Sheet → Except Int Sheet
  | [], s => .ok s
  | l :: ls, s => match parseR l with
    | .error k => .error k
    | .ok p => runL ls (s.add l p)
theorem runL_append : ∀ (a b : List (List UInt8)) (s : Sheet), runL (a ++ b) s = match runL a s with | .error k => .error k | .ok s' => runL b s'
  | [], _, _ => rfl
  | l :: a, b, s => by
    show (match parseR l with | .error k => .error k | .ok p => runL (a ++ b) (s.add l p) : Except Int Sheet) = match (match parseR l with | .error k => .error k | .ok p => runL a (s.add l p) : Except Int Sheet) with | .error k => .error k | .ok s' => runL b s'
    cases parseR l with
    | error k => rfl
    | ok p => exact runL_append a b _
theorem runL_ok {y : List UInt8} {p : Pkt} (s : Sheet) (h : parseR y = .ok p) : runL [y] s = .ok (s.add y p) := by
  unfold runL
  rw [h]
  rfl
theorem runL_err {y : List UInt8} {k : Int} (r : List (List UInt8)) (s : Sheet) (h : parseR y = .error k) : runL (y :: r) s = .error k := by
  unfold runL
  rw [h]
/-- What Make answers. -/
def mkP (ls : List (List UInt8)) : Except Int Rep_ :=
  if ls = [] then .error 4 else if 48 < ls.length then .error 3 else
  match runL ls Sheet.zero with
  | .error k => .error k
  | .ok s => if s.alike = false then .error 61 else
    match cvOf s.seqs with
    | .error k => .error k
    | .ok (b, m) => .ok ⟨s.sum, b, m⟩
abbrev rpz : Array Value := #[.int .u8 0, .int .u8 0, .int .u8 0, .int .u8 0, .int .u8 0, .int .u8 0, .int .u8 0, .int .u8 0, .int .u16 0, .int .u64 0, .int .u64 0, .slice none 0 0]
/-- A repair whose body lies from a block on. -/
def RpO (w : World) (base : Nat) (v : Value) (r : Rep_) : Prop := ∃ vb, v = .agg (rpc r vb) ∧ Bytes w vb r.bt.body ∧ ∀ b, liveOf vb = some b → base ≤ b
theorem RpO.v {w : World} {base : Nat} {v : Value} {r : Rep_} (h : RpO w base v r) : RpV w v r := by
  obtain ⟨vb, e, hb, -⟩ := h
  exact ⟨vb, e, hb⟩
/-- What a call that makes a repair hands back. -/
def Made (x : Except Int Rep_) (n : Nat) (e : Ending) (w' : World) : Prop := (∃ r v', x = .ok r ∧ e = .returned (.tuple #[v', .int .i64 0]) ∧ RpO w' n v' r) ∨ (∃ k, x = .error k ∧ k ≠ 0 ∧ e = .returned (.tuple #[.agg rpz, .int .i64 k]))
end Go.Proofs.Ytcmpjkopdjncdaa

/- The walk of parity.Holds (printed by gen_holds.py). -/
namespace Go.Proofs.Ytcmpjkopdjncdaa
open Go.RowKit

/-- Is a repair that of packets? -/
def holdsB (r : Rep_) (ls : List (List UInt8)) : Bool := match mkP ls with
  | .error _ => false
  | .ok q => q.base == r.base && q.m.hi == r.m.hi && q.m.lo == r.m.lo && q.bt.body.length == r.bt.body.length && q.bt.cut.same r.bt.cut
theorem mkP_ok {ls : List (List UInt8)} {q : Rep_} (h : mkP ls = .ok q) : ls ≠ [] ∧ ls.length ≤ 48 ∧ ∃ s, runL ls Sheet.zero = .ok s ∧ s.alike = true ∧ q.bt = s.sum ∧ cvOf s.seqs = .ok (q.base, q.m) := by
  unfold mkP at h
  split at h
  · cases h
  rename_i h1
  split at h
  · cases h
  rename_i h2
  split at h
  · cases h
  rename_i s hs
  split at h
  · cases h
  rename_i ha
  split at h
  · cases h
  rename_i b m hc
  cases h
  exact ⟨h1, by omega, s, hs, by simpa using ha, rfl, hc⟩
theorem runL_small : ∀ (ls : List (List UInt8)) (s s' : Sheet), runL ls s = .ok s' → s.sum.body.length ≤ 1500 → s'.sum.body.length ≤ 1500
  | [], s, s', h, hs => by cases h; exact hs
  | l :: ls, s, s', h, hs => by
    unfold runL at h
    split at h
    · cases h
    rename_i p hp
    refine runL_small ls _ s' h ?_
    have h1 : (s.add l p).sum = s.sum.add (imp l) := by unfold Sheet.add Sheet.begun; split <;> rfl
    have h2 : (imp l).body.length ≤ 1500 := by show (l.drop 12).length ≤ _; have := (parse_len hp).2; rw [List.length_drop]; omega
    rw [h1, Bt.add_body_len]
    omega
theorem mkP_1500 {ls : List (List UInt8)} {q : Rep_} (h : mkP ls = .ok q) : q.bt.body.length ≤ 1500 := by
  obtain ⟨-, -, s, hs, -, e, -⟩ := mkP_ok h
  rw [e]
  exact runL_small _ _ _ hs (by simp [Sheet.zero, Bt.zero])
theorem mkP_small {ls : List (List UInt8)} {q : Rep_} (h : mkP ls = .ok q) : q.bt.body.length ≤ 1099511627776 := Nat.le_trans (mkP_1500 h) (by omega)
theorem u16_bne (a b : UInt16) : (((a.toNat : Nat) : Int) != ((b.toNat : Nat) : Int)) = !(a == b) := by
  rw [Bool.eq_iff_iff]
  simp [← UInt16.toNat_inj]
  omega
theorem bv_bne (a b : BitVec 64) : (((a.toNat : Nat) : Int) != ((b.toNat : Nat) : Int)) = !(a == b) := by
  rw [Bool.eq_iff_iff]
  simp [← BitVec.toNat_inj]
  omega
theorem nat_bne (a b : Nat) : ((a : Int) != (b : Int)) = !(a == b) := by
  rw [Bool.eq_iff_iff]
  simp
  omega
theorem RpV.one {w : World} {r : Rep_} {a : Option Addr} {n c : Nat} : ∀ u ∈ (rpc r (.slice a n c)).toList, u.oneCell' = true := by simp [Value.oneCell']
end Go.Proofs.Ytcmpjkopdjncdaa
