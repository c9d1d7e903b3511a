/- The walk of rtp.Write. -/
import Derived.Test.YtchbgiindfoepaaRtpWrite
namespace Go.Proofs.Ytchbgiindfoepaa
open Go.RowKit

def Pkt.second (p : Pkt) : Int := p.pt + if p.marker then 128 else 0
def Pkt.head (p : Pkt) : List UInt8 := [ib p.first] ++ [ib p.second] ++ beN p.seq.toNat 2 ++ beN p.ts.toNat 4 ++ beN p.ssrc.toNat 4
def words4 (l : List UInt32) : List UInt8 := l.flatMap fun n => beN n.toNat 4
def Pkt.extBytes (p : Pkt) : List UInt8 := if p.hasExt then beN p.profile.toNat 2 ++ beN (p.ext.length / 4 % 65536) 2 ++ p.ext else []
/-- A packet as bytes. -/
def Pkt.bytes (p : Pkt) : List UInt8 := p.head ++ words4 p.csrc ++ p.extBytes ++ p.payload ++ p.pad

theorem words4_len (l : List UInt32) : (words4 l).length = 4 * l.length := by
  induction l with
  | nil => rfl
  | cons a l ih => simp only [words4, List.flatMap_cons, List.length_append, beN_len, List.length_cons] at *; omega
theorem pt_or (n : Int) (h0 : 0 ≤ n) (h1 : n < 128) : bits .or .i64 n 128 = n + 128 := by
  obtain ⟨m, rfl⟩ : ∃ m : Nat, n = m := ⟨n.toNat, by omega⟩
  rw [show (128 : Int) = ((128 : Nat) : Int) from rfl, i64_or_nat _ _ (by omega) (by omega), Nat.or_comm]
  have := Nat.two_pow_add_eq_or_of_lt (i := 7) (b := m) (by omega) 1
  rw [show (128 : Nat) = 2 ^ 7 * 1 from rfl, ← this]
  omega

end Go.Proofs.Ytchbgiindfoepaa
