/- The walk of confluxlaw12.ImprintPackets (printed by gen_imp13.py). -/
import Derived.Test.YtchbgiindfoepaaImpAlike
import Derived.Test.YtchbgiindfoepaaRules
import Derived.Test.YtchbgiindfoepaaImp6
namespace Go.Proofs.Ytchbgiindfoepaa
open Go.RowKit

/-- What Packet answers: the code, the bytes. -/
def PK (x : Bt) (s : UInt16) (t : UInt32) (k : Int) (l : List UInt8) : Prop := (x.pack s t = .ok l ∧ k = 0) ∨ (x.pack s t = .error 42 ∧ k = 42 ∧ l = [])
theorem PK.one {x : Bt} {s : UInt16} {t : UInt32} {k k' : Int} {l l' : List UInt8} (h : PK x s t k l) (h' : PK x s t k' l') : k = k' ∧ l = l' := by
  rcases h with ⟨h1, rfl⟩ | ⟨h1, rfl, rfl⟩ <;> rcases h' with ⟨h2, rfl⟩ | ⟨h2, rfl, rfl⟩ <;> rw [h1] at h2 <;> cases h2 <;> exact ⟨rfl, rfl⟩
theorem PK.small {x : Bt} {s : UInt16} {t : UInt32} {k : Int} {l : List UInt8} (h : PK x s t k l) : l.length ≤ 1500 := by
  rcases h with ⟨h1, rfl⟩ | ⟨h1, rfl, rfl⟩
  · unfold Bt.pack at h1
    split at h1
    · cases h1
    · split at h1
      · rename_i hp
        cases h1
        exact (parse_len hp).2
      · cases h1
  · simp
theorem impPacket_pk {w : World} {v : Value} {x : Bt} (h : BtV w v x) (hl : x.body.length ≤ 1099511627776) (s : UInt16) (t : UInt32) :
    Calls Try.prog 23 #[v, .int .u16 (s.toNat : Nat), .int .u32 (t.toNat : Nat)] w fun e w' => ∃ k l v', PK x s t k l ∧ e = .returned (.tuple #[v', .int .i64 k]) ∧ Bytes w' v' l ∧ Fr [] w w' :=
  (impPacket_any h hl s t).mono fun e w' h => by
    rcases h with ⟨l, v', hp, rfl, hO, hF⟩ | ⟨hp, rfl, hF⟩
    · exact ⟨_, _, _, .inl ⟨hp, rfl⟩, rfl, hO.bytes, hF⟩
    · exact ⟨_, _, _, .inr ⟨hp, rfl, rfl⟩, rfl, Sl.nil _, hF⟩
theorem len_wrap (x : Bt) : ((x.len : Nat) : Int) = IntKind.i64.wrap (IntKind.i64.wrap (256 * IntKind.i64.wrap ((x.h6.toNat : Nat) : Int)) + IntKind.i64.wrap ((x.h7.toNat : Nat) : Int)) := by
  have h6 := x.h6.toNat_lt
  have h7 := x.h7.toNat_lt
  have e6 : IntKind.i64.wrap ((x.h6.toNat : Nat) : Int) = x.h6.toNat := IntWalk.i64_in _ (by omega)
  have e7 : IntKind.i64.wrap ((x.h7.toNat : Nat) : Int) = x.h7.toNat := IntWalk.i64_in _ (by omega)
  have e8 : IntKind.i64.wrap (256 * ((x.h6.toNat : Nat) : Int)) = 256 * ((x.h6.toNat : Nat) : Int) := IntWalk.i64_in _ (by omega)
  have e9 : IntKind.i64.wrap (256 * ((x.h6.toNat : Nat) : Int) + ((x.h7.toNat : Nat) : Int)) = 256 * ((x.h6.toNat : Nat) : Int) + ((x.h7.toNat : Nat) : Int) := IntWalk.i64_in _ (by omega)
  rw [e6, e7, e8, e9]
  unfold Bt.len
  omega
theorem like_add (x y : Bt) : (((x.add y).head == xb x.head y.head) && ((x.add y).body == xb x.body y.body)) = true := by
  rw [Bt.head_add]
  simp [Bt.add]
theorem xb_small {a b : List UInt8} {n : Nat} (ha : a.length ≤ n) (hb : b.length ≤ n) : (xb a b).length ≤ n := by rw [xb_len]; omega

end Go.Proofs.Ytchbgiindfoepaa
