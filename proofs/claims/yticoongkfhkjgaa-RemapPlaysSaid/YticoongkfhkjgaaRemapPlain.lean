/- What the maps of package remap are, as plain data. No program in sight. -/
import Derived.Test.YticoongkfhkjgaaBackPlain
namespace Go.Proofs.Yticoongkfhkjgaa
open Go.RowKit

/-- A map of packets, as plain data. -/
structure RMap where
  ssrc : UInt32
  pt : Int
  next : UInt16
  last : UInt32
  step : Int
  shift : UInt32
  opn : Bool
  segs : Nat
  cnt : Nat
/-- The cells of a map. -/
def mc (m : RMap) : Array Value :=
  #[.int .u32 (m.ssrc.toNat : Nat), .int .i64 m.pt, .int .u16 (m.next.toNat : Nat), .int .u32 (m.last.toNat : Nat), .int .i64 m.step, .int .u32 (m.shift.toNat : Nat), .bool m.opn, .int .i64 (m.segs : Nat), .int .i64 (m.cnt : Nat)]
/-- What holds of every map. -/
structure RMap.Ok (m : RMap) : Prop where
  pt0 : 0 ≤ m.pt
  pt1 : m.pt ≤ 127
  st0 : 0 ≤ m.step
  st1 : m.step ≤ 2147483647
  sg : m.segs ≤ 1099511627776
  ct : m.cnt ≤ 1099511627776
def clampI (n lo hi : Int) : Int := if n < lo then lo else if hi < n then hi else n
def RMap.new (ssrc : UInt32) (pt : Int) (first : UInt16) (ts : UInt32) (step : Int) : RMap :=
  { ssrc := ssrc, pt := clampI pt 0 127, next := first, last := ts, step := clampI step 0 2147483647, shift := 0, opn := false, segs := 0, cnt := 0 }
theorem RMap.new_ok (ssrc : UInt32) (pt : Int) (first : UInt16) (ts : UInt32) (step : Int) : (RMap.new ssrc pt first ts step).Ok := by
  constructor <;> simp only [RMap.new, clampI] <;> (try split) <;> (try split) <;> omega
/-- A number some ahead. -/
def add32 (a : UInt32) (n : Int) : UInt32 := UInt32.ofNat (((a.toNat : Int) + n) % 4294967296).toNat
def add16 (a : UInt16) (n : Int) : UInt16 := UInt16.ofNat (((a.toNat : Int) + n) % 65536).toNat
/-- A sum that the walk leaves alone. -/
def sum32 (a b : UInt32) : UInt32 := a + b
def RMap.start (m : RMap) : UInt32 := if 0 < m.segs then add32 m.last m.step else m.last
def RMap.begin_ (m : RMap) (ts : UInt32) : RMap := { m with shift := m.start - ts, opn := true, segs := m.segs + 1 }
def RMap.ready (m : RMap) (ts : UInt32) : RMap := if m.opn then m else m.begin_ ts
/-- The map behind a packet, and the packet as it goes out. -/
def RMap.out (m : RMap) (p : Pkt) : Pkt := { p with ssrc := m.ssrc, pt := m.pt, seq := m.next, ts := sum32 p.ts (m.ready p.ts).shift }
def RMap.step_ (m : RMap) (p : Pkt) : RMap := { m.ready p.ts with next := add16 m.next 1, last := (m.out p).ts, cnt := m.cnt + 1 }
def RMap.shut (m : RMap) : RMap := { m with opn := false }
theorem RMap.ready_same (m : RMap) (ts : UInt32) : (m.ready ts).pt = m.pt ∧ (m.ready ts).ssrc = m.ssrc ∧ (m.ready ts).next = m.next ∧ (m.ready ts).cnt = m.cnt ∧ (m.ready ts).step = m.step := by
  unfold RMap.ready; split <;> exact ⟨rfl, rfl, rfl, rfl, rfl⟩
theorem wrong_fit {p : Pkt} (h0 : 0 ≤ p.pt) (h1 : p.pt < 128) (h2 : p.extOk = true) (h3 : padOk p.pad = true) (h4 : p.csrc.length ≤ 15) (h5 : p.size ≤ 1500) : p.wrong = 0 := by
  unfold Pkt.wrong
  rw [if_neg (by rw [h2, h3]; simp; omega), if_neg (by omega), if_neg (by omega)]
/-- The packet with another number, time, source and kind. -/
def Pkt.turn (p : Pkt) (sq : UInt16) (ts ss : UInt32) (pt : Int) : Pkt := { p with seq := sq, ts := ts, ssrc := ss, pt := pt }
theorem Pkt.turn_wrong {p : Pkt} (h : p.wrong = 0) (sq : UInt16) (ts ss : UInt32) {pt : Int} (h0 : 0 ≤ pt) (h1 : pt < 128) : (p.turn sq ts ss pt).wrong = 0 := by
  have F := Pkt.fit h
  exact wrong_fit (p := p.turn sq ts ss pt) h0 h1 F.ext F.pad F.csrc F.size
theorem Pkt.turn_bad (p : Pkt) (sq : UInt16) (ts ss : UInt32) {pt : Int} (h1 : 128 ≤ pt) : (p.turn sq ts ss pt).wrong = 1 := by
  unfold Pkt.wrong
  rw [if_pos (.inr (.inl h1))]
theorem Pkt.turn_small {p : Pkt} (h : p.Small) (sq : UInt16) (ts ss : UInt32) (pt : Int) : (p.turn sq ts ss pt).Small := h
theorem RMap.out_turn (m : RMap) (p : Pkt) : m.out p = p.turn m.next (sum32 p.ts (m.ready p.ts).shift) m.ssrc m.pt := rfl
theorem RMap.out_wrong {m : RMap} (hm : m.Ok) {p : Pkt} (h : p.wrong = 0) : (m.out p).wrong = 0 :=
  Pkt.turn_wrong h _ _ _ hm.pt0 (by have := hm.pt1; omega)
theorem Pkt.turn_back (p : Pkt) (sq : UInt16) (ts ss : UInt32) (pt : Int) : (p.turn sq ts ss pt).turn p.seq p.ts p.ssrc p.pt = p := rfl
theorem add16_nat (a : UInt16) (n : Int) : ((add16 a n).toNat : Int) = ((a.toNat : Int) + n) % 65536 := by
  unfold add16
  rw [UInt16.toNat_ofNat']
  omega
theorem add32_nat (a : UInt32) (n : Int) : ((add32 a n).toNat : Int) = ((a.toNat : Int) + n) % 4294967296 := by
  unfold add32
  rw [UInt32.toNat_ofNat']
  omega
theorem add16_one (a : UInt16) : add16 a 1 = a + 1 := by
  apply UInt16.toNat_inj.1
  have h := add16_nat a 1
  rw [UInt16.toNat_add]
  simp only [UInt16.reduceToNat]
  omega
theorem u32_add_nat (a b : UInt32) : (((a + b).toNat : Nat) : Int) = ((a.toNat : Int) + (b.toNat : Int)) % 4294967296 := by
  rw [UInt32.toNat_add]; omega
theorem u32_sub_nat (a b : UInt32) : (((a - b).toNat : Nat) : Int) = ((a.toNat : Int) - (b.toNat : Int)) % 4294967296 := by
  rw [UInt32.toNat_sub]
  have := a.toNat_lt
  have := b.toNat_lt
  omega
theorem wrap_u32_mod (n : Int) : IntKind.u32.wrap n = n % 4294967296 := by
  simp [IntKind.wrap, IntKind.min, IntKind.max, IntKind.signed, IntKind.bits]
theorem wrap_u16_mod (n : Int) : IntKind.u16.wrap n = n % 65536 := by
  simp [IntKind.wrap, IntKind.min, IntKind.max, IntKind.signed, IntKind.bits]
end Go.Proofs.Yticoongkfhkjgaa
