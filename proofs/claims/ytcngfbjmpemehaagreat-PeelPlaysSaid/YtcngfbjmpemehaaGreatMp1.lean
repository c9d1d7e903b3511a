import Derived.Lib.BitFns
set_option maxRecDepth 100000
set_option maxHeartbeats 16000000
/- Masks of 128 bits,plainly: what each bit is,the first one,the list of those that are there. No program in sight. -/
namespace Go.Proofs.YtcngfbjmpemehaaGreat

structure Msk where
 hi : BitVec 64
 lo : BitVec 64
deriving DecidableEq
namespace Msk
def zero : Msk:=⟨0,0⟩
def bit (i : Nat) : Msk:=if i < 64 then ⟨BitVec.twoPow 64 (63 - i),0⟩ else ⟨0,BitVec.twoPow 64 (127 - i)⟩
def and (m n : Msk) : Msk:=⟨m.hi &&& n.hi,m.lo &&& n.lo⟩
def or (m n : Msk) : Msk:=⟨m.hi ||| n.hi,m.lo ||| n.lo⟩
def sub (m n : Msk) : Msk:=⟨m.hi &&& ~~~n.hi,m.lo &&& ~~~n.lo⟩
def has (m : Msk) (i : Nat) : Bool:=if i < 64 then m.hi.getLsbD (63 - i) else if i < 128 then m.lo.getLsbD (127 - i) else false
theorem ext_has {m n : Msk} (h : ∀ i,i < 128 → m.has i = n.has i) : m = n:=by
 obtain ⟨a,b⟩:=m
 obtain ⟨c,d⟩:=n
 have h1 : a = c:=BitVec.eq_of_getLsbD_eq fun i hi => by
  have:=h (63 - i) (by omega)
  unfold has at this
  rw [if_pos (by omega),if_pos (by omega)] at this
  rwa [show 63 - (63 - i) = i by omega] at this
 have h2 : b = d:=BitVec.eq_of_getLsbD_eq fun i hi => by
  have:=h (127 - i) (by omega)
  unfold has at this
  have n1 : ¬ 127 - i < 64:=by omega
  have n2 : 127 - i < 128:=by omega
  simp only [n1,n2,if_false,if_true] at this
  rwa [show 127 - (127 - i) = i by omega] at this
 rw [h1,h2]
theorem has_zero (i : Nat) : zero.has i = false:=by unfold has zero;split <;> simp
theorem has_bit {i j : Nat} (hi : i < 128) : (bit i).has j = (j == i):=by
 unfold has bit
 by_cases h : i < 64
 ·rw [if_pos h]
  by_cases h2 : j < 64
  ·rw [if_pos h2]
   simp only [BitVec.getLsbD_twoPow]
   rw [Bool.eq_iff_iff]
   simp
   omega
  ·rw [if_neg h2]
   have : (j == i) = false:=by simp;omega
   rw [this]
   simp
 ·rw [if_neg h]
  by_cases h2 : j < 64
  ·rw [if_pos h2]
   have : (j == i) = false:=by simp;omega
   rw [this]
   simp
  ·rw [if_neg h2]
   by_cases h3 : j < 128
   ·rw [if_pos h3]
    simp only [BitVec.getLsbD_twoPow]
    rw [Bool.eq_iff_iff]
    simp
    omega
   ·rw [if_neg h3]
    have : (j == i) = false:=by simp;omega
    rw [this]
theorem has_and (m n : Msk) (i : Nat) : (m.and n).has i = (m.has i && n.has i):=by
 unfold has and
 split
 ·simp
 ·split <;> simp
theorem has_sub (m n : Msk) (i : Nat) (hi : i < 128) : (m.sub n).has i = (m.has i && !n.has i):=by
 unfold has sub
 split
 ·have : 63 - i < 64:=by omega
  simp [this]
 ·have h1 : 127 - i < 64:=by omega
  simp [hi,h1]
theorem has_ge (m : Msk) {i : Nat} (h : 128 ≤ i) : m.has i = false:=by unfold has;rw [if_neg (by omega),if_neg (by omega)]
theorem and_bit {m : Msk} {i : Nat} (hi : i < 128) : (m.and (bit i) == zero) = !m.has i:=by
 have e : m.and (bit i) = zero ↔ m.has i = false:=by
  constructor
  ·intro h
   have:=congrArg (fun x : Msk => x.has i) h
   simp only [has_and,has_bit hi,has_zero,beq_self_eq_true,Bool.and_true] at this
   exact this
  ·intro h
   refine ext_has fun j hj => ?_
   rw [has_and,has_bit hi,has_zero]
   by_cases hji : j = i
   ·subst hji;simp [h]
   ·simp [hji]
 rw [Bool.eq_iff_iff]
 simp [e]
theorem eq_zero {m : Msk} : m = zero ↔ ∀ i,i < 128 → m.has i = false:=by
 constructor
 ·rintro rfl i _;exact has_zero i
 ·intro h;exact ext_has fun i hi => by rw [h i hi,has_zero]

def list (m : Msk) : List Nat:=(List.range' 0 128).filter m.has
theorem mem_list {m : Msk} {i : Nat} : i ∈ m.list ↔ m.has i = true:=by
 unfold list
 rw [List.mem_filter,List.mem_range'_1]
 constructor
 ·exact fun h => h.2
 ·intro h
  refine ⟨⟨Nat.zero_le _,?_⟩,h⟩
  by_cases hi : i < 128
  ·omega
  ·rw [has_ge m (by omega)] at h;cases h
theorem list_lt {m : Msk} {i : Nat} (h : i ∈ m.list) : i < 128:=by
 unfold list at h
 have:=(List.mem_filter.1 h).1
 rw [List.mem_range'_1] at this
 omega
theorem list_len (m : Msk) : m.list.length ≤ 128:=by
 unfold list
 refine Nat.le_trans (List.length_filter_le _ _) ?_
 simp
theorem list_nil {m : Msk} : m.list = [] ↔ m = zero:=by
 rw [eq_zero]
 unfold list
 rw [List.filter_eq_nil_iff]
 constructor
 ·intro h i hi
  have:=h i (by rw [List.mem_range'_1];omega)
  simpa using this
 ·intro h i hi
  rw [h i (by rw [List.mem_range'_1] at hi;omega)]
  simp
theorem list_cons {m : Msk} {i : Nat} (h1 : m.has i = true) (h2 : ∀ j,j < i → m.has j = false) : m.list = i :: (m.sub (bit i)).list:=by
 have hi : i < 128:=list_lt (mem_list.2 h1)
 have hr : List.range' 0 128 = List.range' 0 i ++ i :: List.range' (i + 1) (127 - i):=by
  have e1 : List.range' 0 128 = List.range' 0 i ++ List.range' i (128 - i):=by
   have:=List.range'_append (s:=0) (m:=i) (n:=128 - i) (step:=1)
   simp at this
   rw [this,show i + (128 - i) = 128 by omega]
  rw [e1,show 128 - i = (127 - i) + 1 by omega,List.range'_succ]
 have hq : ∀ j,(m.sub (bit i)).has j = (m.has j && !(j == i)):=fun j => by
  by_cases hj : j < 128
  ·rw [has_sub _ _ _ hj,has_bit hi]
  ·rw [has_ge _ (by omega),has_ge _ (by omega)];rfl
 unfold list
 rw [hr,List.filter_append,List.filter_append,List.filter_cons_of_pos h1,List.filter_cons_of_neg (by rw [hq];simp)]
 have f1 : (List.range' 0 i).filter m.has = []:=by
  rw [List.filter_eq_nil_iff]
  intro j hj
  rw [List.mem_range'_1] at hj
  rw [h2 j (by omega)];simp
 have f2 : (List.range' 0 i).filter (m.sub (bit i)).has = []:=by
  rw [List.filter_eq_nil_iff]
  intro j hj
  rw [List.mem_range'_1] at hj
  rw [hq,h2 j (by omega)];simp
 rw [f1,f2,List.nil_append,List.nil_append]
 congr 1
 refine List.filter_congr fun j hj => ?_
 rw [List.mem_range'_1] at hj
 rw [hq]
 have : (j == i) = false:=by simp;omega
 rw [this];simp
end Msk

theorem bitLen_top : ∀ (k x : Nat),x ≠ 0 → x < 2 ^ k → k ≤ 64 → 0 < Lib.bitLen x ∧ Lib.bitLen x ≤ k ∧ x.testBit (Lib.bitLen x - 1) = true ∧ ∀ j,Lib.bitLen x ≤ j → x.testBit j = false
 | 0,x,h0,h,_ => by simp at h;omega
 | k + 1,x,h0,h,hk => by
  have hx : x < 2 ^ 64:=Nat.lt_of_lt_of_le h (Nat.pow_le_pow_right (by omega) hk)
  rw [Lib.bitLen_half x h0 hx]
  by_cases h1 : x / 2 = 0
  ·have : x = 1:=by omega
   subst this
   refine ⟨by omega,?_,?_,?_⟩
   ·rw [show Lib.bitLen (1 / 2) = 0 from rfl];omega
   ·rfl
   ·intro j hj
    rw [show Lib.bitLen (1 / 2) = 0 from rfl] at hj
    obtain ⟨j',rfl⟩ : ∃ j',j = j' + 1:=⟨j - 1,by omega⟩
    rw [Nat.testBit_succ]
    simp
  ·obtain ⟨g1,g2,g3,g4⟩:=bitLen_top k (x / 2) h1 (by rw [Nat.pow_succ] at h;omega) (by omega)
   refine ⟨by omega,by omega,?_,?_⟩
   ·rw [show 1 + Lib.bitLen (x / 2) - 1 = (Lib.bitLen (x / 2) - 1) + 1 by omega,Nat.testBit_succ]
    exact g3
   ·intro j hj
    obtain ⟨j',rfl⟩ : ∃ j',j = j' + 1:=⟨j - 1,by omega⟩
    rw [Nat.testBit_succ]
    exact g4 j' (by omega)
theorem clz_top (x : BitVec 64) (h : x ≠ 0) : 1 ≤ Lib.bitLen x.toNat ∧ Lib.bitLen x.toNat ≤ 64 ∧ x.getLsbD (Lib.bitLen x.toNat - 1) = true ∧ ∀ j,Lib.bitLen x.toNat ≤ j → x.getLsbD j = false:=by
 have h0 : x.toNat ≠ 0:=fun e => h (by apply BitVec.eq_of_toNat_eq;simpa using e)
 obtain ⟨g1,g2,g3,g4⟩:=bitLen_top 64 x.toNat h0 x.isLt (Nat.le_refl _)
 exact ⟨g1,g2,g3,g4⟩
def Msk.first (m : Msk) : Int:=if m.hi ≠ 0 then 64 - (Lib.bitLen m.hi.toNat : Int) else if m.lo ≠ 0 then 128 - (Lib.bitLen m.lo.toNat : Int) else -1
theorem Msk.first_none {m : Msk} (h : m = zero) : m.first = -1:=by subst h;rfl
theorem Msk.first_some {m : Msk} (h : m ≠ zero) : ∃ i : Nat,m.first = i ∧ i < 128 ∧ m.list = i :: (m.sub (bit i)).list:=by
 by_cases h1 : m.hi = 0
 ·have h2 : m.lo ≠ 0:=fun h2 => h (by obtain ⟨a,b⟩:=m;simp only at h1 h2;subst h1 h2;rfl)
  obtain ⟨g1,g2,g3,g4⟩:=clz_top m.lo h2
  refine ⟨128 - Lib.bitLen m.lo.toNat,?_,by omega,list_cons ?_ ?_⟩
  ·unfold first;rw [if_neg (by simpa using h1),if_pos h2];omega
  ·unfold has
   rw [if_neg (by omega),if_pos (by omega),show 127 - (128 - Lib.bitLen m.lo.toNat) = Lib.bitLen m.lo.toNat - 1 by omega]
   exact g3
  ·intro j hj
   unfold has
   split
   ·rw [h1];simp
   ·rw [if_pos (by omega)]
    exact g4 _ (by omega)
 ·obtain ⟨g1,g2,g3,g4⟩:=clz_top m.hi h1
  refine ⟨64 - Lib.bitLen m.hi.toNat,?_,by omega,list_cons ?_ ?_⟩
  ·unfold first;rw [if_pos h1];omega
  ·unfold has
   rw [if_pos (by omega),show 63 - (64 - Lib.bitLen m.hi.toNat) = Lib.bitLen m.hi.toNat - 1 by omega]
   exact g3
  ·intro j hj
   unfold has
   rw [if_pos (by omega)]
   exact g4 _ (by omega)
end Go.Proofs.YtcngfbjmpemehaaGreat
