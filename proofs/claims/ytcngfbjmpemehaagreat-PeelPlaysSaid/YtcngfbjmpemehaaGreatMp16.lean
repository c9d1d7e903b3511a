import Derived.Test.YtcngfbjmpemehaaGreatMp1
import Derived.Test.YtcngfbjmpemehaaGreatMp15
import Derived.Test.YtcngfbjmpemehaaGreatMp4
set_option maxRecDepth 100000
set_option maxHeartbeats 16000000
open List renaming getElem_toArray → zz1, getElem_cons_zero → zz2, getElem_cons_succ → zz3, setIfInBounds_toArray → zz4, set_cons_zero → zz5, set_cons_succ → zz6, getElem?_toArray → zz7, getElem?_cons_succ → zz8, getElem?_cons_zero → zz9
open Go.Lib renaming hid → Hd
/- Numbers of 16 bits that go round: how far ahead,the least one,the span;the mask of how far numbers are ahead of a base. No program in sight. -/
namespace Go.Proofs.YtcngfbjmpemehaaGreat

def ahd (a b : UInt16) : Int:=if (a - b).toNat < 32768 then ((a - b).toNat : Int) else ((a - b).toNat : Int) - 65536
theorem ahd_lt (a b : UInt16) : -32768 ≤ ahd a b ∧ ahd a b < 32768:=by
 have:=(a - b).toNat_lt
 unfold ahd
 split <;> omega
theorem sub_toNat (a b : UInt16) : (a - b).toNat = (a.toNat + 65536 - b.toNat) % 65536:=by
 have ha:=a.toNat_lt;have hb:=b.toNat_lt
 rw [UInt16.toNat_sub]
 omega
theorem ahd_def (a b : UInt16) : ahd a b = if ((a.toNat : Int) - b.toNat) % 65536 < 32768 then ((a.toNat : Int) - b.toNat) % 65536 else ((a.toNat : Int) - b.toNat) % 65536 - 65536:=by
 have ha:=a.toNat_lt;have hb:=b.toNat_lt
 unfold ahd
 rw [sub_toNat]
 have : (((a.toNat + 65536 - b.toNat) % 65536 : Nat) : Int) = ((a.toNat : Int) - b.toNat) % 65536:=by omega
 split <;> split <;> omega
def lowOf (x : UInt16) (ns : List UInt16) : Int:=ns.foldl (fun a n => min a (ahd n x)) 0
def highOf (x : UInt16) (ns : List UInt16) : Int:=ns.foldl (fun a n => max a (ahd n x)) 0
theorem low_snoc (x : UInt16) (ns : List UInt16) (n : UInt16) : lowOf x (ns ++ [n]) = min (lowOf x ns) (ahd n x):=by simp [lowOf]
theorem high_snoc (x : UInt16) (ns : List UInt16) (n : UInt16) : highOf x (ns ++ [n]) = max (highOf x ns) (ahd n x):=by simp [highOf]
theorem min_fold (x : UInt16) : ∀ (ns : List UInt16) (z : Int),ns.foldl (fun a n => min a (ahd n x)) z ≤ z ∧ (∀ n ∈ ns,ns.foldl (fun a n => min a (ahd n x)) z ≤ ahd n x) ∧ (ns.foldl (fun a n => min a (ahd n x)) z = z ∨ ∃ n ∈ ns,ns.foldl (fun a n => min a (ahd n x)) z = ahd n x)
 | [],z => by simp
 | n :: l,z => by
  obtain ⟨h1,h2,h3⟩:=min_fold x l (min z (ahd n x))
  rw [List.foldl_cons]
  generalize l.foldl (fun a n => min a (ahd n x)) (min z (ahd n x)) = r at *
  refine ⟨by omega,?_,?_⟩
  ·intro m hm
   rcases List.mem_cons.1 hm with rfl | hm
   ·omega
   ·exact h2 m hm
  ·rcases h3 with h3 | ⟨m,hm,h3⟩
   ·by_cases h : z ≤ ahd n x
    ·exact .inl (by omega)
    ·exact .inr ⟨n,by simp,by omega⟩
   ·exact .inr ⟨m,by simp [hm],h3⟩
theorem max_fold (x : UInt16) : ∀ (ns : List UInt16) (z : Int),z ≤ ns.foldl (fun a n => max a (ahd n x)) z ∧ (∀ n ∈ ns,ahd n x ≤ ns.foldl (fun a n => max a (ahd n x)) z) ∧ (ns.foldl (fun a n => max a (ahd n x)) z = z ∨ ∃ n ∈ ns,ns.foldl (fun a n => max a (ahd n x)) z = ahd n x)
 | [],z => by simp
 | n :: l,z => by
  obtain ⟨h1,h2,h3⟩:=max_fold x l (max z (ahd n x))
  rw [List.foldl_cons]
  generalize l.foldl (fun a n => max a (ahd n x)) (max z (ahd n x)) = r at *
  refine ⟨by omega,?_,?_⟩
  ·intro m hm
   rcases List.mem_cons.1 hm with rfl | hm
   ·omega
   ·exact h2 m hm
  ·rcases h3 with h3 | ⟨m,hm,h3⟩
   ·by_cases h : ahd n x ≤ z
    ·exact .inl (by omega)
    ·exact .inr ⟨n,by simp,by omega⟩
   ·exact .inr ⟨m,by simp [hm],h3⟩
theorem low_spec (x : UInt16) (ns : List UInt16) : lowOf x ns ≤ 0 ∧ (∀ n ∈ ns,lowOf x ns ≤ ahd n x) ∧ (lowOf x ns = 0 ∨ ∃ n ∈ ns,lowOf x ns = ahd n x):=min_fold x ns 0
theorem high_spec (x : UInt16) (ns : List UInt16) : 0 ≤ highOf x ns ∧ (∀ n ∈ ns,ahd n x ≤ highOf x ns) ∧ (highOf x ns = 0 ∨ ∃ n ∈ ns,highOf x ns = ahd n x):=max_fold x ns 0
theorem low_bd (x : UInt16) (ns : List UInt16) : -32768 ≤ lowOf x ns ∧ lowOf x ns ≤ 0 ∧ 0 ≤ highOf x ns ∧ highOf x ns < 32768:=by
 obtain ⟨h1,h2,h3⟩:=low_spec x ns
 obtain ⟨g1,g2,g3⟩:=high_spec x ns
 refine ⟨?_,h1,g1,?_⟩
 ·rcases h3 with h | ⟨n,_,h⟩
  ·omega
  ·have:=ahd_lt n x;omega
 ·rcases g3 with h | ⟨n,_,h⟩
  ·omega
  ·have:=ahd_lt n x;omega

def fromL (base : UInt16) : List UInt16 → Msk → Bool → Except Int (Msk × Bool)
 | [],m,t => .ok (m,t)
 | n :: l,m,t => if ahd n base < 0 ∨ 109 ≤ ahd n base then .error 31 else fromL base l (m.or (Msk.bit (ahd n base).toNat)) (t || m.has (ahd n base).toNat)
def cvFrom (base : UInt16) (ns : List UInt16) : Except Int Msk :=
 match fromL base ns Msk.zero false with
 | .error k => .error k
 | .ok (m,t) => if ns = [] then .error 4 else if t then .error 5 else .ok m
theorem fromL_append (base : UInt16) : ∀ (l l' : List UInt16) (m : Msk) (t : Bool),fromL base (l ++ l') m t = match fromL base l m t with | .error k => .error k | .ok (m',t') => fromL base l' m' t'
 | [],_,_,_ => rfl
 | n :: l,l',m,t => by
  show (if ahd n base < 0 ∨ 109 ≤ ahd n base then .error 31 else fromL base (l ++ l') (m.or (Msk.bit (ahd n base).toNat)) (t || m.has (ahd n base).toNat)) = match (if ahd n base < 0 ∨ 109 ≤ ahd n base then .error 31 else fromL base l (m.or (Msk.bit (ahd n base).toNat)) (t || m.has (ahd n base).toNat) : Except Int (Msk × Bool)) with | .error k => .error k | .ok (m',t') => fromL base l' m' t'
  by_cases h : ahd n base < 0 ∨ 109 ≤ ahd n base
  ·rw [if_pos h,if_pos h]
  ·rw [if_neg h,if_neg h]
   exact fromL_append base l l' _ _
def cvOf : List UInt16 → Except Int (UInt16 × Msk)
 | [] => .error 4
 | x :: l => if 109 ≤ highOf x (x :: l) - lowOf x (x :: l) then .error 31 else
  match cvFrom (add16 x (lowOf x (x :: l))) (x :: l) with
  | .error k => .error k
  | .ok m => .ok (add16 x (lowOf x (x :: l)),m)
theorem cvOf_cons (x : UInt16) (l : List UInt16) : cvOf (x :: l) = if 109 ≤ highOf x (x :: l) - lowOf x (x :: l) then .error 31 else match cvFrom (add16 x (lowOf x (x :: l))) (x :: l) with | .error k => .error k | .ok m => .ok (add16 x (lowOf x (x :: l)),m):=rfl
end Go.Proofs.YtcngfbjmpemehaaGreat

/- Windows: things by their numbers,rising;what is put,what is due,what comes out. No program in sight. -/
namespace Go.Proofs.YtcngfbjmpemehaaGreat

def peekW (hi : Option Int) (q : UInt16) : Int:=match hi with
 | none => 4294967296 + (q.toNat : Int)
 | some h => h + ahd q (UInt16.ofNat (h % 65536).toNat)
theorem peekW_some {h : Int} {q : UInt16} : h - 32768 ≤ peekW (some h) q ∧ peekW (some h) q < h + 32768:=by
 have:=ahd_lt q (UInt16.ofNat (h % 65536).toNat)
 show h - 32768 ≤ h + _ ∧ h + _ < h + 32768
 omega
theorem peekW_mod {hi : Option Int} {q : UInt16} : (peekW hi q) % 65536 = q.toNat:=by
 have hq:=q.toNat_lt
 cases hi with
 | none => show (4294967296 + (q.toNat : Int)) % 65536 = _;omega
 | some h =>
  show (h + ahd q (UInt16.ofNat (h % 65536).toNat)) % 65536 = _
  have h1 : ((UInt16.ofNat (h % 65536).toNat).toNat : Int) = h % 65536:=by rw [UInt16.toNat_ofNat'];omega
  rw [ahd_def,h1]
  split <;> omega
end Go.Proofs.YtcngfbjmpemehaaGreat

/- The walks of confluxref04.one,at,Xor,Gap. -/
namespace Go.Proofs.YtcngfbjmpemehaaGreat
open Go.RowKit

/-! ### the exclusive or,bit by bit -/
def oneN (a b : Nat) : Nat → Nat
 | 0 => 0
 | k + 1 => if a / (128 / 2 ^ k) % 2 = b / (128 / 2 ^ k) % 2 then oneN a b k else (oneN a b k + 128 / 2 ^ k) % 256
theorem oneN_lt (a b k : Nat) : oneN a b k < 256:=by
 induction k with
 | zero => unfold oneN;omega
 | succ k ih => unfold oneN;split <;> omega
def dbit (a b p : Nat) : Nat:=if a / p % 2 = b / p % 2 then 0 else 1
theorem oneN_step (a b k : Nat) : oneN a b (k + 1) = (oneN a b k + dbit a b (128 / 2 ^ k) * (128 / 2 ^ k)) % 256:=by
 have h:=oneN_lt a b k
 show (if _ then _ else _) = _
 unfold dbit
 split
 ·omega
 ·simp
theorem xor_step (a b : Nat) : a ^^^ b = 2 * (a / 2 ^^^ b / 2) + dbit a b 1:=by
 have h1:=Nat.div_add_mod (a ^^^ b) 2
 have h2 : (a ^^^ b) % 2 = 1 ↔ ¬ (a % 2 = 1 ↔ b % 2 = 1):=by simp
 rw [Nat.xor_div_two] at h1
 unfold dbit
 rw [Nat.div_one,Nat.div_one]
 split <;> omega
theorem dbit_div (a b p q : Nat) : dbit (a / p) (b / p) q = dbit a b (p * q):=by
 unfold dbit
 rw [Nat.div_div_eq_div_mul,Nat.div_div_eq_div_mul]
theorem dbit_le (a b p : Nat) : dbit a b p ≤ 1:=by unfold dbit;split <;> omega
theorem oneN_xor (a : Nat) (ha : a < 256) (b : Nat) (hb : b < 256) : oneN a b 8 = a ^^^ b:=by
 rw [oneN_step,oneN_step,oneN_step,oneN_step,oneN_step,oneN_step,oneN_step,oneN_step]
 rw [xor_step a b,xor_step (a / 2),xor_step (a / 2 / 2),xor_step (a / 2 / 2 / 2),xor_step (a / 2 / 2 / 2 / 2),xor_step (a / 2 / 2 / 2 / 2 / 2),xor_step (a / 2 / 2 / 2 / 2 / 2 / 2),xor_step (a / 2 / 2 / 2 / 2 / 2 / 2 / 2)]
 simp only [dbit_div,Nat.div_div_eq_div_mul,Nat.reduceMul,Nat.reducePow,Nat.reduceDiv]
 rw [show a / 256 = 0 by omega,show b / 256 = 0 by omega,Nat.xor_self]
 have h1:=dbit_le a b 1;have h2:=dbit_le a b 2;have h3:=dbit_le a b 4;have h4:=dbit_le a b 8;have h5:=dbit_le a b 16;have h6:=dbit_le a b 32;have h7:=dbit_le a b 64;have h8:=dbit_le a b 128
 generalize dbit a b 1 = d1 at *;generalize dbit a b 2 = d2 at *;generalize dbit a b 4 = d4 at *;generalize dbit a b 8 = d8 at *;generalize dbit a b 16 = d16 at *;generalize dbit a b 32 = d32 at *;generalize dbit a b 64 = d64 at *;generalize dbit a b 128 = d128 at *
 unfold oneN
 omega
theorem u8_xor_nat (a b : Nat) (ha : a < 256) (hb : b < 256) : bits .xor .u8 (a : Int) (b : Int) = ((a ^^^ b : Nat) : Int):=by
 have h : a ^^^ b < 256:=Nat.xor_lt_two_pow (n:=8) ha hb
 show IntKind.u8.wrap ((BitVec.ofInt 8 (a : Int) ^^^ BitVec.ofInt 8 (b : Int)).toNat : Int) = _
 rw [show BitVec.ofInt 8 (a : Int) = BitVec.ofNat 8 a by simp,show BitVec.ofInt 8 (b : Int) = BitVec.ofNat 8 b by simp,BitVec.toNat_xor,BitVec.toNat_ofNat,BitVec.toNat_ofNat]
 rw [Nat.mod_eq_of_lt (by omega),Nat.mod_eq_of_lt (by omega),IntKind.wrap_u8]
 omega

theorem r04one_any {w : World} (a b : Nat) (ha : a < 256) (hb : b < 256) :
  Calls Tryz.prog 128 #[.int .u8 a,.int .u8 b] w fun e w' => e = .returned (.int .u8 ((a ^^^ b : Nat) : Int)) ∧ Fr [] w w':=by
 go_enter Tryz.func128,Tryz.ntmps128
 go_upto_region 3 with (fail)
 go_loopw [5,6] (fun ov pv wr => ∃ k : Nat,k ≤ 8 ∧ ov = .int .u8 (oneN a b k : Nat) ∧ pv = .int .i64 ((128 / 2 ^ k : Nat) : Int) ∧ Fr [] w wr) (fun _ pv _ => (intOf pv).toNat)
 case atStart => exact ⟨0,by omega,rfl,rfl,Fr.refl _ _⟩
 case round =>
  obtain ⟨k,hk,rfl,rfl,hF⟩:=hrel
  have HF:=Hd hF
  clear hF
  by_cases hlt : k < 8
  ·obtain ⟨p,hp,hp0,hp1⟩ : ∃ p : Nat,128 / 2 ^ k = p ∧ 0 < p ∧ p ≤ 128:=⟨_,rfl,by
    rcases (by omega : k = 0 ∨ k = 1 ∨ k = 2 ∨ k = 3 ∨ k = 4 ∨ k = 5 ∨ k = 6 ∨ k = 7) with rfl | rfl | rfl | rfl | rfl | rfl | rfl | rfl <;> decide,Nat.div_le_self _ _⟩
   have hnx : 128 / 2 ^ (k + 1) = p / 2:=by rw [← hp,Nat.pow_succ,Nat.div_div_eq_div_mul]
   have h1 : oneN a b (k + 1) = if a / p % 2 = b / p % 2 then oneN a b k else (oneN a b k + p) % 256:=by rw [← hp];rfl
   have hS:=Hd h1;have HX:=Hd hnx
   have hol:=oneN_lt a b k
   rw [hp]
   clear h1 hnx hp
   generalize oneN a b k = x at *
   have wp : IntKind.u8.wrap (p : Int) = p:=by rw [IntKind.wrap_u8];omega
   have hda : a / p < 256:=Nat.lt_of_le_of_lt (Nat.div_le_self _ _) ha
   have hdb : b / p < 256:=Nat.lt_of_le_of_lt (Nat.div_le_self _ _) hb
   have hpi : ((p : Nat) : Int) ≠ 0:=by omega
   go_upto_region 6 with (fail)
   go_quiet (fail)
   go_wp2_with fail
   all_goals (go_roundw;case measure => simp [intOf];omega)
   all_goals refine ⟨k + 1,by omega,?_,by rw [HX.out];go_num,HF.out.drewN _⟩
   all_goals rename_i hq;rw [← Int.natCast_ediv,← Int.natCast_ediv] at hq;generalize a / p = q1 at *;generalize b / p = q2 at *
   ·rw [hS.out,if_neg (by simp at hq;omega)];go_num
   ·rw [hS.out,if_pos (by simp at hq;omega)]
  ·obtain rfl : k = 8:=by omega
   have hx:=oneN_xor a ha b hb
   rw [hx]
   have z : ((128 / 2 ^ 8 : Nat) : Int) = 0:=rfl
   rw [z]
   go_wp2_with fail
   go_ret
   exact ⟨rfl,HF.out⟩

theorem getD_lt (l : List UInt8) (i : Nat) : (l.getD i 0).toNat < 256:=(l.getD i 0).toNat_lt
theorem r04at_any {w : World} {v : Value} {l : List UInt8} (h : Bytes w v l) (i : Nat) (hi : i ≤ 1099511627776) :
  Calls Tryz.prog 129 #[v,.int .i64 i] w fun e w' => e = .returned (.int .u8 ((l.getD i 0).toNat : Nat)) ∧ w' = w:=by
 obtain ⟨av,cv,rfl⟩:=h.shape
 simp only [List.length_map] at h ⊢
 have H:=Hd h
 clear h
 by_cases hlt : i < l.length
 ·obtain ⟨b,o,ea,hb,hc⟩:=H.out.at_ hlt
  subst ea
  have e2:=hc i (B8 l[i]) (by rw [List.getElem?_map,List.getElem?_eq_getElem hlt];rfl)
  have hg : l.getD i 0 = l[i]:=by rw [List.getD_eq_getElem?_getD,List.getElem?_eq_getElem hlt];rfl
  rw [hg]
  unfold B8 at e2
  generalize l[i].toNat = c at *
  clear hc hb hg
  go_enter Tryz.func129,Tryz.ntmps129
  go_wp2_with fail
  go_ret
  exact ⟨rfl,rfl⟩
 ·have hg : l.getD i 0 = 0:=by rw [List.getD_eq_getElem?_getD,List.getElem?_eq_none_iff.2 (by omega)];rfl
  rw [hg]
  go_enter Tryz.func129,Tryz.ntmps129
  go_wp2_with fail
  go_ret
  exact ⟨rfl,rfl⟩

theorem xb_succ {a b : List UInt8} {j : Nat} (h : j < max a.length b.length) : (xb a b).take (j + 1) = (xb a b).take j ++ [a.getD j 0 ^^^ b.getD j 0]:=by
 rw [List.take_succ_eq_append_getElem (by rw [xb_len];exact h)]
 congr 2
 have:=xb_get a b j
 rwa [List.getD_eq_getElem?_getD,List.getElem?_eq_getElem (by rw [xb_len];exact h),Option.getD_some] at this
theorem r04Xor_any {w : World} {va vb : Value} {a b : List UInt8} (h1 : Bytes w va a) (h2 : Bytes w vb b) (hl1 : a.length ≤ 1099511627776) (hl2 : b.length ≤ 1099511627776) :
  Calls Tryz.prog 94 #[va,vb] w fun e w' => ∃ v',e = .returned v' ∧ OwnB w' w.heap.size v' (xb a b) ∧ Fr [] w w':=by
 obtain ⟨ax,cx,rfl⟩:=h1.shape
 obtain ⟨ay,cy,rfl⟩:=h2.shape
 simp only [List.length_map] at h1 h2 ⊢
 have HA:=Hd h1;have HB:=Hd h2
 obtain ⟨w1,e1,hF1,hB1,hs1⟩:=one_new w #[] 5
 have H1 : Hid (OwnB w1 w.heap.size (.slice (some ⟨w.heap.size,0,none⟩) 0 0) []):=Hd (by subst e1;exact World.ownsRow_made w #[] 0 (Nat.le_refl _) (by unfold maxLen;omega) (by simp))
 have E1:=Hd e1;have HF1:=Hd hF1
 clear e1 hF1 hB1 hs1 h1 h2
 go_enter Tryz.func94,Tryz.ntmps94
 go_upto_region 3 with (fail)
 try rw [E1.out]
 clear E1
 go_loopw [5,6] (fun out jv wr => ∃ j : Nat,j ≤ max a.length b.length ∧ jv = .int .i64 j ∧ OwnB wr w.heap.size out ((xb a b).take j) ∧ Fr [] w wr) (fun _ jv _ => max a.length b.length - (intOf jv).toNat)
 case atStart => exact ⟨0,Nat.zero_le _,rfl,H1.out,HF1.out⟩
 case round =>
  obtain ⟨j,hj,rfl,hO2,hF2⟩:=hrel
  obtain ⟨ao,no,co,rfl⟩:=hO2.isSlice
  have HO2:=Hd hO2;have HF2:=Hd hF2
  clear hO2 hF2
  by_cases hjl : j < max a.length b.length
  ·have HC:=Hd (xb_succ hjl)
   have hlo : ((xb a b).take j).length ≤ 1099511627776:=by rw [List.length_take,xb_len];omega
   have HLO:=Hd hlo
   have hor : (j : Int) < (a.length : Nat) ∨ (¬ (j : Int) < (a.length : Nat) ∧ (j : Int) < (b.length : Nat)):=by omega
   have hj40 : j ≤ 1099511627776:=by omega
   have HJL : Hid (j < max a.length b.length):=Hd hjl
   have hxor:=Hd (UInt8.toNat_xor (a.getD j 0) (b.getD j 0))
   have hca:=getD_lt a j;have hcb:=getD_lt b j
   clear hlo hjl hj
   rcases hor with hor | ⟨hor,hor2⟩
   all_goals
    go_wp2_with fail
    refine (r04at_any (HA.out.keep HF2.out) j hj40).mono ?_
    rintro e w3 ⟨rfl,rfl⟩
    go_wp2_with fail
    refine (r04at_any (HB.out.keep HF2.out) j hj40).mono ?_
    rintro e w3 ⟨rfl,rfl⟩
    go_wp2_with fail
    refine (r04one_any _ _ hca hcb).mono ?_
    rintro e wq ⟨rfl,hFq⟩
    rw [← hxor.out]
    have HO3:=Hd (HO2.out.keep hFq);have HF3:=Hd (HF2.out.trans hFq)
    clear hFq
    have HBJ : Hid (B8 (a.getD j 0 ^^^ b.getD j 0) = .int .u8 (((a.getD j 0 ^^^ b.getD j 0).toNat : Nat) : Int)):=Hd rfl
    have hc : (a.getD j 0 ^^^ b.getD j 0).toNat < 256:=(a.getD j 0 ^^^ b.getD j 0).toNat_lt
    generalize (a.getD j 0 ^^^ b.getD j 0).toNat = c at *
    have A0 : Hid ((wq.alloc (.cells #[.int .u8 (c : Int)] 5)).ownsRow w.heap.size 5 1 (.slice ao no co) ((xb a b).take j).length (((xb a b).take j).map B8)):=Hd (Own.keep HO3.out ((Fr.refl [] wq).alloc _))
    have A1 : Hid (((xb a b).take j).length + [Value.int .u8 (c : Int)].length ≤ maxLen):=Hd (by have:=HLO.out;unfold maxLen;simp only [List.length_singleton];omega)
    have A2 : Hid ((((xb a b).take j).length + [Value.int .u8 (c : Int)].length) * 1 ≤ 140737488355328):=Hd (by have:=HLO.out;simp only [List.length_singleton];omega)
    have A3 : Hid (Sl (wq.alloc (.cells #[.int .u8 (c : Int)] 5)) (.slice (some ⟨wq.heap.size,0,none⟩) 1 1) [.int .u8 (c : Int)]):=Hd (Sl.one wq _ _)
    have A4 : Hid (w.heap.size ≤ (wq.alloc (.cells #[.int .u8 (c : Int)] 5)).heap.size):=Hd (by have:=HF3.out.size;simp;omega)
    go_wp2_with (at_builtin;refine wpList_append_slf rfl (.tmp 20) (.tmp 28) 34 rfl w.heap.size 5 (.int .u8 0) 1 Tryz.underlying34 info_u8 rfl (.slice ao no co) ((xb a b).take j).length (((xb a b).take j).map B8) rfl A0.out (.slice (some ⟨wq.heap.size,0,none⟩) 1 1) [.int .u8 (c : Int)] rfl A3.out (oneCell_int .u8 (c : Int)) A1.out A2.out A4.out ?_;intro v' w4 ho hg hfr;have HO4:=Hd ho;have HG:=Hd hg;clear ho hg hfr)
    have hN : OwnB w4 w.heap.size v' ((xb a b).take (j + 1)):=by
     have:=HO4.out
     unfold OwnB
     rw [HC.out,List.map_append,List.length_append,List.map_cons,List.map_nil,HBJ.out]
     exact this
    have hF3 : Fr [] w w4:=(HF3.out.alloc _).step HG.out (fun x hx => .inr (HO3.out.block x (by simpa using hx)).1)
    have HN:=Hd hN;have HF3:=Hd hF3
    clear hN hF3
    go_roundw
    case rel => exact ⟨j + 1,HJL.out,by go_num,HN.out,HF3.out⟩
    case measure => have:=HJL.out;simp [intOf];omega
  ·obtain rfl : j = max a.length b.length:=by omega
   have n1 : ¬ ((max a.length b.length : Nat) : Int) < (a.length : Nat):=by omega
   have n2 : ¬ ((max a.length b.length : Nat) : Int) < (b.length : Nat):=by omega
   generalize hm : max a.length b.length = m at *
   have HM:=Hd hm
   clear hm hj hjl
   go_wp2_with fail
   go_ret
   refine ⟨_,rfl,?_,HF2.out⟩
   have:=HO2.out
   rwa [List.take_of_length_le (by rw [xb_len,HM.out];exact Nat.le_refl _)] at this

end Go.Proofs.YtcngfbjmpemehaaGreat

/- The walks of stripe.Sum.Add,Bytes,Fit;slices.IndexFunc. -/
namespace Go.Proofs.YtcngfbjmpemehaaGreat
open Go.RowKit

theorem OwnB.live {w : World} {base : Nat} {v : Value} {l : List UInt8} (h : OwnB w base v l) (h0 : 0 < l.length) :
  ∃ g cap,v = .slice (some ⟨g,0,none⟩) l.length cap ∧ base ≤ g ∧ g < w.heap.size ∧ l.length ≤ cap ∧ (∀ i (hi : i < l.length),w.cell? ⟨g,i,none⟩ = some (B8 l[i])) ∧ (∀ i,w.frozen? ⟨g,i,none⟩ = false) ∧
   ∀ i c,i < l.length → OwnB (w.setCell ⟨g,i,none⟩ (B8 c)) base v (l.set i c) ∧ Fr [g] w (w.setCell ⟨g,i,none⟩ (B8 c)):=by
 rcases h.2 with ⟨rfl,hn⟩ | ⟨g,cap,cur,rfl,hbg,hg,hnc,hcm,hcs,htake⟩
 ·omega
 ·refine ⟨g,cap,rfl,hbg,(Array.getElem?_eq_some_iff.1 hg).1,hnc,fun i hi => ?_,fun i => frozen_of_row w g i cur _ hg,fun i c hi => ⟨?_,?_⟩⟩
  ·have:=h.cells (g:=g) rfl i (B8 l[i]) (by rw [List.getElem?_map,List.getElem?_eq_getElem hi];rfl)
   have hadd : (⟨g,0,none⟩ : Addr).add i = ⟨g,i,none⟩:=by unfold Addr.add;split <;> simp_all
   rwa [hadd] at this
  ·refine ⟨by simp,.inr ⟨g,cap,cur.setIfInBounds i (B8 c),by simp,hbg,heap_setCell_same w g i cur _ _ hg,by simpa using hnc,hcm,by simpa using hcs,?_⟩⟩
   simp only [Array.toList_setIfInBounds,List.length_set,List.take_set,List.map_set]
   have:=htake
   simp only [Nat.mul_one] at this ⊢
   rw [this]
  ·exact (Fr.refl [g] w).set (.inl (by simp)) _

theorem OwnB.len {w : World} {base : Nat} {a : Option Addr} {n c : Nat} {l : List UInt8} (h : OwnB w base (.slice a n c) l) : n = l.length:=by
 have h1 : Sl w (.slice a n c) (l.map B8):=h.bytes
 have:=h1.len.1
 rwa [List.length_map] at this
structure Sm (w : World) (S base : Nat) (n : Nat) (v : Value) (l : List UInt8) : Prop where
 box : Box w S 248 #[v,.int .i64 n]
 own : OwnB w base v l
 low : S < base
 size : base ≤ w.heap.size
theorem gD (l : List UInt8) (i : Nat) : l.getD i 0 = l[i]?.getD 0:=List.getD_eq_getElem?_getD
theorem xb_pad (l b : List UInt8) : xb (l ++ List.replicate (b.length - l.length) 0) b = xb l b:=by
 refine ext_getD (by simp [xb_len];omega) fun i => ?_
 rw [xb_get,xb_get]
 congr 1
 rw [List.getD_eq_getElem?_getD,List.getD_eq_getElem?_getD,List.getElem?_append]
 split
 ·rfl
 ·rename_i h
  rw [List.getElem?_replicate,List.getElem?_eq_none_iff.2 (by omega : l.length ≤ i)]
  split <;> rfl
theorem xb_take_len {l b : List UInt8} (h : b.length ≤ l.length) (j : Nat) : (xb l (b.take j)).length = l.length:=by rw [xb_len,List.length_take];omega
theorem getD_take (b : List UInt8) (j i : Nat) : (b.take j).getD i 0 = if i < j then b.getD i 0 else 0:=by
 rw [List.getD_eq_getElem?_getD,List.getElem?_take]
 split
 ·rw [List.getD_eq_getElem?_getD]
 ·rfl
theorem xb_step {l b : List UInt8} (h : b.length ≤ l.length) {j : Nat} (hj : j < b.length) : xb l (b.take (j + 1)) = (xb l (b.take j)).set j (l.getD j 0 ^^^ b.getD j 0):=by
 refine ext_getD (by rw [List.length_set,xb_take_len h,xb_take_len h]) fun i => ?_
 rw [gD ((xb l (b.take j)).set _ _),List.getElem?_set,xb_take_len h,xb_get,getD_take]
 by_cases e : j = i
 ·subst e
  rw [if_pos rfl,if_pos (by omega),if_pos (by omega)]
  rfl
 ·rw [if_neg e,← gD,xb_get,getD_take]
  by_cases h1 : i < j
  ·rw [if_pos (by omega),if_pos h1]
  ·rw [if_neg (by omega),if_neg h1]
theorem xb_at {l b : List UInt8} (h : b.length ≤ l.length) {j : Nat} (hj : j < b.length) (hj2 : j < (xb l (b.take j)).length) : (xb l (b.take j))[j] = l.getD j 0:=by
 have h1:=xb_get l (b.take j) j
 rw [getD_take,if_neg (by omega),gD (xb l (b.take j)),List.getElem?_eq_getElem hj2] at h1
 simpa using h1

theorem sumAdd_any {w : World} {S base n : Nat} {v : Value} {l : List UInt8} (h : Sm w S base n v l) {vb : Value} {b : List UInt8} (hb : Bytes w vb b) (hbl : b.length ≤ 1099511627776) (hl : l.length ≤ 1099511627776) (hn : n ≤ 1099511627776)
  (hsep : ∀ k,liveOf vb = some k → k < S) :
  Calls Tryz.prog 156 #[.pointer (some ⟨S,0,none⟩),vb] w fun e w' => ∃ v',e = .returned (.tuple #[]) ∧ Sm w' S base (n + 1) v' (xb l b) ∧ Fr (S :: (blockOf v).toList) w w' ∧ ∀ k,blockOf v' = some k → blockOf v = some k ∨ w.heap.size ≤ k:=by
 obtain ⟨ab,cb,rfl⟩:=hb.shape
 simp only [List.length_map] at hb ⊢
 have hlow:=h.low
 have hT0 : Hid (Fr [] w w):=Hd (Fr.refl _ _)
 simp only [List.length_map] at hsep
 have HB:=Hd hb;have HS:=Hd h;have HSEP:=Hd hsep
 have b0:=h.box.cell 0;have b1:=h.box.cell 1;have f1:=h.box.free 1
 simp only [zz7,zz9,zz8] at b0 b1
 obtain ⟨w1,e1,hF1,hB1,hs1⟩:=set_new h.box 1 (.int .i64 ((n : Int) + 1))
 simp only [zz4,zz5,zz6] at hB1
 have H1 : Hid (Sm w1 S base (n + 1) v l):=Hd ⟨hB1,h.own.low hF1 (by simp;omega),h.low,by have:=h.size;omega⟩
 obtain ⟨a0,n0,c0,rfl⟩:=h.own.isSlice
 obtain ⟨rfl,hc0,hc1,hc2⟩:=Sl.len (show Sl w (.slice a0 n0 c0) (l.map B8) from h.own.bytes)
 simp only [List.length_map] at hc0 hc1 hc2 b0 HS H1 hB1 e1 ⊢
 have HF1 : Hid (Fr (S :: (blockOf (.slice a0 l.length c0)).toList) w w1):=Hd (hF1.mono (by simp))
 have HB1 : Hid (Bytes w1 (.slice ab b.length cb) b):=Hd (hb.frL hF1 (fun k hk hm => by have:=hsep k hk;simp at hm;omega))
 clear h hb hsep hB1 hF1 hs1
 go_enter Tryz.func156,Tryz.ntmps156
 go_upto_region 1 with (fail)
 try rw [e1]
 clear e1 b0 b1 f1
 have b0:=H1.out.box.cell 0;have f0:=H1.out.box.free 0
 simp only [zz7,zz9,zz8] at b0
 by_cases hlt : l.length < b.length
 ·have hd2 : (b.length : Int) - (l.length : Int) = ((b.length - l.length : Nat) : Int):=by omega
  have HD2:=Hd hd2
  clear hd2
  obtain ⟨iu8,hi1,hi2,hi3,hi4⟩:=info_parts info_u8
  obtain ⟨v3,w3,hr3,ho3,hF3,hn3⟩:=run_append_zeros (P:=Tryz.prog) w1 base 34 3 34 5 iu8 (.int .u8 0) 1 Tryz.underlying34 Tryz.underlying3 hi1 hi2 hi3 hi4 rfl rfl _ _ _ H1.out.own (b.length - l.length) (by omega) (by unfold maxLen;omega) (by omega) H1.out.size
  have HR3:=Hd hr3
  have hO3 : OwnB w3 base v3 (l ++ List.replicate (b.length - l.length) 0):=by
   unfold OwnB
   simpa [B8] using ho3
  have hB3 : Box w3 S 248 #[.slice a0 l.length c0,.int .i64 ((n + 1 : Nat) : Int)]:=H1.out.box.fr hF3 (fun hm => by have:=H1.out.own.block S (by simpa using hm);have:=H1.out.low;omega)
  obtain ⟨a3,m3,c3,rfl⟩:=hO3.isSlice
  obtain ⟨w4,e4,hF4,hB4,hs4⟩:=set_new hB3 0 (.slice a3 m3 c3)
  simp only [zz4,zz5,zz6] at hB4
  have g0:=hB3.cell 0;have gf:=hB3.free 0
  simp only [zz7,zz9] at g0
  have H4 : Hid (Sm w4 S base (n + 1) (.slice a3 m3 c3) (l ++ List.replicate (b.length - l.length) 0)):=Hd ⟨hB4,hO3.low hF4 (by have:=H1.out.low;simp;omega),H1.out.low,Nat.le_trans H1.out.size (Nat.le_trans hF3.size hF4.size)⟩
  have hpos : (0 : Int) < (b.length : Int) - (l.length : Int):=by omega
  obtain rfl:=hO3.len
  have HL3 : Hid (b.length ≤ (l ++ List.replicate (b.length - l.length) 0).length):=Hd (by simp;omega)
  have HEQ : Hid (xb (l ++ List.replicate (b.length - l.length) 0) b = xb l b):=Hd (xb_pad l b)
  have HF4 : Hid (Fr (S :: (blockOf (.slice a0 l.length c0)).toList) w w4):=Hd ((HF1.out.trans (hF3.mono (fun x hx => by simp at hx ⊢;exact .inr hx))).trans (hF4.mono (by simp)))
  have HB4 : Hid (Bytes w4 (.slice ab b.length cb) b):=Hd ((HB1.out.frL hF3 (fun k hk hm => by have h1:=H1.out.own.block k (by simpa using hm);have h2:=HSEP.out k hk;have h3:=H1.out.low;omega)).frL hF4 (fun k hk hm => by have:=HSEP.out k hk;simp at hm;omega))
  have HNEW : Hid (∀ k,blockOf (.slice a3 (l ++ List.replicate (b.length - l.length) 0).length c3) = some k → blockOf (.slice a0 l.length c0) = some k ∨ w.heap.size ≤ k):=Hd (fun k hk => by
   rcases hn3 k hk with h | h
   ·exact .inl h
   ·exact .inr (by have:=HF1.out.size;omega))
  clear hr3 ho3 hO3 hF3 hn3 hB3 hB4 hF4 hs4 H1 HF1 HB1
  generalize hl3 : l ++ List.replicate (b.length - l.length) 0 = l3 at *
  have hl3m : l3.length ≤ 1099511627776:=by rw [← hl3];simp;omega
  clear hl3
  go_upto_region 3 with (fail)
  rw [HD2.out]
  go_upto_region 4 with (at_builtin;refine Lib.wpList_append_run _ rfl _ _ _ _ rfl _ _ rfl rfl _ _ HR3.out ?_)
  try rw [e4]
  clear e4 g0 gf b0 f0 HR3 hi1 hi2 hi3 hi4 hpos HD2
  go_upto_region 5 with (fail)
  go_loopw [35] (fun iv wr => ∃ j : Nat,j ≤ b.length ∧ iv = .int .i64 j ∧ Sm wr S base (n + 1) (.slice a3 l3.length c3) (xb l3 (b.take j)) ∧ Fr (S :: (blockOf (.slice a0 l.length c0)).toList) w wr ∧ Bytes wr (.slice ab b.length cb) b) (fun iv _ => b.length - (intOf iv).toNat)
  case atStart => exact ⟨0,Nat.zero_le _,rfl,by simpa [xb_nil_right] using H4.out,HF4.out,HB4.out⟩
  case round =>
   obtain ⟨j,hj,rfl,hS,hF,hBB⟩:=hrel
   have HS:=Hd hS;have HF:=Hd hF;have HBB:=Hd hBB
   clear hS hF hBB
   by_cases hjl : j < b.length
   ·have hl3b:=HL3.out
    obtain ⟨g,cap,ev,hbg,hgl,hlc,hcell,hfree,hset⟩:=HS.out.own.live (by rw [xb_take_len HL3.out];omega)
    rw [xb_take_len HL3.out] at ev hlc
    simp only [Value.slice.injEq,true_and] at ev
    obtain ⟨rfl,rfl⟩:=ev
    have hj3 : j < (xb l3 (b.take j)).length:=by rw [xb_take_len HL3.out];omega
    have d1:=hcell j hj3
    rw [xb_at HL3.out hjl hj3] at d1
    have d2:=hfree j
    obtain ⟨hN,hFn⟩:=hset j (l3.getD j 0 ^^^ b.getD j 0) hj3
    rw [← xb_step HL3.out hjl] at hN
    obtain ⟨bb,ob,eb,hbb,hcb⟩:=HBB.out.at_ hjl
    subst eb
    have d3:=hcb j (B8 b[j]) (by rw [List.getElem?_map,List.getElem?_eq_getElem hjl];rfl)
    have hgb : b[j] = b.getD j 0:=by rw [gD,List.getElem?_eq_getElem hjl];rfl
    rw [hgb] at d3
    have d0:=HS.out.box.cell 0
    simp only [zz7,zz9] at d0
    have hx:=u8_xor_nat (l3.getD j 0).toNat (b.getD j 0).toNat (getD_lt _ _) (getD_lt _ _)
    rw [← UInt8.toNat_xor] at hx
    have HN:=Hd hN;have HFN:=Hd hFn
    unfold B8 at d1 d3
    have HSB : Hid (S < g):=Hd (by have:=HS.out.low;omega)
    have hj63 : j < l3.length:=by have:=HL3.out;omega
    clear hcell hfree hset hN hFn hcb hgb hbb hbg hgl hj3 hl3b
    obtain ⟨w5,e5⟩ : ∃ w5,wr.setCell ⟨g,j,none⟩ (B8 (l3.getD j 0 ^^^ b.getD j 0)) = w5:=⟨_,rfl⟩
    rw [e5] at HN HFN
    unfold B8 at e5
    generalize (l3.getD j 0 ^^^ b.getD j 0).toNat = cx at *
    generalize (l3.getD j 0).toNat = c1 at *
    generalize (b.getD j 0).toNat = c2 at *
    go_wp2_with fail
    have HS5 : Hid (Sm w5 S base (n + 1) (.slice (some ⟨g,0,none⟩) l3.length c3) (xb l3 (b.take (j + 1)))):=Hd ⟨HS.out.box.fr HFN.out (by have:=HSB.out;simp;omega),HN.out,HS.out.low,Nat.le_trans HS.out.size HFN.out.size⟩
    have HF5 : Hid (Fr (S :: (blockOf (.slice a0 l.length c0)).toList) w w5):=Hd (HF.out.step HFN.out (fun x hx => by
     simp at hx;subst hx
     rcases HNEW.out x rfl with h | h
     ·exact .inl (by simp [h])
     ·exact .inr h))
    have HB5 : Hid (Bytes w5 (.slice (some ⟨bb,ob,none⟩) b.length cb) b):=Hd (HBB.out.frL HFN.out (fun k hk hm => by have:=HSEP.out k hk;have:=HSB.out;simp at hm;omega))
    go_roundw
    case rel => exact ⟨j + 1,by omega,by go_num,HS5.out,HF5.out,HB5.out⟩
    case measure => simp [intOf];omega
   ·obtain rfl : j = b.length:=by omega
    go_wp2_with fail
    go_end0
    refine ⟨_,rfl,?_,HF.out,HNEW.out⟩
    have:=HS.out
    rw [List.take_of_length_le (Nat.le_refl _)] at this
    exact HEQ.out ▸ this
 ·have HL3 : Hid (b.length ≤ l.length):=Hd (by omega)
  obtain ⟨l3,hl3⟩ : ∃ l3,l3 = l:=⟨_,rfl⟩
  obtain ⟨a3,ha3⟩ : ∃ a3,a3 = a0:=⟨_,rfl⟩
  obtain ⟨c3,hc3⟩ : ∃ c3,c3 = c0:=⟨_,rfl⟩
  have H4 : Hid (Sm w1 S base (n + 1) (.slice a3 l3.length c3) l3):=Hd (by subst hl3 ha3 hc3;exact H1.out)
  have HL3 : Hid (b.length ≤ l3.length):=Hd (by subst hl3;exact HL3.out)
  have HEQ : Hid (xb l3 b = xb l b):=Hd (by subst hl3;rfl)
  have hl3m : l3.length ≤ 1099511627776:=by subst hl3;exact hl
  have HNEW : Hid (∀ k,blockOf (.slice a3 l3.length c3) = some k → blockOf (.slice a0 l.length c0) = some k ∨ w.heap.size ≤ k):=Hd (fun k hk => by subst hl3 ha3 hc3;exact .inl hk)
  have HF4:=HF1;have HB4:=HB1
  clear H1 HF1 HB1 hl3 ha3 hc3
  go_upto_region 5 with (fail)
  clear b0 f0
  go_loopw [35] (fun iv wr => ∃ j : Nat,j ≤ b.length ∧ iv = .int .i64 j ∧ Sm wr S base (n + 1) (.slice a3 l3.length c3) (xb l3 (b.take j)) ∧ Fr (S :: (blockOf (.slice a0 l.length c0)).toList) w wr ∧ Bytes wr (.slice ab b.length cb) b) (fun iv _ => b.length - (intOf iv).toNat)
  case atStart => exact ⟨0,Nat.zero_le _,rfl,by simpa [xb_nil_right] using H4.out,HF4.out,HB4.out⟩
  case round =>
   obtain ⟨j,hj,rfl,hS,hF,hBB⟩:=hrel
   have HS:=Hd hS;have HF:=Hd hF;have HBB:=Hd hBB
   clear hS hF hBB
   by_cases hjl : j < b.length
   ·have hl3b:=HL3.out
    obtain ⟨g,cap,ev,hbg,hgl,hlc,hcell,hfree,hset⟩:=HS.out.own.live (by rw [xb_take_len HL3.out];omega)
    rw [xb_take_len HL3.out] at ev hlc
    simp only [Value.slice.injEq,true_and] at ev
    obtain ⟨rfl,rfl⟩:=ev
    have hj3 : j < (xb l3 (b.take j)).length:=by rw [xb_take_len HL3.out];omega
    have d1:=hcell j hj3
    rw [xb_at HL3.out hjl hj3] at d1
    have d2:=hfree j
    obtain ⟨hN,hFn⟩:=hset j (l3.getD j 0 ^^^ b.getD j 0) hj3
    rw [← xb_step HL3.out hjl] at hN
    obtain ⟨bb,ob,eb,hbb,hcb⟩:=HBB.out.at_ hjl
    subst eb
    have d3:=hcb j (B8 b[j]) (by rw [List.getElem?_map,List.getElem?_eq_getElem hjl];rfl)
    have hgb : b[j] = b.getD j 0:=by rw [gD,List.getElem?_eq_getElem hjl];rfl
    rw [hgb] at d3
    have d0:=HS.out.box.cell 0
    simp only [zz7,zz9] at d0
    have hx:=u8_xor_nat (l3.getD j 0).toNat (b.getD j 0).toNat (getD_lt _ _) (getD_lt _ _)
    rw [← UInt8.toNat_xor] at hx
    have HN:=Hd hN;have HFN:=Hd hFn
    unfold B8 at d1 d3
    have HSB : Hid (S < g):=Hd (by have:=HS.out.low;omega)
    have hj63 : j < l3.length:=by have:=HL3.out;omega
    clear hcell hfree hset hN hFn hcb hgb hbb hbg hgl hj3 hl3b
    obtain ⟨w5,e5⟩ : ∃ w5,wr.setCell ⟨g,j,none⟩ (B8 (l3.getD j 0 ^^^ b.getD j 0)) = w5:=⟨_,rfl⟩
    rw [e5] at HN HFN
    unfold B8 at e5
    generalize (l3.getD j 0 ^^^ b.getD j 0).toNat = cx at *
    generalize (l3.getD j 0).toNat = c1 at *
    generalize (b.getD j 0).toNat = c2 at *
    go_wp2_with fail
    have HS5 : Hid (Sm w5 S base (n + 1) (.slice (some ⟨g,0,none⟩) l3.length c3) (xb l3 (b.take (j + 1)))):=Hd ⟨HS.out.box.fr HFN.out (by have:=HSB.out;simp;omega),HN.out,HS.out.low,Nat.le_trans HS.out.size HFN.out.size⟩
    have HF5 : Hid (Fr (S :: (blockOf (.slice a0 l.length c0)).toList) w w5):=Hd (HF.out.step HFN.out (fun x hx => by
     simp at hx;subst hx
     rcases HNEW.out x rfl with h | h
     ·exact .inl (by simp [h])
     ·exact .inr h))
    have HB5 : Hid (Bytes w5 (.slice (some ⟨bb,ob,none⟩) b.length cb) b):=Hd (HBB.out.frL HFN.out (fun k hk hm => by have:=HSEP.out k hk;have:=HSB.out;simp at hm;omega))
    go_roundw
    case rel => exact ⟨j + 1,by omega,by go_num,HS5.out,HF5.out,HB5.out⟩
    case measure => simp [intOf];omega
   ·obtain rfl : j = b.length:=by omega
    go_wp2_with fail
    go_end0
    refine ⟨_,rfl,?_,HF.out,HNEW.out⟩
    have:=HS.out
    rw [List.take_of_length_le (Nat.le_refl _)] at this
    exact HEQ.out ▸ this

theorem sumBytes_any {w : World} {S base n : Nat} {v : Value} {l : List UInt8} (h : Sm w S base n v l) (hl : l.length ≤ 1099511627776) :
  Calls Tryz.prog 157 #[.pointer (some ⟨S,0,none⟩)] w fun e w' => ∃ v',e = .returned v' ∧ OwnB w' w.heap.size v' l ∧ Fr [] w w':=by
 have HW:=Hd h
 have b0:=h.box.cell 0
 simp only [zz7,zz9] at b0
 clear h
 go_enter Tryz.func157,Tryz.ntmps157
 go_wp2_with fail
 refine (cloneB_any HW.out.own.bytes hl).mono ?_
 rintro e w1 ⟨v',rfl,hO,hF⟩
 have H1:=Hd hO;have H2:=Hd hF
 clear hO hF
 go_wp2_with fail
 go_ret
 exact ⟨v',rfl,H1.out,H2.out⟩

end Go.Proofs.YtcngfbjmpemehaaGreat
