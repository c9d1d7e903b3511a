import Derived.Test.YtcngfbjmpemehaaGreatMp13
import Derived.Test.YtcngfbjmpemehaaGreatMp6
import Derived.Test.YtcngfbjmpemehaaGreatMp10
set_option maxRecDepth 100000
set_option maxHeartbeats 16000000
open Go.Lib renaming hid → Hd
/- The walks of package rtp that write. -/
namespace Go.Proofs.YtcngfbjmpemehaaGreat
open Go.RowKit

def Pkt.size (p : Pkt) : Nat:=12 + 4 * p.csrc.length + p.payload.length + p.pad.length + if p.hasExt then 4 + p.ext.length else 0
def Pkt.extOk (p : Pkt) : Bool:=if p.hasExt then p.ext.length % 4 == 0 && decide (p.ext.length ≤ 262140) else p.profile == 0 && p.ext.length == 0
def padOk (l : List UInt8) : Bool:=l.length == 0 || (decide (l.length ≤ 255) && padN l == l.length)
def Pkt.wrong (p : Pkt) : Int :=
 if p.pt < 0 ∨ 128 ≤ p.pt ∨ p.extOk = false ∨ padOk p.pad = false then 1 else if 15 < p.csrc.length then 3 else if 1500 < p.size then 2 else 0
def Pkt.first (p : Pkt) : Nat:=128 + p.csrc.length + (if 0 < p.pad.length then 32 else 0) + if p.hasExt then 16 else 0

theorem PktV.open_ {w : World} {base : Nat} {v : Value} {p : Pkt} (h : PktV w base v p) :
  ∃ a1 c1 a2 c2 a3 c3 a4 c4,v = .agg (pc p.marker p.pt p.seq.toNat p.ts.toNat p.ssrc.toNat (.slice a1 p.csrc.length c1) p.hasExt p.profile.toNat (.slice a2 p.ext.length c2) (.slice a3 p.payload.length c3) (.slice a4 p.pad.length c4)) ∧
   Words w (.slice a1 p.csrc.length c1) p.csrc ∧ Bytes w (.slice a2 p.ext.length c2) p.ext ∧ Bytes w (.slice a3 p.payload.length c3) p.payload ∧ Bytes w (.slice a4 p.pad.length c4) p.pad:=by
 obtain ⟨cs,ex,pl,pd,rfl,h1,h2,h3,h4,h5⟩:=h
 obtain ⟨a1,c1,rfl⟩:=h1.shape
 obtain ⟨a2,c2,rfl⟩:=h2.shape
 obtain ⟨a3,c3,rfl⟩:=h3.shape
 obtain ⟨a4,c4,rfl⟩:=h4.shape
 simp only [List.length_map] at *
 exact ⟨a1,c1,a2,c2,a3,c3,a4,c4,rfl,h1,h2,h3,h4⟩

theorem ret_bool {a b : Bool} (h : a = b) : Ending.returned (.bool a) = .returned (.bool b):=by rw [h]
theorem Box.pcells {w : World} {g : Nat} {t : TypeId} {m : Bool} {pt : Int} {sq ts ss : Nat} {cs : Value} {he : Bool} {pf : Nat} {ex pl pd : Value} (h : Box w g t (pc m pt sq ts ss cs he pf ex pl pd)) :
  w.cell? ⟨g,0,none⟩ = some (.bool m) ∧ w.cell? ⟨g,1,none⟩ = some (.int .i64 pt) ∧ w.cell? ⟨g,2,none⟩ = some (.int .u16 sq) ∧ w.cell? ⟨g,3,none⟩ = some (.int .u32 ts) ∧ w.cell? ⟨g,4,none⟩ = some (.int .u32 ss) ∧ w.cell? ⟨g,5,none⟩ = some cs ∧ w.cell? ⟨g,6,none⟩ = some (.bool he) ∧ w.cell? ⟨g,7,none⟩ = some (.int .u16 pf) ∧ w.cell? ⟨g,8,none⟩ = some ex ∧ w.cell? ⟨g,9,none⟩ = some pl ∧ w.cell? ⟨g,10,none⟩ = some pd :=
 ⟨h.cell 0,h.cell 1,h.cell 2,h.cell 3,h.cell 4,h.cell 5,h.cell 6,h.cell 7,h.cell 8,h.cell 9,h.cell 10⟩

end Go.Proofs.YtcngfbjmpemehaaGreat

/- The walk of rtp.Write. -/
namespace Go.Proofs.YtcngfbjmpemehaaGreat
open Go.RowKit

def Pkt.second (p : Pkt) : Int:=p.pt + if p.marker then 128 else 0
def Pkt.head (p : Pkt) : List UInt8:=[ib p.first] ++ [ib p.second] ++ beN p.seq.toNat 2 ++ beN p.ts.toNat 4 ++ beN p.ssrc.toNat 4
def words4 (l : List UInt32) : List UInt8:=l.flatMap fun n => beN n.toNat 4
def Pkt.extBytes (p : Pkt) : List UInt8:=if p.hasExt then beN p.profile.toNat 2 ++ beN (p.ext.length / 4 % 65536) 2 ++ p.ext else []
def Pkt.bytes (p : Pkt) : List UInt8:=p.head ++ words4 p.csrc ++ p.extBytes ++ p.payload ++ p.pad

theorem words4_len (l : List UInt32) : (words4 l).length = 4 * l.length:=by
 induction l with
 | nil => rfl
 | cons a l ih => simp only [words4,List.flatMap_cons,List.length_append,beN_len,List.length_cons] at *;omega
end Go.Proofs.YtcngfbjmpemehaaGreat

/- Plain laws: what a written packet,or its first bytes,is parsed as. -/
namespace Go.Proofs.YtcngfbjmpemehaaGreat
open Go.RowKit

theorem beN_succ (n m : Nat) : beN n (m + 1) = beN (n / 256) m ++ [UInt8.ofNat n]:=by
 unfold beN
 rw [List.range_succ,List.map_append]
 congr 1
 ·refine List.map_congr_left fun j hj => ?_
  have hj':=List.mem_range.1 hj
  rw [show m + 1 - 1 - j = (m - 1 - j) + 1 by omega,Nat.pow_succ,Nat.mul_comm,Nat.div_div_eq_div_mul]
 ·simp
theorem be_beN : ∀ (m n : Nat),be (beN n m) = n % 256 ^ m
 | 0,n => by simp [beN,be,Nat.mod_one]
 | m + 1,n => by
  rw [beN_succ,be_snoc,be_beN m (n / 256)]
  have h1 : (UInt8.ofNat n).toNat = n % 256:=by simp
  rw [h1,Nat.pow_succ,Nat.mul_comm (256 ^ m) 256,Nat.mod_mul]
  omega
theorem nb_at {a b : List UInt8} {k n m : Nat} (hk : a.length = k) : nb (a ++ (beN n m ++ b)) k m = n % 256 ^ m:=by
 subst hk
 unfold nb
 rw [List.drop_left,List.take_append_of_le_length (by rw [beN_len];omega),List.take_of_length_le (by rw [beN_len];omega),be_beN]
structure Pkt.Fit (p : Pkt) : Prop where
 pt0 : 0 ≤ p.pt
 pt1 : p.pt < 128
 ext : p.extOk = true
 pad : padOk p.pad = true
 csrc : p.csrc.length ≤ 15
 size : p.size ≤ 1500
theorem Pkt.fit {p : Pkt} (hwr : p.wrong = 0) : p.Fit:=by
 unfold Pkt.wrong at hwr
 split at hwr
 ·simp at hwr
 rename_i h
 split at hwr
 ·simp at hwr
 split at hwr
 ·simp at hwr
 refine ⟨Int.not_lt.1 fun h' => h (.inl h'),Int.not_le.1 fun h' => h (.inr (.inl h')),?_,?_,by omega,by omega⟩
 ·cases he : p.extOk with
  | true => rfl
  | false => exact absurd (.inr (.inr (.inl he))) h
 ·cases he : padOk p.pad with
  | true => rfl
  | false => exact absurd (.inr (.inr (.inr he))) h

def Pkt.hs (p : Pkt) : Nat:=12 + 4 * p.csrc.length + if p.hasExt then 4 + p.ext.length else 0
theorem Pkt.size_hs (p : Pkt) : p.size = p.hs + p.payload.length + p.pad.length:=by
 unfold Pkt.size Pkt.hs;omega
theorem head_len (p : Pkt) : p.head.length = 12:=by simp [Pkt.head,beN_len]
theorem ext_len (p : Pkt) : p.extBytes.length = if p.hasExt then 4 + p.ext.length else 0:=by
 unfold Pkt.extBytes
 split
 ·simp [beN_len];omega
 ·rfl
theorem bytes_len (p : Pkt) : p.bytes.length = p.size:=by
 unfold Pkt.bytes
 rw [List.length_append,List.length_append,List.length_append,List.length_append,head_len,words4_len,ext_len,p.size_hs]
 unfold Pkt.hs
 omega
theorem nb2 (p : Pkt) : nb p.bytes 2 2 = p.seq.toNat:=by
 have : p.bytes = [ib p.first,ib p.second] ++ (beN p.seq.toNat 2 ++ (beN p.ts.toNat 4 ++ beN p.ssrc.toNat 4 ++ words4 p.csrc ++ p.extBytes ++ p.payload ++ p.pad)):=by
  simp [Pkt.bytes,Pkt.head,List.append_assoc]
 rw [this,nb_at (k:=2) (a:=[ib p.first,ib p.second]) rfl]
 have:=p.seq.toNat_lt
 omega
end Go.Proofs.YtcngfbjmpemehaaGreat

/- Plain laws: a written packet is parsed as itself;what is parsed is written as the same bytes. -/
namespace Go.Proofs.YtcngfbjmpemehaaGreat
open Go.RowKit

theorem nb8 (p : Pkt) : nb p.bytes 8 4 = p.ssrc.toNat:=by
 have : p.bytes = ([ib p.first,ib p.second] ++ beN p.seq.toNat 2 ++ beN p.ts.toNat 4) ++ (beN p.ssrc.toNat 4 ++ (words4 p.csrc ++ p.extBytes ++ p.payload ++ p.pad)):=by
  simp [Pkt.bytes,Pkt.head,List.append_assoc]
 rw [this,nb_at (k:=8) (by simp [beN_len])]
 have:=p.ssrc.toNat_lt
 omega
theorem words4_append (a b : List UInt32) : words4 (a ++ b) = words4 a ++ words4 b:=by simp [words4]
theorem padN_append (a : List UInt8) {b : List UInt8} (h : 0 < b.length) : padN (a ++ b) = padN b:=by
 unfold padN
 rw [List.getLast?_append]
 have hb : b ≠ []:=by intro e;subst e;simp at h
 rw [List.getLast?_eq_some_getLast hb]
 rfl

theorem beN_be : ∀ (m : Nat) (x : List UInt8),x.length = m → beN (be x) m = x
 | 0,x,h => by rw [List.eq_nil_of_length_eq_zero h];rfl
 | m + 1,x,h => by
  have hne : x ≠ []:=by intro e;subst e;simp at h
  have hx:=List.dropLast_concat_getLast hne
  rw [← hx,be_snoc,beN_succ]
  have hl:=(x.getLast hne).toNat_lt
  have h1 : (be x.dropLast * 256 + (x.getLast hne).toNat) / 256 = be x.dropLast:=by omega
  have h2 : UInt8.ofNat (be x.dropLast * 256 + (x.getLast hne).toNat) = x.getLast hne:=by
   apply UInt8.toNat_inj.1
   rw [UInt8.toNat_ofNat']
   omega
  rw [h1,h2,beN_be m x.dropLast (by rw [List.length_dropLast];omega)]
theorem beN_nb {l : List UInt8} {k m : Nat} (h : k + m ≤ l.length) : beN (nb l k m) m = (l.drop k).take m :=
 beN_be m _ (by rw [List.length_take,List.length_drop];omega)
theorem take_step (l : List UInt8) (a b : Nat) : l.take (a + b) = l.take a ++ (l.drop a).take b:=List.take_add
theorem words4_w32s (l : List UInt8) : ∀ n,12 + 4 * n ≤ l.length → words4 (w32s l 12 n) = (l.drop 12).take (4 * n)
 | 0,_ => rfl
 | n + 1,h => by
  rw [w32s_snoc,words4_append,words4_w32s l n (by omega),show 4 * (n + 1) = 4 * n + 4 by omega,take_step,List.drop_drop]
  congr 1
  show beN _ 4 ++ [] = _
  rw [List.append_nil,u32_nb,beN_nb (by omega)]

theorem parse_back {l : List UInt8} {q : Pkt} (h : parseR l = .ok q) : q.wrong = 0 ∧ q.bytes = l:=by
 unfold parseR at h
 split at h
 ·cases h
 rename_i h15
 unfold parseP at h
 split at h
 ·cases h
 split at h
 ·cases h
 rename_i h64
 split at h
 ·cases h
 rename_i h12
 simp only at h
 split at h
 ·cases h
 rename_i hk1
 generalize hk : (if (nb l 0 1 / 16 % 2 == 1) = true then 12 + 4 * (nb l 0 1 % 16) + 4 + 4 * nb l (12 + 4 * (nb l 0 1 % 16) + 2) 2 else 12 + 4 * (nb l 0 1 % 16)) = k2 at h
 split at h
 ·cases h
 rename_i hk2
 have hb0 : nb l 0 1 < 256:=by have:=nb_lt l 0 1;simpa using this
 have hb1 : nb l 1 1 < 256:=by have:=nb_lt l 1 1;simpa using this
 have main : ∀ q : Pkt,q.marker = (nb l 1 1 / 128 % 2 == 1) → q.pt = ((nb l 1 1 % 128 : Nat) : Int) → q.seq = UInt16.ofNat (nb l 2 2) → q.ts = UInt32.ofNat (nb l 4 4) → q.ssrc = UInt32.ofNat (nb l 8 4) → q.csrc = w32s l 12 (nb l 0 1 % 16) →
   q.hasExt = (nb l 0 1 / 16 % 2 == 1) → q.profile = (if (nb l 0 1 / 16 % 2 == 1) = true then UInt16.ofNat (nb l (12 + 4 * (nb l 0 1 % 16)) 2) else 0) →
   q.ext = (if (nb l 0 1 / 16 % 2 == 1) = true then (l.drop (12 + 4 * (nb l 0 1 % 16) + 4)).take (4 * nb l (12 + 4 * (nb l 0 1 % 16) + 2) 2) else []) →
   q.payload ++ q.pad = l.drop k2 → (nb l 0 1 / 32 % 2 == 1) = decide (0 < q.pad.length) → padOk q.pad = true → q.wrong = 0 ∧ q.bytes = l:=by
  intro q m0 m1 m2 m3 m4 m5 m6 m7 m8 m9 m10 m11
  have hcl : q.csrc.length = nb l 0 1 % 16:=by rw [m5,w32s_len]
  have hfst : q.first = nb l 0 1:=by
   unfold Pkt.first
   rw [hcl,m6]
   have hd : decide (0 < q.pad.length) = (nb l 0 1 / 32 % 2 == 1):=m10.symm
   have h64' : nb l 0 1 / 64 = 2:=Classical.byContradiction h64
   by_cases c1 : 0 < q.pad.length <;> by_cases c2 : nb l 0 1 / 16 % 2 = 1 <;> simp [c1] at hd <;> simp [c1,c2] <;> omega
  have hsnd : q.second = (nb l 1 1 : Nat):=by
   unfold Pkt.second
   rw [m0,m1]
   by_cases c1 : nb l 1 1 / 128 % 2 = 1 <;> simp [c1] <;> omega
  have hhead : q.head = l.take 12:=by
   unfold Pkt.head
   rw [hfst,hsnd,m2,m3,m4,u16_nb,u32_nb,u32_nb,beN_nb (by omega),beN_nb (by omega),beN_nb (by omega)]
   have i0 : [ib ((nb l 0 1 : Nat) : Int)] = (l.drop 0).take 1:=by
    rw [← beN_nb (by omega)]
    simp only [beN,List.range_succ,List.range_zero,List.nil_append,List.map_cons,List.map_nil,Nat.sub_self,Nat.pow_zero,Nat.div_one,ib]
    congr 2
    omega
   have i1 : [ib ((nb l 1 1 : Nat) : Int)] = (l.drop 1).take 1:=by
    rw [← beN_nb (by omega)]
    simp only [beN,List.range_succ,List.range_zero,List.nil_append,List.map_cons,List.map_nil,Nat.sub_self,Nat.pow_zero,Nat.div_one,ib]
    congr 2
    omega
   rw [i0,i1,show (12 : Nat) = 1 + 1 + 2 + 4 + 4 from rfl,take_step l (1 + 1 + 2 + 4) 4,take_step l (1 + 1 + 2) 4,take_step l (1 + 1) 2,take_step l 1 1,List.drop_zero]
  have hwords : words4 q.csrc = (l.drop 12).take (4 * (nb l 0 1 % 16)):=by rw [m5,words4_w32s _ _ (by omega)]
  have hext : q.extBytes = (l.drop (12 + 4 * (nb l 0 1 % 16))).take (k2 - (12 + 4 * (nb l 0 1 % 16))) ∧ 12 + 4 * (nb l 0 1 % 16) ≤ k2 ∧ q.extOk = true:=by
   unfold Pkt.extBytes Pkt.extOk
   rw [m6]
   cases he : (nb l 0 1 / 16 % 2 == 1) with
   | false =>
    rw [he] at hk m7 m8
    simp at hk m7 m8
    subst hk
    simp [m7,m8]
   | true =>
    rw [he] at hk m7 m8
    simp only [if_true] at hk m7 m8
    have hn:=nb_lt l (12 + 4 * (nb l 0 1 % 16) + 2) 2
    generalize hkk : 12 + 4 * (nb l 0 1 % 16) = k1 at *
    generalize hnn : nb l (k1 + 2) 2 = n at *
    have hel : q.ext.length = 4 * n:=by rw [m8,List.length_take,List.length_drop];omega
    refine ⟨?_,by omega,?_⟩
    ·rw [if_pos rfl,m7,u16_nb,hel,show 4 * n / 4 % 65536 = n by omega,m8,← hnn,beN_nb (by omega),beN_nb (by omega),hnn,show k2 - k1 = 2 + 2 + 4 * n by omega,take_step _ (2 + 2),take_step _ 2 2,List.drop_drop,List.drop_drop]
    ·simp [hel];omega
  obtain ⟨hext,hk12,hxok⟩:=hext
  have hbytes : q.bytes = l:=by
   unfold Pkt.bytes
   rw [hhead,hwords,hext,List.append_assoc _ q.payload,m9,← take_step,show l.drop (12 + 4 * (nb l 0 1 % 16)) = l.drop (12 + 4 * (nb l 0 1 % 16)) from rfl,← take_step,show 12 + 4 * (nb l 0 1 % 16) + (k2 - (12 + 4 * (nb l 0 1 % 16))) = k2 by omega,List.take_append_drop]
  refine ⟨?_,hbytes⟩
  have hsz : q.size = l.length:=by rw [← bytes_len,hbytes]
  unfold Pkt.wrong
  rw [if_neg,if_neg (by omega),if_neg (by omega)]
  rintro (h | h | h | h)
  ·rw [m1] at h;omega
  ·rw [m1] at h;omega
  ·rw [hxok] at h;cases h
  ·rw [m11] at h;cases h
 split at h
 ·rename_i hpb
  split at h
  ·cases h
  rename_i hpn
  cases h
  generalize hrr : l.drop k2 = r at *
  have hn0 : padN r ≠ 0 ∧ padN r ≤ r.length:=by
   refine ⟨fun e => hpn (.inl e),Nat.le_of_not_lt fun e => hpn (.inr e)⟩
  have hpl : (r.drop (r.length - padN r)).length = padN r:=by rw [List.length_drop];omega
  refine main _ rfl rfl rfl rfl rfl rfl rfl rfl rfl (List.take_append_drop _ _) ?_ ?_
  ·rw [hpb]
   symm
   simp only [decide_eq_true_eq]
   rw [hpl]
   omega
  ·have hpp : padN (r.drop (r.length - padN r)) = padN r:=by
    have:=padN_append (r.take (r.length - padN r)) (b:=r.drop (r.length - padN r)) (by rw [hpl];omega)
    rw [List.take_append_drop] at this
    exact this.symm
   have h255 : padN r ≤ 255:=by
    unfold padN
    cases r.getLast? with
    | none => simp
    | some c => have:=c.toNat_lt;simp;omega
   unfold padOk
   rw [hpl,hpp]
   simp
   omega
 ·rename_i hpb
  cases h
  refine main _ rfl rfl rfl rfl rfl rfl rfl rfl rfl (List.append_nil _) ?_ rfl
  simp at hpb
  simp [hdr,hpb]
end Go.Proofs.YtcngfbjmpemehaaGreat

/- What the maps of package remap are,as plain data. No program in sight. -/
namespace Go.Proofs.YtcngfbjmpemehaaGreat
open Go.RowKit

def add16 (a : UInt16) (n : Int) : UInt16:=UInt16.ofNat (((a.toNat : Int) + n) % 65536).toNat
theorem add16_nat (a : UInt16) (n : Int) : ((add16 a n).toNat : Int) = ((a.toNat : Int) + n) % 65536:=by
 unfold add16
 rw [UInt16.toNat_ofNat']
 omega
theorem wrap_u16_mod (n : Int) : IntKind.u16.wrap n = n % 65536:=by
 simp [IntKind.wrap,IntKind.min,IntKind.max,IntKind.signed,IntKind.bits]
end Go.Proofs.YtcngfbjmpemehaaGreat

/- Plain laws on rows held against each other and on imprints. No program in sight. -/
namespace Go.Proofs.YtcngfbjmpemehaaGreat
open Go.RowKit

def xb (a b : List UInt8) : List UInt8:=(List.range (max a.length b.length)).map fun i => a.getD i 0 ^^^ b.getD i 0
theorem xb_len (a b : List UInt8) : (xb a b).length = max a.length b.length:=by simp [xb]
theorem xb_get (a b : List UInt8) (i : Nat) : (xb a b).getD i 0 = a.getD i 0 ^^^ b.getD i 0:=by
 by_cases h : i < max a.length b.length
 ·simp [xb,List.getD_eq_getElem?_getD,h]
 ·have h1 : a.length ≤ i:=by omega
  have h2 : b.length ≤ i:=by omega
  simp [List.getD_eq_getElem?_getD,List.getElem?_eq_none_iff.2 h1,List.getElem?_eq_none_iff.2 h2,xb_len,List.getElem?_eq_none_iff.2 (show (xb a b).length ≤ i by rw [xb_len];omega)]
theorem ext_getD {a b : List UInt8} (hl : a.length = b.length) (h : ∀ i,a.getD i 0 = b.getD i 0) : a = b:=by
 refine List.ext_getElem hl fun i h1 h2 => ?_
 have:=h i
 rw [List.getD_eq_getElem?_getD,List.getD_eq_getElem?_getD,List.getElem?_eq_getElem h1,List.getElem?_eq_getElem h2] at this
 exact this
theorem xb_nil_left (a : List UInt8) : xb [] a = a:=ext_getD (by simp [xb_len]) fun i => by rw [xb_get];simp
theorem xb_nil_right (a : List UInt8) : xb a [] = a:=ext_getD (by simp [xb_len]) fun i => by rw [xb_get];simp
structure Bt where
 h0 : UInt8
 h1 : UInt8
 h2 : UInt8
 h3 : UInt8
 h4 : UInt8
 h5 : UInt8
 h6 : UInt8
 h7 : UInt8
 body : List UInt8
namespace Bt
def head (x : Bt) : List UInt8:=[x.h0,x.h1,x.h2,x.h3,x.h4,x.h5,x.h6,x.h7]
def zero : Bt:=⟨0,0,0,0,0,0,0,0,[]⟩
def add (x y : Bt) : Bt:=⟨x.h0 ^^^ y.h0,x.h1 ^^^ y.h1,x.h2 ^^^ y.h2,x.h3 ^^^ y.h3,x.h4 ^^^ y.h4,x.h5 ^^^ y.h5,x.h6 ^^^ y.h6,x.h7 ^^^ y.h7,xb x.body y.body⟩
def len (x : Bt) : Nat:=x.h6.toNat * 256 + x.h7.toNat
def out (x : Bt) (s : UInt16) (t : UInt32) : List UInt8:=[128 ||| (x.h0 &&& 63),x.h1] ++ beN s.toNat 2 ++ [x.h2,x.h3,x.h4,x.h5] ++ beN t.toNat 4 ++ x.body.take x.len
def pack (x : Bt) (s : UInt16) (t : UInt32) : Except Int (List UInt8) :=
 if x.body.length < x.len ∨ 1488 < x.len then .error 42
 else match parseR (x.out s t) with
  | .ok _ => .ok (x.out s t)
  | .error _ => .error 42
theorem len_lt (x : Bt) : x.len < 65536:=by have:=x.h6.toNat_lt;have:=x.h7.toNat_lt;unfold len;omega
theorem head_add (x y : Bt) : (x.add y).head = xb x.head y.head:=by simp [add,head,xb,List.range_succ]
end Bt
def imp (l : List UInt8) : Bt:=⟨l.getD 0 0 &&& 63,l.getD 1 0,l.getD 4 0,l.getD 5 0,l.getD 6 0,l.getD 7 0,UInt8.ofNat ((l.length - 12) / 256),UInt8.ofNat (l.length - 12),l.drop 12⟩
def Pkt.tail (p : Pkt) : List UInt8:=words4 p.csrc ++ p.extBytes ++ p.payload ++ p.pad
theorem Pkt.bytes12 (p : Pkt) : p.bytes = ib p.first :: ib p.second :: (beN p.seq.toNat 2 ++ (beN p.ts.toNat 4 ++ (beN p.ssrc.toNat 4 ++ p.tail))):=by
 simp [Pkt.bytes,Pkt.head,Pkt.tail,List.append_assoc]
theorem tail_len {p : Pkt} (hw : p.wrong = 0) : p.tail.length ≤ 1488 ∧ p.bytes.length = 12 + p.tail.length:=by
 have h1:=bytes_len p
 have h2:=(Pkt.fit hw).size
 have h3 : p.bytes.length = 12 + p.tail.length:=by rw [p.bytes12];simp [beN_len];omega
 omega
/-! ### one bit of a packet turned -/
/-! ### many imprints -/
theorem Bt.head_len (x : Bt) : x.head.length = 8:=rfl
theorem Bt.add_body_len (x y : Bt) : (x.add y).body.length = max x.body.length y.body.length:=xb_len _ _
end Go.Proofs.YtcngfbjmpemehaaGreat

/- The walks of rtp.Same,Clone,Seq,SSRC,PT,IsRTCP and the library's functions beneath. -/
namespace Go.Proofs.YtcngfbjmpemehaaGreat
open Go.RowKit

end Go.Proofs.YtcngfbjmpemehaaGreat

/- The walk of rtp.Same. -/
namespace Go.Proofs.YtcngfbjmpemehaaGreat
open Go.RowKit

end Go.Proofs.YtcngfbjmpemehaaGreat

/- The walk of confluxref01.Big. -/
namespace Go.Proofs.YtcngfbjmpemehaaGreat
open Go.RowKit

theorem beN_cons (n m : Nat) : beN n (m + 1) = UInt8.ofNat (n / 256 ^ m) :: beN n m:=by
 unfold beN
 rw [List.range_succ_eq_map,List.map_cons,List.map_map]
 congr 1
 refine List.map_congr_left fun j hj => ?_
 simp only [Function.comp]
 rw [show m + 1 - 1 - (j + 1) = m - 1 - j by omega]
theorem Sl_none {w : World} {g : Nat} {t : TypeId} (h : Box w g t #[]) : Sl w (.slice (some ⟨g,0,none⟩) 0 0) [] :=
 ⟨some ⟨g,0,none⟩,0,rfl,Nat.le_refl _,by unfold maxLen;omega,fun h => (by cases h),fun p hp _ => by cases hp;exact ⟨rfl,h.lt,fun i x hx => by simp at hx⟩⟩
theorem oneOwn {w w' : World} {x : Value} {t : TypeId} (h : w.alloc (.cells #[x] t) = w') : w'.ownsRow w.heap.size t 1 (.slice (some ⟨w.heap.size,0,none⟩) 1 1) 1 [x]:=by
 subst h
 exact ⟨rfl,.inr ⟨w.heap.size,1,#[x],rfl,Nat.le_refl _,Box.new w t #[x],Nat.le_refl _,by unfold maxLen;omega,rfl,rfl⟩⟩

theorem wrap_div (q : Nat) (h : q < 18446744073709551616) : IntKind.u64.wrap ((q : Int) / 256) = ((q / 256 : Nat) : Int):=by
 rw [IntWalk.u64_in _ (by omega)];omega

theorem Big_any {w : World} (n m : Nat) (hn : n < 18446744073709551616) (hm : m ≤ 8) :
  Calls Tryz.prog 127 #[.int .u64 n,.int .i64 m] w fun e w' => ∃ v',e = .returned v' ∧ Bytes w' v' (beN n m) ∧ Fr [] w w':=by
 have HN:=Hd hn
 clear hn
 obtain ⟨w1,e1,hF1,hB1,hs1⟩:=one_new w #[] 5
 have H1 : Hid (Bytes w1 (.slice (some ⟨w.heap.size,0,none⟩) 0 0) []):=Hd (Sl_none hB1)
 have E1:=Hd e1;have HF1:=Hd hF1
 clear e1 hF1 hB1 hs1
 go_enter Tryz.func127,Tryz.ntmps127
 go_upto_region 3 with (fail)
 try rw [E1.out]
 clear E1
 go_loopw [0,5,6] (fun nv out iv wr => ∃ j : Nat,j ≤ m ∧ nv = .int .u64 (n / 256 ^ j : Nat) ∧ iv = .int .i64 j ∧ Bytes wr out (beN n j) ∧ Fr [] w wr) (fun _ _ iv _ => m - (intOf iv).toNat)
 case atStart => exact ⟨0,Nat.zero_le _,by simp,rfl,H1.out,HF1.out⟩
 case round =>
  obtain ⟨j,hj,rfl,rfl,hB,hF⟩:=hrel
  have HB:=Hd hB;have HF:=Hd hF
  by_cases hlt : j < m
  ·have hq1:=wrap_u8_nat (n / 256 ^ j)
   have hq3:=wrap_div (n / 256 ^ j) (Nat.lt_of_le_of_lt (Nat.div_le_self _ _) HN.out)
   have hqd : n / 256 ^ j / 256 = n / 256 ^ (j + 1):=by rw [Nat.div_div_eq_div_mul,Nat.pow_succ]
   have HQD:=Hd hqd
   have HBC:=Hd (beN_cons n j)
   clear hB hF hqd
   generalize n / 256 ^ j = q at *
   obtain ⟨ao,co,ho⟩:=HB.out.shape
   rw [List.length_map,beN_len] at ho
   subst ho
   have A1 : Hid (1 + ((beN n j).map B8).length ≤ maxLen):=Hd (by rw [List.length_map,beN_len];unfold maxLen;omega)
   have A2 : Hid ((1 + ((beN n j).map B8).length) * 1 ≤ 140737488355328):=Hd (by rw [List.length_map,beN_len];omega)
   have A4 : Hid (wr.heap.size ≤ (wr.alloc (.cells #[.int .u8 ((q : Int) % 256)] 5)).heap.size):=Hd (by simp)
   have A3:=Hd (Sl.keep HB.out ((Fr.refl [] wr).alloc (.cells #[.int .u8 ((q : Int) % 256)] 5)))
   have A5 : Hid ((wr.alloc (.cells #[.int .u8 ((q : Int) % 256)] 5)).ownsRow wr.heap.size 5 1 (.slice (some ⟨wr.heap.size,0,none⟩) 1 1) 1 [.int .u8 ((q : Int) % 256)]):=Hd (oneOwn rfl)
   have hB8 : B8 (UInt8.ofNat q) = .int .u8 ((q : Int) % 256):=by unfold B8;simp
   have HB8:=Hd hB8
   clear hB8
   go_wp2_with (at_builtin;refine wpList_append_slf rfl (.tmp 16) (.tmp 17) 34 rfl wr.heap.size 5 (.int .u8 0) 1 Tryz.underlying34 info_u8 rfl (.slice (some ⟨wr.heap.size,0,none⟩) 1 1) 1 [.int .u8 ((q : Int) % 256)] rfl A5.out (.slice ao j co) ((beN n j).map B8) rfl A3.out (oneCell_B8 _) A1.out A2.out A4.out ?_;intro v' w2 ho hg hfr;have HO:=Hd (Sl.ofOwn ho);have HG:=Hd hg;clear ho hg hfr)
   have hN : Bytes w2 v' (beN n (j + 1)):=by
    have:=HO.out
    rw [HBC.out]
    unfold Bytes
    rw [List.map_cons,HB8.out]
    exact this
   have hF2 : Fr [] w w2:=HF.out.trans (((Fr.refl [] wr).alloc _).step HG.out (fun x hx => by simp [blockOf] at hx;subst hx;exact .inr (Nat.le_refl _)))
   have HN2:=Hd hN;have HF2:=Hd hF2
   clear hN hF2
   go_roundw
   case rel => exact ⟨j + 1,by omega,by rw [HQD.out.symm];go_num,by go_num,HN2.out,HF2.out⟩
   case measure => simp [intOf];omega
  ·obtain rfl : j = m:=by omega
   clear hB hF
   go_wp2_with fail
   go_ret
   exact ⟨_,rfl,HB.out,HF.out⟩
end Go.Proofs.YtcngfbjmpemehaaGreat

/- The walks of confluxref01.Copy and Number. -/
namespace Go.Proofs.YtcngfbjmpemehaaGreat
open Go.RowKit

theorem RCopy_any {w : World} {v : Value} {l : List UInt8} (h : Bytes w v l) (hl : l.length ≤ 1099511627776) :
  Calls Tryz.prog 64 #[v] w fun e w' => ∃ v',e = .returned v' ∧ OwnB w' w.heap.size v' l ∧ Fr [] w w':=by
 obtain ⟨av,cv,rfl⟩:=h.shape
 simp only [List.length_map] at h ⊢
 have H:=Hd h
 obtain ⟨w1,e1,hF1,hB1,hs1⟩:=one_new w #[] 5
 have H1 : Hid (OwnB w1 w.heap.size (.slice (some ⟨w.heap.size,0,none⟩) 0 0) []):=Hd (by subst e1;exact World.ownsRow_made w #[] 0 (Nat.le_refl _) (by unfold maxLen;omega) (by simp))
 have E1:=Hd e1;have HF1:=Hd hF1
 clear e1 hF1 hB1 hs1 h
 go_enter Tryz.func64,Tryz.ntmps64
 go_upto_region 3 with (fail)
 try rw [E1.out]
 clear E1
 go_loopw [3,4] (fun out jv wr => ∃ j : Nat,j ≤ l.length ∧ jv = .int .i64 j ∧ OwnB wr w.heap.size out (l.take j) ∧ Fr [] w wr) (fun _ jv _ => l.length - (intOf jv).toNat)
 case atStart => exact ⟨0,Nat.zero_le _,rfl,H1.out,HF1.out⟩
 case round =>
  obtain ⟨j,hj,rfl,hO2,hF2⟩:=hrel
  obtain ⟨ao,no,co,rfl⟩:=hO2.isSlice
  have HO2:=Hd hO2;have HF2:=Hd hF2
  clear hO2 hF2
  by_cases hjl : j < l.length
  ·obtain ⟨bp,op,ea,hbp,hcp⟩:=H.out.at_ hjl
   subst ea
   have e2:=HF2.out.cellSome (hcp j (B8 l[j]) (by rw [List.getElem?_map,List.getElem?_eq_getElem hjl];rfl)) (by simp)
   unfold B8 at e2
   have hc : l[j].toNat < 256:=l[j].toNat_lt
   have HC : Hid (l.take (j + 1) = l.take j ++ [l[j]]):=Hd (List.take_succ_eq_append_getElem hjl)
   have HBJ : Hid (B8 l[j] = .int .u8 (l[j].toNat : Nat)):=Hd rfl
   have hlo : (l.take j).length ≤ 1099511627776:=by rw [List.length_take];omega
   have HLO:=Hd hlo
   clear hcp hbp hlo
   generalize hcc : l[j].toNat = c at *
   clear hcc
   have A0 : Hid ((wr.alloc (.cells #[.int .u8 (c : Int)] 5)).ownsRow w.heap.size 5 1 (.slice ao no co) (l.take j).length ((l.take j).map B8)):=Hd (Own.keep HO2.out ((Fr.refl [] wr).alloc _))
   have A1 : Hid ((l.take j).length + [Value.int .u8 (c : Int)].length ≤ maxLen):=Hd (by have:=HLO.out;unfold maxLen;simp only [List.length_singleton];omega)
   have A2 : Hid (((l.take j).length + [Value.int .u8 (c : Int)].length) * 1 ≤ 140737488355328):=Hd (by have:=HLO.out;simp only [List.length_singleton];omega)
   have A3 : Hid (Sl (wr.alloc (.cells #[.int .u8 (c : Int)] 5)) (.slice (some ⟨wr.heap.size,0,none⟩) 1 1) [.int .u8 (c : Int)]):=Hd (Sl.one wr _ _)
   have A4 : Hid (w.heap.size ≤ (wr.alloc (.cells #[.int .u8 (c : Int)] 5)).heap.size):=Hd (by have:=HF2.out.size;simp;omega)
   go_wp2_with (at_builtin;refine wpList_append_slf rfl (.tmp 12) (.tmp 17) 34 rfl w.heap.size 5 (.int .u8 0) 1 Tryz.underlying34 info_u8 rfl (.slice ao no co) (l.take j).length ((l.take j).map B8) rfl A0.out (.slice (some ⟨wr.heap.size,0,none⟩) 1 1) [.int .u8 (c : Int)] rfl A3.out (oneCell_int .u8 (c : Int)) A1.out A2.out A4.out ?_;intro v' w3 ho hg hfr;have HO3:=Hd ho;have HG:=Hd hg;clear ho hg hfr)
   have hN : OwnB w3 w.heap.size v' (l.take (j + 1)):=by
    have:=HO3.out
    unfold OwnB
    rw [HC.out,List.map_append,List.length_append,List.map_cons,List.map_nil,HBJ.out]
    exact this
   have hF3 : Fr [] w w3:=(HF2.out.alloc _).step HG.out (fun x hx => .inr (HO2.out.block x (by simpa using hx)).1)
   have HN:=Hd hN;have HF3:=Hd hF3
   clear hN hF3 e2
   go_roundw
   case rel => exact ⟨j + 1,by omega,by go_num,HN.out,HF3.out⟩
   case measure => simp [intOf];omega
  ·obtain rfl : j = l.length:=by omega
   go_wp2_with fail
   go_ret
   refine ⟨_,rfl,?_,HF2.out⟩
   have:=HO2.out
   rwa [List.take_of_length_le (Nat.le_refl _)] at this

theorem u64_step (n c : Nat) (h : n * 256 + c < 18446744073709551616) : IntKind.u64.wrap (IntKind.u64.wrap ((n : Int) * 256) + (c : Int)) = ((n * 256 + c : Nat) : Int):=by
 have e : (n : Int) * 256 = ((n * 256 : Nat) : Int):=by simp
 have h2 : n * 256 < 18446744073709551616:=Nat.lt_of_le_of_lt (Nat.le_add_right _ _) h
 rw [e,wrap_u64_nat _ h2]
 have e2 : ((n * 256 : Nat) : Int) + (c : Int) = ((n * 256 + c : Nat) : Int):=by simp
 rw [e2,wrap_u64_nat _ h]
theorem RNumber_any {w : World} {v : Value} {l : List UInt8} (h : Bytes w v l) (hl : l.length ≤ 8) :
  Calls Tryz.prog 63 #[v] w fun e w' => e = .returned (.int .u64 (be l : Nat)) ∧ Fr [] w w':=by
 obtain ⟨av,cv,rfl⟩:=h.shape
 simp only [List.length_map] at h ⊢
 have H:=Hd h
 clear h
 go_enter Tryz.func63,Tryz.ntmps63
 go_wp2_with fail
 go_loopw [3,4] (fun out jv wr => ∃ j : Nat,j ≤ l.length ∧ jv = .int .i64 j ∧ out = .int .u64 (be (l.take j) : Nat) ∧ Fr [] w wr) (fun _ jv _ => l.length - (intOf jv).toNat)
 case atStart => exact ⟨0,Nat.zero_le _,rfl,rfl,Fr.refl _ _⟩
 case round =>
  obtain ⟨j,hj,rfl,rfl,hF2⟩:=hrel
  have HF2:=Hd hF2
  clear hF2
  by_cases hjl : j < l.length
  ·obtain ⟨bp,op,ea,hbp,hcp⟩:=H.out.at_ hjl
   subst ea
   have e2:=HF2.out.cellSome (hcp j (B8 l[j]) (by rw [List.getElem?_map,List.getElem?_eq_getElem hjl];rfl)) (by simp)
   unfold B8 at e2
   have hc : l[j].toNat < 256:=l[j].toNat_lt
   have HC:=Hd (be_take l j hjl)
   have hlt:=be_lt (l.take (j + 1))
   have hp : 256 ^ (l.take (j + 1)).length ≤ 256 ^ 8:=Nat.pow_le_pow_right (by omega) (by rw [List.length_take];omega)
   have hst:=u64_step (be (l.take j)) l[j].toNat (by rw [HC.out] at hlt;omega)
   have hw0:=IntWalk.u64_in (l[j].toNat : Int) (by omega)
   clear hcp hbp hlt hp
   generalize l[j].toNat = c at *
   generalize be (l.take j) = n at *
   have HST:=Hd hst
   clear hst
   go_wp2_with fail
   go_roundw
   case rel => exact ⟨j + 1,by omega,by go_num,by rw [HST.out,HC.out],HF2.out⟩
   case measure => simp [intOf];omega
  ·obtain rfl : j = l.length:=by omega
   go_wp2_with fail
   go_ret
   exact ⟨by rw [List.take_of_length_le (Nat.le_refl _)];rfl,HF2.out⟩
end Go.Proofs.YtcngfbjmpemehaaGreat

/- The walks of serial.Add,Add32 and of remap's small functions (printed by gen_remap1.py). -/
namespace Go.Proofs.YtcngfbjmpemehaaGreat
open Go.RowKit

theorem serAdd_any (a : UInt16) (n : Int) (w : World) :
  Calls Tryz.prog 103 #[.int .u16 (a.toNat : Nat),.int .i64 n] w fun e w' => e = .returned (.int .u16 ((add16 a n).toNat : Nat)) ∧ w = w':=by
 go_enter Tryz.func103,Tryz.ntmps103
 go_wp2
 go_ret
 refine ⟨ret_int ?_,rfl⟩
 rw [add16_nat]
 try simp only [wrap_u16_mod]
 omega
end Go.Proofs.YtcngfbjmpemehaaGreat

/- The walk of confluxref01.Join. -/
namespace Go.Proofs.YtcngfbjmpemehaaGreat
open Go.RowKit

theorem Join_own {w : World} {vs : Value} {vx : List Value} {ls : List (List UInt8)} (h : Sl w vs vx) (hlen : vx.length = ls.length)
  (hb : ∀ (i : Nat) (x : Value) (l : List UInt8),vx[i]? = some x → ls[i]? = some l → Bytes w x l) (hsz : ls.flatten.length ≤ 1099511627776) (hcnt : ls.length ≤ 1099511627776) :
  Calls Tryz.prog 126 #[vs] w fun e w' => ∃ v',e = .returned v' ∧ OwnB w' w.heap.size v' ls.flatten ∧ Fr [] w w':=by
 obtain ⟨avs,cvs,rfl⟩:=h.shape
 rw [hlen] at h ⊢
 have H:=Hd h;have HBY:=Hd hb;have HSZ:=Hd hsz;have HLN:=Hd hlen
 obtain ⟨w1,e1,hF1,hB1,hs1⟩:=one_new w #[] 5
 have H1 : Hid (OwnB w1 w.heap.size (.slice (some ⟨w.heap.size,0,none⟩) 0 0) []):=Hd (by subst e1;exact World.ownsRow_made w #[] 0 (Nat.le_refl _) (by unfold maxLen;omega) (by simp))
 have E1:=Hd e1;have HF1:=Hd hF1
 clear e1 hF1 hB1 hs1 h hb hsz hlen
 go_enter Tryz.func126,Tryz.ntmps126
 go_upto_region 3 with (fail)
 try rw [E1.out]
 clear E1
 go_loopw [3,4,5] (fun out iv _ wr => ∃ i : Nat,i ≤ ls.length ∧ iv = .int .i64 i ∧ OwnB wr w.heap.size out (ls.take i).flatten ∧ Fr [] w wr) (fun _ iv _ _ => ls.length - (intOf iv).toNat)
 case atStart => exact ⟨0,Nat.zero_le _,rfl,H1.out,HF1.out⟩
 case round =>
  obtain ⟨i,hi,rfl,hO,hF⟩:=hrel
  have HO:=Hd hO;have HF:=Hd hF
  clear hO hF
  by_cases hlt : i < ls.length
  ·obtain ⟨b,o,ea,hbl,hcl⟩:=H.out.at_ hlt
   subst ea
   have hx : vx[i]? = some (vx[i]'(by have:=HLN.out;omega)):=List.getElem?_eq_getElem _
   have hL : ls[i]? = some ls[i]:=List.getElem?_eq_getElem _
   have hp:=HBY.out i _ _ hx hL
   have d1:=hcl i _ hx
   generalize hli : ls[i] = li at *
   generalize (vx[i]'(by have:=HLN.out;omega)) = px at *
   obtain ⟨ap,cp,rfl⟩:=hp.shape
   simp only [List.length_map] at hp d1
   have HP:=Hd hp;have D1:=Hd d1
   have hfl : (ls.take (i + 1)).flatten = (ls.take i).flatten ++ li:=by
    rw [List.take_succ_eq_append_getElem hlt,List.flatten_append,hli]
    simp
   have htot : (ls.take i).flatten.length + li.length ≤ 1099511627776:=by
    have h1:=HSZ.out
    have h2 : ls.flatten = (ls.take (i + 1)).flatten ++ (ls.drop (i + 1)).flatten:=by rw [← List.flatten_append,List.take_append_drop]
    rw [h2,hfl,List.length_append,List.length_append] at h1
    omega
   have HFL:=Hd hfl;have HTOT:=Hd htot;have HLI:=Hd hli
   clear hx hL hp d1 hcl hbl hfl htot hli
   generalize (ls.take i).flatten = acc at *
   go_upto_region 6 with (fail)
   go_loopw [3,5] (fun out jv wr => ∃ j : Nat,j ≤ li.length ∧ jv = .int .i64 j ∧ OwnB wr w.heap.size out (acc ++ li.take j) ∧ Fr [] w wr) (fun _ jv _ => li.length - (intOf jv).toNat)
   case atStart => exact ⟨0,Nat.zero_le _,rfl,by simpa using HO.out,HF.out⟩
   case round =>
    obtain ⟨j,hj,rfl,hO2,hF2⟩:=hrel
    obtain ⟨ao,no,co,rfl⟩:=hO2.isSlice
    have HO2:=Hd hO2;have HF2:=Hd hF2
    have e1:=hF2.cellSome D1.out (by simp)
    clear hO2 hF2
    by_cases hjl : j < li.length
    ·obtain ⟨bp,op,ea,hbp,hcp⟩:=HP.out.at_ hjl
     subst ea
     have e2:=HF2.out.cellSome (hcp j (B8 li[j]) (by rw [List.getElem?_map,List.getElem?_eq_getElem hjl];rfl)) (by simp)
     unfold B8 at e2
     have hc : li[j].toNat < 256:=li[j].toNat_lt
     have HC : Hid (acc ++ li.take (j + 1) = (acc ++ li.take j) ++ [li[j]]):=Hd (by rw [List.append_assoc,List.take_succ_eq_append_getElem hjl])
     have HBJ : Hid (B8 li[j] = .int .u8 (li[j].toNat : Nat)):=Hd rfl
     have hlo : (acc ++ li.take j).length ≤ 1099511627776:=by rw [List.length_append,List.length_take];have:=HTOT.out;omega
     have HLO:=Hd hlo
     clear hcp hbp hlo
     generalize hcc : li[j].toNat = c at *
     clear hcc
     have hj64 : li.length ≤ 1099511627776:=by have:=HTOT.out;omega
     have A0 : Hid ((wr.alloc (.cells #[.int .u8 (c : Int)] 5)).ownsRow w.heap.size 5 1 (.slice ao no co) (acc ++ li.take j).length ((acc ++ li.take j).map B8)):=Hd (Own.keep HO2.out ((Fr.refl [] wr).alloc _))
     have A1 : Hid ((acc ++ li.take j).length + [Value.int .u8 (c : Int)].length ≤ maxLen):=Hd (by have:=HLO.out;unfold maxLen;simp only [List.length_singleton];omega)
     have A2 : Hid (((acc ++ li.take j).length + [Value.int .u8 (c : Int)].length) * 1 ≤ 140737488355328):=Hd (by have:=HLO.out;simp only [List.length_singleton];omega)
     have A3 : Hid (Sl (wr.alloc (.cells #[.int .u8 (c : Int)] 5)) (.slice (some ⟨wr.heap.size,0,none⟩) 1 1) [.int .u8 (c : Int)]):=Hd (Sl.one wr _ _)
     have A4 : Hid (w.heap.size ≤ (wr.alloc (.cells #[.int .u8 (c : Int)] 5)).heap.size):=Hd (by have:=HF2.out.size;simp;omega)
     go_wp2_with (at_builtin;refine wpList_append_slf rfl (.tmp 22) (.tmp 30) 34 rfl w.heap.size 5 (.int .u8 0) 1 Tryz.underlying34 info_u8 rfl (.slice ao no co) (acc ++ li.take j).length ((acc ++ li.take j).map B8) rfl A0.out (.slice (some ⟨wr.heap.size,0,none⟩) 1 1) [.int .u8 (c : Int)] rfl A3.out (oneCell_int .u8 (c : Int)) A1.out A2.out A4.out ?_;intro v' w3 ho hg hfr;have HO3:=Hd ho;have HG:=Hd hg;clear ho hg hfr)
     have hN : OwnB w3 w.heap.size v' (acc ++ li.take (j + 1)):=by
      have:=HO3.out
      unfold OwnB
      rw [HC.out,List.map_append,List.length_append,List.map_cons,List.map_nil,HBJ.out]
      exact this
     have hF3 : Fr [] w w3:=(HF2.out.alloc _).step HG.out (fun x hx => .inr (HO2.out.block x (by simpa using hx)).1)
     have HN:=Hd hN;have HF3:=Hd hF3
     clear hN hF3 e1 e2
     go_roundw
     case rel => exact ⟨j + 1,by omega,by go_num,HN.out,HF3.out⟩
     case measure => simp [intOf];omega
    ·obtain rfl : j = li.length:=by omega
     go_wp2_with fail
     clear e1
     go_roundw
     case rel =>
      refine ⟨i + 1,by omega,by go_num,?_,HF2.out⟩
      have:=HO2.out
      rw [List.take_of_length_le (Nat.le_refl _)] at this
      rw [HFL.out]
      exact this
     case measure => simp [intOf];omega
  ·obtain rfl : i = ls.length:=by omega
   go_wp2_with fail
   go_ret
   refine ⟨_,rfl,?_,HF.out⟩
   have:=HO.out
   rwa [List.take_of_length_le (Nat.le_refl _)] at this
end Go.Proofs.YtcngfbjmpemehaaGreat

/- The walks of confluxref01.Same,confluxref05.Few,rtp.IsRTCP and rtp.Write's error. -/
namespace Go.Proofs.YtcngfbjmpemehaaGreat
open Go.RowKit

theorem RSame_any {w : World} {v1 v2 : Value} {l1 l2 : List UInt8} (h1 : Bytes w v1 l1) (h2 : Bytes w v2 l2) (hl1 : l1.length ≤ 1099511627776) (hl2 : l2.length ≤ 1099511627776) :
  Calls Tryz.prog 20 #[v1,v2] w fun e w' => e = .returned (.bool (l1 == l2)) ∧ Fr [] w w':=by
 obtain ⟨a1,c1,rfl⟩:=h1.shape
 obtain ⟨a2,c2,rfl⟩:=h2.shape
 simp only [List.length_map] at h1 h2 ⊢
 have H1:=Hd h1;have H2:=Hd h2
 clear h1 h2
 by_cases hn : l1.length = l2.length
 ·have HN:=Hd hn
  have t0 : (((l1.length : Nat) : Int) != ((l2.length : Nat) : Int)) = false:=by rw [hn];simp
  clear hn
  go_enter Tryz.func20,Tryz.ntmps20
  go_wp2_with fail
  clear t0
  go_loopw [5] (fun i wr => ∃ j : Nat,j ≤ l1.length ∧ i = .int .i64 j ∧ l1.take j = l2.take j ∧ Fr [] w wr) (fun i _ => l1.length - (intOf i).toNat)
  case atStart => exact ⟨0,Nat.zero_le _,rfl,rfl,Fr.refl _ _⟩
  case round =>
   obtain ⟨j,hj,rfl,htk,hF⟩:=hrel
   have HT:=Hd htk;have HF:=Hd hF
   clear htk hF
   by_cases hlt : j < l1.length
   ·have hlt2 : j < l2.length:=by have:=HN.out;omega
    obtain ⟨b1,o1,ea,hb1,hc1⟩:=H1.out.at_ hlt
    obtain ⟨b2,o2,eb,hb2,hc2⟩:=H2.out.at_ hlt2
    subst ea eb
    have d1:=HF.out.cellSome (hc1 j (B8 l1[j]) (by rw [List.getElem?_map,List.getElem?_eq_getElem hlt];rfl)) (by simp)
    have d2:=HF.out.cellSome (hc2 j (B8 l2[j]) (by rw [List.getElem?_map,List.getElem?_eq_getElem hlt2];rfl)) (by simp)
    unfold B8 at d1 d2
    clear hc1 hc2 hb1 hb2
    by_cases he : l1[j] = l2[j]
    ·have t1 : (((l1[j].toNat : Nat) : Int) != ((l2[j].toNat : Nat) : Int)) = false:=by rw [he];simp
     have HE:=Hd he
     clear he
     generalize hq1 : l1[j].toNat = q1 at *
     generalize hq2 : l2[j].toNat = q2 at *
     clear hq1 hq2
     go_wp2_with fail
     go_quiet (fail)
     go_wp2_with fail
     go_roundw
     case rel => exact ⟨j + 1,by omega,by go_num,by rw [List.take_succ_eq_append_getElem hlt,List.take_succ_eq_append_getElem hlt2,HT.out,HE.out],HF.out.drewN _⟩
     case measure => simp [intOf];omega
    ·have t1 : (((l1[j].toNat : Nat) : Int) != ((l2[j].toNat : Nat) : Int)) = true:=by
      simp only [bne_iff_ne,ne_eq,Int.natCast_inj]
      exact fun h => he (UInt8.toNat_inj.1 h)
     have HE:=Hd he
     clear he
     generalize hq1 : l1[j].toNat = q1 at *
     generalize hq2 : l2[j].toNat = q2 at *
     clear hq1 hq2
     go_wp2_with fail
     go_quiet (fail)
     go_wp2_with fail
     go_ret
     refine ⟨ret_bool ?_,HF.out.drewN _⟩
     symm
     simp only [beq_eq_false_iff_ne,ne_eq]
     intro h
     subst h
     exact HE.out rfl
   ·go_wp2_with fail
    go_ret
    refine ⟨ret_bool ?_,HF.out⟩
    symm
    have:=HT.out
    rw [List.take_of_length_le (by omega),List.take_of_length_le (by have:=HN.out;omega)] at this
    rw [this]
    simp
 ·have t0 : (((l1.length : Nat) : Int) != ((l2.length : Nat) : Int)) = true:=by simp;omega
  have HN:=Hd hn
  clear hn
  go_enter Tryz.func20,Tryz.ntmps20
  go_wp2_with fail
  go_ret
  refine ⟨ret_bool ?_,Fr.refl _ _⟩
  symm
  simp only [beq_eq_false_iff_ne,ne_eq]
  intro h
  subst h
  exact HN.out rfl

end Go.Proofs.YtcngfbjmpemehaaGreat

/- The walks of rtp.Seq,SSRC,PT and IsRTCP. -/
namespace Go.Proofs.YtcngfbjmpemehaaGreat
open Go.RowKit

end Go.Proofs.YtcngfbjmpemehaaGreat
