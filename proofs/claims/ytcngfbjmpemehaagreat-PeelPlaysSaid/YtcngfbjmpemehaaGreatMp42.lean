import Derived.Test.YtcngfbjmpemehaaGreatMp41
import Derived.Test.YtcngfbjmpemehaaGreatMp39
set_option maxRecDepth 100000
set_option maxHeartbeats 16000000
/- Law 16,plain: what holds behind all that is told. -/
namespace Go.Proofs.YtcngfbjmpemehaaGreat
open Go.RowKit

theorem round_ind (I : PkD → List (UInt16 × List UInt8) → Prop)
  (hd : ∀ (d : PkD) (vis rest : List Rep_) (r : Rep_) (out : List (UInt16 × List UInt8)),d.rep = vis ++ r :: rest → I d out → (oneL d.has d.ss r).2.2 ≠ 41 → (oneL d.has d.ss r).2.2 ≠ 0 → I { d with rep:=vis ++ rest } out)
  (hp : ∀ (d : PkD) (vis rest : List Rep_) (r : Rep_) (out : List (UInt16 × List UInt8)) (s : UInt16) (b : List UInt8),d.rep = vis ++ r :: rest → I d out → oneL d.has d.ss r = (s,b,0) → I (({ d with rep:=vis ++ rest } : PkD).put s b) (out ++ [(s,b)])) :
  ∀ (n : Nat) (d : PkD) (vis rest : List Rep_) (out : List (UInt16 × List UInt8)),rest.length ≤ n → d.rep = vis ++ rest → I d out → I (goR d vis rest out).1 (goR d vis rest out).2
 | n,d,vis,[],out,_,hr,h => by
  rw [goR_nil]
  rw [List.append_nil] at hr
  rw [← hr]
  exact h
 | 0,d,vis,r :: rest,out,hn,_,_ => by simp at hn
 | n + 1,d,vis,r :: rest,out,hn,hr,h => by
  simp only [List.length_cons] at hn
  by_cases h1 : (oneL d.has d.ss r).2.2 = 41
  ·rw [goR_less h1]
   exact round_ind I hd hp n d (vis ++ [r]) rest out (by omega) (by rw [hr];simp) h
  ·by_cases h2 : (oneL d.has d.ss r).2.2 = 0
   ·obtain ⟨s,b,e⟩ : ∃ s b,oneL d.has d.ss r = (s,b,0):=⟨_,_,by rw [← h2]⟩
    have h3:=hp d vis rest r out s b hr h e
    rw [goR_ok e]
    have e2 : (({ d with rep:=vis ++ rest } : PkD).put s b) = { d.add s b with rep:=(d.add s b).keepR vis ++ (d.add s b).keepR rest }:=by
     show ({ d.add s b with rep:=(d.add s b).keepR (vis ++ rest) } : PkD) = _
     unfold PkD.keepR
     rw [List.filter_append]
    rw [e2] at h3
    have h4:=round_ind I hd hp n _ ((d.add s b).keepR vis) ((d.add s b).keepR rest) (out ++ [(s,b)]) (by have:=keepR_len (d.add s b) rest;omega) rfl h3
    rw [goR_rep] at h4
    exact h4
   ·have h3:=hd d vis rest r out hr h h1 h2
    rw [goR_err h1 h2]
    have h4:=round_ind I hd hp n _ vis rest out (by omega) rfl h3
    rw [goR_rep] at h4
    exact h4
theorem tellF_ind (I : PkD → List (UInt16 × List UInt8) → Prop)
  (hd : ∀ (d : PkD) (vis rest : List Rep_) (r : Rep_) (out : List (UInt16 × List UInt8)),d.rep = vis ++ r :: rest → I d out → (oneL d.has d.ss r).2.2 ≠ 41 → (oneL d.has d.ss r).2.2 ≠ 0 → I { d with rep:=vis ++ rest } out)
  (hp : ∀ (d : PkD) (vis rest : List Rep_) (r : Rep_) (out : List (UInt16 × List UInt8)) (s : UInt16) (b : List UInt8),d.rep = vis ++ r :: rest → I d out → oneL d.has d.ss r = (s,b,0) → I (({ d with rep:=vis ++ rest } : PkD).put s b) (out ++ [(s,b)])) :
  ∀ (k : Nat) (d : PkD) (out : List (UInt16 × List UInt8)),I d out → I (tellF k d out).1 (tellF k d out).2
 | 0,d,out,h => h
 | k + 1,d,out,h => by
  have h1:=round_ind (fun d o => I d (out ++ o)) (fun d vis rest r o e h => hd d vis rest r _ e h) (fun d vis rest r o s b e h e1 => by rw [← List.append_assoc];exact hp d vis rest r _ s b e h e1) d.rep.length d [] d.rep [] (Nat.le_refl _) rfl (by simpa using h)
  have e : goR d [] d.rep [] = d.round:=rfl
  rw [e] at h1
  simp only [tellF]
  split
  ·rename_i h2
   rw [h2,List.append_nil] at h1
   exact h1
  ·exact tellF_ind I hd hp k _ _ h1
theorem tell_ind (I : PkD → List (UInt16 × List UInt8) → Prop)
  (hd : ∀ (d : PkD) (vis rest : List Rep_) (r : Rep_) (out : List (UInt16 × List UInt8)),d.rep = vis ++ r :: rest → I d out → (oneL d.has d.ss r).2.2 ≠ 41 → (oneL d.has d.ss r).2.2 ≠ 0 → I { d with rep:=vis ++ rest } out)
  (hp : ∀ (d : PkD) (vis rest : List Rep_) (r : Rep_) (out : List (UInt16 × List UInt8)) (s : UInt16) (b : List UInt8),d.rep = vis ++ r :: rest → I d out → oneL d.has d.ss r = (s,b,0) → I (({ d with rep:=vis ++ rest } : PkD).put s b) (out ++ [(s,b)]))
  {d : PkD} (h : I d []) : I d.tell.1 d.tell.2:=tellF_ind I hd hp _ d [] h
theorem PkP.toldR {d : PkD} {hs : List (Rep_ × Int)} {turn : Int} {N : Nat} (h : PkP d hs turn N) {vis rest : List Rep_} {r : Rep_} (hr : d.rep = vis ++ r :: rest) {s : UInt16} {b : List UInt8} (ho : oneL d.has d.ss r = (s,b,0)) : isPk d.ss s b ∧ b.length ≤ 1000000 ∧ d.old (d.peek s) = false ∧ d.has s = none:=by
 have h1 : r ∈ hs.map Prod.fst:=by rw [← h.rep,hr];simp
 obtain ⟨y,hy,rfl⟩:=List.mem_map.1 h1
 exact h.told hy ho
theorem PkP.pos {d : PkD} {hs : List (Rep_ × Int)} {turn : Int} {N : Nat} (h : PkP d hs turn N) {vis rest : List Rep_} {r : Rep_} (hr : d.rep = vis ++ r :: rest) : 1 ≤ N:=by
 obtain ⟨K,-,h2⟩:=h.hi
 have h3:=congrArg List.length h.rep
 rw [hr,List.length_map] at h3
 simp at h3
 omega
theorem PkP.oneTold {d : PkD} {hs : List (Rep_ × Int)} {turn : Int} {N : Nat} (h : PkP d hs turn N) {vis rest : List Rep_} {r : Rep_} (hr : d.rep = vis ++ r :: rest) {s : UInt16} {b : List UInt8} (ho : oneL d.has d.ss r = (s,b,0)) : ∃ hs',PkP (({ d with rep:=vis ++ rest } : PkD).put s b) hs' turn N:=by
 obtain ⟨k1,k2,k3,k4⟩:=h.toldR hr ho
 obtain ⟨hs',h1⟩:=h.less hr
 have h2:=h.pos hr
 have h3:=h1.put (s:=s) (b:=b) k1 k2 k3 k4
 rw [Nat.sub_add_cancel h2] at h3
 exact ⟨_,h3⟩
theorem PkP.dropped {d : PkD} {hs : List (Rep_ × Int)} {turn : Int} {N : Nat} (h : PkP d hs turn N) {vis rest : List Rep_} {r : Rep_} (hr : d.rep = vis ++ r :: rest) : ∃ hs',PkP { d with rep:=vis ++ rest } hs' turn N:=by
 obtain ⟨hs',h1⟩:=h.less hr
 exact ⟨hs',h1.mono (by omega)⟩
theorem told_len {d : PkD} {hs : List (Rep_ × Int)} {turn : Int} {N : Nat} (h : PkP d hs turn N) : ∀ x ∈ d.tell.2,x.2.length ≤ 1000000:=by
 have h1:=tell_ind (fun d out => (∃ hs,PkP d hs turn N) ∧ ∀ x ∈ out,x.2.length ≤ 1000000) (fun d vis rest r out e ⟨⟨hs,h⟩,h2⟩ _ _ => ⟨h.dropped e,h2⟩) (fun d vis rest r out s b e ⟨⟨hs,h⟩,h2⟩ e1 => ⟨h.oneTold e e1,fun x hx => by
  rcases List.mem_append.1 hx with hx | hx
  ·exact h2 x hx
  ·rw [List.mem_singleton] at hx
   subst hx
   exact (h.toldR e e1).2.1⟩) (d:=d) ⟨⟨hs,h⟩,by simp⟩
 exact h1.2
theorem media_len {d : PkD} {hs : List (Rep_ × Int)} {turn : Int} {N : Nat} (h : PkP d hs turn N) {b : List UInt8} (hb : b.length ≤ 1000000) : ∀ x ∈ (d.media b).2.1,x.2.1.length ≤ 1000000:=by
 unfold PkD.media
 split
 ·simp
 ·rename_i p hp
  split
  ·simp
  split
  ·simp
  split
  ·simp
  ·rename_i h1 h2 h3
   have h4:=h.put (s:=p.seq) (b:=b) ⟨p,hp,rfl,by simpa using h1⟩ hb (by simpa using h2) (by simpa using h3)
   intro x hx
   rcases List.mem_cons.1 hx with rfl | hx
   ·exact hb
   ·obtain ⟨z,hz,rfl⟩:=List.mem_map.1 hx
    exact told_len h4 z hz
theorem repair_len {d : PkD} {hs : List (Rep_ × Int)} {turn : Int} {N : Nat} (h : PkP d hs turn N) {r : Rep_} (hb : r.bt.body.length ≤ 1000000) : ∀ x ∈ (d.repair r).2.1,x.2.1.length ≤ 1000000:=by
 unfold PkD.repair
 split
 ·simp
 rename_i h1
 split
 ·simp
 rename_i h2
 split
 ·simp
 split
 ·simp
 ·rename_i l hl
  have h5 : ∃ hs',PkP { d with rep:=l } hs' turn N ∧ hs'.length < d.r:=by
   unfold PkD.room at hl
   split at hl
   ·rename_i hlt
    injection hl with hl
    subst hl
    exact ⟨hs,h,by rw [h.rep,List.length_map] at hlt;exact hlt⟩
   ·rename_i hlt
    split at hl
    ·cases hl
    ·rename_i o ho
     split at hl
     ·cases hl
     ·injection hl with hl
      subst hl
      have h6:=h.sub (List.eraseIdx_sublist hs (minAt d.first d.rep))
      have e : (hs.eraseIdx (minAt d.first d.rep)).map Prod.fst = d.rep.eraseIdx (minAt d.first d.rep):=by
       rw [map_erase,← h.rep]
      rw [e] at h6
      refine ⟨_,h6,?_⟩
      have h7:=(List.getElem?_eq_some_iff.1 ho).1
      rw [h.rep,List.length_map] at h7
      rw [← h.rep] at h7
      rw [List.length_eraseIdx_of_lt h7]
      have:=h.len
      omega
  obtain ⟨hs',h6,h7⟩:=h5
  have h8:=h6.addRep (r:=r) h7 ((PkP.lost_rep d l r).trans (by simpa using h2)) h1 hb
  intro x hx
  obtain ⟨z,hz,rfl⟩:=List.mem_map.1 hx
  exact told_len h8 z hz
theorem step_len {d : PkD} {hs : List (Rep_ × Int)} {turn : Int} {N : Nat} (h : PkP d hs turn N) {e : Ev} (hb : e.b.length ≤ 1000000) (hr : e.r.bt.body.length ≤ 1000000) : ∀ x ∈ (d.step e).2.1,x.2.1.length ≤ 1000000:=by
 unfold PkD.step
 split
 ·exact repair_len h hr
 ·exact media_len h hb
end Go.Proofs.YtcngfbjmpemehaaGreat
