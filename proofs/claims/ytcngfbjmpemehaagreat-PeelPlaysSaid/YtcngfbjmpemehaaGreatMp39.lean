import Derived.Test.YtcngfbjmpemehaaGreatMp36
import Derived.Test.YtcngfbjmpemehaaGreatMp34
import Derived.Test.YtcngfbjmpemehaaGreatMp38
set_option maxRecDepth 100000
set_option maxHeartbeats 16000000
/- The document's tell of layer 16: what it leans on. -/
namespace Go.Proofs.YtcngfbjmpemehaaGreat
open Go.RowKit

section
variable {α : Type} {k : Nat} {R : World → List Value → α → List Nat → Prop}
theorem Els.drop (hR : Rep k R) : ∀ {ys : List α} {w : World} {cells : List Value} {B : List Nat} (j : Nat),j ≤ ys.length → Els R ys w cells B → ∃ B1,Els R (ys.drop j) w (cells.drop (j * k)) B1 ∧ ∀ b ∈ B1,b ∈ B
 | ys,w,cells,B,0,_,h => ⟨B,by simpa using h,fun b hb => hb⟩
 | [],w,cells,B,j + 1,hj,h => by simp at hj
 | y :: ys,w,cells,B,j + 1,hj,h => by
  obtain ⟨c,rest,B1,B2,rfl,rfl,h1,h2⟩:=h
  obtain ⟨B3,h3,h4⟩:=Els.drop hR j (by simpa using hj) h2
  refine ⟨B3,?_,fun b hb => by simp [h4 b hb]⟩
  have e : (c ++ rest).drop ((j + 1) * k) = rest.drop (j * k):=by
   have hl:=hR.len h1
   rw [Nat.succ_mul,List.drop_append,List.drop_of_length_le (by omega),List.nil_append]
   congr 1
   omega
  rw [e]
  exact h3
theorem SlEls.pre (hR : Rep k R) {w : World} {a : Option Addr} {n cap : Nat} {ys : List α} {B : List Nat} (h : SlEls k R w (.slice a n cap) ys B) (m : Nat) (hm : m ≤ n) : ∃ B',SlEls k R w (.slice a m cap) (ys.take m) B' ∧ ∀ b ∈ B',b ∈ B:=by
 obtain ⟨cells,a',cap',e,h1,h2,h3,h4,h5⟩:=h
 simp only [Value.slice.injEq] at e
 obtain ⟨rfl,rfl,rfl⟩:=e
 obtain ⟨B1,q1,q2⟩:=h4.take hR m hm
 have hl : (ys.take m).length = m:=by simp;omega
 refine ⟨B1,⟨_,a,cap,by rw [hl],by omega,h2,h3,q1,fun p hp hpos => ?_⟩,q2⟩
 obtain ⟨g1,g2,g3⟩:=h5 p hp hpos
 refine ⟨g1,g2,fun i x hx => ?_⟩
 rw [List.getElem?_take] at hx
 split at hx
 ·exact g3 i x hx
 ·cases hx
theorem SlEls.part (hR : Rep k R) {w : World} {a : Option Addr} {n cap : Nat} {ys : List α} {B : List Nat} (h : SlEls k R w (.slice a n cap) ys B) (j m : Nat) (hjm : j + m ≤ n) :
  ∃ B',SlEls k R w (.slice (if cap = j then a else Option.map (fun x => x.add (j * k)) a) m (cap - j)) ((ys.drop j).take m) B' ∧ ∀ b ∈ B',b ∈ B:=by
 obtain ⟨cells,a',cap',e,h1,h2,h3,h4,h5⟩:=h
 simp only [Value.slice.injEq] at e
 obtain ⟨rfl,rfl,rfl⟩:=e
 obtain ⟨B1,q1,q2⟩:=h4.drop hR j (by omega)
 obtain ⟨B2,q3,q4⟩:=q1.take hR m (by simp;omega)
 have hl : ((ys.drop j).take m).length = m:=by simp;omega
 refine ⟨B2,⟨_,if cap = j then a else Option.map (fun x => x.add (j * k)) a,cap - j,by rw [hl],by omega,by omega,?_,q3,?_⟩,fun b hb => q2 b (q4 b hb)⟩
 ·intro ha
  split at ha
  ·have:=h3 ha;omega
  ·rw [Option.map_eq_none_iff] at ha
   have:=h3 ha;omega
 ·intro p hp hpos
  rw [if_neg (by omega)] at hp
  rw [Option.map_eq_some_iff] at hp
  obtain ⟨p0,rfl,rfl⟩:=hp
  obtain ⟨g1,g2,g3⟩:=h5 p0 rfl (by omega)
  obtain ⟨pb,po,ps⟩:=p0
  simp only at g1
  subst g1
  rw [Addr.add_mid]
  refine ⟨rfl,g2,fun i x hx => ?_⟩
  rw [List.getElem?_take] at hx
  split at hx
  ·rw [List.getElem?_drop] at hx
   have:=g3 (j * k + i) x hx
   simpa [Nat.add_assoc] using this
  ·cases hx
end
def DGR (w : World) (c : List Value) (y : UInt16 × List UInt8 × Bool) (B : List Nat) : Prop:=∃ v,c = [.int .u16 (y.1.toNat : Nat),v,.bool y.2.2] ∧ Bytes w v y.2.1 ∧ B = (liveOf v).toList
theorem Rep.dgr : Rep 3 DGR where
 len:=by rintro w c y B ⟨v,rfl,-,-⟩;rfl
 one:=by
  rintro w c y B ⟨v,rfl,h,-⟩ u hu
  obtain ⟨a,n,cp,rfl⟩:=Sl.isSlice h
  simp only [List.mem_cons,List.not_mem_nil,or_false] at hu
  rcases hu with rfl | rfl | rfl <;> rfl
 lt:=by
  rintro w c y B ⟨v,rfl,h,rfl⟩ b hb
  exact Sl.lt h b (mem_toList.1 hb)
 fr:=by
  rintro w w' c y B S ⟨v,rfl,h,rfl⟩ hf hS
  exact ⟨v,rfl,Sl.frL h hf (fun b hb => hS b (mem_toList.2 hb)),rfl⟩
theorem dgr_lit {w : World} {g : Nat} {t : TypeId} {s : UInt16} {v : Value} {b : List UInt8} {tl : Bool} (hB : Box w g t #[.int .u16 (s.toNat : Nat),v,.bool tl]) (hv : Bytes w v b) : SlEls 3 DGR w (.slice (some ⟨g,0,none⟩) 1 1) [(s,b,tl)] (liveOf v).toList:=by
 refine ⟨[.int .u16 (s.toNat : Nat),v,.bool tl],_,1,rfl,by simp,by unfold maxLen;omega,(fun e => by cases e),⟨_,[],_,[],by simp,by simp,⟨v,rfl,hv,rfl⟩,rfl,rfl⟩,?_⟩
 rintro p hp -
 simp only [Option.some.injEq] at hp
 subst hp
 exact ⟨rfl,hB.lt,fun i x hx => by rw [Nat.zero_add];rw [hB.cell,← Array.getElem?_toList];exact hx⟩
theorem info_dgot : (Tryz.prog.info? 102).map (fun i => (i.zero,i.size,i.bytes)) = some (some (.agg #[.int .u16 0,.slice none 0 0,.bool false]),3,40):=by kernel_rfl
def DInv (d0 d : PkD) (vis rest : List Rep_) (rout : List (UInt16 × List UInt8)) : Prop:=d.rep = vis ++ rest ∧ goR d vis rest rout = goR d0 [] d0.rep []
theorem DInv.start (d0 : PkD) : DInv d0 d0 [] d0.rep []:=⟨rfl,rfl⟩
theorem DInv.less {d0 d : PkD} {vis rest : List Rep_} {r : Rep_} {rout : List (UInt16 × List UInt8)} (h : DInv d0 d vis (r :: rest) rout) (h1 : (oneL d.has d.ss r).2.2 = 41) : DInv d0 d (vis ++ [r]) rest rout :=
 ⟨by rw [h.1];simp,by rw [← h.2,goR_less h1]⟩
theorem DInv.err {d0 d : PkD} {vis rest : List Rep_} {r : Rep_} {rout : List (UInt16 × List UInt8)} (h : DInv d0 d vis (r :: rest) rout) (h1 : (oneL d.has d.ss r).2.2 ≠ 41) (h2 : (oneL d.has d.ss r).2.2 ≠ 0) : DInv d0 { d with rep:=vis ++ rest } vis rest rout :=
 ⟨rfl,by rw [goR_rep,← h.2,goR_err h1 h2]⟩
theorem DInv.ok {d0 d : PkD} {vis rest : List Rep_} {r : Rep_} {rout : List (UInt16 × List UInt8)} {s : UInt16} {b : List UInt8} (h : DInv d0 d vis (r :: rest) rout) (h1 : oneL d.has d.ss r = (s,b,0)) :
  DInv d0 (({ d with rep:=vis ++ rest } : PkD).put s b) (vis.filter fun x => !(d.add s b).lost x) (rest.filter fun x => !(d.add s b).lost x) (rout ++ [(s,b)]):=by
 refine ⟨?_,?_⟩
 ·show (d.add s b).keepR (vis ++ rest) = _
  unfold PkD.keepR
  rw [List.filter_append]
 ·have e : (({ d with rep:=vis ++ rest } : PkD).put s b) = { d.add s b with rep:=(d.add s b).keepR (vis ++ rest) }:=rfl
  rw [e,goR_rep,← h.2,goR_ok h1]
  rfl
theorem DInv.done {d0 d : PkD} {vis : List Rep_} {rout : List (UInt16 × List UInt8)} (h : DInv d0 d vis [] rout) : d0.round = (d,rout):=by
 have e : d0.round = goR d0 [] d0.rep []:=rfl
 rw [e,← h.2,goR_nil]
 have h1:=h.1
 rw [List.append_nil] at h1
 rw [← h1]
theorem PkP.less {d : PkD} {hs : List (Rep_ × Int)} {turn : Int} {N : Nat} (h : PkP d hs turn N) {vis rest : List Rep_} {r : Rep_} (hr : d.rep = vis ++ r :: rest) : ∃ hs',PkP { d with rep:=vis ++ rest } hs' turn (N - 1):=by
 have h1:=h.rep
 rw [hr] at h1
 have hlt : vis.length < hs.length:=by
  have:=congrArg List.length h1
  simp at this
  omega
 have h2:=h.sub1 (List.eraseIdx_sublist hs vis.length) (by rw [List.length_eraseIdx_of_lt hlt];omega)
 have e : (hs.eraseIdx vis.length).map Prod.fst = vis ++ rest:=by
  rw [map_erase,← h1]
  rw [List.eraseIdx_append_of_length_le (Nat.le_refl _)]
  simp
 rw [e] at h2
 exact ⟨_,h2⟩
end Go.Proofs.YtcngfbjmpemehaaGreat
