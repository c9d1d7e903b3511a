import Derived.Defers
import Derived.Recover
import Derived.Test.YtcngfbjmpemehaaGreatMp6
set_option maxRecDepth 100000
set_option maxHeartbeats 16000000
open List renaming getElem_toArray → zz1, getElem_cons_zero → zz2, getElem_cons_succ → zz3, setIfInBounds_toArray → zz4, set_cons_zero → zz5, set_cons_succ → zz6, getElem?_toArray → zz7, getElem?_cons_succ → zz8, getElem?_cons_zero → zz9
open Go.Lib renaming hid → Hd
/- The walks of wire.catch,and of wire.guard,Part and Read at packets. -/
namespace Go.Proofs.YtcngfbjmpemehaaGreat
open Go.RowKit

theorem catch_fault (b o : Nat) (k x : Int) (older : List PanicEntry) (w : World) (hc : w.cell? ⟨b,o,none⟩ = some (.int .i64 x)) (hz : w.frozen? ⟨b,o,none⟩ = false) :
  CallsD Tryz.prog 150 #[.pointer (some ⟨b,o,none⟩)] (.panicking ({ v:=.iface 229 (.agg #[.int .i64 k]),recovered:=false } :: older)) w fun e u' w' =>
   e = .returned (.tuple #[]) ∧ u' = .panicking ({ v:=.iface 229 (.agg #[.int .i64 k]),recovered:=true } :: older) ∧ w' = (w.setCell ⟨b,o,none⟩ (.int .i64 k)).alloc (.cells #[.int .i64 k] 229):=by
 have hb : b < w.heap.size:=World.block_lt_of_cell? _ _ hc
 have hta : ∀ (w : World),(Instr.typeAssert (.iface 229 (.agg #[.int .i64 k])) 20 229 true).run Tryz.prog w = .ok (.tuple #[.agg #[.int .i64 k],.bool true]) w:=fun _ => by kernel_rfl
 refine callsD_of_wpS Tryz.func150 rfl fun c₀ cs hu => ?_
 apply wpS_seq
 apply wpS_region
 simp [wpOpsS,go_sem,recoverD,hu,Tryz.ntmps150,Exit.thenS]
 refine wpS_of_wp ?_
 have HU:=Hd hu
 clear hu
 simp only [Array.replicate_succ,Array.replicate_zero,List.push_toArray,List.append_toArray,List.nil_append,List.cons_append,zz4,zz6,zz5]
 go_wp2
 refine ⟨rfl,_,rfl,_,results_none rfl _ _ _,rfl,rfl,rfl⟩

theorem catch_idle (b o : Nat) (w : World) :
  CallsD Tryz.prog 150 #[.pointer (some ⟨b,o,none⟩)] .returning w fun e u' w' => e = .returned (.tuple #[]) ∧ u' = .returning ∧ w' = w:=by
 refine callsD_of_wpS Tryz.func150 rfl fun c₀ cs hu => ?_
 apply wpS_seq
 apply wpS_region
 simp [wpOpsS,go_sem,recoverD,hu,Tryz.ntmps150,Exit.thenS]
 refine wpS_of_wp ?_
 go_wp2
 cases c₀
 simp_all [bodyPostS,results,Tryz.results150]

theorem results_row_num {P : Program} {fn : Func} {p q : Tmp} {ty tq : TypeId} (h : fn.results = #[.cell p ty,.cell q tq]) (tmps : Array Value) (w : World) (g gq : Nat) (t : TypeId) (c : Array Value) (d : TypeDesc) (k k' : IntKind) (n : Int)
  (hp : tmps.getD p undef = .pointer (some ⟨g,0,none⟩)) (hb : Box w g t c) (hu : P.underlying ty = some d) (hd : (match d with | .struct _ | .array _ _ => true | _ => false) = true) (hi : (P.info? ty).map (·.size) = some c.size)
  (hq : tmps.getD q undef = .pointer (some ⟨gq,0,none⟩)) (hc : w.cell? ⟨gq,0,none⟩ = some (.int k n)) (huq : P.underlying tq = some (.int k')) :
  (results fn tmps).run P w = .ok (.tuple #[.agg c,.int k n]) w:=by
 have hp' : tmps[p]?.getD undef = .pointer (some ⟨g,0,none⟩):=by simpa using hp
 have hq' : tmps[q]?.getD undef = .pointer (some ⟨gq,0,none⟩):=by simpa using hq
 have h1:=run_loadVar_row (P:=P) w g t ty c (0,0) d hb hu hd hi
 have h2 : (loadVar tq ⟨gq,0,none⟩).run P w = .ok (.int k n) w:=by
  simp [loadVar,isAgg,Sem.run_bind,run_underlying huq,load,Sem.run,hc]
 simp [results,h,hp',hq',asAddr,h1,h2]

def pz : Array Value:=#[.bool false,.int .i64 0,.int .u16 0,.int .u32 0,.int .u32 0,.slice none 0 0,.bool false,.int .u16 0,.slice none 0 0,.slice none 0 0,.slice none 0 0]

theorem guardP_any {w : World} {R : Nat} {v : Value} {l : List UInt8} (hR : Rd w R v 0 l) :
  Calls Tryz.prog 137 #[.pointer (some ⟨R,0,none⟩),.func (.func 79) #[] #[]] w fun e w' =>
   (∃ v' p,parseP l = .ok p ∧ e = .returned (.tuple #[v',.int .i64 0]) ∧ PktV w' w.heap.size v' p ∧ Rd w' R v l.length l ∧ Fr [R] w w') ∨
   (∃ k,parseP l = .error k ∧ e = .returned (.tuple #[.agg pz,.int .i64 k]) ∧ Fr [R] w w'):=by
 have hRlt : R < w.heap.size:=World.block_lt_of_cell? _ _ hR.c0
 go_enter_defers Tryz.func137,Tryz.ntmps137
 go_wp2_with fail
 have hF1:=(Fr.refl [] w).alloc (.cells #[.bool false,.int .i64 0,.int .u16 0,.int .u32 0,.int .u32 0,.slice none 0 0,.bool false,.int .u16 0,.slice none 0 0,.slice none 0 0,.slice none 0 0] 93)
 have hB1:=Box.new w 93 #[.bool false,.int .i64 0,.int .u16 0,.int .u32 0,.int .u32 0,.slice none 0 0,.bool false,.int .u16 0,.slice none 0 0,.slice none 0 0,.slice none 0 0]
 generalize hw1 : w.alloc (.cells #[.bool false,.int .i64 0,.int .u16 0,.int .u32 0,.int .u32 0,.slice none 0 0,.bool false,.int .u16 0,.slice none 0 0,.slice none 0 0,.slice none 0 0] 93) = w1 at hF1 hB1 ⊢
 have hs1 : w1.heap.size = w.heap.size + 1:=by rw [← hw1];simp
 have hF2:=hF1.alloc (.cells #[.int .i64 0] 42)
 have hE2:=Box.new w1 42 #[.int .i64 0]
 have hB2:=hB1.keep ((Fr.refl [] w1).alloc (.cells #[.int .i64 0] 42))
 rw [hs1] at hE2
 generalize hw2 : w1.alloc (.cells #[.int .i64 0] 42) = w2 at hF2 hE2 hB2 ⊢
 clear hw2 hw1 hB1 hF1 hs1
 have hR2:=hR.keep hF2
 have HF2:=Hd hF2;have HE2:=Hd hE2;have HB2:=Hd hB2
 have HRR:=Hd hR
 clear hF2 hE2 hB2 hR
 refine (parse_any hR2).mono ?_
 rintro e w3 (⟨v',p,k,hp,rfl,hV,hR3,rfl,hF3⟩ | ⟨k,hp,rfl,hF3⟩)
 ·obtain ⟨cs,ex,pl,pd,rfl,hcs,hex,hpl,hpd,hfr⟩:=hV
  have hB3:=HB2.out.fr hF3 (by simp;omega)
  have hE3:=HE2.out.fr hF3 (by simp;omega)
  have hF03:=HF2.out.any.trans hF3
  have hlt2 : w.heap.size + 1 < w2.heap.size:=HE2.out.lt
  have H0:=Hd hB3;have H1:=Hd hE3;have H2:=Hd hF03;have H3:=Hd hR3;have H4:=Hd hfr;have HP:=Hd hp
  have HC:=Hd hcs;have HX:=Hd hex;have HL:=Hd hpl;have HD:=Hd hpd
  clear hB3 hE3 hF03 hR3 hfr hp hF3 hcs hex hpl hpd hR2 HB2 HE2 HF2
  go_wp2_with (refine wpList_store_row rfl 93 (.tmp 4) (.tmp 8) rfl w.heap.size rfl _ _ rfl 93 H0.out (by kernel_rfl) rfl (oneCell_pc _ _ _ _ _ _ _ _ _ _ _ (Sl.isSlice HC.out) (Sl.isSlice HX.out) (Sl.isSlice HL.out) (Sl.isSlice HD.out)) ?_;intro w4 hY hG;have HY:=Hd hY;have HG:=Hd hG;have HE:=Hd (H1.out.fr hG (by simp));have e0:=HE.out.cell 0;have ef:=HE.out.free 0;simp only [zz7,zz9] at e0;clear hY hG)
  have hE5:=HE.out.set 0 (.int .i64 0)
  have hF5:=(Fr.refl [w.heap.size + 1] w4).set (g:=w.heap.size + 1) (i:=0) (.inl (by simp)) (.int .i64 0)
  generalize hw5 : w4.setCell ⟨w.heap.size + 1,0,none⟩ (.int .i64 0) = w5 at hE5 hF5 ⊢
  have hB5:=HY.out.fr hF5 (by simp)
  refine leaves_cons (f:=150) (args:=#[.pointer (some ⟨w.heap.size + 1,0,none⟩)]) (by simp) (by simp [go_sem]) ?_
  refine (catch_idle (w.heap.size + 1) 0 w5).mono ?_
  rintro e u w6 ⟨rfl,rfl,rfl⟩
  have hF36:=(HG.out.mono (T:=[w.heap.size,w.heap.size + 1]) (by simp)).trans (hF5.mono (T:=[w.heap.size,w.heap.size + 1]) (by simp))
  have hn : ∀ vv,(∀ b,blockOf vv = some b → w2.heap.size ≤ b) → ∀ b,blockOf vv = some b → b ∉ [w.heap.size,w.heap.size + 1]:=fun vv h b hb hm => by have:=h b hb;simp at hm;omega
  refine ⟨_,results_row_num rfl _ _ w.heap.size (w.heap.size + 1) 93 _ _ .i64 .i64 0 rfl hB5 Tryz.underlying93 rfl (by kernel_rfl) rfl (hE5.cell 0) Tryz.underlying42,.inl ⟨_,p,HP.out,rfl,⟨cs,ex,pl,pd,rfl,?_,?_,?_,?_,fun b h => by have:=H4.out b h;omega⟩,?_,?_⟩⟩
  ·exact HC.out.fr hF36 (hn _ (fun b h => H4.out b (.inl h)))
  ·exact HX.out.fr hF36 (hn _ (fun b h => H4.out b (.inr (.inl h))))
  ·exact HL.out.fr hF36 (hn _ (fun b h => H4.out b (.inr (.inr (.inl h)))))
  ·exact HD.out.fr hF36 (hn _ (fun b h => H4.out b (.inr (.inr (.inr h)))))
  ·exact H3.out.fr hF36 (by simp;omega) (fun b hb hm => by have:=HRR.out.vlt b hb;simp at hm;omega)
  ·exact H2.out.step hF36 (by simp)
 ·have hB3:=HB2.out.fr hF3 (by simp;omega)
  have hE3:=HE2.out.fr hF3 (by simp;omega)
  have hF03:=HF2.out.any.trans hF3
  refine leaves_cons (f:=150) (args:=#[.pointer (some ⟨w.heap.size + 1,0,none⟩)]) (by simp) (by simp [go_sem]) ?_
  refine (catch_fault (w.heap.size + 1) 0 k 0 [] w3 (hE3.cell 0) (hE3.free 0)).mono ?_
  rintro e u w6 ⟨rfl,rfl,rfl⟩
  have hF6:=((Fr.refl [w.heap.size + 1] w3).set (g:=w.heap.size + 1) (i:=0) (.inl (by simp)) (.int .i64 k)).alloc (.cells #[.int .i64 k] 229)
  have hE6:=(hE3.set 0 (.int .i64 k)).keep ((Fr.refl [] _).alloc (.cells #[.int .i64 k] 229))
  have hB6:=hB3.fr hF6 (by simp)
  exact ⟨_,results_row_num rfl _ _ w.heap.size (w.heap.size + 1) 93 _ _ .i64 .i64 k rfl hB6 Tryz.underlying93 rfl (by kernel_rfl) rfl (hE6.cell 0) Tryz.underlying42,.inr ⟨k,hp,rfl,hF03.step hF6 (by simp)⟩⟩
end Go.Proofs.YtcngfbjmpemehaaGreat
