import Derived.ChangeSame
import Derived.ChangeSlices
import Derived.Test.YtcngfbjmpemehaaGreatMp15
import Derived.Test.YtcngfbjmpemehaaGreatMp7
import Derived.Test.YtcngfbjmpemehaaGreatMp13
import Derived.Test.YtcngfbjmpemehaaGreatMp5
set_option maxRecDepth 100000
set_option maxHeartbeats 16000000
open List renaming getElem_toArray → zz1, getElem_cons_zero → zz2, getElem_cons_succ → zz3, setIfInBounds_toArray → zz4, set_cons_zero → zz5, set_cons_succ → zz6, getElem?_toArray → zz7, getElem?_cons_succ → zz8, getElem?_cons_zero → zz9
open Go.Lib renaming hid → Hd
/- The walk of confluxref05.Parse (printed by gen_r5parse.py). -/
namespace Go.Proofs.YtcngfbjmpemehaaGreat
open Go.RowKit

theorem nb_one {l : List UInt8} {k : Nat} (h : k < l.length) : nb l k 1 = l[k].toNat:=by
 unfold nb
 have : (l.drop k).take 1 = [l[k]]:=by
  rw [List.drop_eq_getElem_cons h]
  simp only [List.take_succ_cons,List.take_zero]
 rw [this]
 simp [be]
theorem RNum_at {w : World} {b o : Nat} {cap : Nat} {l : List UInt8} (h : Bytes w (.slice (some ⟨b,o,none⟩) l.length cap) l) (k m : Nat) (hk : k + m ≤ l.length) (hm : m ≤ 8) (hc : k < cap) :
  Calls Tryz.prog 63 #[.slice (some ⟨b,o + k,none⟩) m (cap - k)] w fun e w' => e = .returned (.int .u64 (nb l k m : Nat)) ∧ Fr [] w w':=by
 have hs:=Sl.sub' h k m hk
 rw [if_neg (by omega),← List.map_drop,← List.map_take] at hs
 exact RNumber_any (l:=(l.drop k).take m) hs (by rw [List.length_take];omega)
theorem RCopy_if {w : World} {b o : Nat} {cap : Nat} {l : List UInt8} (h : Bytes w (.slice (some ⟨b,o,none⟩) l.length cap) l) (k m : Nat) (hk : k + m ≤ l.length) (hl : l.length ≤ 1500) :
  Calls Tryz.prog 64 #[.slice (if cap = k then some ⟨b,o,none⟩ else some ⟨b,o + k,none⟩) m (cap - k)] w fun e w' => ∃ v',e = .returned v' ∧ OwnB w' w.heap.size v' ((l.drop k).take m) ∧ Fr [] w w':=by
 have hs:=Sl.sub' h k m hk
 rw [← List.map_drop,← List.map_take] at hs
 exact RCopy_any (l:=(l.drop k).take m) hs (by rw [List.length_take];omega)
theorem padN_last {l : List UInt8} {k : Nat} (h : k < l.length) : padN (l.drop k) = nb l (l.length - 1) 1:=by
 rw [nb_one (by omega)]
 unfold padN
 rw [List.getLast?_drop,if_neg (by omega),List.getLast?_eq_getElem?,List.getElem?_eq_getElem (by omega)]
 rfl
theorem padN_none {l : List UInt8} {k : Nat} (h : l.length ≤ k) : padN (l.drop k) = 0:=by
 rw [List.drop_of_length_le h];rfl
def pk2 (l : List UInt8) (he : Bool) : Nat:=if he then 12 + 4 * (nb l 0 1 % 16) + 4 + 4 * nb l (12 + 4 * (nb l 0 1 % 16) + 2) 2 else 12 + 4 * (nb l 0 1 % 16)
theorem parseP_long {l : List UInt8} {he : Bool} (h2 : ¬ nb l 0 1 / 64 ≠ 2) (h12 : ¬ l.length < 12) (hk : ¬ l.length < 12 + 4 * (nb l 0 1 % 16)) (hhe : (nb l 0 1 / 16 % 2 == 1) = he) :
  parseP l = if l.length < pk2 l he then .error 20 else if nb l 0 1 / 32 % 2 == 1 then
   if padN (l.drop (pk2 l he)) = 0 ∨ (l.drop (pk2 l he)).length < padN (l.drop (pk2 l he)) then .error 21
   else .ok { hdr l (12 + 4 * (nb l 0 1 % 16)) (pk2 l he) he with payload:=(l.drop (pk2 l he)).take ((l.drop (pk2 l he)).length - padN (l.drop (pk2 l he))),pad:=(l.drop (pk2 l he)).drop ((l.drop (pk2 l he)).length - padN (l.drop (pk2 l he))) }
   else .ok (hdr l (12 + 4 * (nb l 0 1 % 16)) (pk2 l he) he):=by
 subst hhe
 unfold parseP pk2
 rw [if_neg (by omega),if_neg h2,if_neg h12]
 simp only []
 rw [if_neg hk]
theorem parse_pad {l : List UInt8} {he : Bool} {kk kt y : Nat} (hP : parseP l = if l.length < pk2 l he then .error 20 else if nb l 0 1 / 32 % 2 == 1 then
   if padN (l.drop (pk2 l he)) = 0 ∨ (l.drop (pk2 l he)).length < padN (l.drop (pk2 l he)) then .error 21
   else .ok { hdr l (12 + 4 * (nb l 0 1 % 16)) (pk2 l he) he with payload:=(l.drop (pk2 l he)).take ((l.drop (pk2 l he)).length - padN (l.drop (pk2 l he))),pad:=(l.drop (pk2 l he)).drop ((l.drop (pk2 l he)).length - padN (l.drop (pk2 l he))) }
   else .ok (hdr l (12 + 4 * (nb l 0 1 % 16)) (pk2 l he) he)) (hk2 : pk2 l he = kt) (hkN : 12 + 4 * (nb l 0 1 % 16) = kk) (hkt : kt < l.length) (hpd : (nb l 0 1 / 32 % 2 == 1) = true) (hy : padN (l.drop kt) = y) (hbad : ¬ (y = 0 ∨ l.length - kt < y)) {en : Nat} (hen : en = l.length - y) :
  parseP l = .ok { hdr l kk kt he with payload:=(l.drop kt).take (en - kt),pad:=(l.drop en).take y }:=by
 subst hen
 have e1 : (l.drop (l.length - y)).take y = l.drop (l.length - y):=List.take_of_length_le (by rw [List.length_drop];omega)
 have e2 : (l.drop kt).length = l.length - kt:=List.length_drop
 rw [hP,hk2,hkN,if_neg (by omega),if_pos hpd,hy,e2,if_neg hbad,List.drop_drop,e1]
 have e3 : l.length - kt - y = l.length - y - kt:=by omega
 have e4 : kt + (l.length - y - kt) = l.length - y:=by omega
 rw [e3,e4]
theorem parse_nopad {l : List UInt8} {he : Bool} {kk kt : Nat} (hP : parseP l = if l.length < pk2 l he then .error 20 else if nb l 0 1 / 32 % 2 == 1 then
   if padN (l.drop (pk2 l he)) = 0 ∨ (l.drop (pk2 l he)).length < padN (l.drop (pk2 l he)) then .error 21
   else .ok { hdr l (12 + 4 * (nb l 0 1 % 16)) (pk2 l he) he with payload:=(l.drop (pk2 l he)).take ((l.drop (pk2 l he)).length - padN (l.drop (pk2 l he))),pad:=(l.drop (pk2 l he)).drop ((l.drop (pk2 l he)).length - padN (l.drop (pk2 l he))) }
   else .ok (hdr l (12 + 4 * (nb l 0 1 % 16)) (pk2 l he) he)) (hk2 : pk2 l he = kt) (hkN : 12 + 4 * (nb l 0 1 % 16) = kk) (hkt : kt ≤ l.length) (hpd : ¬ (nb l 0 1 / 32 % 2 == 1) = true) :
  parseP l = .ok { hdr l kk kt he with payload:=(l.drop kt).take (l.length - kt),pad:=[] }:=by
 have e1 : (l.drop kt).take (l.length - kt) = l.drop kt:=List.take_of_length_le (by rw [List.length_drop];omega)
 rw [hP,hk2,hkN,if_neg (by omega),if_neg hpd,e1]
 rfl
theorem PktV_hdr {w : World} {base : Nat} {cs ex pl pd : Value} {l payload pad : List UInt8} {k1 k2 pf : Nat} {he : Bool} (hpf : pf = if he then nb l k1 2 else 0) (h1 : OwnW w base cs (w32s l 12 (nb l 0 1 % 16)))
  (h2 : OwnB w base ex (if he then (l.drop (k1 + 4)).take (4 * nb l (k1 + 2) 2) else [])) (h3 : OwnB w base pl payload) (h4 : OwnB w base pd pad) :
  PktV w base (.agg (pc (nb l 1 1 / 128 % 2 == 1) ((nb l 1 1 % 128 : Nat) : Int) (nb l 2 2) (nb l 4 4) (nb l 8 4) cs he pf ex pl pd)) { hdr l k1 k2 he with payload:=payload,pad:=pad }:=by
 refine ⟨cs,ex,pl,pd,?_,h1.words,h2.bytes,h3.bytes,h4.bytes,fun b hb => ?_⟩
 ·unfold hdr
  simp only [u16_nb,u32_nb]
  subst hpf
  cases he
  ·rfl
  ·simp only [if_true,u16_nb]
 ·rcases hb with hb | hb | hb | hb
  ·exact (h1.block b hb).1
  ·exact (h2.block b hb).1
  ·exact (h3.block b hb).1
  ·exact (h4.block b hb).1
theorem one_cells' (w : World) (u : Value) (t : TypeId) : ∀ (j : Nat) (x : Value),[u][j]? = some x → (w.alloc (.cells #[u] t)).cell? ((⟨w.heap.size,0,none⟩ : Addr).add j) = some x:=by
 intro j x hx
 match j,hx with
 | 0,hx => simp at hx;subst hx;simp [Addr.add]
 | j + 1,hx => simp at hx
theorem byte_cell {w : World} {b o : Nat} {cap : Nat} {l : List UInt8} (h : Bytes w (.slice (some ⟨b,o,none⟩) l.length cap) l) {k : Nat} (hk : k < l.length) : w.cell? ⟨b,o + k,none⟩ = some (.int .u8 (nb l k 1 : Nat)):=by
 obtain ⟨b',o',e,_,hc⟩:=Sl.at_ h hk
 simp only [Option.some.injEq,Addr.mk.injEq,and_true] at e
 obtain ⟨rfl,rfl⟩:=e
 rw [hc k (B8 l[k]) (by rw [List.getElem?_map,List.getElem?_eq_getElem hk];rfl),nb_one hk]
 rfl

theorem R5Parse_any {w : World} {v : Value} {l : List UInt8} (hl : Bytes w v l) :
  Calls Tryz.prog 32 #[v] w fun e w' =>
   (∃ v' p,parseR l = .ok p ∧ e = .returned (.tuple #[v',.int .i64 0]) ∧ PktV w' w.heap.size v' p ∧ Fr [] w w') ∨
   (∃ k,parseR l = .error k ∧ e = .returned (.tuple #[.agg pz,.int .i64 k]) ∧ Fr [] w w'):=by
 obtain ⟨a,cap,rfl⟩:=hl.shape
 simp only [List.length_map] at hl ⊢
 have HL:=Hd hl
 have hlen:=(Sl.len hl).2
 unfold maxLen at hlen
 obtain ⟨w1,e1,hF1,hB1,hs1⟩:=one_new w pz 93
 unfold pz at e1
 have E1:=Hd e1;have HF:=Hd hF1;have HR:=Hd hB1
 have hlt1 : w.heap.size < w1.heap.size:=by omega
 clear e1 hF1 hB1 hs1 hl
 go_enter Tryz.func32,Tryz.ntmps32
 go_upto_region 1 with (fail)
 rw [E1.out]
 clear E1
 generalize hHW : w.heap.size = W at *
 have HHW:=Hd hHW
 clear hHW
 by_cases h15 : 1500 < l.length
 ·unfold pz at HR
  go_wp2_with (refine wpList_store_row rfl 93 (.tmp 2) (.tmp 13) rfl W rfl _ _ rfl 93 (HR.out) (by kernel_rfl) rfl (oneCell_pz) ?_;intro wE hY hG;have HY:=Hd hY;have HG:=Hd hG;clear hY hG)
  refine bodyPost_ret (results_row_1 rfl _ _ W 93 _ _ rfl HY.out Tryz.underlying93 rfl (by kernel_rfl)) rfl (.inr ⟨2,by unfold parseR;rw [if_pos h15],rfl,HF.out.step HG.out (fun x hx => by simp at hx;subst hx;exact .inr (by have:=HHW.out;omega))⟩)
 have e15 : parseR l = parseP l:=by unfold parseR;rw [if_neg h15]
 have E15:=Hd e15
 clear e15
 by_cases h1 : l.length < 1
 ·have hz : l.length = 0:=by omega
  have HP : Hid (parseP l = .error 20):=Hd (by unfold parseP;rw [if_pos h1])
  rw [hz]
  unfold pz at HR
  go_wp2_with (refine wpList_store_row rfl 93 (.tmp 2) (.tmp 28) rfl W rfl _ _ rfl 93 (HR.out) (by kernel_rfl) rfl (oneCell_pz) ?_;intro wE hY hG;have HY:=Hd hY;have HG:=Hd hG;clear hY hG)
  refine bodyPost_ret (results_row_1 rfl _ _ W 93 _ _ rfl HY.out Tryz.underlying93 rfl (by kernel_rfl)) rfl (.inr ⟨20,by exact E15.out.trans HP.out,rfl,HF.out.step HG.out (fun x hx => by simp at hx;subst hx;exact .inr (by have:=HHW.out;omega))⟩)
 obtain ⟨b,o,rfl,hbl,-⟩:=HL.out.at_ (k:=0) (by omega)
 have hbW : b < W:=by have:=HHW.out;omega
 have k0:=HF.out.cellSome (byte_cell HL.out (k:=0) (by omega)) (by simp)
 rw [Nat.add_zero] at k0
 have hb0:=nb_lt l 0 1
 by_cases h2 : nb l 0 1 / 64 ≠ 2
 ·have HP : Hid (parseP l = .error 21):=Hd (by unfold parseP;rw [if_neg h1,if_pos h2])
  have t0 : ((((nb l 0 1 : Nat) : Int) / 64) != 2) = true:=by simp;omega
  clear h2
  unfold pz at HR
  go_wp2_with (refine wpList_store_row rfl 93 (.tmp 2) (.tmp 24) rfl W rfl _ _ rfl 93 (HR.out) (by kernel_rfl) rfl (oneCell_pz) ?_;intro wE hY hG;have HY:=Hd hY;have HG:=Hd hG;clear hY hG)
  refine bodyPost_ret (results_row_1 rfl _ _ W 93 _ _ rfl HY.out Tryz.underlying93 rfl (by kernel_rfl)) rfl (.inr ⟨21,by exact E15.out.trans HP.out,rfl,HF.out.step HG.out (fun x hx => by simp at hx;subst hx;exact .inr (by have:=HHW.out;omega))⟩)
 have t0 : ((((nb l 0 1 : Nat) : Int) / 64) != 2) = false:=by simp;omega
 by_cases h12 : l.length < 12
 ·have HP : Hid (parseP l = .error 20):=Hd (by unfold parseP;rw [if_neg h1,if_neg h2,if_pos h12])
  have H2:=Hd h2
  clear h2
  unfold pz at HR
  go_wp2_with (refine wpList_store_row rfl 93 (.tmp 2) (.tmp 28) rfl W rfl _ _ rfl 93 (HR.out) (by kernel_rfl) rfl (oneCell_pz) ?_;intro wE hY hG;have HY:=Hd hY;have HG:=Hd hG;clear hY hG)
  refine bodyPost_ret (results_row_1 rfl _ _ W 93 _ _ rfl HY.out Tryz.underlying93 rfl (by kernel_rfl)) rfl (.inr ⟨20,by exact E15.out.trans HP.out,rfl,HF.out.step HG.out (fun x hx => by simp at hx;subst hx;exact .inr (by have:=HHW.out;omega))⟩)
 have H2:=Hd h2
 clear h2
 have k1:=HF.out.cellSome (byte_cell HL.out (k:=1) (by omega)) (by simp)
 have hb1:=nb_lt l 1 1
 have i1 : (1 : Int) < (l.length : Int):=by omega
 have i12 : (12 : Int) ≤ (l.length : Int):=by omega
 have c12 : (12 : Int) ≤ (cap : Int):=by omega
 go_upto_region 7 with (fail)
 refine wp_region_T (fun w' => w'.cell? ⟨b,o + 1,none⟩ = some (.int .u8 (nb l 1 1 : Nat))) [] 12 #[false,false,false,false,false,false,false,false,false,false,false,false] (by kernel_rfl) rfl rfl ?_
 have hF:=(Fr.refl [] w1).drew
 have HF:=Hd (HF.out.trans hF);have HR:=Hd (HR.out.keep hF)
 have HSS:=Hd (hF.cellSome k1 (by simp));have HK1:=HSS
 have K0:=Hd (hF.cellSome k0 (by simp))
 have hlt1 : W < w1.drew.heap.size:=by simp;omega
 clear hF k1 k0
 generalize w1.drew = wd at *
 refine wL 0 ?_ rfl (by kernel_rfl) (fun _ _ _ h => h) HSS.out (by rfl) ?_ ?_
 rotate_left
 ·intro w hSw;go_simp;try with_reducible rfl
 simp only [Act.put,zz1,zz2,zz3,zz4,zz5,zz6]
 refine wL 1 ?_ rfl (by kernel_rfl) (fun _ _ _ h => h) HSS.out (by rfl) ?_ ?_
 rotate_left
 ·intro w hSw;go_simp;try with_reducible rfl
 simp only [Act.put,zz1,zz2,zz3,zz4,zz5,zz6]
 refine wL 2 ?_ rfl (by kernel_rfl) (fun _ _ _ h => h) HSS.out (by rfl) ?_ ?_
 rotate_left
 ·intro w hSw;go_simp;try with_reducible rfl
 simp only [Act.put,zz1,zz2,zz3,zz4,zz5,zz6]
 refine wL 3 ?_ rfl (by kernel_rfl) (fun _ _ _ h => h) HSS.out (by rfl) ?_ ?_
 rotate_left
 ·intro w hSw;go_simp;try with_reducible rfl
 simp only [Act.put,zz1,zz2,zz3,zz4,zz5,zz6]
 refine wL 4 ?_ rfl (by kernel_rfl) (fun _ _ _ h => h) HSS.out (by rfl) ?_ ?_
 rotate_left
 ·intro w hSw;go_simp;try with_reducible rfl
 simp only [Act.put,zz1,zz2,zz3,zz4,zz5,zz6]
 refine wL 5 ?_ rfl (by kernel_rfl) (fun _ _ _ h => h) HSS.out (by rfl) ?_ ?_
 rotate_left
 ·intro w hSw;go_simp;try with_reducible rfl
 simp only [Act.put,zz1,zz2,zz3,zz4,zz5,zz6]
 refine wL 6 ?_ rfl (by kernel_rfl) (fun _ _ _ h => h) HSS.out (by rfl) ?_ ?_
 rotate_left
 ·intro w hSw;go_simp;try with_reducible rfl
 simp only [Act.put,zz1,zz2,zz3,zz4,zz5,zz6]
 refine wL 7 ?_ rfl (by kernel_rfl) (fun _ _ _ h => h) HSS.out (by rfl) ?_ ?_
 rotate_left
 ·intro w hSw;go_simp;try with_reducible rfl
 simp only [Act.put,zz1,zz2,zz3,zz4,zz5,zz6]
 refine wL 8 ?_ rfl (by kernel_rfl) (fun _ _ _ h => h) HSS.out (by rfl) ?_ ?_
 rotate_left
 ·intro w hSw;go_simp;try with_reducible rfl
 simp only [Act.put,zz1,zz2,zz3,zz4,zz5,zz6]
 refine wL 9 ?_ rfl (by kernel_rfl) (fun _ _ _ h => h) HSS.out (by rfl) ?_ ?_
 rotate_left
 ·intro w hSw;go_simp;try with_reducible rfl
 simp only [Act.put,zz1,zz2,zz3,zz4,zz5,zz6]
 refine wpAnyT_one (i:=10) (by kernel_rfl) rfl (fun K hK => ?_)
 rw [if_pos (by rfl)]
 go_simp
 refine hK.out _ _ (fun _ => ((Fr.refl [] wd).alloc _).cellSome HSS.out (by simp)) ?_
 clear hK K
 simp only [Act.put,zz1,zz2,zz3,zz4,zz5,zz6]
 have hF:=(Fr.refl [] wd).alloc (.cells #[.bool false,.int .i64 0,.int .u16 0,.int .u32 0,.int .u32 0,.slice none 0 0,.bool false,.int .u16 0,.slice none 0 0,.slice none 0 0,.slice none 0 0] 93)
 have HPB:=Hd (Box.new wd 93 #[.bool false,.int .i64 0,.int .u16 0,.int .u32 0,.int .u32 0,.slice none 0 0,.bool false,.int .u16 0,.slice none 0 0,.slice none 0 0,.slice none 0 0])
 have HF:=Hd (HF.out.trans hF);have HR:=Hd (HR.out.keep hF);have K0:=Hd (hF.cellSome K0.out (by simp));have HSS:=Hd (hF.cellSome HSS.out (by simp))
 clear hF
 refine wpAnyT_one (i:=11) (by kernel_rfl) rfl (fun K hK => ?_)
 refine wp_store_row rfl 93 (.tmp 4) (.tmp 38) rfl wd.heap.size rfl _ _ rfl 93 HPB.out (by kernel_rfl) rfl (by intro u hu;simp at hu;rcases hu with rfl | rfl | rfl | rfl | rfl | rfl | rfl | rfl | rfl | rfl | rfl <;> rfl) ?_
 intro w2 hY hG
 have HYn:=Hd hY
 have HFn:=Hd hG
 have hPl : wd.heap.size ∉ ([] : List Nat):=by simp
 have hlt2:=World.block_lt_of_cell? _ _ HK1.out
 refine hK.out _ _ (fun _ => hG.cellSome HSS.out (by simp;simp at hlt2;omega)) ?_
 clear hK K hY hG
 simp only [Act.put,zz1,zz2,zz3,zz4,zz5,zz6]
 refine wpAnyT_done (by kernel_rfl) ?_ _
 have hb1' : nb l 1 1 < 256:=hb1
 have HB:=Hd (HYn.out.as_ (c':=(pc (nb l 1 1 / 128 % 2 == 1) ((nb l 1 1 % 128 : Nat) : Int) 0 0 0 (.slice none 0 0) false 0 (.slice none 0 0) (.slice none 0 0) (.slice none 0 0))) (by
  unfold pc
  have e1 : decide ((128 : Int) ≤ ((nb l 1 1 : Nat) : Int)) = (nb l 1 1 / 128 % 2 == 1):=by
   by_cases h : 128 ≤ nb l 1 1
   ·rw [decide_eq_true (by omega)];symm;rw [beq_iff_eq];omega
   ·rw [decide_eq_false (by omega)];symm;rw [beq_eq_false_iff_ne];omega
  have e2 : IntKind.i64.wrap (((nb l 1 1 : Nat) : Int).tmod 128) = ((nb l 1 1 % 128 : Nat) : Int):=by
   rw [Int.tmod_eq_emod_of_nonneg (by omega),IntWalk.i64_in _ (by omega)];omega
  rw [e1,e2]
  rfl))
 have hPW : W < wd.heap.size:=hlt1
 have HF:=Hd (HF.out.step HFn.out (fun x hx => by simp at hx;subst hx;exact .inr (by have:=HHW.out;omega)));have HR:=Hd (HR.out.fr HFn.out (by simp;omega));have K0:=Hd (HFn.out.cellSome K0.out (by simp;omega))
 have hlt1 : W < w2.heap.size:=HR.out.lt
 generalize hPP : wd.heap.size = P at *
 clear HFn HYn HSS HK1 hPl hlt2 hPP HPB
 have hq1 : nb l 2 2 < 65536:=nb_lt l 2 2
 have hq2 : nb l 4 4 < 4294967296:=nb_lt l 4 4
 have hq3 : nb l 8 4 < 4294967296:=nb_lt l 8 4
 go_wp2_with fail
 refine (RNum_at (Sl.keep HL.out HF.out) 2 2 (by omega) (by omega) (by omega)).mono ?_
 rintro e v2 ⟨rfl,hF⟩
 have HF:=Hd (HF.out.trans hF);have HR:=Hd (HR.out.keep hF);have K0:=Hd (hF.cellSome K0.out (by simp));have HB:=Hd (HB.out.keep hF)
 have hFr:=HB.out.free 2;have hCl:=HB.out.cell 2
 simp only [pc,zz7,zz8,zz9] at hCl
 obtain ⟨u2,e2,hF2,hB2,-⟩:=set_new HB.out 2 (.int .u16 (nb l 2 2 : Nat))
 simp only [pc,zz4,zz5,zz6] at hB2
 have HB:=Hd hB2
 have HF:=Hd (HF.out.step hF2 (fun x hx => by simp at hx;subst hx;exact .inr (by have:=HHW.out;omega)));have HR:=Hd (HR.out.fr hF2 (by simp;omega));have K0:=Hd (hF2.cellSome K0.out (by simp;omega))
 clear hF hF2 hB2
 go_upto_region 9 with (fail)
 clear hFr hCl e2
 go_wp2_with fail
 refine (RNum_at (Sl.keep HL.out HF.out) 4 4 (by omega) (by omega) (by omega)).mono ?_
 rintro e v3 ⟨rfl,hF⟩
 have HF:=Hd (HF.out.trans hF);have HR:=Hd (HR.out.keep hF);have K0:=Hd (hF.cellSome K0.out (by simp));have HB:=Hd (HB.out.keep hF)
 have hFr:=HB.out.free 3;have hCl:=HB.out.cell 3
 simp only [pc,zz7,zz8,zz9] at hCl
 obtain ⟨u3,e3,hF2,hB2,-⟩:=set_new HB.out 3 (.int .u32 (nb l 4 4 : Nat))
 simp only [pc,zz4,zz5,zz6] at hB2
 have HB:=Hd hB2
 have HF:=Hd (HF.out.step hF2 (fun x hx => by simp at hx;subst hx;exact .inr (by have:=HHW.out;omega)));have HR:=Hd (HR.out.fr hF2 (by simp;omega));have K0:=Hd (hF2.cellSome K0.out (by simp;omega))
 clear hF hF2 hB2
 go_upto_region 10 with (fail)
 clear hFr hCl e3
 go_wp2_with fail
 refine (RNum_at (Sl.keep HL.out HF.out) 8 4 (by omega) (by omega) (by omega)).mono ?_
 rintro e v4 ⟨rfl,hF⟩
 have HF:=Hd (HF.out.trans hF);have HR:=Hd (HR.out.keep hF);have K0:=Hd (hF.cellSome K0.out (by simp));have HB:=Hd (HB.out.keep hF)
 have hFr:=HB.out.free 4;have hCl:=HB.out.cell 4
 simp only [pc,zz7,zz8,zz9] at hCl
 obtain ⟨u4,e4,hF2,hB2,-⟩:=set_new HB.out 4 (.int .u32 (nb l 8 4 : Nat))
 simp only [pc,zz4,zz5,zz6] at hB2
 have HB:=Hd hB2
 have HF:=Hd (HF.out.step hF2 (fun x hx => by simp at hx;subst hx;exact .inr (by have:=HHW.out;omega)));have HR:=Hd (HR.out.fr hF2 (by simp;omega));have K0:=Hd (hF2.cellSome K0.out (by simp;omega))
 clear hF hF2 hB2
 go_upto_region 11 with (fail)
 clear hFr hCl e4
 go_wp2_with fail
 have HCS : Hid (OwnW u4 (P + 1) (.slice none 0 0) []):=Hd (World.ownsRow_nil _ _ _ _)
 have hn16 : nb l 0 1 % 16 < 16:=Nat.mod_lt _ (by omega)
 go_loopw [5,6] (fun at_ i wr => ∃ (j : Nat) (cs : Value),j ≤ nb l 0 1 % 16 ∧ 12 + 4 * j ≤ l.length ∧ at_ = .int .i64 ((12 + 4 * j : Nat) : Int) ∧ i = .int .i64 j ∧ Box wr P 93 (pc (nb l 1 1 / 128 % 2 == 1) ((nb l 1 1 % 128 : Nat) : Int) (nb l 2 2) (nb l 4 4) (nb l 8 4) cs false 0 (.slice none 0 0) (.slice none 0 0) (.slice none 0 0)) ∧ OwnW wr (P + 1) cs (w32s l 12 j) ∧ Box wr W 93 pz ∧ Fr [] w wr) (fun _ i _ => nb l 0 1 % 16 - (intOf i).toNat)
 case atStart => exact ⟨0,.slice none 0 0,Nat.zero_le _,by omega,rfl,rfl,HB.out,HCS.out,HR.out,HF.out⟩
 case round =>
  clear HB HCS HR HF K0 hlt1
  obtain ⟨j,cs,hj,hle,rfl,rfl,hB,hCS,hR,hF⟩:=hrel
  have HB:=Hd hB;have HR:=Hd hR;have HF:=Hd hF
  obtain ⟨ac,nc,cc,rfl⟩:=hCS.isSlice
  have HCS:=Hd hCS
  have hlt1 : W < wr.heap.size:=hR.lt
  have hltP : P < wr.heap.size:=hB.lt
  have k0:=hF.cellSome (byte_cell HL.out (k:=0) (by omega)) (by simp)
  rw [Nat.add_zero] at k0
  clear hB hR hF hCS
  by_cases hjn : j < nb l 0 1 % 16
  ·have hjn2 : (j : Int) < ((nb l 0 1 : Nat) : Int) % 16:=by omega
   by_cases hsh : l.length < 12 + 4 * j + 4
   ·have hsh2 : (l.length : Int) < 12 + 4 * (j : Int) + 4:=by omega
    unfold pz at HR
    go_wp2_with (refine wpList_store_row rfl 93 (.tmp 2) (.tmp 68) rfl W rfl _ _ rfl 93 (HR.out) (by kernel_rfl) rfl (oneCell_pz) ?_;intro wE hY hG;have HY:=Hd hY;have HG:=Hd hG;clear hY hG)
    refine bodyPost_ret (results_row_1 rfl _ _ W 93 _ _ rfl HY.out Tryz.underlying93 rfl (by kernel_rfl)) rfl (.inr ⟨20,by rw [E15.out];unfold parseP;rw [if_neg h1,if_neg H2.out,if_neg h12];rw [if_pos (by omega)],rfl,HF.out.step HG.out (fun x hx => by simp at hx;subst hx;exact .inr (by have:=HHW.out;omega))⟩)

   have hsh2 : ¬ (l.length : Int) < 12 + 4 * (j : Int) + 4:=by omega
   have HJN:=Hd hjn2
   generalize hkk : 12 + 4 * j = kk at *
   have hq:=nb_lt l kk 4
   have hqw : IntKind.u32.wrap ((nb l kk 4 : Nat) : Int) = ((nb l kk 4 : Nat) : Int):=IntWalk.u32_in _ (by omega)
   go_upto_region 17 with (fail)
   have HKK:=Hd hkk
   clear hkk
   have hKw : IntKind.i64.wrap ((kk : Int) + 4) = (kk : Int) + 4:=IntWalk.i64_in _ (by omega)
   have hK1 : (kk : Int) + 4 ≤ (cap : Int):=by omega
   have hcK : ¬ cap = kk:=by omega
   have hK0 : (0 : Int) ≤ (kk : Int) + 4:=by omega
   have hKt : ((kk : Int) + 4).toNat = kk + 4:=by omega
   refine wp_region_T (fun w' => w'.cell? ⟨P,5,none⟩ = some (.slice ac nc cc)) [12] 13 #[false,false,false,false,false,false,false,false,false,false,false,false,false] (by kernel_rfl) rfl rfl ?_
   have hF:=(Fr.refl [] wr).drew
   have HF:=Hd (HF.out.trans hF);have HR:=Hd (HR.out.keep hF);have HB:=Hd (HB.out.keep hF);have HCS:=Hd (HCS.out.keep hF)
   have HSS:=Hd (show wr.drew.cell? ⟨P,5,none⟩ = some (.slice ac nc cc) from HB.out.cell 5)
   clear hF k0
   generalize wr.drew = wd at *
   refine wL 0 ?_ rfl (by kernel_rfl) (fun _ _ _ h => h) HSS.out (by rfl) ?_ ?_
   rotate_left
   ·intro w hSw;go_simp;try with_reducible rfl
   simp only [Act.put,zz1,zz2,zz3,zz4,zz5,zz6]
   refine wL 1 ?_ rfl (by kernel_rfl) (fun _ _ _ h => h) HSS.out (by rfl) ?_ ?_
   rotate_left
   ·intro w hSw;go_simp;try with_reducible rfl
   simp only [Act.put,zz1,zz2,zz3,zz4,zz5,zz6]
   refine wL 2 ?_ rfl (by kernel_rfl) (fun _ _ _ h => h) HSS.out (by rfl) ?_ ?_
   rotate_left
   ·intro w hSw;go_simp;try with_reducible rfl
   simp only [Act.put,zz1,zz2,zz3,zz4,zz5,zz6]
   refine wL 3 ?_ rfl (by kernel_rfl) (fun _ _ _ h => h) HSS.out (by rfl) ?_ ?_
   rotate_left
   ·intro w hSw;go_simp;try with_reducible rfl
   simp only [Act.put,zz1,zz2,zz3,zz4,zz5,zz6]
   refine wL 4 ?_ rfl (by kernel_rfl) (fun _ _ _ h => h) HSS.out (by rfl) ?_ ?_
   rotate_left
   ·intro w hSw;go_simp;try with_reducible rfl
   simp only [Act.put,zz1,zz2,zz3,zz4,zz5,zz6]
   refine wL 5 ?_ rfl (by kernel_rfl) (fun _ _ _ h => h) HSS.out (by rfl) ?_ ?_
   rotate_left
   ·intro w hSw;go_simp;try with_reducible rfl
   simp only [Act.put,zz1,zz2,zz3,zz4,zz5,zz6]
   refine wL 6 ?_ rfl (by kernel_rfl) (fun _ _ _ h => h) HSS.out (by rfl) ?_ ?_
   rotate_left
   ·intro w hSw;go_simp;try with_reducible rfl
   simp only [Act.put,zz1,zz2,zz3,zz4,zz5,zz6]
   refine wpAnyT_one (i:=7) (by kernel_rfl) rfl (fun K hK => ?_)
   rw [if_pos (by rfl)]
   go_simp
   refine (RNum_at (Sl.keep HL.out HF.out) kk 4 (by omega) (by omega) (by omega)).mono ?_
   rintro e w5 ⟨rfl,hF⟩
   go_simp
   have HF:=Hd (HF.out.trans hF);have HR:=Hd (HR.out.keep hF);have HB:=Hd (HB.out.keep hF);have HCS:=Hd (HCS.out.keep hF)
   have HSS:=Hd (show w5.cell? ⟨P,5,none⟩ = some (.slice ac nc cc) from HB.out.cell 5)
   clear hF
   refine hK.out _ _ (fun _ => HSS.out) ?_
   clear hK K
   simp only [Act.put,zz1,zz2,zz3,zz4,zz5,zz6]
   refine wL 8 ?_ rfl (by kernel_rfl) (fun _ _ _ h => h) HSS.out (by rfl) ?_ ?_
   rotate_left
   ·intro w hSw;go_simp;try with_reducible rfl
   simp only [Act.put,zz1,zz2,zz3,zz4,zz5,zz6]
   refine wpAnyT_one (i:=9) (by kernel_rfl) rfl (fun K hK => ?_)
   rw [if_pos (by rfl)]
   go_simp
   refine hK.out _ _ (fun _ => ((Fr.refl [] w5).alloc _).cellSome HSS.out (by simp)) ?_
   clear hK K
   simp only [Act.put,zz1,zz2,zz3,zz4,zz5,zz6]
   have hF:=(Fr.refl [] w5).alloc (.cells #[.int .u32 ((nb l kk 4 : Nat) : Int)] 22)
   have HF:=Hd (HF.out.trans hF);have HR:=Hd (HR.out.keep hF);have HB:=Hd (HB.out.keep hF);have HCS:=Hd (HCS.out.keep hF)
   have A3:=Hd (Sl.one w5 (.int .u32 ((nb l kk 4 : Nat) : Int)) 22)
   have HSS:=Hd (show (w5.alloc (.cells #[.int .u32 ((nb l kk 4 : Nat) : Int)] 22)).cell? ⟨P,5,none⟩ = some (.slice ac nc cc) from HB.out.cell 5)
   have A1 : Hid ((w32s l 12 j).length + 1 ≤ maxLen):=Hd (by rw [w32s_len];unfold maxLen;omega)
   have A2 : Hid (((w32s l 12 j).length + 1) * 4 ≤ 140737488355328):=Hd (by rw [w32s_len];omega)
   have A4 : Hid (P + 1 ≤ (w5.alloc (.cells #[.int .u32 ((nb l kk 4 : Nat) : Int)] 22)).heap.size):=Hd (by have:=HB.out.lt;omega)
   clear hF
   refine wpAnyT_one (i:=10) (by kernel_rfl) rfl (fun K hK => ?_)
   refine step_append_fr rfl (.tmp 70) (.tmp 78) 91 rfl (P + 1) 22 (.int .u32 0) 1 4 Tryz.underlying91 info_u32 rfl (by omega) (.slice ac nc cc) (w32s l 12 j).length ((w32s l 12 j).map W32) rfl HCS.out ⟨w5.heap.size,0,none⟩ 1 1 [.int .u32 ((nb l kk 4 : Nat) : Int)] rfl rfl (one_cells' w5 (.int .u32 ((nb l kk 4 : Nat) : Int)) 22) (oneCell_int .u32 ((nb l kk 4 : Nat) : Int)) A1.out A2.out A4.out ?_
   intro v' w6 ho hg hfr hnil
   obtain ⟨a2,n2,c2,rfl⟩:=(Sl.ofOwn ho).isSlice
   have hlow : ∀ x ∈ (blockOf (.slice ac nc cc)).toList,P + 1 ≤ x:=fun x hx => (HCS.out.block x (by simpa using hx)).1
   have HF:=Hd (HF.out.step hg (fun x hx => by have:=hlow x hx;exact .inr (by have:=HHW.out;omega)));have HR:=Hd (HR.out.fr hg (fun hm => by have:=hlow _ hm;omega));have HB:=Hd (HB.out.fr hg (fun hm => by have:=hlow _ hm;omega))
   have HSS:=Hd (show w6.cell? ⟨P,5,none⟩ = some (.slice ac nc cc) from HB.out.cell 5)
   have HCN : Hid (OwnW w6 (P + 1) (.slice a2 n2 c2) (w32s l 12 (j + 1))):=Hd (by
    unfold OwnW
    have e : w32s l 12 (j + 1) = w32s l 12 j ++ [UInt32.ofNat (nb l kk 4)]:=by rw [w32s_snoc,HKK.out]
    rw [e,List.map_append,List.length_append,List.map_singleton,W32_nb]
    exact ho)
   refine hK.out _ _ (fun _ => HSS.out) ?_
   clear hK K ho hg hfr hnil hlow HCS
   simp only [Act.put,zz1,zz2,zz3,zz4,zz5,zz6]
   refine wL 11 ?_ rfl (by kernel_rfl) (fun _ _ _ h => h) HSS.out (by rfl) ?_ ?_
   rotate_left
   ·intro w hSw;go_simp;try with_reducible rfl
   simp only [Act.put,zz1,zz2,zz3,zz4,zz5,zz6]
   have hFr:=HB.out.free 5;have hCl:=HSS.out
   obtain ⟨w7,e7,hF,hB,-⟩:=set_new HB.out 5 (.slice a2 n2 c2)
   simp only [pc,zz4,zz5,zz6] at hB
   have HBn:=Hd hB
   refine wpAnyT_one (i:=12) (by kernel_rfl) rfl (fun K hK => ?_)
   rw [if_pos (by rfl)]
   go_simp
   refine hK.out _ _ (fun h => absurd (by simp) h) ?_
   clear hK K hFr hCl e7 HSS
   have HF:=Hd (HF.out.step hF (fun x hx => by simp at hx;subst hx;exact .inr (by have:=HHW.out;omega)));have HR:=Hd (HR.out.fr hF (by simp;omega));have HCN:=Hd (HCN.out.low hF (by simp))
   clear hF hB
   simp only [Act.put,zz1,zz2,zz3,zz4,zz5,zz6]
   refine wpAnyT_done (by kernel_rfl) ?_ _
   go_wp2_with fail
   go_roundw
   case rel => exact ⟨j + 1,_,by omega,by have:=HKK.out;omega,by rw [← HKK.out];go_num,by go_num,HBn.out,HCN.out,HR.out,HF.out⟩
   case measure => simp [intOf];omega
  ·have hjn2 : ((nb l 0 1 : Nat) : Int) % 16 ≤ (j : Int):=by omega
   have hjN : j = nb l 0 1 % 16:=by omega
   have HL15:=Hd h15
   have hlk : 12 + 4 * (nb l 0 1 % 16) ≤ l.length:=by omega
   generalize hkk : 12 + 4 * j = kk at *
   have hkN : 12 + 4 * (nb l 0 1 % 16) = kk:=by omega
   have HKN:=Hd hkN;have HKK:=Hd hkk;have HJN:=Hd hjN
   have hkl : kk ≤ l.length:=hle
   clear hkk hkN hjN hj hlk
   by_cases he : (nb l 0 1 / 16 % 2 == 1) = true
   ·have t1 : ((((nb l 0 1 : Nat) : Int) / 16 % 2) == 1) = true:=by have:=beq_iff_eq.1 he;rw [beq_iff_eq];omega
    have HE:=Hd he
    have HPL:=Hd (parseP_long H2.out h12 (by rw [HKN.out];omega) he)
    clear he
    have hk2 : pk2 l true = kk + 4 + 4 * nb l (kk + 2) 2:=by unfold pk2;rw [if_pos rfl,HKN.out]
    have HK2:=Hd hk2
    clear hk2
    by_cases hs4 : l.length < kk + 4
    ·have hs4i : (l.length : Int) < (kk : Int) + 4:=by omega
     unfold pz at HR
     go_wp2_with (refine wpList_store_row rfl 93 (.tmp 2) (.tmp 94) rfl W rfl _ _ rfl 93 (HR.out) (by kernel_rfl) rfl (oneCell_pz) ?_;intro wE hY hG;have HY:=Hd hY;have HG:=Hd hG;clear hY hG)
     refine bodyPost_ret (results_row_1 rfl _ _ W 93 _ _ rfl HY.out Tryz.underlying93 rfl (by kernel_rfl)) rfl (.inr ⟨20,by rw [E15.out,HPL.out,if_pos (by rw [HK2.out];omega)],rfl,HF.out.step HG.out (fun x hx => by simp at hx;subst hx;exact .inr (by have:=HHW.out;omega))⟩)

    have hs4i : ¬ (l.length : Int) < (kk : Int) + 4:=by omega
    have q1 : (0 : Int) ≤ (kk : Int) + 2:=by omega
    have q2 : (0 : Int) ≤ (kk : Int) + 4:=by omega
    have q3 : (kk : Int) + 4 ≤ (cap : Int):=by omega
    have q4 : ((kk : Int) + 2).toNat = kk + 2:=by omega
    have q5 : ((kk : Int) + 4).toNat = kk + 4:=by omega
    have q6 : ¬ cap = kk + 2:=by omega
    have q7 : ¬ cap = kk:=by omega
    go_wp2_with fail
    refine (RNum_at (Sl.keep HL.out HF.out) (kk + 2) 2 (by omega) (by omega) (by omega)).mono ?_
    rintro e w8 ⟨rfl,hF⟩
    have HF:=Hd (HF.out.trans hF);have HR:=Hd (HR.out.keep hF);have k0:=hF.cellSome k0 (by simp);have HB:=Hd (HB.out.keep hF);have HCS:=Hd (HCS.out.keep hF)
    have hx : nb l (kk + 2) 2 < 65536:=nb_lt l (kk + 2) 2
    generalize hxx : nb l (kk + 2) 2 = x at *
    have HX:=Hd hxx
    clear hF hxx
    by_cases hs5 : l.length < kk + 4 + 4 * x
    ·have hs5i : (l.length : Int) < (kk : Int) + 4 + 4 * (x : Int):=by omega
     unfold pz at HR
     go_wp2_with (refine wpList_store_row rfl 93 (.tmp 2) (.tmp 111) rfl W rfl _ _ rfl 93 (HR.out) (by kernel_rfl) rfl (oneCell_pz) ?_;intro wE hY hG;have HY:=Hd hY;have HG:=Hd hG;clear hY hG)
     refine bodyPost_ret (results_row_1 rfl _ _ W 93 _ _ rfl HY.out Tryz.underlying93 rfl (by kernel_rfl)) rfl (.inr ⟨20,by rw [E15.out,HPL.out,if_pos (by rw [HK2.out];omega)],rfl,HF.out.step HG.out (fun x hx => by simp at hx;subst hx;exact .inr (by have:=HHW.out;omega))⟩)

    have hs5i : ¬ (l.length : Int) < (kk : Int) + 4 + 4 * (x : Int):=by omega
    have hFr:=HB.out.free 6;have hCl:=HB.out.cell 6
    simp only [pc,zz7,zz8,zz9] at hCl
    obtain ⟨u6,e6,hF2,hB2,-⟩:=set_new HB.out 6 (.bool true)
    simp only [pc,zz4,zz5,zz6] at hB2
    have HB:=Hd hB2
    go_upto_region 26 with (fail)
    try rw [e6]
    clear hFr hCl e6
    have HF:=Hd (HF.out.step hF2 (fun x hx => by simp at hx;subst hx;exact .inr (by have:=HHW.out;omega)));have HR:=Hd (HR.out.fr hF2 (by simp;omega));have k0:=hF2.cellSome k0 (by simp;omega);have HCS:=Hd (HCS.out.low hF2 (by simp))
    clear hF2 hB2
    have q8 : ((kk : Int) + 4 + 4 * (x : Int)).toNat = kk + 4 + 4 * x:=by omega
    have hp : nb l kk 2 < 65536:=nb_lt l kk 2
    have q9 : (kk : Int) + 2 ≤ (cap : Int):=by omega
    go_wp2_with fail
    refine (RNum_at (Sl.keep HL.out HF.out) kk 2 (by omega) (by omega) (by omega)).mono ?_
    rintro e w9 ⟨rfl,hF⟩
    have HF:=Hd (HF.out.trans hF);have HR:=Hd (HR.out.keep hF);have k0:=hF.cellSome k0 (by simp);have HB:=Hd (HB.out.keep hF);have HCS:=Hd (HCS.out.keep hF)
    clear hF
    have hFr:=HB.out.free 7;have hCl:=HB.out.cell 7
    simp only [pc,zz7,zz8,zz9] at hCl
    obtain ⟨u7,e7,hF2,hB2,-⟩:=set_new HB.out 7 (.int .u16 (nb l kk 2 : Nat))
    simp only [pc,zz4,zz5,zz6] at hB2
    have HB:=Hd hB2
    go_upto_region 27 with (fail)
    try rw [e7]
    clear hFr hCl e7
    have HF:=Hd (HF.out.step hF2 (fun x hx => by simp at hx;subst hx;exact .inr (by have:=HHW.out;omega)));have HR:=Hd (HR.out.fr hF2 (by simp;omega));have k0:=hF2.cellSome k0 (by simp;omega);have HCS:=Hd (HCS.out.low hF2 (by simp))
    clear hF2 hB2
    have q10 : (kk : Int) + 4 + 4 * (x : Int) ≤ (cap : Int):=by omega
    have q11 : (0 : Int) ≤ (kk : Int) + 4 + 4 * (x : Int):=by omega
    have q12 : (kk : Int) + 4 ≤ (kk : Int) + 4 + 4 * (x : Int):=by omega
    obtain ⟨qa,hqa⟩ : ∃ qa,(if cap = kk + 4 then some (⟨b,o,none⟩ : Addr) else some ⟨b,o + (kk + 4),none⟩) = qa:=⟨_,rfl⟩
    have HQA:=Hd hqa
    go_wp2_with fail
    clear hqa
    have hcp:=RCopy_if (Sl.keep HL.out HF.out) (kk + 4) (4 * x) (by omega) (by omega)
    rw [HQA.out] at hcp
    refine hcp.mono ?_
    clear hcp
    rintro e w10 ⟨vx,rfl,hO,hF⟩
    obtain ⟨ax,nx,cx,rfl⟩:=hO.isSlice
    have HX0:=Hd (hO.mono (show P + 1 ≤ u7.heap.size by have:=HB.out.lt;omega))
    have HF:=Hd (HF.out.trans hF);have HR:=Hd (HR.out.keep hF);have k0:=hF.cellSome k0 (by simp);have HB:=Hd (HB.out.keep hF);have HCS:=Hd (HCS.out.keep hF)
    clear hF hO HQA
    have hFr:=HB.out.free 8;have hCl:=HB.out.cell 8
    simp only [pc,zz7,zz8,zz9] at hCl
    obtain ⟨u8,e8,hF2,hB2,-⟩:=set_new HB.out 8 (.slice ax nx cx)
    simp only [pc,zz4,zz5,zz6] at hB2
    have HB:=Hd hB2
    go_upto_region 28 with (fail)
    try rw [e8]
    clear hFr hCl e8
    have HF:=Hd (HF.out.step hF2 (fun x hx => by simp at hx;subst hx;exact .inr (by have:=HHW.out;omega)));have HR:=Hd (HR.out.fr hF2 (by simp;omega));have k0:=hF2.cellSome k0 (by simp;omega);have HCS:=Hd (HCS.out.low hF2 (by simp));have HX0:=Hd (HX0.out.low hF2 (by simp))
    clear hF2 hB2

    obtain ⟨kt,hkt⟩ : ∃ kt,kt = kk + 4 + 4 * x:=⟨_,rfl⟩
    go_upto_region 29 with (fail)
    rw [show ((kk : Int) + 4 + 4 * (x : Int)) = ((kt : Nat) : Int) from by omega]
    have HK2 : Hid (pk2 l true = kt):=Hd (HK2.out.trans hkt.symm)
    have hktl : kt ≤ l.length:=by omega
    have HEX : Hid (OwnB u8 (P + 1) (.slice ax nx cx) (if true then (l.drop (kk + 4)).take (4 * nb l (kk + 2) 2) else [])):=Hd (by rw [if_pos rfl,HX.out];exact HX0.out)
    have HPF : Hid (nb l kk 2 = if true then nb l kk 2 else 0):=Hd (by rw [if_pos rfl])
    clear hkt HX0 q1 q2 q3 q4 q5 q6 q7 q8 q9 q10 q11 q12 hs5i hs4i hp
    by_cases hpd : (nb l 0 1 / 32 % 2 == 1) = true
    ·have t2 : ((((nb l 0 1 : Nat) : Int) / 32 % 2) == 1) = true:=by have:=beq_iff_eq.1 hpd;rw [beq_iff_eq];omega
     have HPD1:=Hd hpd
     clear hpd
     by_cases hemp : kt < l.length
     ·have hempi : (kt : Int) < (l.length : Int):=by omega
      have kl:=HF.out.cellSome (byte_cell HL.out (k:=l.length - 1) (by omega)) (by simp)
      have p1 : (0 : Int) ≤ (l.length : Int) - 1:=by omega
      have p2 : (l.length : Int) - 1 < (l.length : Int):=by omega
      have p3 : ((l.length : Int) - 1).toNat = l.length - 1:=by omega
      have HY0:=Hd (padN_last hemp)
      have hy : nb l (l.length - 1) 1 < 256:=nb_lt l (l.length - 1) 1
      generalize hyy : nb l (l.length - 1) 1 = y at *
      clear hyy
      by_cases hbad : y = 0 ∨ l.length - kt < y
      ·have HBAD:=Hd hbad
       have hb1x : y = 0 ∨ (y ≠ 0 ∧ (l.length : Int) - (kt : Int) < (y : Int)):=by omega
       clear hbad
       unfold pz at HR
       rcases hb1x with rfl | ⟨hy0,hbg⟩
       ·go_wp2_with (refine wpList_store_row rfl 93 (.tmp 2) (.tmp 161) rfl W rfl _ _ rfl 93 (HR.out) (by kernel_rfl) rfl (oneCell_pz) ?_;intro wE hY hG;have HY:=Hd hY;have HG:=Hd hG;clear hY hG)
        refine bodyPost_ret (results_row_1 rfl _ _ W 93 _ _ rfl HY.out Tryz.underlying93 rfl (by kernel_rfl)) rfl (.inr ⟨21,by rw [E15.out,HPL.out,if_neg (by rw [HK2.out];omega),if_pos HPD1.out,if_pos (by rw [HK2.out,HY0.out,List.length_drop];have:=HBAD.out;omega)],rfl,HF.out.step HG.out (fun x hx => by simp at hx;subst hx;exact .inr (by have:=HHW.out;omega))⟩)
       ·have hy0b : (((y : Nat) : Int) == 0) = false:=by simp;omega
        go_wp2_with (refine wpList_store_row rfl 93 (.tmp 2) (.tmp 161) rfl W rfl _ _ rfl 93 (HR.out) (by kernel_rfl) rfl (oneCell_pz) ?_;intro wE hY hG;have HY:=Hd hY;have HG:=Hd hG;clear hY hG)
        refine bodyPost_ret (results_row_1 rfl _ _ W 93 _ _ rfl HY.out Tryz.underlying93 rfl (by kernel_rfl)) rfl (.inr ⟨21,by rw [E15.out,HPL.out,if_neg (by rw [HK2.out];omega),if_pos HPD1.out,if_pos (by rw [HK2.out,HY0.out,List.length_drop];have:=HBAD.out;omega)],rfl,HF.out.step HG.out (fun x hx => by simp at hx;subst hx;exact .inr (by have:=HHW.out;omega))⟩)
      have hy0b : (((y : Nat) : Int) == 0) = false:=by simp;omega
      have hbg : ¬ (l.length : Int) - (kt : Int) < (y : Int):=by omega
      have HBAD:=Hd hbad
      have hyl : y ≤ l.length:=by omega
      have hyk : kt + y ≤ l.length:=by omega
      clear hbad
      have q1 : (0 : Int) ≤ (l.length : Int) - (y : Int):=by omega
      obtain ⟨en,hen⟩ : ∃ en,en = l.length - y:=⟨_,rfl⟩
      have hen1 : en + y = l.length:=by omega
      have HEN:=Hd hen
      have q2 : ((l.length : Int) - (y : Int)).toNat = en:=by omega
      have HEI : Hid ((l.length : Int) - (y : Int) = ((en : Nat) : Int)):=Hd (by omega)
      have q3 : (l.length : Int) - (y : Int) ≤ (l.length : Int):=by omega
      have q4 : l.length - en = y:=by omega
      have HEN1:=Hd hen1
      clear hen hen1
      have q5 : (kt : Int) ≤ (l.length : Int) - (y : Int):=by omega
      have q6 : (l.length : Int) - (y : Int) ≤ (cap : Int):=by omega
      have q7 : kt ≤ en:=by have:=HEN1.out;omega
      obtain ⟨qP,hqP⟩ : ∃ q,(if cap = en then some (⟨b,o,none⟩ : Addr) else some ⟨b,o + en,none⟩) = q:=⟨_,rfl⟩
      have HQP:=Hd hqP
      go_wp2_with fail
      clear hqP
      have hcp:=RCopy_if (Sl.keep HL.out HF.out) en y (by have:=HEN1.out;omega) (by have:=HL15.out;omega)
      rw [HQP.out] at hcp
      refine hcp.mono ?_
      clear hcp
      rintro e wa ⟨vx,rfl,hO,hF⟩
      obtain ⟨aP,nP,cP,rfl⟩:=hO.isSlice
      have HPD:=Hd (hO.mono (show P + 1 ≤ _ by have:=HB.out.lt;omega))
      have HF:=Hd (HF.out.trans hF);have HR:=Hd (HR.out.keep hF);have k0:=hF.cellSome k0 (by simp);have HB:=Hd (HB.out.keep hF);have HCS:=Hd (HCS.out.keep hF);have HEX:=Hd (HEX.out.keep hF)
      clear hF hO HQP
      have hFr:=HB.out.free 10;have hCl:=HB.out.cell 10
      simp only [pc,zz7,zz8,zz9] at hCl
      obtain ⟨ua,eP,hF2,hB2,-⟩:=set_new HB.out 10 (.slice aP nP cP)
      simp only [pc,zz4,zz5,zz6] at hB2
      have HB:=Hd hB2
      go_upto_region 37 with (fail)
      try rw [eP]
      clear hFr hCl eP
      have HF:=Hd (HF.out.step hF2 (fun x hx => by simp at hx;subst hx;exact .inr (by have:=HHW.out;omega)));have HR:=Hd (HR.out.fr hF2 (by simp;omega));have k0:=hF2.cellSome k0 (by simp;omega);have HCS:=Hd (HCS.out.low hF2 (by simp));have HEX:=Hd (HEX.out.low hF2 (by simp));have HPD:=Hd (HPD.out.low hF2 (by simp))
      clear hF2 hB2
      clear q1 q2 q3 q4 q5 q6
      go_upto_region 38 with (fail)
      rw [HEI.out]
      have q5 : (kt : Int) ≤ (en : Int):=by omega
      have q6 : (en : Int) ≤ (cap : Int):=by have:=HEN1.out;omega
      go_wp2_with fail
      have hcp:=RCopy_if (Sl.keep HL.out HF.out) kt (en - kt) (by have:=HEN1.out;omega) (by have:=HL15.out;omega)
      rw [if_neg (by omega)] at hcp
      refine hcp.mono ?_
      clear hcp
      rintro e wb ⟨vx,rfl,hO,hF⟩
      obtain ⟨aL,nL,cL,rfl⟩:=hO.isSlice
      have HPY:=Hd (hO.mono (show P + 1 ≤ _ by have:=HB.out.lt;omega))
      have HF:=Hd (HF.out.trans hF);have HR:=Hd (HR.out.keep hF);have k0:=hF.cellSome k0 (by simp);have HB:=Hd (HB.out.keep hF);have HCS:=Hd (HCS.out.keep hF);have HEX:=Hd (HEX.out.keep hF);have HPD:=Hd (HPD.out.keep hF)
      clear hF hO
      have hFr:=HB.out.free 9;have hCl:=HB.out.cell 9
      simp only [pc,zz7,zz8,zz9] at hCl
      obtain ⟨ub,eL,hF2,hB2,-⟩:=set_new HB.out 9 (.slice aL nL cL)
      simp only [pc,zz4,zz5,zz6] at hB2
      have HB:=Hd hB2
      go_upto_region 39 with (fail)
      try rw [eL]
      clear hFr hCl eL
      have HF:=Hd (HF.out.step hF2 (fun x hx => by simp at hx;subst hx;exact .inr (by have:=HHW.out;omega)));have HR:=Hd (HR.out.fr hF2 (by simp;omega));have k0:=hF2.cellSome k0 (by simp;omega);have HCS:=Hd (HCS.out.low hF2 (by simp));have HEX:=Hd (HEX.out.low hF2 (by simp));have HPY:=Hd (HPY.out.low hF2 (by simp));have HPD:=Hd (HPD.out.low hF2 (by simp))
      clear hF2 hB2
      go_wp2_with (first | (refine wpList_load_row rfl 93 (.tmp 4) rfl P rfl 93 _ _ _ HB.out Tryz.underlying93 rfl (by kernel_rfl) ?_) | (refine wpList_store_row rfl 93 (.tmp 2) (.tmp 178) rfl W rfl _ _ rfl 93 (HR.out) (by kernel_rfl) rfl (oneCell_pc _ _ _ _ _ _ _ _ _ _ _ ⟨_,_,_,rfl⟩ ⟨_,_,_,rfl⟩ ⟨_,_,_,rfl⟩ ⟨_,_,_,rfl⟩) ?_;intro wE hY hG;have HY:=Hd hY;have HG:=Hd hG;clear hY hG))
      refine bodyPost_ret (results_row_1 rfl _ _ W 93 _ _ rfl HY.out Tryz.underlying93 rfl (by kernel_rfl)) rfl (.inl ⟨_,_,E15.out.trans (parse_pad HPL.out HK2.out HKN.out (by omega) HPD1.out HY0.out HBAD.out HEN.out),rfl,?_,HF.out.step HG.out (fun x hx => by simp at hx;subst hx;exact .inr (by have:=HHW.out;omega))⟩)
      exact PktV.mono (base:=P + 1) (PktV_hdr (l:=l) (k1:=kk) (k2:=kt) HPF.out (by have:=HCS.out;rw [HJN.out] at this;exact this.low HG.out (by simp;omega)) (HEX.out.low HG.out (by simp;omega)) (HPY.out.low HG.out (by simp;omega)) (HPD.out.low HG.out (by simp;omega))) (by have:=HHW.out;omega)
     ·have hempi : ¬ (kt : Int) < (l.length : Int):=by omega
      unfold pz at HR
      go_wp2_with (refine wpList_store_row rfl 93 (.tmp 2) (.tmp 161) rfl W rfl _ _ rfl 93 (HR.out) (by kernel_rfl) rfl (oneCell_pz) ?_;intro wE hY hG;have HY:=Hd hY;have HG:=Hd hG;clear hY hG)
      refine bodyPost_ret (results_row_1 rfl _ _ W 93 _ _ rfl HY.out Tryz.underlying93 rfl (by kernel_rfl)) rfl (.inr ⟨21,by rw [E15.out,HPL.out,if_neg (by rw [HK2.out];omega),if_pos HPD1.out,if_pos (.inl (by rw [HK2.out];exact padN_none (by omega)))],rfl,HF.out.step HG.out (fun x hx => by simp at hx;subst hx;exact .inr (by have:=HHW.out;omega))⟩)
    ·have hpd2 : (nb l 0 1 / 32 % 2 == 1) = false:=by simpa using hpd
     have t2 : ((((nb l 0 1 : Nat) : Int) / 32 % 2) == 1) = false:=by have:=beq_eq_false_iff_ne.1 hpd2;rw [beq_eq_false_iff_ne];omega
     have HPD1:=Hd hpd
     clear hpd hpd2
     have q5 : (kt : Int) ≤ (l.length : Int):=by omega
     have HPD : Hid (OwnB u8 (P + 1) (.slice none 0 0) []):=Hd (World.ownsRow_nil _ _ _ _)
     obtain ⟨qL,hqL⟩ : ∃ q,(if cap = kt then some (⟨b,o,none⟩ : Addr) else some ⟨b,o + kt,none⟩) = q:=⟨_,rfl⟩
     have HQL:=Hd hqL
     go_wp2_with fail
     clear hqL
     have hcp:=RCopy_if (Sl.keep HL.out HF.out) kt (l.length - kt) (by omega) (by have:=HL15.out;omega)
     rw [HQL.out] at hcp
     refine hcp.mono ?_
     clear hcp
     rintro e wb ⟨vx,rfl,hO,hF⟩
     obtain ⟨aL,nL,cL,rfl⟩:=hO.isSlice
     have HPY:=Hd (hO.mono (show P + 1 ≤ _ by have:=HB.out.lt;omega))
     have HF:=Hd (HF.out.trans hF);have HR:=Hd (HR.out.keep hF);have k0:=hF.cellSome k0 (by simp);have HB:=Hd (HB.out.keep hF);have HCS:=Hd (HCS.out.keep hF);have HEX:=Hd (HEX.out.keep hF);have HPD:=Hd (HPD.out.keep hF)
     clear hF hO HQL
     have hFr:=HB.out.free 9;have hCl:=HB.out.cell 9
     simp only [pc,zz7,zz8,zz9] at hCl
     obtain ⟨ub,eL,hF2,hB2,-⟩:=set_new HB.out 9 (.slice aL nL cL)
     simp only [pc,zz4,zz5,zz6] at hB2
     have HB:=Hd hB2
     go_upto_region 39 with (fail)
     try rw [eL]
     clear hFr hCl eL
     have HF:=Hd (HF.out.step hF2 (fun x hx => by simp at hx;subst hx;exact .inr (by have:=HHW.out;omega)));have HR:=Hd (HR.out.fr hF2 (by simp;omega));have k0:=hF2.cellSome k0 (by simp;omega);have HCS:=Hd (HCS.out.low hF2 (by simp));have HEX:=Hd (HEX.out.low hF2 (by simp));have HPY:=Hd (HPY.out.low hF2 (by simp));have HPD:=Hd (HPD.out.low hF2 (by simp))
     clear hF2 hB2
     go_wp2_with (first | (refine wpList_load_row rfl 93 (.tmp 4) rfl P rfl 93 _ _ _ HB.out Tryz.underlying93 rfl (by kernel_rfl) ?_) | (refine wpList_store_row rfl 93 (.tmp 2) (.tmp 178) rfl W rfl _ _ rfl 93 (HR.out) (by kernel_rfl) rfl (oneCell_pc _ _ _ _ _ _ _ _ _ _ _ ⟨_,_,_,rfl⟩ ⟨_,_,_,rfl⟩ ⟨_,_,_,rfl⟩ ⟨_,_,_,rfl⟩) ?_;intro wE hY hG;have HY:=Hd hY;have HG:=Hd hG;clear hY hG))
     refine bodyPost_ret (results_row_1 rfl _ _ W 93 _ _ rfl HY.out Tryz.underlying93 rfl (by kernel_rfl)) rfl (.inl ⟨_,_,E15.out.trans (parse_nopad HPL.out HK2.out HKN.out (by omega) HPD1.out),rfl,?_,HF.out.step HG.out (fun x hx => by simp at hx;subst hx;exact .inr (by have:=HHW.out;omega))⟩)
     exact PktV.mono (base:=P + 1) (PktV_hdr (l:=l) (k1:=kk) (k2:=kt) HPF.out (by have:=HCS.out;rw [HJN.out] at this;exact this.low HG.out (by simp;omega)) (HEX.out.low HG.out (by simp;omega)) (HPY.out.low HG.out (by simp;omega)) (HPD.out.low HG.out (by simp;omega))) (by have:=HHW.out;omega)
   ·have he2 : (nb l 0 1 / 16 % 2 == 1) = false:=by simpa using he
    have t1 : ((((nb l 0 1 : Nat) : Int) / 16 % 2) == 1) = false:=by have:=beq_eq_false_iff_ne.1 he2;rw [beq_eq_false_iff_ne];omega
    have HPL:=Hd (parseP_long H2.out h12 (by rw [HKN.out];omega) he2)
    have HK2 : Hid (pk2 l false = kk):=Hd (by unfold pk2;rw [if_neg (by simp),HKN.out])
    clear he he2
    have HEX : Hid (OwnB wr (P + 1) (.slice none 0 0) (if false then (l.drop (kk + 4)).take (4 * nb l (kk + 2) 2) else [])):=Hd (World.ownsRow_nil _ _ _ _)
    have HPF : Hid (0 = if false then nb l kk 2 else 0):=Hd rfl
    have hktl : kk ≤ l.length:=by omega
    go_upto_region 29 with (fail)
    by_cases hpd : (nb l 0 1 / 32 % 2 == 1) = true
    ·have t2 : ((((nb l 0 1 : Nat) : Int) / 32 % 2) == 1) = true:=by have:=beq_iff_eq.1 hpd;rw [beq_iff_eq];omega
     have HPD1:=Hd hpd
     clear hpd
     by_cases hemp : kk < l.length
     ·have hempi : (kk : Int) < (l.length : Int):=by omega
      have kl:=HF.out.cellSome (byte_cell HL.out (k:=l.length - 1) (by omega)) (by simp)
      have p1 : (0 : Int) ≤ (l.length : Int) - 1:=by omega
      have p2 : (l.length : Int) - 1 < (l.length : Int):=by omega
      have p3 : ((l.length : Int) - 1).toNat = l.length - 1:=by omega
      have HY0:=Hd (padN_last hemp)
      have hy : nb l (l.length - 1) 1 < 256:=nb_lt l (l.length - 1) 1
      generalize hyy : nb l (l.length - 1) 1 = y at *
      clear hyy
      by_cases hbad : y = 0 ∨ l.length - kk < y
      ·have HBAD:=Hd hbad
       have hb1x : y = 0 ∨ (y ≠ 0 ∧ (l.length : Int) - (kk : Int) < (y : Int)):=by omega
       clear hbad
       unfold pz at HR
       rcases hb1x with rfl | ⟨hy0,hbg⟩
       ·go_wp2_with (refine wpList_store_row rfl 93 (.tmp 2) (.tmp 161) rfl W rfl _ _ rfl 93 (HR.out) (by kernel_rfl) rfl (oneCell_pz) ?_;intro wE hY hG;have HY:=Hd hY;have HG:=Hd hG;clear hY hG)
        refine bodyPost_ret (results_row_1 rfl _ _ W 93 _ _ rfl HY.out Tryz.underlying93 rfl (by kernel_rfl)) rfl (.inr ⟨21,by rw [E15.out,HPL.out,if_neg (by rw [HK2.out];omega),if_pos HPD1.out,if_pos (by rw [HK2.out,HY0.out,List.length_drop];have:=HBAD.out;omega)],rfl,HF.out.step HG.out (fun x hx => by simp at hx;subst hx;exact .inr (by have:=HHW.out;omega))⟩)
       ·have hy0b : (((y : Nat) : Int) == 0) = false:=by simp;omega
        go_wp2_with (refine wpList_store_row rfl 93 (.tmp 2) (.tmp 161) rfl W rfl _ _ rfl 93 (HR.out) (by kernel_rfl) rfl (oneCell_pz) ?_;intro wE hY hG;have HY:=Hd hY;have HG:=Hd hG;clear hY hG)
        refine bodyPost_ret (results_row_1 rfl _ _ W 93 _ _ rfl HY.out Tryz.underlying93 rfl (by kernel_rfl)) rfl (.inr ⟨21,by rw [E15.out,HPL.out,if_neg (by rw [HK2.out];omega),if_pos HPD1.out,if_pos (by rw [HK2.out,HY0.out,List.length_drop];have:=HBAD.out;omega)],rfl,HF.out.step HG.out (fun x hx => by simp at hx;subst hx;exact .inr (by have:=HHW.out;omega))⟩)
      have hy0b : (((y : Nat) : Int) == 0) = false:=by simp;omega
      have hbg : ¬ (l.length : Int) - (kk : Int) < (y : Int):=by omega
      have HBAD:=Hd hbad
      have hyl : y ≤ l.length:=by omega
      have hyk : kk + y ≤ l.length:=by omega
      clear hbad
      have q1 : (0 : Int) ≤ (l.length : Int) - (y : Int):=by omega
      obtain ⟨en,hen⟩ : ∃ en,en = l.length - y:=⟨_,rfl⟩
      have hen1 : en + y = l.length:=by omega
      have HEN:=Hd hen
      have q2 : ((l.length : Int) - (y : Int)).toNat = en:=by omega
      have HEI : Hid ((l.length : Int) - (y : Int) = ((en : Nat) : Int)):=Hd (by omega)
      have q3 : (l.length : Int) - (y : Int) ≤ (l.length : Int):=by omega
      have q4 : l.length - en = y:=by omega
      have HEN1:=Hd hen1
      clear hen hen1
      have q5 : (kk : Int) ≤ (l.length : Int) - (y : Int):=by omega
      have q6 : (l.length : Int) - (y : Int) ≤ (cap : Int):=by omega
      have q7 : kk ≤ en:=by have:=HEN1.out;omega
      obtain ⟨qP,hqP⟩ : ∃ q,(if cap = en then some (⟨b,o,none⟩ : Addr) else some ⟨b,o + en,none⟩) = q:=⟨_,rfl⟩
      have HQP:=Hd hqP
      go_wp2_with fail
      clear hqP
      have hcp:=RCopy_if (Sl.keep HL.out HF.out) en y (by have:=HEN1.out;omega) (by have:=HL15.out;omega)
      rw [HQP.out] at hcp
      refine hcp.mono ?_
      clear hcp
      rintro e wa ⟨vx,rfl,hO,hF⟩
      obtain ⟨aP,nP,cP,rfl⟩:=hO.isSlice
      have HPD:=Hd (hO.mono (show P + 1 ≤ _ by have:=HB.out.lt;omega))
      have HF:=Hd (HF.out.trans hF);have HR:=Hd (HR.out.keep hF);have k0:=hF.cellSome k0 (by simp);have HB:=Hd (HB.out.keep hF);have HCS:=Hd (HCS.out.keep hF);have HEX:=Hd (HEX.out.keep hF)
      clear hF hO HQP
      have hFr:=HB.out.free 10;have hCl:=HB.out.cell 10
      simp only [pc,zz7,zz8,zz9] at hCl
      obtain ⟨ua,eP,hF2,hB2,-⟩:=set_new HB.out 10 (.slice aP nP cP)
      simp only [pc,zz4,zz5,zz6] at hB2
      have HB:=Hd hB2
      go_upto_region 37 with (fail)
      try rw [eP]
      clear hFr hCl eP
      have HF:=Hd (HF.out.step hF2 (fun x hx => by simp at hx;subst hx;exact .inr (by have:=HHW.out;omega)));have HR:=Hd (HR.out.fr hF2 (by simp;omega));have k0:=hF2.cellSome k0 (by simp;omega);have HCS:=Hd (HCS.out.low hF2 (by simp));have HEX:=Hd (HEX.out.low hF2 (by simp));have HPD:=Hd (HPD.out.low hF2 (by simp))
      clear hF2 hB2
      clear q1 q2 q3 q4 q5 q6
      go_upto_region 38 with (fail)
      rw [HEI.out]
      have q5 : (kk : Int) ≤ (en : Int):=by omega
      have q6 : (en : Int) ≤ (cap : Int):=by have:=HEN1.out;omega
      go_wp2_with fail
      have hcp:=RCopy_if (Sl.keep HL.out HF.out) kk (en - kk) (by have:=HEN1.out;omega) (by have:=HL15.out;omega)
      rw [if_neg (by omega)] at hcp
      refine hcp.mono ?_
      clear hcp
      rintro e wb ⟨vx,rfl,hO,hF⟩
      obtain ⟨aL,nL,cL,rfl⟩:=hO.isSlice
      have HPY:=Hd (hO.mono (show P + 1 ≤ _ by have:=HB.out.lt;omega))
      have HF:=Hd (HF.out.trans hF);have HR:=Hd (HR.out.keep hF);have k0:=hF.cellSome k0 (by simp);have HB:=Hd (HB.out.keep hF);have HCS:=Hd (HCS.out.keep hF);have HEX:=Hd (HEX.out.keep hF);have HPD:=Hd (HPD.out.keep hF)
      clear hF hO
      have hFr:=HB.out.free 9;have hCl:=HB.out.cell 9
      simp only [pc,zz7,zz8,zz9] at hCl
      obtain ⟨ub,eL,hF2,hB2,-⟩:=set_new HB.out 9 (.slice aL nL cL)
      simp only [pc,zz4,zz5,zz6] at hB2
      have HB:=Hd hB2
      go_upto_region 39 with (fail)
      try rw [eL]
      clear hFr hCl eL
      have HF:=Hd (HF.out.step hF2 (fun x hx => by simp at hx;subst hx;exact .inr (by have:=HHW.out;omega)));have HR:=Hd (HR.out.fr hF2 (by simp;omega));have k0:=hF2.cellSome k0 (by simp;omega);have HCS:=Hd (HCS.out.low hF2 (by simp));have HEX:=Hd (HEX.out.low hF2 (by simp));have HPY:=Hd (HPY.out.low hF2 (by simp));have HPD:=Hd (HPD.out.low hF2 (by simp))
      clear hF2 hB2
      go_wp2_with (first | (refine wpList_load_row rfl 93 (.tmp 4) rfl P rfl 93 _ _ _ HB.out Tryz.underlying93 rfl (by kernel_rfl) ?_) | (refine wpList_store_row rfl 93 (.tmp 2) (.tmp 178) rfl W rfl _ _ rfl 93 (HR.out) (by kernel_rfl) rfl (oneCell_pc _ _ _ _ _ _ _ _ _ _ _ ⟨_,_,_,rfl⟩ ⟨_,_,_,rfl⟩ ⟨_,_,_,rfl⟩ ⟨_,_,_,rfl⟩) ?_;intro wE hY hG;have HY:=Hd hY;have HG:=Hd hG;clear hY hG))
      refine bodyPost_ret (results_row_1 rfl _ _ W 93 _ _ rfl HY.out Tryz.underlying93 rfl (by kernel_rfl)) rfl (.inl ⟨_,_,E15.out.trans (parse_pad HPL.out HK2.out HKN.out (by omega) HPD1.out HY0.out HBAD.out HEN.out),rfl,?_,HF.out.step HG.out (fun x hx => by simp at hx;subst hx;exact .inr (by have:=HHW.out;omega))⟩)
      exact PktV.mono (base:=P + 1) (PktV_hdr (l:=l) (k1:=kk) (k2:=kk) HPF.out (by have:=HCS.out;rw [HJN.out] at this;exact this.low HG.out (by simp;omega)) (HEX.out.low HG.out (by simp;omega)) (HPY.out.low HG.out (by simp;omega)) (HPD.out.low HG.out (by simp;omega))) (by have:=HHW.out;omega)
     ·have hempi : ¬ (kk : Int) < (l.length : Int):=by omega
      unfold pz at HR
      go_wp2_with (refine wpList_store_row rfl 93 (.tmp 2) (.tmp 161) rfl W rfl _ _ rfl 93 (HR.out) (by kernel_rfl) rfl (oneCell_pz) ?_;intro wE hY hG;have HY:=Hd hY;have HG:=Hd hG;clear hY hG)
      refine bodyPost_ret (results_row_1 rfl _ _ W 93 _ _ rfl HY.out Tryz.underlying93 rfl (by kernel_rfl)) rfl (.inr ⟨21,by rw [E15.out,HPL.out,if_neg (by rw [HK2.out];omega),if_pos HPD1.out,if_pos (.inl (by rw [HK2.out];exact padN_none (by omega)))],rfl,HF.out.step HG.out (fun x hx => by simp at hx;subst hx;exact .inr (by have:=HHW.out;omega))⟩)
    ·have hpd2 : (nb l 0 1 / 32 % 2 == 1) = false:=by simpa using hpd
     have t2 : ((((nb l 0 1 : Nat) : Int) / 32 % 2) == 1) = false:=by have:=beq_eq_false_iff_ne.1 hpd2;rw [beq_eq_false_iff_ne];omega
     have HPD1:=Hd hpd
     clear hpd hpd2
     have q5 : (kk : Int) ≤ (l.length : Int):=by omega
     have HPD : Hid (OwnB wr (P + 1) (.slice none 0 0) []):=Hd (World.ownsRow_nil _ _ _ _)
     obtain ⟨qL,hqL⟩ : ∃ q,(if cap = kk then some (⟨b,o,none⟩ : Addr) else some ⟨b,o + kk,none⟩) = q:=⟨_,rfl⟩
     have HQL:=Hd hqL
     go_wp2_with fail
     clear hqL
     have hcp:=RCopy_if (Sl.keep HL.out HF.out) kk (l.length - kk) (by omega) (by have:=HL15.out;omega)
     rw [HQL.out] at hcp
     refine hcp.mono ?_
     clear hcp
     rintro e wb ⟨vx,rfl,hO,hF⟩
     obtain ⟨aL,nL,cL,rfl⟩:=hO.isSlice
     have HPY:=Hd (hO.mono (show P + 1 ≤ _ by have:=HB.out.lt;omega))
     have HF:=Hd (HF.out.trans hF);have HR:=Hd (HR.out.keep hF);have k0:=hF.cellSome k0 (by simp);have HB:=Hd (HB.out.keep hF);have HCS:=Hd (HCS.out.keep hF);have HEX:=Hd (HEX.out.keep hF);have HPD:=Hd (HPD.out.keep hF)
     clear hF hO HQL
     have hFr:=HB.out.free 9;have hCl:=HB.out.cell 9
     simp only [pc,zz7,zz8,zz9] at hCl
     obtain ⟨ub,eL,hF2,hB2,-⟩:=set_new HB.out 9 (.slice aL nL cL)
     simp only [pc,zz4,zz5,zz6] at hB2
     have HB:=Hd hB2
     go_upto_region 39 with (fail)
     try rw [eL]
     clear hFr hCl eL
     have HF:=Hd (HF.out.step hF2 (fun x hx => by simp at hx;subst hx;exact .inr (by have:=HHW.out;omega)));have HR:=Hd (HR.out.fr hF2 (by simp;omega));have k0:=hF2.cellSome k0 (by simp;omega);have HCS:=Hd (HCS.out.low hF2 (by simp));have HEX:=Hd (HEX.out.low hF2 (by simp));have HPY:=Hd (HPY.out.low hF2 (by simp));have HPD:=Hd (HPD.out.low hF2 (by simp))
     clear hF2 hB2
     go_wp2_with (first | (refine wpList_load_row rfl 93 (.tmp 4) rfl P rfl 93 _ _ _ HB.out Tryz.underlying93 rfl (by kernel_rfl) ?_) | (refine wpList_store_row rfl 93 (.tmp 2) (.tmp 178) rfl W rfl _ _ rfl 93 (HR.out) (by kernel_rfl) rfl (oneCell_pc _ _ _ _ _ _ _ _ _ _ _ ⟨_,_,_,rfl⟩ ⟨_,_,_,rfl⟩ ⟨_,_,_,rfl⟩ ⟨_,_,_,rfl⟩) ?_;intro wE hY hG;have HY:=Hd hY;have HG:=Hd hG;clear hY hG))
     refine bodyPost_ret (results_row_1 rfl _ _ W 93 _ _ rfl HY.out Tryz.underlying93 rfl (by kernel_rfl)) rfl (.inl ⟨_,_,E15.out.trans (parse_nopad HPL.out HK2.out HKN.out (by omega) HPD1.out),rfl,?_,HF.out.step HG.out (fun x hx => by simp at hx;subst hx;exact .inr (by have:=HHW.out;omega))⟩)
     exact PktV.mono (base:=P + 1) (PktV_hdr (l:=l) (k1:=kk) (k2:=kk) HPF.out (by have:=HCS.out;rw [HJN.out] at this;exact this.low HG.out (by simp;omega)) (HEX.out.low HG.out (by simp;omega)) (HPY.out.low HG.out (by simp;omega)) (HPD.out.low HG.out (by simp;omega))) (by have:=HHW.out;omega)
end Go.Proofs.YtcngfbjmpemehaaGreat

/- The walk of rtp.Clone (printed by gen_clone.py). -/
namespace Go.Proofs.YtcngfbjmpemehaaGreat
open Go.RowKit

end Go.Proofs.YtcngfbjmpemehaaGreat

/- A law's arguments,opened: a slice of numbers,a packet. -/
namespace Go.Proofs.YtcngfbjmpemehaaGreat
open Go.RowKit Go.ChangeShapes Go.WideShapes

section
variable {H : Type} {enc : TypeId × Value → H} {w : World} {base b0 : Nat}

theorem wf_u8 {n : Int} (h : (Lit.int .u8 n).wf = true) : 0 ≤ n ∧ n < 256:=by
 simp [Lit.wf,IntKind.min,IntKind.max,IntKind.signed,IntKind.bits] at h;omega
theorem wf_u16 {n : Int} (h : (Lit.int .u16 n).wf = true) : 0 ≤ n ∧ n < 65536:=by
 simp [Lit.wf,IntKind.min,IntKind.max,IntKind.signed,IntKind.bits] at h;omega
theorem wf_u32 {n : Int} (h : (Lit.int .u32 n).wf = true) : 0 ≤ n ∧ n < 4294967296:=by
 simp [Lit.wf,IntKind.min,IntKind.max,IntKind.signed,IntKind.bits] at h;omega

end
end Go.Proofs.YtcngfbjmpemehaaGreat
