import Derived.Test.YtcngfbjmpemehaaGreatMp25
import Derived.Test.YtcngfbjmpemehaaGreatMp5
import Derived.Test.YtcngfbjmpemehaaGreatMp24
import Derived.Test.YtcngfbjmpemehaaGreatMp12
import Derived.Test.YtcngfbjmpemehaaGreatMp15
import Derived.Test.YtcngfbjmpemehaaGreatMp19
set_option maxRecDepth 100000
set_option maxHeartbeats 16000000
open List renaming getElem_toArray → zz1, getElem_cons_zero → zz2, getElem_cons_succ → zz3, setIfInBounds_toArray → zz4, set_cons_zero → zz5, set_cons_succ → zz6, getElem?_toArray → zz7, getElem?_cons_succ → zz8, getElem?_cons_zero → zz9
open Go.Lib renaming hid → Hd
/- The walk of confluxref12.Packet,and where its bytes lie (printed by make_own.py from XImp6). -/
namespace Go.Proofs.YtcngfbjmpemehaaGreat
open Go.RowKit

theorem r12Packet_own {w : World} {v : Value} {x : Bt} (h : RBV w v x.head x.body) (hl : x.body.length ≤ 1099511627776) (s : UInt16) (t : UInt32) :
  Calls Tryz.prog 93 #[v,.int .u16 (s.toNat : Nat),.int .u32 (t.toNat : Nat)] w fun e w' =>
   (∃ l v',x.pack s t = .ok l ∧ e = .returned (.tuple #[v',.int .i64 0]) ∧ Bytes w' v' l ∧ (∀ y,liveOf v' = some y → w.heap.size ≤ y) ∧ Fr [] w w') ∨
   (x.pack s t = .error 42 ∧ e = .returned (.tuple #[.slice none 0 0,.int .i64 42]) ∧ Fr [] w w'):=by
 obtain ⟨a0,ch,a,c,rfl,gh,gb⟩:=h.open_
 have hcap:=(Sl.len gb).2.1
 obtain ⟨bh,oh,ea,hbl,-⟩:=gh.at_ (k:=0) (by rw [x.head_len];omega)
 subst ea
 have hch:=(Sl.len gh).2.1
 rw [x.head_len] at gh hch ⊢
 obtain ⟨w1,e1,hF1,hB1,hs1⟩:=one_new w #[.slice (some ⟨bh,oh,none⟩) 8 ch,.slice a x.body.length c] 105
 have HF:=Hd hF1;have GH:=Hd (Sl.keep gh hF1);have GB:=Hd (Sl.keep gb hF1)
 have hlen:=x.len_lt
 have hsl : s.toNat < 65536:=s.toNat_lt;have htl : t.toNat < 4294967296:=t.toNat_lt
 have q0:=Bytes.cell GH.out 0 (by rw [x.head_len];omega);have q1:=Bytes.cell GH.out 1 (by rw [x.head_len];omega);have q6:=Bytes.cell GH.out 6 (by rw [x.head_len];omega);have q7:=Bytes.cell GH.out 7 (by rw [x.head_len];omega)
 have HL : Hid (x.h6.toNat * 256 + x.h7.toNat = x.len):=Hd rfl
 have hl0 : x.h0.toNat < 256:=x.h0.toNat_lt;have hl1 : x.h1.toNat < 256:=x.h1.toNat_lt;have hl6 : x.h6.toNat < 256:=x.h6.toNat_lt;have hl7 : x.h7.toNat < 256:=x.h7.toNat_lt
 have HBH : Hid ([UInt8.ofNat (128 + x.h0.toNat % 64),UInt8.ofNat x.h1.toNat] = [128 ||| (x.h0 &&& 63),x.h1]):=Hd (by rw [and63_sum,UInt8.ofNat_toNat])
 obtain ⟨b0,hb0⟩ : ∃ n,x.h0.toNat = n:=⟨_,rfl⟩
 obtain ⟨b1,hb1⟩ : ∃ n,x.h1.toNat = n:=⟨_,rfl⟩
 obtain ⟨b6,hb6⟩ : ∃ n,x.h6.toNat = n:=⟨_,rfl⟩
 obtain ⟨b7,hb7⟩ : ∃ n,x.h7.toNat = n:=⟨_,rfl⟩
 change _ = some (Value.int .u8 (x.h0.toNat : Nat)) at q0
 change _ = some (Value.int .u8 (x.h1.toNat : Nat)) at q1
 change _ = some (Value.int .u8 (x.h6.toNat : Nat)) at q6
 change _ = some (Value.int .u8 (x.h7.toNat : Nat)) at q7
 rw [hb0] at q0 hl0 HBH
 rw [hb1] at q1 hl1 HBH
 rw [hb6] at q6 hl6 HL
 rw [hb7] at q7 hl7 HL
 have HSS : Hid (Box w1 w.heap.size 105 #[.slice (some ⟨bh,oh,none⟩) 8 ch,.slice a x.body.length c] ∧ w1.cell? ⟨bh,oh + 0,none⟩ = some (.int .u8 (b0 : Nat)) ∧ w1.cell? ⟨bh,oh + 1,none⟩ = some (.int .u8 (b1 : Nat)) ∧ w1.cell? ⟨bh,oh + 6,none⟩ = some (.int .u8 (b6 : Nat)) ∧ w1.cell? ⟨bh,oh + 7,none⟩ = some (.int .u8 (b7 : Nat))):=Hd ⟨hB1,q0,q1,q6,q7⟩
 have E1:=Hd e1
 have hw6 : IntKind.i64.wrap (b6 : Int) = b6:=IntWalk.i64_in _ (by omega)
 have hw7 : IntKind.i64.wrap (b7 : Int) = b7:=IntWalk.i64_in _ (by omega)
 have hwd1 : IntKind.u64.wrap ((s.toNat : Nat) : Int) = (s.toNat : Nat):=IntWalk.u64_in _ (by omega)
 have hwd2 : IntKind.u64.wrap ((t.toNat : Nat) : Int) = (t.toNat : Nat):=IntWalk.u64_in _ (by omega)
 have hmul : IntKind.i64.wrap (256 * (b6 : Int)) = 256 * (b6 : Int):=IntWalk.i64_in _ (by omega)
 have hadd : IntKind.i64.wrap (256 * (b6 : Int) + (b7 : Int)) = 256 * (b6 : Int) + (b7 : Int):=IntWalk.i64_in _ (by omega)
 have h8 : (6 : Int) < 8:=by omega
 clear h gh gb hF1 hB1 e1 q0 q1 q6 q7 hb0 hb1 hb6 hb7
 go_enter Tryz.func93,Tryz.ntmps93
 go_upto_region 1 with (fail)
 rw [E1.out]
 clear E1
 refine wp_region_T (fun w' => Box w' w.heap.size 105 #[.slice (some ⟨bh,oh,none⟩) 8 ch,.slice a x.body.length c] ∧ w'.cell? ⟨bh,oh + 0,none⟩ = some (.int .u8 (b0 : Nat)) ∧ w'.cell? ⟨bh,oh + 1,none⟩ = some (.int .u8 (b1 : Nat)) ∧ w'.cell? ⟨bh,oh + 6,none⟩ = some (.int .u8 (b6 : Nat)) ∧ w'.cell? ⟨bh,oh + 7,none⟩ = some (.int .u8 (b7 : Nat))) [] 13 #[false,false,false,false,false,false,false,false,false,false,false,false,false] (by kernel_rfl) rfl rfl ?_
 have hF:=(Fr.refl [] w1).drew
 have HSS : Hid (Box w1.drew w.heap.size 105 #[.slice (some ⟨bh,oh,none⟩) 8 ch,.slice a x.body.length c] ∧ w1.drew.cell? ⟨bh,oh + 0,none⟩ = some (.int .u8 (b0 : Nat)) ∧ w1.drew.cell? ⟨bh,oh + 1,none⟩ = some (.int .u8 (b1 : Nat)) ∧ w1.drew.cell? ⟨bh,oh + 6,none⟩ = some (.int .u8 (b6 : Nat)) ∧ w1.drew.cell? ⟨bh,oh + 7,none⟩ = some (.int .u8 (b7 : Nat))):=Hd (by have h:=HSS.out;exact ⟨h.1.keep hF,hF.cellSome h.2.1 (by simp),hF.cellSome h.2.2.1 (by simp),hF.cellSome h.2.2.2.1 (by simp),hF.cellSome h.2.2.2.2 (by simp)⟩);have HF:=Hd (HF.out.trans hF);have GH:=Hd (Sl.keep GH.out hF);have GB:=Hd (Sl.keep GB.out hF)
 clear hF
 generalize w1.drew = wd at *
 refine wL 0 ?_ rfl (by kernel_rfl) (fun _ _ _ h => h) HSS.out (by rfl) ?_ ?_
 rotate_left
 ·intro w hSw;obtain ⟨hbx,z0,z1,z6,z7⟩:=hSw;rw [Nat.add_zero] at z0;have y0:=hbx.cell 0;have y1:=hbx.cell 1;simp only [zz7,zz8,zz9] at y0 y1;go_simp;try with_reducible rfl
 simp only [Act.put,zz1,zz2,zz3,zz4,zz5,zz6]
 refine wL 1 ?_ rfl (by kernel_rfl) (fun _ _ _ h => h) HSS.out (by rfl) ?_ ?_
 rotate_left
 ·intro w hSw;obtain ⟨hbx,z0,z1,z6,z7⟩:=hSw;rw [Nat.add_zero] at z0;have y0:=hbx.cell 0;have y1:=hbx.cell 1;simp only [zz7,zz8,zz9] at y0 y1;go_simp;try with_reducible rfl
 simp only [Act.put,zz1,zz2,zz3,zz4,zz5,zz6]
 refine wL 2 ?_ rfl (by kernel_rfl) (fun _ _ _ h => h) HSS.out (by rfl) ?_ ?_
 rotate_left
 ·intro w hSw;obtain ⟨hbx,z0,z1,z6,z7⟩:=hSw;rw [Nat.add_zero] at z0;have y0:=hbx.cell 0;have y1:=hbx.cell 1;simp only [zz7,zz8,zz9] at y0 y1;go_simp;try with_reducible rfl
 simp only [Act.put,zz1,zz2,zz3,zz4,zz5,zz6]
 refine wL 3 ?_ rfl (by kernel_rfl) (fun _ _ _ h => h) HSS.out (by rfl) ?_ ?_
 rotate_left
 ·intro w hSw;obtain ⟨hbx,z0,z1,z6,z7⟩:=hSw;rw [Nat.add_zero] at z0;have y0:=hbx.cell 0;have y1:=hbx.cell 1;simp only [zz7,zz8,zz9] at y0 y1;go_simp;try with_reducible rfl
 simp only [Act.put,zz1,zz2,zz3,zz4,zz5,zz6]
 refine wL 4 ?_ rfl (by kernel_rfl) (fun _ _ _ h => h) HSS.out (by rfl) ?_ ?_
 rotate_left
 ·intro w hSw;obtain ⟨hbx,z0,z1,z6,z7⟩:=hSw;rw [Nat.add_zero] at z0;have y0:=hbx.cell 0;have y1:=hbx.cell 1;simp only [zz7,zz8,zz9] at y0 y1;go_simp;try with_reducible rfl
 simp only [Act.put,zz1,zz2,zz3,zz4,zz5,zz6]
 refine wL 5 ?_ rfl (by kernel_rfl) (fun _ _ _ h => h) HSS.out (by rfl) ?_ ?_
 rotate_left
 ·intro w hSw;obtain ⟨hbx,z0,z1,z6,z7⟩:=hSw;rw [Nat.add_zero] at z0;have y0:=hbx.cell 0;have y1:=hbx.cell 1;simp only [zz7,zz8,zz9] at y0 y1;go_simp;try with_reducible rfl
 simp only [Act.put,zz1,zz2,zz3,zz4,zz5,zz6]
 refine wL 6 ?_ rfl (by kernel_rfl) (fun _ _ _ h => h) HSS.out (by rfl) ?_ ?_
 rotate_left
 ·intro w hSw;obtain ⟨hbx,z0,z1,z6,z7⟩:=hSw;rw [Nat.add_zero] at z0;have y0:=hbx.cell 0;have y1:=hbx.cell 1;simp only [zz7,zz8,zz9] at y0 y1;go_simp;try with_reducible rfl
 simp only [Act.put,zz1,zz2,zz3,zz4,zz5,zz6]
 refine wL 7 ?_ rfl (by kernel_rfl) (fun _ _ _ h => h) HSS.out (by rfl) ?_ ?_
 rotate_left
 ·intro w hSw;obtain ⟨hbx,z0,z1,z6,z7⟩:=hSw;rw [Nat.add_zero] at z0;have y0:=hbx.cell 0;have y1:=hbx.cell 1;simp only [zz7,zz8,zz9] at y0 y1;go_simp;try with_reducible rfl
 simp only [Act.put,zz1,zz2,zz3,zz4,zz5,zz6]
 refine wL 8 ?_ rfl (by kernel_rfl) (fun _ _ _ h => h) HSS.out (by rfl) ?_ ?_
 rotate_left
 ·intro w hSw;obtain ⟨hbx,z0,z1,z6,z7⟩:=hSw;rw [Nat.add_zero] at z0;have y0:=hbx.cell 0;have y1:=hbx.cell 1;simp only [zz7,zz8,zz9] at y0 y1;go_simp;try with_reducible rfl
 simp only [Act.put,zz1,zz2,zz3,zz4,zz5,zz6]
 refine wL 9 ?_ rfl (by kernel_rfl) (fun _ _ _ h => h) HSS.out (by rfl) ?_ ?_
 rotate_left
 ·intro w hSw;obtain ⟨hbx,z0,z1,z6,z7⟩:=hSw;rw [Nat.add_zero] at z0;have y0:=hbx.cell 0;have y1:=hbx.cell 1;simp only [zz7,zz8,zz9] at y0 y1;go_simp;try with_reducible rfl
 simp only [Act.put,zz1,zz2,zz3,zz4,zz5,zz6]
 refine wL 10 ?_ rfl (by kernel_rfl) (fun _ _ _ h => h) HSS.out (by rfl) ?_ ?_
 rotate_left
 ·intro w hSw;obtain ⟨hbx,z0,z1,z6,z7⟩:=hSw;rw [Nat.add_zero] at z0;have y0:=hbx.cell 0;have y1:=hbx.cell 1;simp only [zz7,zz8,zz9] at y0 y1;go_simp;try with_reducible rfl
 simp only [Act.put,zz1,zz2,zz3,zz4,zz5,zz6]
 refine wL 11 ?_ rfl (by kernel_rfl) (fun _ _ _ h => h) HSS.out (by rfl) ?_ ?_
 rotate_left
 ·intro w hSw;obtain ⟨hbx,z0,z1,z6,z7⟩:=hSw;rw [Nat.add_zero] at z0;have y0:=hbx.cell 0;have y1:=hbx.cell 1;simp only [zz7,zz8,zz9] at y0 y1;go_simp;try with_reducible rfl
 simp only [Act.put,zz1,zz2,zz3,zz4,zz5,zz6]
 refine wL 12 ?_ rfl (by kernel_rfl) (fun _ _ _ h => h) HSS.out (by rfl) ?_ ?_
 rotate_left
 ·intro w hSw;obtain ⟨hbx,z0,z1,z6,z7⟩:=hSw;rw [Nat.add_zero] at z0;have y0:=hbx.cell 0;have y1:=hbx.cell 1;simp only [zz7,zz8,zz9] at y0 y1;go_simp;try with_reducible rfl
 simp only [Act.put,zz1,zz2,zz3,zz4,zz5,zz6]
 refine wpAnyT_done (by kernel_rfl) ?_ _
 go_upto_region 2 with (fail)
 rw [show (256 * (b6 : Int) + (b7 : Int)) = ((x.len : Nat) : Int) by rw [← HL.out];omega]
 have y0:=HSS.out.1.cell 0;have y1:=HSS.out.1.cell 1
 simp only [zz7,zz8,zz9] at y0 y1
 clear hmul hadd h8
 by_cases c1 : x.body.length < x.len
 ·go_wp2_with fail
  go_ret2
  exact .inr ⟨by unfold Bt.pack;rw [if_pos (by omega)],rfl,HF.out⟩
 by_cases c2 : 1488 < x.len
 ·go_wp2_with fail
  go_ret2
  exact .inr ⟨by unfold Bt.pack;rw [if_pos (by omega)],rfl,HF.out⟩
 have c3 : ¬ (x.body.length < x.len ∨ 1488 < x.len):=by omega
 have hpk : x.pack s t = match parseR (x.out s t) with | .ok _ => .ok (x.out s t) | .error _ => .error 42:=by unfold Bt.pack;rw [if_neg c3];rfl
 have HPK:=Hd hpk
 clear hpk c3
 go_upto_region 4 with (fail)
 clear y0 y1
 refine wp_region_T (fun w' => Box w' w.heap.size 105 #[.slice (some ⟨bh,oh,none⟩) 8 ch,.slice a x.body.length c] ∧ w'.cell? ⟨bh,oh + 0,none⟩ = some (.int .u8 (b0 : Nat)) ∧ w'.cell? ⟨bh,oh + 1,none⟩ = some (.int .u8 (b1 : Nat)) ∧ w'.cell? ⟨bh,oh + 6,none⟩ = some (.int .u8 (b6 : Nat)) ∧ w'.cell? ⟨bh,oh + 7,none⟩ = some (.int .u8 (b7 : Nat))) [] 27 #[false,false,false,false,false,false,false,false,false,false,false,false,false,false,false,false,false,false,false,false,false,false,false,false,false,false,false] (by kernel_rfl) rfl rfl ?_
 have hF:=(Fr.refl [] wd).drew
 have HSS : Hid (Box wd.drew w.heap.size 105 #[.slice (some ⟨bh,oh,none⟩) 8 ch,.slice a x.body.length c] ∧ wd.drew.cell? ⟨bh,oh + 0,none⟩ = some (.int .u8 (b0 : Nat)) ∧ wd.drew.cell? ⟨bh,oh + 1,none⟩ = some (.int .u8 (b1 : Nat)) ∧ wd.drew.cell? ⟨bh,oh + 6,none⟩ = some (.int .u8 (b6 : Nat)) ∧ wd.drew.cell? ⟨bh,oh + 7,none⟩ = some (.int .u8 (b7 : Nat))):=Hd (by have h:=HSS.out;exact ⟨h.1.keep hF,hF.cellSome h.2.1 (by simp),hF.cellSome h.2.2.1 (by simp),hF.cellSome h.2.2.2.1 (by simp),hF.cellSome h.2.2.2.2 (by simp)⟩);have HF:=Hd (HF.out.trans hF);have GH:=Hd (Sl.keep GH.out hF);have GB:=Hd (Sl.keep GB.out hF)
 clear hF
 generalize wd.drew = we at *
 have hc2i : ((x.len : Nat) : Int) ≤ (c : Nat):=by omega
 have hchi : (6 : Int) ≤ (ch : Nat):=by omega
 have hch2 : ¬ ch = 2:=by omega
 have hm0 : (b0 : Int).tmod 64 = (b0 : Int) % 64:=Int.tmod_eq_emod_of_nonneg (by omega)
 have hm1 : IntKind.u8.wrap (128 + (b0 : Int) % 64) = 128 + (b0 : Int) % 64:=by rw [IntKind.wrap_u8];omega
 refine wL 0 ?_ rfl (by kernel_rfl) (fun _ _ _ h => h) HSS.out (by rfl) ?_ ?_
 rotate_left
 ·intro w hSw;obtain ⟨hbx,z0,z1,z6,z7⟩:=hSw;rw [Nat.add_zero] at z0;have y0:=hbx.cell 0;have y1:=hbx.cell 1;simp only [zz7,zz8,zz9] at y0 y1;go_simp;try with_reducible rfl
 simp only [Act.put,zz1,zz2,zz3,zz4,zz5,zz6]
 refine wL 1 ?_ rfl (by kernel_rfl) (fun _ _ _ h => h) HSS.out (by rfl) ?_ ?_
 rotate_left
 ·intro w hSw;obtain ⟨hbx,z0,z1,z6,z7⟩:=hSw;rw [Nat.add_zero] at z0;have y0:=hbx.cell 0;have y1:=hbx.cell 1;simp only [zz7,zz8,zz9] at y0 y1;go_simp;try with_reducible rfl
 simp only [Act.put,zz1,zz2,zz3,zz4,zz5,zz6]
 refine wL 2 ?_ rfl (by kernel_rfl) (fun _ _ _ h => h) HSS.out (by rfl) ?_ ?_
 rotate_left
 ·intro w hSw;obtain ⟨hbx,z0,z1,z6,z7⟩:=hSw;rw [Nat.add_zero] at z0;have y0:=hbx.cell 0;have y1:=hbx.cell 1;simp only [zz7,zz8,zz9] at y0 y1;go_simp;try with_reducible rfl
 simp only [Act.put,zz1,zz2,zz3,zz4,zz5,zz6]
 refine wL 3 ?_ rfl (by kernel_rfl) (fun _ _ _ h => h) HSS.out (by rfl) ?_ ?_
 rotate_left
 ·intro w hSw;obtain ⟨hbx,z0,z1,z6,z7⟩:=hSw;rw [Nat.add_zero] at z0;have y0:=hbx.cell 0;have y1:=hbx.cell 1;simp only [zz7,zz8,zz9] at y0 y1;go_simp;try with_reducible rfl
 simp only [Act.put,zz1,zz2,zz3,zz4,zz5,zz6]
 refine wL 4 ?_ rfl (by kernel_rfl) (fun _ _ _ h => h) HSS.out (by rfl) ?_ ?_
 rotate_left
 ·intro w hSw;obtain ⟨hbx,z0,z1,z6,z7⟩:=hSw;rw [Nat.add_zero] at z0;have y0:=hbx.cell 0;have y1:=hbx.cell 1;simp only [zz7,zz8,zz9] at y0 y1;go_simp;try with_reducible rfl
 simp only [Act.put,zz1,zz2,zz3,zz4,zz5,zz6]
 refine wL 5 ?_ rfl (by kernel_rfl) (fun _ _ _ h => h) HSS.out (by rfl) ?_ ?_
 rotate_left
 ·intro w hSw;obtain ⟨hbx,z0,z1,z6,z7⟩:=hSw;rw [Nat.add_zero] at z0;have y0:=hbx.cell 0;have y1:=hbx.cell 1;simp only [zz7,zz8,zz9] at y0 y1;go_simp;try with_reducible rfl
 simp only [Act.put,zz1,zz2,zz3,zz4,zz5,zz6]
 refine wL 6 ?_ rfl (by kernel_rfl) (fun _ _ _ h => h) HSS.out (by rfl) ?_ ?_
 rotate_left
 ·intro w hSw;obtain ⟨hbx,z0,z1,z6,z7⟩:=hSw;rw [Nat.add_zero] at z0;have y0:=hbx.cell 0;have y1:=hbx.cell 1;simp only [zz7,zz8,zz9] at y0 y1;go_simp;try with_reducible rfl
 simp only [Act.put,zz1,zz2,zz3,zz4,zz5,zz6]
 refine wL 7 ?_ rfl (by kernel_rfl) (fun _ _ _ h => h) HSS.out (by rfl) ?_ ?_
 rotate_left
 ·intro w hSw;obtain ⟨hbx,z0,z1,z6,z7⟩:=hSw;rw [Nat.add_zero] at z0;have y0:=hbx.cell 0;have y1:=hbx.cell 1;simp only [zz7,zz8,zz9] at y0 y1;go_simp;try with_reducible rfl
 simp only [Act.put,zz1,zz2,zz3,zz4,zz5,zz6]
 refine wL 8 ?_ rfl (by kernel_rfl) (fun _ _ _ h => h) HSS.out (by rfl) ?_ ?_
 rotate_left
 ·intro w hSw;obtain ⟨hbx,z0,z1,z6,z7⟩:=hSw;rw [Nat.add_zero] at z0;have y0:=hbx.cell 0;have y1:=hbx.cell 1;simp only [zz7,zz8,zz9] at y0 y1;go_simp;try with_reducible rfl
 simp only [Act.put,zz1,zz2,zz3,zz4,zz5,zz6]
 refine wL 9 ?_ rfl (by kernel_rfl) (fun _ _ _ h => h) HSS.out (by rfl) ?_ ?_
 rotate_left
 ·intro w hSw;obtain ⟨hbx,z0,z1,z6,z7⟩:=hSw;rw [Nat.add_zero] at z0;have y0:=hbx.cell 0;have y1:=hbx.cell 1;simp only [zz7,zz8,zz9] at y0 y1;go_simp;try with_reducible rfl
 simp only [Act.put,zz1,zz2,zz3,zz4,zz5,zz6]
 refine wL 11 ?_ rfl (by kernel_rfl) (fun _ _ _ h => h) HSS.out (by rfl) ?_ ?_
 rotate_left
 ·intro w hSw;obtain ⟨hbx,z0,z1,z6,z7⟩:=hSw;rw [Nat.add_zero] at z0;have y0:=hbx.cell 0;have y1:=hbx.cell 1;simp only [zz7,zz8,zz9] at y0 y1;go_simp;try with_reducible rfl
 simp only [Act.put,zz1,zz2,zz3,zz4,zz5,zz6]
 refine wL 12 ?_ rfl (by kernel_rfl) (fun _ _ _ h => h) HSS.out (by rfl) ?_ ?_
 rotate_left
 ·intro w hSw;obtain ⟨hbx,z0,z1,z6,z7⟩:=hSw;rw [Nat.add_zero] at z0;have y0:=hbx.cell 0;have y1:=hbx.cell 1;simp only [zz7,zz8,zz9] at y0 y1;go_simp;try with_reducible rfl
 simp only [Act.put,zz1,zz2,zz3,zz4,zz5,zz6]
 refine wL 14 ?_ rfl (by kernel_rfl) (fun _ _ _ h => h) HSS.out (by rfl) ?_ ?_
 rotate_left
 ·intro w hSw;obtain ⟨hbx,z0,z1,z6,z7⟩:=hSw;rw [Nat.add_zero] at z0;have y0:=hbx.cell 0;have y1:=hbx.cell 1;simp only [zz7,zz8,zz9] at y0 y1;go_simp;try with_reducible rfl
 simp only [Act.put,zz1,zz2,zz3,zz4,zz5,zz6]
 refine wL 15 ?_ rfl (by kernel_rfl) (fun _ _ _ h => h) HSS.out (by rfl) ?_ ?_
 rotate_left
 ·intro w hSw;obtain ⟨hbx,z0,z1,z6,z7⟩:=hSw;rw [Nat.add_zero] at z0;have y0:=hbx.cell 0;have y1:=hbx.cell 1;simp only [zz7,zz8,zz9] at y0 y1;go_simp;try with_reducible rfl
 simp only [Act.put,zz1,zz2,zz3,zz4,zz5,zz6]
 refine wL 16 ?_ rfl (by kernel_rfl) (fun _ _ _ h => h) HSS.out (by rfl) ?_ ?_
 rotate_left
 ·intro w hSw;obtain ⟨hbx,z0,z1,z6,z7⟩:=hSw;rw [Nat.add_zero] at z0;have y0:=hbx.cell 0;have y1:=hbx.cell 1;simp only [zz7,zz8,zz9] at y0 y1;go_simp;try with_reducible rfl
 simp only [Act.put,zz1,zz2,zz3,zz4,zz5,zz6]
 refine wL 17 ?_ rfl (by kernel_rfl) (fun _ _ _ h => h) HSS.out (by rfl) ?_ ?_
 rotate_left
 ·intro w hSw;obtain ⟨hbx,z0,z1,z6,z7⟩:=hSw;rw [Nat.add_zero] at z0;have y0:=hbx.cell 0;have y1:=hbx.cell 1;simp only [zz7,zz8,zz9] at y0 y1;go_simp;try with_reducible rfl
 simp only [Act.put,zz1,zz2,zz3,zz4,zz5,zz6]
 refine wL 18 ?_ rfl (by kernel_rfl) (fun _ _ _ h => h) HSS.out (by rfl) ?_ ?_
 rotate_left
 ·intro w hSw;obtain ⟨hbx,z0,z1,z6,z7⟩:=hSw;rw [Nat.add_zero] at z0;have y0:=hbx.cell 0;have y1:=hbx.cell 1;simp only [zz7,zz8,zz9] at y0 y1;go_simp;try with_reducible rfl
 simp only [Act.put,zz1,zz2,zz3,zz4,zz5,zz6]
 refine wL 20 ?_ rfl (by kernel_rfl) (fun _ _ _ h => h) HSS.out (by rfl) ?_ ?_
 rotate_left
 ·intro w hSw;obtain ⟨hbx,z0,z1,z6,z7⟩:=hSw;rw [Nat.add_zero] at z0;have y0:=hbx.cell 0;have y1:=hbx.cell 1;simp only [zz7,zz8,zz9] at y0 y1;go_simp;try with_reducible rfl
 simp only [Act.put,zz1,zz2,zz3,zz4,zz5,zz6]
 refine wL 21 ?_ rfl (by kernel_rfl) (fun _ _ _ h => h) HSS.out (by rfl) ?_ ?_
 rotate_left
 ·intro w hSw;obtain ⟨hbx,z0,z1,z6,z7⟩:=hSw;rw [Nat.add_zero] at z0;have y0:=hbx.cell 0;have y1:=hbx.cell 1;simp only [zz7,zz8,zz9] at y0 y1;go_simp;try with_reducible rfl
 simp only [Act.put,zz1,zz2,zz3,zz4,zz5,zz6]
 refine wL 22 ?_ rfl (by kernel_rfl) (fun _ _ _ h => h) HSS.out (by rfl) ?_ ?_
 rotate_left
 ·intro w hSw;obtain ⟨hbx,z0,z1,z6,z7⟩:=hSw;rw [Nat.add_zero] at z0;have y0:=hbx.cell 0;have y1:=hbx.cell 1;simp only [zz7,zz8,zz9] at y0 y1;go_simp;try with_reducible rfl
 simp only [Act.put,zz1,zz2,zz3,zz4,zz5,zz6]
 refine wL 23 ?_ rfl (by kernel_rfl) (fun _ _ _ h => h) HSS.out (by rfl) ?_ ?_
 rotate_left
 ·intro w hSw;obtain ⟨hbx,z0,z1,z6,z7⟩:=hSw;rw [Nat.add_zero] at z0;have y0:=hbx.cell 0;have y1:=hbx.cell 1;simp only [zz7,zz8,zz9] at y0 y1;go_simp;try with_reducible rfl
 simp only [Act.put,zz1,zz2,zz3,zz4,zz5,zz6]
 refine wpAnyT_two (i:=10) (j:=13) (by kernel_rfl) rfl rfl (fun K hK => ?_) (fun K hK => ?_)
 ·rw [if_pos (by rfl)]
  go_simp
  obtain ⟨wb,eb,hF,hBb,hsb⟩:=one_new we [.int .u8 (128 + (b0 : Int) % 64),.int .u8 ((b1 : Nat) : Int)].toArray 5
  have HBB : Hid (Bytes wb (.slice (some ⟨we.heap.size,0,none⟩) 2 2) [128 ||| (x.h0 &&& 63),x.h1]):=Hd (by rw [← HBH.out];exact box_sl (off:=0) (cap:=2) hBb ([UInt8.ofNat (128 + b0 % 64),UInt8.ofNat b1].map B8) (by intro i y hy;rw [two_head b0 b1 hl0 hl1] at hy;simpa using hy) (by simp) (by unfold maxLen;omega))
  have HSS : Hid (Box wb w.heap.size 105 #[.slice (some ⟨bh,oh,none⟩) 8 ch,.slice a x.body.length c] ∧ wb.cell? ⟨bh,oh + 0,none⟩ = some (.int .u8 (b0 : Nat)) ∧ wb.cell? ⟨bh,oh + 1,none⟩ = some (.int .u8 (b1 : Nat)) ∧ wb.cell? ⟨bh,oh + 6,none⟩ = some (.int .u8 (b6 : Nat)) ∧ wb.cell? ⟨bh,oh + 7,none⟩ = some (.int .u8 (b7 : Nat))):=Hd (by have h:=HSS.out;exact ⟨h.1.keep hF,hF.cellSome h.2.1 (by simp),hF.cellSome h.2.2.1 (by simp),hF.cellSome h.2.2.2.1 (by simp),hF.cellSome h.2.2.2.2 (by simp)⟩);have HF:=Hd (HF.out.trans hF);have GH:=Hd (Sl.keep GH.out hF);have GB:=Hd (Sl.keep GB.out hF)
  clear hBb hsb hF
  try rw [eb]
  clear eb
  refine hK.out _ _ (fun _ => HSS.out) ?_
  clear hK K
  simp only [Act.put,zz1,zz2,zz3,zz4,zz5,zz6]
  refine wpAnyT_one (i:=13) (by kernel_rfl) rfl (fun K hK => ?_)
  rw [if_pos (by rfl)]
  go_simp
  refine (Big_any s.toNat 2 (by have:=hsl;omega) (by omega)).mono ?_
  rintro e ws ⟨vws,rfl,hO,hF⟩
  have HBB:=Hd (Sl.keep HBB.out hF)
  obtain ⟨aws,nws,cws,rfl⟩:=Sl.isSlice hO
  have HS:=Hd hO
  have HSS : Hid (Box ws w.heap.size 105 #[.slice (some ⟨bh,oh,none⟩) 8 ch,.slice a x.body.length c] ∧ ws.cell? ⟨bh,oh + 0,none⟩ = some (.int .u8 (b0 : Nat)) ∧ ws.cell? ⟨bh,oh + 1,none⟩ = some (.int .u8 (b1 : Nat)) ∧ ws.cell? ⟨bh,oh + 6,none⟩ = some (.int .u8 (b6 : Nat)) ∧ ws.cell? ⟨bh,oh + 7,none⟩ = some (.int .u8 (b7 : Nat))):=Hd (by have h:=HSS.out;exact ⟨h.1.keep hF,hF.cellSome h.2.1 (by simp),hF.cellSome h.2.2.1 (by simp),hF.cellSome h.2.2.2.1 (by simp),hF.cellSome h.2.2.2.2 (by simp)⟩);have HF:=Hd (HF.out.trans hF);have GH:=Hd (Sl.keep GH.out hF);have GB:=Hd (Sl.keep GB.out hF)
  clear hO hF
  go_simp
  refine hK.out _ _ (fun _ => HSS.out) ?_
  clear hK K
  simp only [Act.put,zz1,zz2,zz3,zz4,zz5,zz6]
  refine wpAnyT_one (i:=19) (by kernel_rfl) rfl (fun K hK => ?_)
  rw [if_pos (by rfl)]
  go_simp
  refine (Big_any t.toNat 4 (by have:=htl;omega) (by omega)).mono ?_
  rintro e wt ⟨vwt,rfl,hO,hF⟩
  have HBB:=Hd (Sl.keep HBB.out hF)
  have HS:=Hd (Sl.keep HS.out hF)
  obtain ⟨awt,nwt,cwt,rfl⟩:=Sl.isSlice hO
  have HT:=Hd hO
  have HSS : Hid (Box wt w.heap.size 105 #[.slice (some ⟨bh,oh,none⟩) 8 ch,.slice a x.body.length c] ∧ wt.cell? ⟨bh,oh + 0,none⟩ = some (.int .u8 (b0 : Nat)) ∧ wt.cell? ⟨bh,oh + 1,none⟩ = some (.int .u8 (b1 : Nat)) ∧ wt.cell? ⟨bh,oh + 6,none⟩ = some (.int .u8 (b6 : Nat)) ∧ wt.cell? ⟨bh,oh + 7,none⟩ = some (.int .u8 (b7 : Nat))):=Hd (by have h:=HSS.out;exact ⟨h.1.keep hF,hF.cellSome h.2.1 (by simp),hF.cellSome h.2.2.1 (by simp),hF.cellSome h.2.2.2.1 (by simp),hF.cellSome h.2.2.2.2 (by simp)⟩);have HF:=Hd (HF.out.trans hF);have GH:=Hd (Sl.keep GH.out hF);have GB:=Hd (Sl.keep GB.out hF)
  clear hO hF
  go_simp
  refine hK.out _ _ (fun _ => HSS.out) ?_
  clear hK K
  simp only [Act.put,zz1,zz2,zz3,zz4,zz5,zz6]
  refine wpAnyT_one (i:=24) (by kernel_rfl) rfl (fun K hK => ?_)
  rw [if_pos (by rfl)]
  go_simp
  have H2 : Hid (Bytes wt (.slice (some ⟨bh,oh + 2,none⟩) 4 (ch - 2)) [x.h2,x.h3,x.h4,x.h5]):=Hd (by
   have:=Sl.sub GH.out 2 4 (by omega)
   rw [if_neg hch2] at this
   simp only [Option.map_some,addr_add] at this
   exact this)
  have H4 : Hid (Bytes wt (.slice a x.len c) (x.body.take x.len)):=Hd (by
   have h2:=Sl.pre GB.out x.len c (by omega) (by omega) (Nat.le_refl _)
   unfold Bytes
   rwa [List.map_take])
  obtain ⟨wp,ep,hF,hBp,hsp⟩:=one_new wt ([.slice (some ⟨we.heap.size,0,none⟩) 2 2,.slice aws nws cws,.slice (some ⟨bh,oh + 2,none⟩) 4 (ch - 2),.slice awt nwt cwt,.slice a x.len c] : List Value).toArray 34
  have HVS : Hid (Sl wp (.slice (some ⟨wt.heap.size,0,none⟩) 5 5) [.slice (some ⟨we.heap.size,0,none⟩) 2 2,.slice aws nws cws,.slice (some ⟨bh,oh + 2,none⟩) 4 (ch - 2),.slice awt nwt cwt,.slice a x.len c]):=Hd (box_sl (off:=0) (cap:=5) hBp [.slice (some ⟨we.heap.size,0,none⟩) 2 2,.slice aws nws cws,.slice (some ⟨bh,oh + 2,none⟩) 4 (ch - 2),.slice awt nwt cwt,.slice a x.len c] (by intro i y hy;simpa using hy) (by simp) (by unfold maxLen;omega))
  have HBB:=Hd (Sl.keep HBB.out hF)
  have HS:=Hd (Sl.keep HS.out hF)
  have HT:=Hd (Sl.keep HT.out hF)
  have H2:=Hd (Sl.keep H2.out hF);have H4:=Hd (Sl.keep H4.out hF)
  have HSS : Hid (Box wp w.heap.size 105 #[.slice (some ⟨bh,oh,none⟩) 8 ch,.slice a x.body.length c] ∧ wp.cell? ⟨bh,oh + 0,none⟩ = some (.int .u8 (b0 : Nat)) ∧ wp.cell? ⟨bh,oh + 1,none⟩ = some (.int .u8 (b1 : Nat)) ∧ wp.cell? ⟨bh,oh + 6,none⟩ = some (.int .u8 (b6 : Nat)) ∧ wp.cell? ⟨bh,oh + 7,none⟩ = some (.int .u8 (b7 : Nat))):=Hd (by have h:=HSS.out;exact ⟨h.1.keep hF,hF.cellSome h.2.1 (by simp),hF.cellSome h.2.2.1 (by simp),hF.cellSome h.2.2.2.1 (by simp),hF.cellSome h.2.2.2.2 (by simp)⟩);have HF:=Hd (HF.out.trans hF);have GH:=Hd (Sl.keep GH.out hF);have GB:=Hd (Sl.keep GB.out hF)
  clear hBp hsp hF
  try rw [ep]
  clear ep
  refine hK.out _ _ (fun _ => HSS.out) ?_
  clear hK K
  simp only [Act.put,zz1,zz2,zz3,zz4,zz5,zz6]
  refine wpAnyT_one (i:=25) (by kernel_rfl) rfl (fun K hK => ?_)
  rw [if_pos (by rfl)]
  go_simp
  have hjoin:=Join_own (vx:=[.slice (some ⟨we.heap.size,0,none⟩) 2 2,.slice aws nws cws,.slice (some ⟨bh,oh + 2,none⟩) 4 (ch - 2),.slice awt nwt cwt,.slice a x.len c]) (ls:=[[128 ||| (x.h0 &&& 63),x.h1],beN s.toNat 2,[x.h2,x.h3,x.h4,x.h5],beN t.toNat 4,x.body.take x.len]) HVS.out rfl (by
   intro i y l h1 h2
   match i,h1,h2 with
   | 0,h1,h2 => cases h1;cases h2;exact HBB.out
   | 1,h1,h2 => cases h1;cases h2;exact HS.out
   | 2,h1,h2 => cases h1;cases h2;exact H2.out
   | 3,h1,h2 => cases h1;cases h2;exact HT.out
   | 4,h1,h2 => cases h1;cases h2;exact H4.out
   | i + 5,h1,h2 => cases h1) (by simp [beN_len];omega) (by simp)
  refine hjoin.mono ?_
  rintro e wj ⟨vj,rfl,hO,hF⟩
  have HJL : Hid (∀ y,liveOf vj = some y → w.heap.size ≤ y):=Hd (fun y hy => Nat.le_trans HF.out.size (hO.block y (live_block hy)).1)
  replace hO:=hO.bytes
  clear hjoin
  have HJ : Hid (Bytes wj vj (x.out s t)):=Hd (by unfold Bt.out;simpa [List.append_assoc] using hO)
  have HSS : Hid (Box wj w.heap.size 105 #[.slice (some ⟨bh,oh,none⟩) 8 ch,.slice a x.body.length c] ∧ wj.cell? ⟨bh,oh + 0,none⟩ = some (.int .u8 (b0 : Nat)) ∧ wj.cell? ⟨bh,oh + 1,none⟩ = some (.int .u8 (b1 : Nat)) ∧ wj.cell? ⟨bh,oh + 6,none⟩ = some (.int .u8 (b6 : Nat)) ∧ wj.cell? ⟨bh,oh + 7,none⟩ = some (.int .u8 (b7 : Nat))):=Hd (by have h:=HSS.out;exact ⟨h.1.keep hF,hF.cellSome h.2.1 (by simp),hF.cellSome h.2.2.1 (by simp),hF.cellSome h.2.2.2.1 (by simp),hF.cellSome h.2.2.2.2 (by simp)⟩);have HF:=Hd (HF.out.trans hF);have GH:=Hd (Sl.keep GH.out hF);have GB:=Hd (Sl.keep GB.out hF)
  clear hO hF
  obtain ⟨aj,nj,cj,rfl⟩:=Sl.isSlice HJ.out
  go_simp
  refine hK.out _ _ (fun _ => HSS.out) ?_
  clear hK K
  simp only [Act.put,zz1,zz2,zz3,zz4,zz5,zz6]
  refine wL 26 ?_ rfl (by kernel_rfl) (fun _ _ _ h => h) HSS.out (by rfl) ?_ ?_
  rotate_left
  ·intro w hSw;obtain ⟨hbx,z0,z1,z6,z7⟩:=hSw;rw [Nat.add_zero] at z0;have y0:=hbx.cell 0;have y1:=hbx.cell 1;simp only [zz7,zz8,zz9] at y0 y1;go_simp;try with_reducible rfl
  simp only [Act.put,zz1,zz2,zz3,zz4,zz5,zz6]
  refine wpAnyT_done (by kernel_rfl) ?_ _
  go_upto_region 5 with (fail)
  go_wp2_with fail
  refine (R5Parse_any HJ.out).mono ?_
  rintro e wk (⟨vp,p,hp,rfl,hVp,hF⟩ | ⟨k,hp,rfl,hF⟩)
  rotate_left
  ·have HP:=Hd hp
   have hk : (k != 0) = true:=by simpa using parseR_err hp
   have HF:=Hd (HF.out.trans hF)
   clear hp hF
   unfold pz
   go_upto_region 7 with (refine wpList_store_row rfl 93 (.tmp 10) (.tmp 62) rfl wk.heap.size rfl _ _ rfl 93 (Box.new wk 93 #[.bool false,.int .i64 0,.int .u16 0,.int .u32 0,.int .u32 0,.slice none 0 0,.bool false,.int .u16 0,.slice none 0 0,.slice none 0 0,.slice none 0 0]) (by kernel_rfl) rfl (oneCell_pz) ?_;intro wl hY hG;have hFn:=((Fr.refl [] wk).alloc _).step hG (by simp);have HFn:=Hd hFn;have HY:=Hd hY;clear hG hFn hY)
   have HF:=Hd (HF.out.trans HFn.out)
   clear HFn HY
   go_wp2_with fail
   go_ret2
   exact .inr ⟨by rw [HPK.out,HP.out],rfl,HF.out⟩
  ·have HP:=Hd hp
   obtain ⟨g1,m1,g2,m2,g3,m3,g4,m4,rfl,-,-,-,-⟩:=hVp.open_
   have HF:=Hd (HF.out.trans hF);have HJ:=Hd (Sl.keep HJ.out hF)
   clear hp hF hVp
   go_upto_region 8 with (refine wpList_store_row rfl 93 (.tmp 10) (.tmp 62) rfl wk.heap.size rfl _ _ rfl 93 (Box.new wk 93 #[.bool false,.int .i64 0,.int .u16 0,.int .u32 0,.int .u32 0,.slice none 0 0,.bool false,.int .u16 0,.slice none 0 0,.slice none 0 0,.slice none 0 0]) (by kernel_rfl) rfl (oneCell_pc _ _ _ _ _ _ _ _ _ _ _ ⟨_,_,_,rfl⟩ ⟨_,_,_,rfl⟩ ⟨_,_,_,rfl⟩ ⟨_,_,_,rfl⟩) ?_;intro wl hY hG;have hFn:=((Fr.refl [] wk).alloc _).step hG (by simp);have HFn:=Hd hFn;have HY:=Hd hY;clear hG hFn hY)
   have HF:=Hd (HF.out.trans HFn.out);have HJ:=Hd (Sl.keep HJ.out HFn.out)
   clear HFn HY
   go_wp2_with fail
   go_ret2
   exact .inl ⟨_,_,by rw [HPK.out,HP.out],rfl,HJ.out,HJL.out,HF.out⟩
 ·rw [if_pos (by rfl)]
  go_simp
  refine (Big_any s.toNat 2 (by have:=hsl;omega) (by omega)).mono ?_
  rintro e ws ⟨vws,rfl,hO,hF⟩
  obtain ⟨aws,nws,cws,rfl⟩:=Sl.isSlice hO
  have HS:=Hd hO
  have HSS : Hid (Box ws w.heap.size 105 #[.slice (some ⟨bh,oh,none⟩) 8 ch,.slice a x.body.length c] ∧ ws.cell? ⟨bh,oh + 0,none⟩ = some (.int .u8 (b0 : Nat)) ∧ ws.cell? ⟨bh,oh + 1,none⟩ = some (.int .u8 (b1 : Nat)) ∧ ws.cell? ⟨bh,oh + 6,none⟩ = some (.int .u8 (b6 : Nat)) ∧ ws.cell? ⟨bh,oh + 7,none⟩ = some (.int .u8 (b7 : Nat))):=Hd (by have h:=HSS.out;exact ⟨h.1.keep hF,hF.cellSome h.2.1 (by simp),hF.cellSome h.2.2.1 (by simp),hF.cellSome h.2.2.2.1 (by simp),hF.cellSome h.2.2.2.2 (by simp)⟩);have HF:=Hd (HF.out.trans hF);have GH:=Hd (Sl.keep GH.out hF);have GB:=Hd (Sl.keep GB.out hF)
  clear hO hF
  go_simp
  refine hK.out _ _ (fun _ => HSS.out) ?_
  clear hK K
  simp only [Act.put,zz1,zz2,zz3,zz4,zz5,zz6]
  refine wpAnyT_two (i:=10) (j:=19) (by kernel_rfl) rfl rfl (fun K hK => ?_) (fun K hK => ?_)
  ·rw [if_pos (by rfl)]
   go_simp
   obtain ⟨wb,eb,hF,hBb,hsb⟩:=one_new ws [.int .u8 (128 + (b0 : Int) % 64),.int .u8 ((b1 : Nat) : Int)].toArray 5
   have HS:=Hd (Sl.keep HS.out hF)
   have HBB : Hid (Bytes wb (.slice (some ⟨ws.heap.size,0,none⟩) 2 2) [128 ||| (x.h0 &&& 63),x.h1]):=Hd (by rw [← HBH.out];exact box_sl (off:=0) (cap:=2) hBb ([UInt8.ofNat (128 + b0 % 64),UInt8.ofNat b1].map B8) (by intro i y hy;rw [two_head b0 b1 hl0 hl1] at hy;simpa using hy) (by simp) (by unfold maxLen;omega))
   have HSS : Hid (Box wb w.heap.size 105 #[.slice (some ⟨bh,oh,none⟩) 8 ch,.slice a x.body.length c] ∧ wb.cell? ⟨bh,oh + 0,none⟩ = some (.int .u8 (b0 : Nat)) ∧ wb.cell? ⟨bh,oh + 1,none⟩ = some (.int .u8 (b1 : Nat)) ∧ wb.cell? ⟨bh,oh + 6,none⟩ = some (.int .u8 (b6 : Nat)) ∧ wb.cell? ⟨bh,oh + 7,none⟩ = some (.int .u8 (b7 : Nat))):=Hd (by have h:=HSS.out;exact ⟨h.1.keep hF,hF.cellSome h.2.1 (by simp),hF.cellSome h.2.2.1 (by simp),hF.cellSome h.2.2.2.1 (by simp),hF.cellSome h.2.2.2.2 (by simp)⟩);have HF:=Hd (HF.out.trans hF);have GH:=Hd (Sl.keep GH.out hF);have GB:=Hd (Sl.keep GB.out hF)
   clear hBb hsb hF
   try rw [eb]
   clear eb
   refine hK.out _ _ (fun _ => HSS.out) ?_
   clear hK K
   simp only [Act.put,zz1,zz2,zz3,zz4,zz5,zz6]
   refine wpAnyT_one (i:=19) (by kernel_rfl) rfl (fun K hK => ?_)
   rw [if_pos (by rfl)]
   go_simp
   refine (Big_any t.toNat 4 (by have:=htl;omega) (by omega)).mono ?_
   rintro e wt ⟨vwt,rfl,hO,hF⟩
   have HS:=Hd (Sl.keep HS.out hF)
   have HBB:=Hd (Sl.keep HBB.out hF)
   obtain ⟨awt,nwt,cwt,rfl⟩:=Sl.isSlice hO
   have HT:=Hd hO
   have HSS : Hid (Box wt w.heap.size 105 #[.slice (some ⟨bh,oh,none⟩) 8 ch,.slice a x.body.length c] ∧ wt.cell? ⟨bh,oh + 0,none⟩ = some (.int .u8 (b0 : Nat)) ∧ wt.cell? ⟨bh,oh + 1,none⟩ = some (.int .u8 (b1 : Nat)) ∧ wt.cell? ⟨bh,oh + 6,none⟩ = some (.int .u8 (b6 : Nat)) ∧ wt.cell? ⟨bh,oh + 7,none⟩ = some (.int .u8 (b7 : Nat))):=Hd (by have h:=HSS.out;exact ⟨h.1.keep hF,hF.cellSome h.2.1 (by simp),hF.cellSome h.2.2.1 (by simp),hF.cellSome h.2.2.2.1 (by simp),hF.cellSome h.2.2.2.2 (by simp)⟩);have HF:=Hd (HF.out.trans hF);have GH:=Hd (Sl.keep GH.out hF);have GB:=Hd (Sl.keep GB.out hF)
   clear hO hF
   go_simp
   refine hK.out _ _ (fun _ => HSS.out) ?_
   clear hK K
   simp only [Act.put,zz1,zz2,zz3,zz4,zz5,zz6]
   refine wpAnyT_one (i:=24) (by kernel_rfl) rfl (fun K hK => ?_)
   rw [if_pos (by rfl)]
   go_simp
   have H2 : Hid (Bytes wt (.slice (some ⟨bh,oh + 2,none⟩) 4 (ch - 2)) [x.h2,x.h3,x.h4,x.h5]):=Hd (by
    have:=Sl.sub GH.out 2 4 (by omega)
    rw [if_neg hch2] at this
    simp only [Option.map_some,addr_add] at this
    exact this)
   have H4 : Hid (Bytes wt (.slice a x.len c) (x.body.take x.len)):=Hd (by
    have h2:=Sl.pre GB.out x.len c (by omega) (by omega) (Nat.le_refl _)
    unfold Bytes
    rwa [List.map_take])
   obtain ⟨wp,ep,hF,hBp,hsp⟩:=one_new wt ([.slice (some ⟨ws.heap.size,0,none⟩) 2 2,.slice aws nws cws,.slice (some ⟨bh,oh + 2,none⟩) 4 (ch - 2),.slice awt nwt cwt,.slice a x.len c] : List Value).toArray 34
   have HVS : Hid (Sl wp (.slice (some ⟨wt.heap.size,0,none⟩) 5 5) [.slice (some ⟨ws.heap.size,0,none⟩) 2 2,.slice aws nws cws,.slice (some ⟨bh,oh + 2,none⟩) 4 (ch - 2),.slice awt nwt cwt,.slice a x.len c]):=Hd (box_sl (off:=0) (cap:=5) hBp [.slice (some ⟨ws.heap.size,0,none⟩) 2 2,.slice aws nws cws,.slice (some ⟨bh,oh + 2,none⟩) 4 (ch - 2),.slice awt nwt cwt,.slice a x.len c] (by intro i y hy;simpa using hy) (by simp) (by unfold maxLen;omega))
   have HS:=Hd (Sl.keep HS.out hF)
   have HBB:=Hd (Sl.keep HBB.out hF)
   have HT:=Hd (Sl.keep HT.out hF)
   have H2:=Hd (Sl.keep H2.out hF);have H4:=Hd (Sl.keep H4.out hF)
   have HSS : Hid (Box wp w.heap.size 105 #[.slice (some ⟨bh,oh,none⟩) 8 ch,.slice a x.body.length c] ∧ wp.cell? ⟨bh,oh + 0,none⟩ = some (.int .u8 (b0 : Nat)) ∧ wp.cell? ⟨bh,oh + 1,none⟩ = some (.int .u8 (b1 : Nat)) ∧ wp.cell? ⟨bh,oh + 6,none⟩ = some (.int .u8 (b6 : Nat)) ∧ wp.cell? ⟨bh,oh + 7,none⟩ = some (.int .u8 (b7 : Nat))):=Hd (by have h:=HSS.out;exact ⟨h.1.keep hF,hF.cellSome h.2.1 (by simp),hF.cellSome h.2.2.1 (by simp),hF.cellSome h.2.2.2.1 (by simp),hF.cellSome h.2.2.2.2 (by simp)⟩);have HF:=Hd (HF.out.trans hF);have GH:=Hd (Sl.keep GH.out hF);have GB:=Hd (Sl.keep GB.out hF)
   clear hBp hsp hF
   try rw [ep]
   clear ep
   refine hK.out _ _ (fun _ => HSS.out) ?_
   clear hK K
   simp only [Act.put,zz1,zz2,zz3,zz4,zz5,zz6]
   refine wpAnyT_one (i:=25) (by kernel_rfl) rfl (fun K hK => ?_)
   rw [if_pos (by rfl)]
   go_simp
   have hjoin:=Join_own (vx:=[.slice (some ⟨ws.heap.size,0,none⟩) 2 2,.slice aws nws cws,.slice (some ⟨bh,oh + 2,none⟩) 4 (ch - 2),.slice awt nwt cwt,.slice a x.len c]) (ls:=[[128 ||| (x.h0 &&& 63),x.h1],beN s.toNat 2,[x.h2,x.h3,x.h4,x.h5],beN t.toNat 4,x.body.take x.len]) HVS.out rfl (by
    intro i y l h1 h2
    match i,h1,h2 with
    | 0,h1,h2 => cases h1;cases h2;exact HBB.out
    | 1,h1,h2 => cases h1;cases h2;exact HS.out
    | 2,h1,h2 => cases h1;cases h2;exact H2.out
    | 3,h1,h2 => cases h1;cases h2;exact HT.out
    | 4,h1,h2 => cases h1;cases h2;exact H4.out
    | i + 5,h1,h2 => cases h1) (by simp [beN_len];omega) (by simp)
   refine hjoin.mono ?_
   rintro e wj ⟨vj,rfl,hO,hF⟩
   have HJL : Hid (∀ y,liveOf vj = some y → w.heap.size ≤ y):=Hd (fun y hy => Nat.le_trans HF.out.size (hO.block y (live_block hy)).1)
   replace hO:=hO.bytes
   clear hjoin
   have HJ : Hid (Bytes wj vj (x.out s t)):=Hd (by unfold Bt.out;simpa [List.append_assoc] using hO)
   have HSS : Hid (Box wj w.heap.size 105 #[.slice (some ⟨bh,oh,none⟩) 8 ch,.slice a x.body.length c] ∧ wj.cell? ⟨bh,oh + 0,none⟩ = some (.int .u8 (b0 : Nat)) ∧ wj.cell? ⟨bh,oh + 1,none⟩ = some (.int .u8 (b1 : Nat)) ∧ wj.cell? ⟨bh,oh + 6,none⟩ = some (.int .u8 (b6 : Nat)) ∧ wj.cell? ⟨bh,oh + 7,none⟩ = some (.int .u8 (b7 : Nat))):=Hd (by have h:=HSS.out;exact ⟨h.1.keep hF,hF.cellSome h.2.1 (by simp),hF.cellSome h.2.2.1 (by simp),hF.cellSome h.2.2.2.1 (by simp),hF.cellSome h.2.2.2.2 (by simp)⟩);have HF:=Hd (HF.out.trans hF);have GH:=Hd (Sl.keep GH.out hF);have GB:=Hd (Sl.keep GB.out hF)
   clear hO hF
   obtain ⟨aj,nj,cj,rfl⟩:=Sl.isSlice HJ.out
   go_simp
   refine hK.out _ _ (fun _ => HSS.out) ?_
   clear hK K
   simp only [Act.put,zz1,zz2,zz3,zz4,zz5,zz6]
   refine wL 26 ?_ rfl (by kernel_rfl) (fun _ _ _ h => h) HSS.out (by rfl) ?_ ?_
   rotate_left
   ·intro w hSw;obtain ⟨hbx,z0,z1,z6,z7⟩:=hSw;rw [Nat.add_zero] at z0;have y0:=hbx.cell 0;have y1:=hbx.cell 1;simp only [zz7,zz8,zz9] at y0 y1;go_simp;try with_reducible rfl
   simp only [Act.put,zz1,zz2,zz3,zz4,zz5,zz6]
   refine wpAnyT_done (by kernel_rfl) ?_ _
   go_upto_region 5 with (fail)
   go_wp2_with fail
   refine (R5Parse_any HJ.out).mono ?_
   rintro e wk (⟨vp,p,hp,rfl,hVp,hF⟩ | ⟨k,hp,rfl,hF⟩)
   rotate_left
   ·have HP:=Hd hp
    have hk : (k != 0) = true:=by simpa using parseR_err hp
    have HF:=Hd (HF.out.trans hF)
    clear hp hF
    unfold pz
    go_upto_region 7 with (refine wpList_store_row rfl 93 (.tmp 10) (.tmp 62) rfl wk.heap.size rfl _ _ rfl 93 (Box.new wk 93 #[.bool false,.int .i64 0,.int .u16 0,.int .u32 0,.int .u32 0,.slice none 0 0,.bool false,.int .u16 0,.slice none 0 0,.slice none 0 0,.slice none 0 0]) (by kernel_rfl) rfl (oneCell_pz) ?_;intro wl hY hG;have hFn:=((Fr.refl [] wk).alloc _).step hG (by simp);have HFn:=Hd hFn;have HY:=Hd hY;clear hG hFn hY)
    have HF:=Hd (HF.out.trans HFn.out)
    clear HFn HY
    go_wp2_with fail
    go_ret2
    exact .inr ⟨by rw [HPK.out,HP.out],rfl,HF.out⟩
   ·have HP:=Hd hp
    obtain ⟨g1,m1,g2,m2,g3,m3,g4,m4,rfl,-,-,-,-⟩:=hVp.open_
    have HF:=Hd (HF.out.trans hF);have HJ:=Hd (Sl.keep HJ.out hF)
    clear hp hF hVp
    go_upto_region 8 with (refine wpList_store_row rfl 93 (.tmp 10) (.tmp 62) rfl wk.heap.size rfl _ _ rfl 93 (Box.new wk 93 #[.bool false,.int .i64 0,.int .u16 0,.int .u32 0,.int .u32 0,.slice none 0 0,.bool false,.int .u16 0,.slice none 0 0,.slice none 0 0,.slice none 0 0]) (by kernel_rfl) rfl (oneCell_pc _ _ _ _ _ _ _ _ _ _ _ ⟨_,_,_,rfl⟩ ⟨_,_,_,rfl⟩ ⟨_,_,_,rfl⟩ ⟨_,_,_,rfl⟩) ?_;intro wl hY hG;have hFn:=((Fr.refl [] wk).alloc _).step hG (by simp);have HFn:=Hd hFn;have HY:=Hd hY;clear hG hFn hY)
    have HF:=Hd (HF.out.trans HFn.out);have HJ:=Hd (Sl.keep HJ.out HFn.out)
    clear HFn HY
    go_wp2_with fail
    go_ret2
    exact .inl ⟨_,_,by rw [HPK.out,HP.out],rfl,HJ.out,HJL.out,HF.out⟩
  ·rw [if_pos (by rfl)]
   go_simp
   refine (Big_any t.toNat 4 (by have:=htl;omega) (by omega)).mono ?_
   rintro e wt ⟨vwt,rfl,hO,hF⟩
   have HS:=Hd (Sl.keep HS.out hF)
   obtain ⟨awt,nwt,cwt,rfl⟩:=Sl.isSlice hO
   have HT:=Hd hO
   have HSS : Hid (Box wt w.heap.size 105 #[.slice (some ⟨bh,oh,none⟩) 8 ch,.slice a x.body.length c] ∧ wt.cell? ⟨bh,oh + 0,none⟩ = some (.int .u8 (b0 : Nat)) ∧ wt.cell? ⟨bh,oh + 1,none⟩ = some (.int .u8 (b1 : Nat)) ∧ wt.cell? ⟨bh,oh + 6,none⟩ = some (.int .u8 (b6 : Nat)) ∧ wt.cell? ⟨bh,oh + 7,none⟩ = some (.int .u8 (b7 : Nat))):=Hd (by have h:=HSS.out;exact ⟨h.1.keep hF,hF.cellSome h.2.1 (by simp),hF.cellSome h.2.2.1 (by simp),hF.cellSome h.2.2.2.1 (by simp),hF.cellSome h.2.2.2.2 (by simp)⟩);have HF:=Hd (HF.out.trans hF);have GH:=Hd (Sl.keep GH.out hF);have GB:=Hd (Sl.keep GB.out hF)
   clear hO hF
   go_simp
   refine hK.out _ _ (fun _ => HSS.out) ?_
   clear hK K
   simp only [Act.put,zz1,zz2,zz3,zz4,zz5,zz6]
   refine wpAnyT_one (i:=10) (by kernel_rfl) rfl (fun K hK => ?_)
   rw [if_pos (by rfl)]
   go_simp
   obtain ⟨wb,eb,hF,hBb,hsb⟩:=one_new wt [.int .u8 (128 + (b0 : Int) % 64),.int .u8 ((b1 : Nat) : Int)].toArray 5
   have HS:=Hd (Sl.keep HS.out hF)
   have HT:=Hd (Sl.keep HT.out hF)
   have HBB : Hid (Bytes wb (.slice (some ⟨wt.heap.size,0,none⟩) 2 2) [128 ||| (x.h0 &&& 63),x.h1]):=Hd (by rw [← HBH.out];exact box_sl (off:=0) (cap:=2) hBb ([UInt8.ofNat (128 + b0 % 64),UInt8.ofNat b1].map B8) (by intro i y hy;rw [two_head b0 b1 hl0 hl1] at hy;simpa using hy) (by simp) (by unfold maxLen;omega))
   have HSS : Hid (Box wb w.heap.size 105 #[.slice (some ⟨bh,oh,none⟩) 8 ch,.slice a x.body.length c] ∧ wb.cell? ⟨bh,oh + 0,none⟩ = some (.int .u8 (b0 : Nat)) ∧ wb.cell? ⟨bh,oh + 1,none⟩ = some (.int .u8 (b1 : Nat)) ∧ wb.cell? ⟨bh,oh + 6,none⟩ = some (.int .u8 (b6 : Nat)) ∧ wb.cell? ⟨bh,oh + 7,none⟩ = some (.int .u8 (b7 : Nat))):=Hd (by have h:=HSS.out;exact ⟨h.1.keep hF,hF.cellSome h.2.1 (by simp),hF.cellSome h.2.2.1 (by simp),hF.cellSome h.2.2.2.1 (by simp),hF.cellSome h.2.2.2.2 (by simp)⟩);have HF:=Hd (HF.out.trans hF);have GH:=Hd (Sl.keep GH.out hF);have GB:=Hd (Sl.keep GB.out hF)
   clear hBb hsb hF
   try rw [eb]
   clear eb
   refine hK.out _ _ (fun _ => HSS.out) ?_
   clear hK K
   simp only [Act.put,zz1,zz2,zz3,zz4,zz5,zz6]
   refine wpAnyT_one (i:=24) (by kernel_rfl) rfl (fun K hK => ?_)
   rw [if_pos (by rfl)]
   go_simp
   have H2 : Hid (Bytes wb (.slice (some ⟨bh,oh + 2,none⟩) 4 (ch - 2)) [x.h2,x.h3,x.h4,x.h5]):=Hd (by
    have:=Sl.sub GH.out 2 4 (by omega)
    rw [if_neg hch2] at this
    simp only [Option.map_some,addr_add] at this
    exact this)
   have H4 : Hid (Bytes wb (.slice a x.len c) (x.body.take x.len)):=Hd (by
    have h2:=Sl.pre GB.out x.len c (by omega) (by omega) (Nat.le_refl _)
    unfold Bytes
    rwa [List.map_take])
   obtain ⟨wp,ep,hF,hBp,hsp⟩:=one_new wb ([.slice (some ⟨wt.heap.size,0,none⟩) 2 2,.slice aws nws cws,.slice (some ⟨bh,oh + 2,none⟩) 4 (ch - 2),.slice awt nwt cwt,.slice a x.len c] : List Value).toArray 34
   have HVS : Hid (Sl wp (.slice (some ⟨wb.heap.size,0,none⟩) 5 5) [.slice (some ⟨wt.heap.size,0,none⟩) 2 2,.slice aws nws cws,.slice (some ⟨bh,oh + 2,none⟩) 4 (ch - 2),.slice awt nwt cwt,.slice a x.len c]):=Hd (box_sl (off:=0) (cap:=5) hBp [.slice (some ⟨wt.heap.size,0,none⟩) 2 2,.slice aws nws cws,.slice (some ⟨bh,oh + 2,none⟩) 4 (ch - 2),.slice awt nwt cwt,.slice a x.len c] (by intro i y hy;simpa using hy) (by simp) (by unfold maxLen;omega))
   have HS:=Hd (Sl.keep HS.out hF)
   have HT:=Hd (Sl.keep HT.out hF)
   have HBB:=Hd (Sl.keep HBB.out hF)
   have H2:=Hd (Sl.keep H2.out hF);have H4:=Hd (Sl.keep H4.out hF)
   have HSS : Hid (Box wp w.heap.size 105 #[.slice (some ⟨bh,oh,none⟩) 8 ch,.slice a x.body.length c] ∧ wp.cell? ⟨bh,oh + 0,none⟩ = some (.int .u8 (b0 : Nat)) ∧ wp.cell? ⟨bh,oh + 1,none⟩ = some (.int .u8 (b1 : Nat)) ∧ wp.cell? ⟨bh,oh + 6,none⟩ = some (.int .u8 (b6 : Nat)) ∧ wp.cell? ⟨bh,oh + 7,none⟩ = some (.int .u8 (b7 : Nat))):=Hd (by have h:=HSS.out;exact ⟨h.1.keep hF,hF.cellSome h.2.1 (by simp),hF.cellSome h.2.2.1 (by simp),hF.cellSome h.2.2.2.1 (by simp),hF.cellSome h.2.2.2.2 (by simp)⟩);have HF:=Hd (HF.out.trans hF);have GH:=Hd (Sl.keep GH.out hF);have GB:=Hd (Sl.keep GB.out hF)
   clear hBp hsp hF
   try rw [ep]
   clear ep
   refine hK.out _ _ (fun _ => HSS.out) ?_
   clear hK K
   simp only [Act.put,zz1,zz2,zz3,zz4,zz5,zz6]
   refine wpAnyT_one (i:=25) (by kernel_rfl) rfl (fun K hK => ?_)
   rw [if_pos (by rfl)]
   go_simp
   have hjoin:=Join_own (vx:=[.slice (some ⟨wt.heap.size,0,none⟩) 2 2,.slice aws nws cws,.slice (some ⟨bh,oh + 2,none⟩) 4 (ch - 2),.slice awt nwt cwt,.slice a x.len c]) (ls:=[[128 ||| (x.h0 &&& 63),x.h1],beN s.toNat 2,[x.h2,x.h3,x.h4,x.h5],beN t.toNat 4,x.body.take x.len]) HVS.out rfl (by
    intro i y l h1 h2
    match i,h1,h2 with
    | 0,h1,h2 => cases h1;cases h2;exact HBB.out
    | 1,h1,h2 => cases h1;cases h2;exact HS.out
    | 2,h1,h2 => cases h1;cases h2;exact H2.out
    | 3,h1,h2 => cases h1;cases h2;exact HT.out
    | 4,h1,h2 => cases h1;cases h2;exact H4.out
    | i + 5,h1,h2 => cases h1) (by simp [beN_len];omega) (by simp)
   refine hjoin.mono ?_
   rintro e wj ⟨vj,rfl,hO,hF⟩
   have HJL : Hid (∀ y,liveOf vj = some y → w.heap.size ≤ y):=Hd (fun y hy => Nat.le_trans HF.out.size (hO.block y (live_block hy)).1)
   replace hO:=hO.bytes
   clear hjoin
   have HJ : Hid (Bytes wj vj (x.out s t)):=Hd (by unfold Bt.out;simpa [List.append_assoc] using hO)
   have HSS : Hid (Box wj w.heap.size 105 #[.slice (some ⟨bh,oh,none⟩) 8 ch,.slice a x.body.length c] ∧ wj.cell? ⟨bh,oh + 0,none⟩ = some (.int .u8 (b0 : Nat)) ∧ wj.cell? ⟨bh,oh + 1,none⟩ = some (.int .u8 (b1 : Nat)) ∧ wj.cell? ⟨bh,oh + 6,none⟩ = some (.int .u8 (b6 : Nat)) ∧ wj.cell? ⟨bh,oh + 7,none⟩ = some (.int .u8 (b7 : Nat))):=Hd (by have h:=HSS.out;exact ⟨h.1.keep hF,hF.cellSome h.2.1 (by simp),hF.cellSome h.2.2.1 (by simp),hF.cellSome h.2.2.2.1 (by simp),hF.cellSome h.2.2.2.2 (by simp)⟩);have HF:=Hd (HF.out.trans hF);have GH:=Hd (Sl.keep GH.out hF);have GB:=Hd (Sl.keep GB.out hF)
   clear hO hF
   obtain ⟨aj,nj,cj,rfl⟩:=Sl.isSlice HJ.out
   go_simp
   refine hK.out _ _ (fun _ => HSS.out) ?_
   clear hK K
   simp only [Act.put,zz1,zz2,zz3,zz4,zz5,zz6]
   refine wL 26 ?_ rfl (by kernel_rfl) (fun _ _ _ h => h) HSS.out (by rfl) ?_ ?_
   rotate_left
   ·intro w hSw;obtain ⟨hbx,z0,z1,z6,z7⟩:=hSw;rw [Nat.add_zero] at z0;have y0:=hbx.cell 0;have y1:=hbx.cell 1;simp only [zz7,zz8,zz9] at y0 y1;go_simp;try with_reducible rfl
   simp only [Act.put,zz1,zz2,zz3,zz4,zz5,zz6]
   refine wpAnyT_done (by kernel_rfl) ?_ _
   go_upto_region 5 with (fail)
   go_wp2_with fail
   refine (R5Parse_any HJ.out).mono ?_
   rintro e wk (⟨vp,p,hp,rfl,hVp,hF⟩ | ⟨k,hp,rfl,hF⟩)
   rotate_left
   ·have HP:=Hd hp
    have hk : (k != 0) = true:=by simpa using parseR_err hp
    have HF:=Hd (HF.out.trans hF)
    clear hp hF
    unfold pz
    go_upto_region 7 with (refine wpList_store_row rfl 93 (.tmp 10) (.tmp 62) rfl wk.heap.size rfl _ _ rfl 93 (Box.new wk 93 #[.bool false,.int .i64 0,.int .u16 0,.int .u32 0,.int .u32 0,.slice none 0 0,.bool false,.int .u16 0,.slice none 0 0,.slice none 0 0,.slice none 0 0]) (by kernel_rfl) rfl (oneCell_pz) ?_;intro wl hY hG;have hFn:=((Fr.refl [] wk).alloc _).step hG (by simp);have HFn:=Hd hFn;have HY:=Hd hY;clear hG hFn hY)
    have HF:=Hd (HF.out.trans HFn.out)
    clear HFn HY
    go_wp2_with fail
    go_ret2
    exact .inr ⟨by rw [HPK.out,HP.out],rfl,HF.out⟩
   ·have HP:=Hd hp
    obtain ⟨g1,m1,g2,m2,g3,m3,g4,m4,rfl,-,-,-,-⟩:=hVp.open_
    have HF:=Hd (HF.out.trans hF);have HJ:=Hd (Sl.keep HJ.out hF)
    clear hp hF hVp
    go_upto_region 8 with (refine wpList_store_row rfl 93 (.tmp 10) (.tmp 62) rfl wk.heap.size rfl _ _ rfl 93 (Box.new wk 93 #[.bool false,.int .i64 0,.int .u16 0,.int .u32 0,.int .u32 0,.slice none 0 0,.bool false,.int .u16 0,.slice none 0 0,.slice none 0 0,.slice none 0 0]) (by kernel_rfl) rfl (oneCell_pc _ _ _ _ _ _ _ _ _ _ _ ⟨_,_,_,rfl⟩ ⟨_,_,_,rfl⟩ ⟨_,_,_,rfl⟩ ⟨_,_,_,rfl⟩) ?_;intro wl hY hG;have hFn:=((Fr.refl [] wk).alloc _).step hG (by simp);have HFn:=Hd hFn;have HY:=Hd hY;clear hG hFn hY)
    have HF:=Hd (HF.out.trans HFn.out);have HJ:=Hd (Sl.keep HJ.out HFn.out)
    clear HFn HY
    go_wp2_with fail
    go_ret2
    exact .inl ⟨_,_,by rw [HPK.out,HP.out],rfl,HJ.out,HJL.out,HF.out⟩
end Go.Proofs.YtcngfbjmpemehaaGreat

/- The walk of confluxref12.All;imprints as elements of slices (printed by gen_imp14.py). -/
namespace Go.Proofs.YtcngfbjmpemehaaGreat
open Go.RowKit

end Go.Proofs.YtcngfbjmpemehaaGreat

/- Small lemmas on boxes,elements and imprints (out of the walk of ImprintFolds). -/
namespace Go.Proofs.YtcngfbjmpemehaaGreat
open Go.RowKit

theorem info_u8s : (Tryz.prog.info? 34).map (fun i => (i.zero,i.size,i.bytes)) = some (some (.slice none 0 0),1,24):=by kernel_rfl
theorem wpList_load_midA {P : Program} {ops : Array Oper} {rest : List Oper} {op : Oper} {a : Act} {w : World} {Q : Exit → Act → World → Prop} (hgd : op.guard = none) (ty : TypeId) (x : Operand) (ho : op.op = .load ty x)
  (b o : Nat) (hx : a.eval x = .pointer (some ⟨b,o,none⟩)) (cs : Array Value) (d : TypeDesc) (hc : w.rangeAt b o cs.toList)
  (hu : P.underlying ty = some d) (hd : d.isRow = true) (hi : (P.info? ty).map (·.size) = some cs.size)
  (h : wpList P ops Q rest (a.put op.dst (.agg cs)) w) : wpList P ops Q (op :: rest) a w :=
 wpList_load_mid hgd ty x ho b o hx cs.toList d hc hu hd hi h
end Go.Proofs.YtcngfbjmpemehaaGreat

/- The walk of confluxlaw12.alive. -/
namespace Go.Proofs.YtcngfbjmpemehaaGreat
open Go.RowKit Go.Shelf

end Go.Proofs.YtcngfbjmpemehaaGreat

/- The walk of confluxlaw12.ImprintBack (printed by gen_imp11.py). -/
namespace Go.Proofs.YtcngfbjmpemehaaGreat
open Go.RowKit

theorem seq_bytes {l : List UInt8} {p : Pkt} (h : parseR l = .ok p) : nb l 2 2 = p.seq.toNat:=by
 obtain ⟨h1,h2⟩:=parse_back h
 rw [← h2,nb2]
theorem ssrc_bytes {l : List UInt8} {p : Pkt} (h : parseR l = .ok p) : nb l 8 4 = p.ssrc.toNat:=by
 obtain ⟨h1,h2⟩:=parse_back h
 rw [← h2,nb8]
end Go.Proofs.YtcngfbjmpemehaaGreat
