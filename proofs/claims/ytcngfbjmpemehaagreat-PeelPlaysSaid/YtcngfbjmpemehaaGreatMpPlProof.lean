/- PROVED: PeelPlays: for every sequence of packets and repairs, each result and the state are those of the reference (confluxlaw16.PeelPlays). No conditions beyond the statement's own. -/
import Derived.Test.YtcngfbjmpemehaaGreatMp14
import Derived.Test.YtcngfbjmpemehaaGreatMp20
import Derived.Test.YtcngfbjmpemehaaGreatMpLw5
import Derived.Test.YtcngfbjmpemehaaGreatMp38
set_option maxRecDepth 100000
set_option maxHeartbeats 16000000
namespace Go.Proofs.YtcngfbjmpemehaaGreat
open Go.RowKit Go.ChangeShapes Go.WideShapes Go.ChangeAt

theorem peelPlays_lifted (os : Os) (started : os.Started) (H : Type) (enc : TypeId × Value → H) :
  ReturnsInHanded {} Tryz.checked os 3 .any (Rows.peelPlaysSpec.pre6 enc Tryz.prog Tryz.f3 Rows.peelPlaysRow.domain false) (Rows.peelPlaysSpec.post enc Tryz.prog Tryz.f3 false true false false):=by
 refine returnsInHanded_of_change (C:=Tryz.checked) own started (by kernel_rfl) Tryz.func3
  (ChangeSpec.witness6 (enc:=enc) (C:=Tryz.checked) false ⟨#[],#[.int .u32 0,.int .i64 0,.int .i64 0,.slice none 0 0,.int .u16 0],[]⟩ 8 (by kernel_rfl) (by kernel_rfl) (by kernel_rfl) (by kernel_rfl)) ?_
 intro W base args ds gs before hval0 hW hcnd _
 have hval : ∀ (j : Nat) t v,Tryz.f3.params[j]? = some t → args[j]? = some v → Value.okWide Tryz.prog W .any base t v:=hval0
 have hW':=hW
 have hlt:=hW.lt
 obtain ⟨p,q,hA0,hV,rfl,hfz,hnd⟩:=hW
 have hA : DataW.TrodAll enc Tryz.prog W 0 (fun _ => true) true Tryz.f3.params.toList args.toList ds p:=hA0
 rw [Tryz.params3] at hA hval
 obtain ⟨v0,vs0,d0,ds0,p0,q0,hargs,rfl,rfl,h0,r0⟩:=trodAll_cons hA
 obtain ⟨v1,vs1,d1,ds1,p1,q1,rfl,rfl,rfl,h1,r1⟩:=trodAll_cons r0
 obtain ⟨v2,vs2,d2,ds2,p2,q2,rfl,rfl,rfl,h2,r2⟩:=trodAll_cons r1
 obtain ⟨v3,vs3,d3,ds3,p3,q3,rfl,rfl,rfl,h3,r3⟩:=trodAll_cons r2
 obtain ⟨v4,vs4,d4,ds4,p4,q4,rfl,rfl,rfl,h4,r4⟩:=trodAll_cons r3
 obtain ⟨rfl,rfl,rfl⟩:=trodAll_nil r4
 obtain rfl : args = #[v0,v1,v2,v3,v4]:=by cases args;simp_all
 obtain ⟨rfl,rfl⟩:=trodVars_none hV
 obtain ⟨n0,rfl,rfl,rfl,w0⟩:=open_int Tryz.underlying22 (hval 0 22 v0 rfl rfl) h0
 obtain ⟨n1,rfl,rfl,rfl,w1⟩:=open_int Tryz.underlying3 (hval 1 3 v1 rfl rfl) h1
 obtain ⟨n2,rfl,rfl,rfl,w2⟩:=open_int Tryz.underlying3 (hval 2 3 v2 rfl rfl) h2
 obtain ⟨x3,B3,hx3⟩:=open_evs_arg (hval 3 23 v3 rfl rfl) h3
 obtain ⟨n4,rfl,rfl,rfl,w4⟩:=open_int Tryz.underlying24 (hval 4 24 v4 rfl rfl) h4
 clear hA0 hval0
 simp only [List.append_nil] at hW' hlt
 have b0:=wf_u32 w0
 have e0 : (((UInt32.ofNat n0.toNat).toNat : Nat) : Int) = n0:=by rw [UInt32.toNat_ofNat'];omega
 have b4:=wf_u16 w4
 have e4 : (((UInt16.ofNat n4.toNat).toNat : Nat) : Int) = n4:=by rw [UInt16.toNat_ofNat'];omega
 have hR:=PeelPlays_any (UInt32.ofNat n0.toNat) n1 n2 hx3 (UInt16.ofNat n4.toNat)
 rw [e0,e4] at hR
 refine hR.mono fun e W' ⟨he,hF⟩ => ?_
 subst he
 refine ⟨_,rfl,post_true (pa:=[] ++ ([] ++ ([] ++ (p3 ++ ([] ++ ([])))))) rfl hW' rfl rfl rfl ?_ hF⟩
 exact (trodAll_cons_mk (shut_int Tryz.underlying22 w0) (trodAll_cons_mk (shut_int Tryz.underlying3 w1) (trodAll_cons_mk (shut_int Tryz.underlying3 w2) (trodAll_cons_mk (Below.trod laidOut (by kernel_rfl) (of_decide_eq_true (by kernel_rfl)) h3 hF.below (fun x hx => hlt x (by simp [hx]))) (trodAll_cons_mk (shut_int Tryz.underlying24 w4) trodAll_mk0)))))

theorem peelPlays_holds : Rows.PeelPlaysSaid :=
 OpenClaim.holds_of_wide 3 Tryz.f3 rfl rfl rfl rfl rfl rfl rfl ⟨rfl,rfl,rfl,rfl,rfl⟩ rfl rfl rfl rfl rfl (by kernel_rfl) Tryz.func3 (by kernel_rfl)
  (of_decide_eq_true (by kernel_rfl)) (by unfold Func.isWrapper;first | (rw [if_pos (by decide +kernel)];kernel_rfl) | (rw [if_neg (by decide +kernel)];exact ⟨rfl,rfl⟩))
  (fun os started H enc _ => peelPlays_lifted os started H enc)
#print axioms peelPlays_holds
end Go.Proofs.YtcngfbjmpemehaaGreat
