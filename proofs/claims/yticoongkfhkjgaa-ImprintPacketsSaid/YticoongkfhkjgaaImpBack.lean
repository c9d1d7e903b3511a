/- The walk of confluxlaw12.ImprintBack (printed by gen_imp11.py). -/
import Derived.Test.YticoongkfhkjgaaImp9
import Derived.Test.YticoongkfhkjgaaRtpField
namespace Go.Proofs.Yticoongkfhkjgaa
open Go.RowKit

theorem seq_bytes {l : List UInt8} {p : Pkt} (h : parseR l = .ok p) : nb l 2 2 = p.seq.toNat := by
  obtain ⟨h1, h2⟩ := parse_back h
  rw [← h2, nb2]
theorem ssrc_bytes {l : List UInt8} {p : Pkt} (h : parseR l = .ok p) : nb l 8 4 = p.ssrc.toNat := by
  obtain ⟨h1, h2⟩ := parse_back h
  rw [← h2, nb8]
theorem back_pack {l : List UInt8} {p : Pkt} (h : parseR l = .ok p) (more : List UInt8) : ({ imp l with body := (imp l).body ++ more } : Bt).pack p.seq p.ssrc = .ok l := by
  obtain ⟨h1, h2⟩ := parse_back h
  rw [← h2, pack_bytes h1, p.put_same]
set_option maxRecDepth 100000 in
set_option maxHeartbeats 8000000 in
theorem ImprintBack_any {w : World} {v vm : Value} {l more : List UInt8} (hl : Bytes w v l) (hm : Bytes w vm more) :
    Calls Try.prog 5 #[v, vm] w fun e w' => e = .returned (.bool true) ∧ Fr [] w w' := by
  obtain ⟨av, cv, rfl⟩ := hl.shape
  obtain ⟨am, cm, rfl⟩ := hm.shape
  simp only [List.length_map] at hl hm ⊢
  have hlen := (Sl.len hl).2; have hlem := (Sl.len hm).2
  unfold maxLen at hlen hlem
  have HB := Lib.hid hl; have HM := Lib.hid hm; have HF : Hid (Fr [] w w) := Lib.hid (Fr.refl _ _)
  clear hl hm
  go_enter Try.func5, Try.ntmps5
  go_wp2_with fail
  refine l12alive_any.mono ?_
  rintro e w1 ⟨rfl, hF⟩
  have HF := Lib.hid (HF.out.trans hF)
  have HB := Lib.hid (Sl.keep HB.out hF)
  have HM := Lib.hid (Sl.keep HM.out hF)
  clear hF
  by_cases hbig : 2000 < l.length
  · go_wp2_with fail
    go_ret
    first | exact ⟨rfl, HF.out⟩ | exact ⟨ret_bool (by simp), HF.out⟩
  by_cases hbigm : 1000 < more.length
  · go_wp2_with fail
    go_ret
    first | exact ⟨rfl, HF.out⟩ | exact ⟨ret_bool (by simp), HF.out⟩
  have hsm : l.length ≤ 2000 := by omega
  have hsmm : more.length ≤ 1000 := by omega
  go_wp2_with fail
  refine (impOf_any HB.out).mono ?_
  rintro e w2 (⟨v3, p, hp, rfl, ⟨vb, rfl, hO⟩, hF⟩ | ⟨k, hp, rfl, hF⟩)
  rotate_left
  · have hk : (k != 0) = true := by simpa using parseR_err hp
    have HF := Lib.hid (HF.out.trans hF)
    clear hp hF
    go_upto_region 6 with (refine wpList_store_row rfl 27 (.tmp 5) (.tmp 26) rfl w2.heap.size rfl _ _ rfl 27 (Box.new w2 27 (bc Bt.zero (.slice none 0 0))) (by kernel_rfl) rfl (by simp [bc, Value.oneCell']) ?_; intro w3 hY hG; have hFn := ((Fr.refl [] w2).alloc _).step hG (by simp); have HFn := Lib.hid hFn; have HY := Lib.hid hY; clear hG hFn hY)
    have HF := Lib.hid (HF.out.trans HFn.out); have HXB := HY
    clear HFn HY
    generalize hgx : w2.heap.size = gx at *
    have z8 := HXB.out.cell 8
    simp only [bc, List.getElem?_toArray, List.getElem?_cons_succ, List.getElem?_cons_zero] at z8
    go_wp2_with fail
    go_ret
    first | exact ⟨rfl, HF.out⟩ | exact ⟨ret_bool (by simp), HF.out⟩
  have HP := Lib.hid hp
  obtain ⟨a3, n3, c3, rfl⟩ := hO.isSlice
  have HXO := Lib.hid hO
  obtain rfl := hO.len
  have HXLN : Hid ((imp l).body.length ≤ l.length) := Lib.hid (by simp [imp])
  have HLB : Hid (∀ k, liveOf (.slice av l.length cv) = some k → k < w2.heap.size) := Lib.hid (fun k hk => Nat.lt_of_lt_of_le (Sl.lt HB.out k hk) hF.size)
  have HXL : Hid (∀ b, blockOf (.slice a3 (imp l).body.length c3) = some b → w1.heap.size ≤ b ∧ b < w2.heap.size) := Lib.hid (fun b hb => hO.block b hb)
  have HLB1 : Hid (∀ k, liveOf (.slice av l.length cv) = some k → k < w1.heap.size) := Lib.hid (Sl.lt HB.out)
  have HW1 : Hid (w.heap.size ≤ w1.heap.size) := Lib.hid HF.out.size
  have HS1 : Hid (w1.heap.size ≤ w2.heap.size) := Lib.hid hF.size
  clear hp hO
  have HF := Lib.hid (HF.out.trans hF)
  have HB := Lib.hid (Sl.keep HB.out hF)
  have HM := Lib.hid (Sl.keep HM.out hF)
  clear hF
  go_upto_region 6 with (refine wpList_store_row rfl 27 (.tmp 5) (.tmp 26) rfl w2.heap.size rfl _ _ rfl 27 (Box.new w2 27 (bc Bt.zero (.slice none 0 0))) (by kernel_rfl) rfl (by simp [bc, Value.oneCell']) ?_; intro w3 hY hG; have hFn := ((Fr.refl [] w2).alloc _).step hG (by simp); have HFn := Lib.hid hFn; have HY := Lib.hid hY; clear hG hFn hY)
  have hF := HFn.out
  have HF := Lib.hid (HF.out.trans hF)
  have HB := Lib.hid (Sl.keep HB.out hF)
  have HM := Lib.hid (Sl.keep HM.out hF)
  have HXO := Lib.hid (HXO.out.keep hF)
  have HXB := HY
  clear hF HFn HY
  have HSX : Hid (w2.heap.size + 1 ≤ w3.heap.size) := Lib.hid HXB.out.lt
  generalize hgx : w2.heap.size = gx at *
  clear hgx
  go_wp2_with fail
  refine (Seq_any HB.out).mono ?_
  rintro e w4 (⟨p2, hp, rfl, hF⟩ | ⟨k, hp, -, -⟩)
  rotate_left
  · rw [HP.out] at hp; cases hp
  rw [HP.out] at hp
  cases hp
  have HF := Lib.hid (HF.out.trans hF)
  have HB := Lib.hid (Sl.keep HB.out hF)
  have HM := Lib.hid (Sl.keep HM.out hF)
  have HXO := Lib.hid (HXO.out.keep hF)
  have HXB := Lib.hid (HXB.out.keep hF)
  have HSXq := Lib.hid (Nat.le_trans HSX.out hF.size)
  clear HSX
  have HSX := HSXq
  clear HSXq
  clear hF
  go_wp2_with fail
  refine (SSRC_any HB.out).mono ?_
  rintro e w5 (⟨p2, hp, rfl, hF⟩ | ⟨k, hp, -, -⟩)
  rotate_left
  · rw [HP.out] at hp; cases hp
  rw [HP.out] at hp
  cases hp
  have HF := Lib.hid (HF.out.trans hF)
  have HB := Lib.hid (Sl.keep HB.out hF)
  have HM := Lib.hid (Sl.keep HM.out hF)
  have HXO := Lib.hid (HXO.out.keep hF)
  have HXB := Lib.hid (HXB.out.keep hF)
  have HSXq := Lib.hid (Nat.le_trans HSX.out hF.size)
  clear HSX
  have HSX := HSXq
  clear HSXq
  clear hF
  have z8 := HXB.out.cell 8
  simp only [bc, List.getElem?_toArray, List.getElem?_cons_succ, List.getElem?_cons_zero] at z8
  have A1 : Hid ((imp l).body.length + (more.map B8).length ≤ maxLen) := Lib.hid (by unfold maxLen; rw [List.length_map]; have := HXLN.out; omega)
  have A2 : Hid (((imp l).body.length + (more.map B8).length) * 1 ≤ 140737488355328) := Lib.hid (by rw [List.length_map]; have := HXLN.out; omega)
  have A3 : Hid (w1.heap.size ≤ w5.heap.size) := Lib.hid (by have := HS1.out; have := HSX.out; omega)
  go_upto_region 11 with (at_builtin; refine wpList_append_slf rfl (.tmp 45) (.tmp 46) 22 rfl w1.heap.size 5 (.int .u8 0) 1 Try.underlying22 info_u8 rfl (.slice a3 (imp l).body.length c3) (imp l).body.length ((imp l).body.map B8) rfl HXO.out (.slice am more.length cm) (more.map B8) rfl HM.out (oneCell_B8 more) A1.out A2.out A3.out ?_; intro v6 w6 ho hg hfr; obtain ⟨a6, n6, c6, rfl⟩ := (Sl.ofOwn ho).isSlice; have HO6 := Lib.hid ho; have HG6 := Lib.hid hg; have HR6 := Lib.hid hfr; clear ho hg hfr; have HB6 := Lib.hid (HXB.out.fr HG6.out (fun hm => by have := HXL.out gx (by simpa using hm); omega)); have g8 := HB6.out.cell 8; have gf := HB6.out.free 8; simp only [bc, List.getElem?_toArray, List.getElem?_cons_succ, List.getElem?_cons_zero] at g8; clear z8)
  obtain ⟨w7, e7, hF7, hB7, hs7⟩ := set_new HB6.out 8 (.slice a6 n6 c6)
  simp only [bc, List.setIfInBounds_toArray, List.set_cons_zero, List.set_cons_succ] at hB7
  try rw [e7]
  have hO6 : OwnB w6 w1.heap.size (.slice a6 n6 c6) ((imp l).body ++ more) := by
    have := HO6.out
    unfold OwnB
    rw [List.map_append, List.length_append]
    simpa using this
  obtain rfl := hO6.len
  have HR6' : Hid (∀ b, blockOf (.slice a6 ((imp l).body ++ more).length c6) = some b → b ≠ gx ∧ w1.heap.size ≤ b) := Lib.hid (fun b hb => by
    rcases HR6.out b hb with h | h
    · have := HXL.out b h; omega
    · have := HSX.out; have := A3.out; omega)
  have HXN : Hid (BtV w7 (.agg (bc { imp l with body := (imp l).body ++ more } (.slice a6 ((imp l).body ++ more).length c6))) { imp l with body := (imp l).body ++ more }) := Lib.hid ⟨_, rfl, (hO6.fr hF7 (fun b hb hm => by have := (HR6'.out b hb).1; simp at hm; omega)).bytes⟩
  have HXB7 : Hid (Box w7 gx 27 (bc { imp l with body := (imp l).body ++ more } (.slice a6 ((imp l).body ++ more).length c6))) := Lib.hid hB7
  have HF7 : Hid (Fr [] w w7) := Lib.hid ((HF.out.step HG6.out (fun x hx => .inr (by have := HXL.out x (by simpa using hx); have := HW1.out; omega))).step hF7 (fun x hx => .inr (by simp at hx; subst hx; have := HS1.out; have := HW1.out; omega)))
  have HB7 : Hid (Bytes w7 (.slice av l.length cv) l) := Lib.hid (Sl.frL (Sl.frL HB.out HG6.out (fun k hk hm => by have h1 := HLB1.out k hk; have h2 := HXL.out k (by simpa using hm); omega)) hF7 (fun k hk hm => by have h1 := HLB.out k hk; simp at hm; omega))
  have HPK := Lib.hid (back_pack HP.out more)
  clear hF7 hB7 hs7 e7 hO6 g8 gf HO6 HG6 HR6 HB6
  clear HXO HXB HB HM HF
  have HXNq := HXN.out
  rw [List.length_append] at HXNq
  clear HXN
  have HXN := Lib.hid HXNq
  clear HXNq
  go_wp2_with (refine wpList_load_row_w rfl 27 (.tmp 5) rfl gx rfl 27 _ _ HXB7.out Try.underlying27 rfl (by kernel_rfl) ?_)
  refine (impPacket_any HXN.out (by show ((imp l).body ++ more).length ≤ _; rw [List.length_append]; have := HXLN.out; omega) p.seq p.ssrc).mono ?_
  rintro e w8 (⟨l2, v8, hp, rfl, hO, hF⟩ | ⟨hp, -, -⟩)
  rotate_left
  · rw [HPK.out] at hp; cases hp
  rw [HPK.out] at hp
  cases hp
  obtain ⟨a8, n8, c8, rfl⟩ := hO.isSlice
  have HC := Lib.hid hO.bytes; have HB := Lib.hid (Sl.keep HB7.out hF); have HF := Lib.hid (HF7.out.trans hF)
  clear hO hF
  go_wp2_with fail
  refine (RSame_any HC.out HB.out (by omega) (by omega)).mono ?_
  rintro e wz ⟨rfl, hF⟩
  have HF := Lib.hid (HF.out.trans hF)
  clear hF
  go_wp2_with fail
  go_ret
  first | exact ⟨rfl, HF.out⟩ | exact ⟨ret_bool (by simp), HF.out⟩
end Go.Proofs.Yticoongkfhkjgaa
