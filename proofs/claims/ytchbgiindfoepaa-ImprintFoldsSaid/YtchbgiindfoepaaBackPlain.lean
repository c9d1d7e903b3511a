/- Plain laws: a written packet is parsed as itself; what is parsed is written as the same bytes. -/
import Derived.Test.YtchbgiindfoepaaCutPlain
namespace Go.Proofs.Ytchbgiindfoepaa
open Go.RowKit

theorem nb1 {p : Pkt} (h0 : 0 ≤ p.pt) (h1 : p.pt < 128) : ((nb p.bytes 1 1 : Nat) : Int) = p.second := by
  have hs : 0 ≤ p.second ∧ p.second < 256 := by unfold Pkt.second; split <;> omega
  obtain ⟨n, hn⟩ : ∃ n : Nat, p.second = n := ⟨p.second.toNat, by omega⟩
  have : p.bytes = [ib p.first] ++ (beN n 1 ++ (beN p.seq.toNat 2 ++ beN p.ts.toNat 4 ++ beN p.ssrc.toNat 4 ++ words4 p.csrc ++ p.extBytes ++ p.payload ++ p.pad)) := by
    have h1 : beN n 1 = [ib p.second] := by
      simp only [beN, List.range_succ, List.range_zero, List.nil_append, List.map_cons, List.map_nil, Nat.sub_self, Nat.pow_zero, Nat.div_one, ib, hn]
      congr 2
      omega
    rw [h1]
    simp [Pkt.bytes, Pkt.head, List.append_assoc]
  rw [this, nb_at (k := 1) (a := [ib p.first]) rfl]
  omega
theorem nb4 (p : Pkt) : nb p.bytes 4 4 = p.ts.toNat := by
  have : p.bytes = ([ib p.first, ib p.second] ++ beN p.seq.toNat 2) ++ (beN p.ts.toNat 4 ++ (beN p.ssrc.toNat 4 ++ words4 p.csrc ++ p.extBytes ++ p.payload ++ p.pad)) := by
    simp [Pkt.bytes, Pkt.head, List.append_assoc]
  rw [this, nb_at (k := 4) (by simp [beN_len])]
  have := p.ts.toNat_lt
  omega
theorem nb8 (p : Pkt) : nb p.bytes 8 4 = p.ssrc.toNat := by
  have : p.bytes = ([ib p.first, ib p.second] ++ beN p.seq.toNat 2 ++ beN p.ts.toNat 4) ++ (beN p.ssrc.toNat 4 ++ (words4 p.csrc ++ p.extBytes ++ p.payload ++ p.pad)) := by
    simp [Pkt.bytes, Pkt.head, List.append_assoc]
  rw [this, nb_at (k := 8) (by simp [beN_len])]
  have := p.ssrc.toNat_lt
  omega
theorem words4_append (a b : List UInt32) : words4 (a ++ b) = words4 a ++ words4 b := by simp [words4]
theorem nbW {p : Pkt} (i : Nat) (hi : i < p.csrc.length) : nb p.bytes (12 + 4 * i) 4 = p.csrc[i].toNat := by
  have hc : p.csrc = p.csrc.take i ++ (p.csrc[i] :: p.csrc.drop (i + 1)) := by rw [List.getElem_cons_drop, List.take_append_drop]
  have hw : words4 p.csrc = words4 (p.csrc.take i) ++ (beN p.csrc[i].toNat 4 ++ words4 (p.csrc.drop (i + 1))) := by
    have := words4_append (p.csrc.take i) (p.csrc[i] :: p.csrc.drop (i + 1))
    rw [← hc] at this
    rw [this]
    rfl
  have : p.bytes = (p.head ++ words4 (p.csrc.take i)) ++ (beN p.csrc[i].toNat 4 ++ (words4 (p.csrc.drop (i + 1)) ++ p.extBytes ++ p.payload ++ p.pad)) := by
    unfold Pkt.bytes
    rw [hw]
    simp [List.append_assoc]
  rw [this, nb_at (by rw [List.length_append, head_len, words4_len, List.length_take]; omega)]
  have := p.csrc[i].toNat_lt
  omega
theorem w32s_bytes (p : Pkt) : w32s p.bytes 12 p.csrc.length = p.csrc := by
  refine List.ext_getElem (by rw [w32s_len]) fun i h1 h2 => ?_
  simp only [w32s, List.getElem_map, List.getElem_range]
  rw [nbW i h2]
  simp
theorem nbProf {p : Pkt} (he : p.hasExt = true) : nb p.bytes (12 + 4 * p.csrc.length) 2 = p.profile.toNat := by
  have : p.bytes = (p.head ++ words4 p.csrc) ++ (beN p.profile.toNat 2 ++ (beN (p.ext.length / 4 % 65536) 2 ++ p.ext ++ p.payload ++ p.pad)) := by
    simp [Pkt.bytes, Pkt.extBytes, he, List.append_assoc]
  rw [this, nb_at (by rw [List.length_append, head_len, words4_len])]
  have := p.profile.toNat_lt
  omega
theorem drop_ext {p : Pkt} (he : p.hasExt = true) : p.bytes.drop (12 + 4 * p.csrc.length + 4) = p.ext ++ (p.payload ++ p.pad) := by
  have : p.bytes = (p.head ++ words4 p.csrc ++ beN p.profile.toNat 2 ++ beN (p.ext.length / 4 % 65536) 2) ++ (p.ext ++ (p.payload ++ p.pad)) := by
    simp [Pkt.bytes, Pkt.extBytes, he, List.append_assoc]
  rw [this, List.drop_left' (by rw [List.length_append, List.length_append, List.length_append, head_len, words4_len, beN_len, beN_len])]
theorem padN_append (a : List UInt8) {b : List UInt8} (h : 0 < b.length) : padN (a ++ b) = padN b := by
  unfold padN
  rw [List.getLast?_append]
  have hb : b ≠ [] := by intro e; subst e; simp at h
  rw [List.getLast?_eq_some_getLast hb]
  rfl

/-- A written packet is parsed as itself. -/
theorem parse_bytes {p : Pkt} (hw : p.wrong = 0) : parseR p.bytes = .ok p := by
  have F := Pkt.fit hw
  have hcs := F.csrc
  obtain ⟨f0, f1, f2, f3, f4⟩ := first_facts hcs
  have hb := bytes_len p
  have hsz := F.size
  have hss := p.size_hs
  have h12 : 12 + 4 * p.csrc.length ≤ p.hs := by unfold Pkt.hs; omega
  have n0 := nb0 p hcs
  have n1 := nb1 F.pt0 F.pt1
  have hx := F.ext
  unfold Pkt.extOk at hx
  have hk : (if (p.first / 16 % 2 == 1) = true then 12 + 4 * p.csrc.length + 4 + 4 * nb p.bytes (12 + 4 * p.csrc.length + 2) 2 else 12 + 4 * p.csrc.length) = p.hs := by
    rw [f3]
    unfold Pkt.hs
    cases he : p.hasExt with
    | false => simp
    | true =>
      rw [he] at hx
      simp at hx
      simp only [if_true]
      rw [nbExt he]
      omega
  have e0 : (nb p.bytes 1 1 / 128 % 2 == 1) = p.marker := by
    unfold Pkt.second at n1
    have := F.pt0; have := F.pt1
    cases hm : p.marker <;> rw [hm] at n1 <;> simp at n1 ⊢ <;> omega
  have e1 : ((nb p.bytes 1 1 % 128 : Nat) : Int) = p.pt := by
    unfold Pkt.second at n1
    have := F.pt0; have := F.pt1
    split at n1 <;> omega
  have e7 : (if p.hasExt = true then UInt16.ofNat (nb p.bytes (12 + 4 * p.csrc.length) 2) else 0) = p.profile := by
    cases he : p.hasExt with
    | false =>
      rw [he] at hx
      simp at hx
      simp [hx.1]
    | true =>
      rw [if_pos rfl, nbProf he]
      simp
  have e8 : (if p.hasExt = true then (p.bytes.drop (12 + 4 * p.csrc.length + 4)).take (4 * nb p.bytes (12 + 4 * p.csrc.length + 2) 2) else []) = p.ext := by
    cases he : p.hasExt with
    | false =>
      rw [he] at hx
      simp at hx
      simp [hx.2]
    | true =>
      rw [he] at hx
      simp at hx
      rw [if_pos rfl, nbExt he, drop_ext he, List.take_left' (by omega)]
  have hd := drop_hs p
  unfold parseR
  rw [if_neg (by omega)]
  unfold parseP
  rw [if_neg (by omega), n0, f1, if_neg (by simp), if_neg (by omega)]
  simp only [f2]
  rw [if_neg (by omega), hk, if_neg (by omega), f4, f3]
  by_cases hp : 0 < p.pad.length
  · have hpad := F.pad
    unfold padOk at hpad
    have hpn : padN p.pad = p.pad.length := by
      simp at hpad
      rcases hpad with h | h
      · rw [h] at hp; simp at hp
      · exact h.2
    rw [if_pos (by simpa using hp), hd, padN_append _ hp, hpn, List.length_append, if_neg (by omega)]
    congr 1
    rw [show p.payload.length + p.pad.length - p.pad.length = p.payload.length by omega, List.take_left' rfl, List.drop_left' rfl]
    simp only [hdr, n0, f2, e0, e1, nb2, nb4, nb8, w32s_bytes, e7, e8]
    simp
  · have hp0 : p.pad = [] := List.eq_nil_of_length_eq_zero (by omega)
    rw [if_neg (by simpa using hp)]
    congr 1
    simp only [hdr, n0, f2, e0, e1, nb2, nb4, nb8, w32s_bytes, e7, e8, hd, hp0, List.append_nil]
    cases p
    simp_all

theorem beN_be : ∀ (m : Nat) (x : List UInt8), x.length = m → beN (be x) m = x
  | 0, x, h => by rw [List.eq_nil_of_length_eq_zero h]; rfl
  | m + 1, x, h => by
    have hne : x ≠ [] := by intro e; subst e; simp at h
    have hx := List.dropLast_concat_getLast hne
    rw [← hx, be_snoc, beN_succ]
    have hl := (x.getLast hne).toNat_lt
    have h1 : (be x.dropLast * 256 + (x.getLast hne).toNat) / 256 = be x.dropLast := by omega
    have h2 : UInt8.ofNat (be x.dropLast * 256 + (x.getLast hne).toNat) = x.getLast hne := by
      apply UInt8.toNat_inj.1
      rw [UInt8.toNat_ofNat']
      omega
    rw [h1, h2, beN_be m x.dropLast (by rw [List.length_dropLast]; omega)]
theorem beN_nb {l : List UInt8} {k m : Nat} (h : k + m ≤ l.length) : beN (nb l k m) m = (l.drop k).take m :=
  beN_be m _ (by rw [List.length_take, List.length_drop]; omega)
theorem take_step (l : List UInt8) (a b : Nat) : l.take (a + b) = l.take a ++ (l.drop a).take b := List.take_add
theorem words4_w32s (l : List UInt8) : ∀ n, 12 + 4 * n ≤ l.length → words4 (w32s l 12 n) = (l.drop 12).take (4 * n)
  | 0, _ => rfl
  | n + 1, h => by
    rw [w32s_snoc, words4_append, words4_w32s l n (by omega), show 4 * (n + 1) = 4 * n + 4 by omega, take_step, List.drop_drop]
    congr 1
    show beN _ 4 ++ [] = _
    rw [List.append_nil, u32_nb, beN_nb (by omega)]

/-- What is parsed is written as the same bytes. -/
theorem parse_back {l : List UInt8} {q : Pkt} (h : parseR l = .ok q) : q.wrong = 0 ∧ q.bytes = l := by
  unfold parseR at h
  split at h
  · cases h
  rename_i h15
  unfold parseP at h
  split at h
  · cases h
  split at h
  · cases h
  rename_i h64
  split at h
  · cases h
  rename_i h12
  simp only at h
  split at h
  · cases h
  rename_i hk1
  generalize hk : (if (nb l 0 1 / 16 % 2 == 1) = true then 12 + 4 * (nb l 0 1 % 16) + 4 + 4 * nb l (12 + 4 * (nb l 0 1 % 16) + 2) 2 else 12 + 4 * (nb l 0 1 % 16)) = k2 at h
  split at h
  · cases h
  rename_i hk2
  have hb0 : nb l 0 1 < 256 := by have := nb_lt l 0 1; simpa using this
  have hb1 : nb l 1 1 < 256 := by have := nb_lt l 1 1; simpa using this
  have main : ∀ q : Pkt, q.marker = (nb l 1 1 / 128 % 2 == 1) → q.pt = ((nb l 1 1 % 128 : Nat) : Int) → q.seq = UInt16.ofNat (nb l 2 2) → q.ts = UInt32.ofNat (nb l 4 4) → q.ssrc = UInt32.ofNat (nb l 8 4) → q.csrc = w32s l 12 (nb l 0 1 % 16) →
      q.hasExt = (nb l 0 1 / 16 % 2 == 1) → q.profile = (if (nb l 0 1 / 16 % 2 == 1) = true then UInt16.ofNat (nb l (12 + 4 * (nb l 0 1 % 16)) 2) else 0) →
      q.ext = (if (nb l 0 1 / 16 % 2 == 1) = true then (l.drop (12 + 4 * (nb l 0 1 % 16) + 4)).take (4 * nb l (12 + 4 * (nb l 0 1 % 16) + 2) 2) else []) →
      q.payload ++ q.pad = l.drop k2 → (nb l 0 1 / 32 % 2 == 1) = decide (0 < q.pad.length) → padOk q.pad = true → q.wrong = 0 ∧ q.bytes = l := by
    intro q m0 m1 m2 m3 m4 m5 m6 m7 m8 m9 m10 m11
    have hcl : q.csrc.length = nb l 0 1 % 16 := by rw [m5, w32s_len]
    have hfst : q.first = nb l 0 1 := by
      unfold Pkt.first
      rw [hcl, m6]
      have hd : decide (0 < q.pad.length) = (nb l 0 1 / 32 % 2 == 1) := m10.symm
      have h64' : nb l 0 1 / 64 = 2 := Classical.byContradiction h64
      by_cases c1 : 0 < q.pad.length <;> by_cases c2 : nb l 0 1 / 16 % 2 = 1 <;> simp [c1] at hd <;> simp [c1, c2] <;> omega
    have hsnd : q.second = (nb l 1 1 : Nat) := by
      unfold Pkt.second
      rw [m0, m1]
      by_cases c1 : nb l 1 1 / 128 % 2 = 1 <;> simp [c1] <;> omega
    have hhead : q.head = l.take 12 := by
      unfold Pkt.head
      rw [hfst, hsnd, m2, m3, m4, u16_nb, u32_nb, u32_nb, beN_nb (by omega), beN_nb (by omega), beN_nb (by omega)]
      have i0 : [ib ((nb l 0 1 : Nat) : Int)] = (l.drop 0).take 1 := by
        rw [← beN_nb (by omega)]
        simp only [beN, List.range_succ, List.range_zero, List.nil_append, List.map_cons, List.map_nil, Nat.sub_self, Nat.pow_zero, Nat.div_one, ib]
        congr 2
        omega
      have i1 : [ib ((nb l 1 1 : Nat) : Int)] = (l.drop 1).take 1 := by
        rw [← beN_nb (by omega)]
        simp only [beN, List.range_succ, List.range_zero, List.nil_append, List.map_cons, List.map_nil, Nat.sub_self, Nat.pow_zero, Nat.div_one, ib]
        congr 2
        omega
      rw [i0, i1, show (12 : Nat) = 1 + 1 + 2 + 4 + 4 from rfl, take_step l (1 + 1 + 2 + 4) 4, take_step l (1 + 1 + 2) 4, take_step l (1 + 1) 2, take_step l 1 1, List.drop_zero]
    have hwords : words4 q.csrc = (l.drop 12).take (4 * (nb l 0 1 % 16)) := by rw [m5, words4_w32s _ _ (by omega)]
    have hext : q.extBytes = (l.drop (12 + 4 * (nb l 0 1 % 16))).take (k2 - (12 + 4 * (nb l 0 1 % 16))) ∧ 12 + 4 * (nb l 0 1 % 16) ≤ k2 ∧ q.extOk = true := by
      unfold Pkt.extBytes Pkt.extOk
      rw [m6]
      cases he : (nb l 0 1 / 16 % 2 == 1) with
      | false =>
        rw [he] at hk m7 m8
        simp at hk m7 m8
        subst hk
        simp [m7, m8]
      | true =>
        rw [he] at hk m7 m8
        simp only [if_true] at hk m7 m8
        have hn := nb_lt l (12 + 4 * (nb l 0 1 % 16) + 2) 2
        generalize hkk : 12 + 4 * (nb l 0 1 % 16) = k1 at *
        generalize hnn : nb l (k1 + 2) 2 = n at *
        have hel : q.ext.length = 4 * n := by rw [m8, List.length_take, List.length_drop]; omega
        refine ⟨?_, by omega, ?_⟩
        · rw [if_pos rfl, m7, u16_nb, hel, show 4 * n / 4 % 65536 = n by omega, m8, ← hnn, beN_nb (by omega), beN_nb (by omega), hnn, show k2 - k1 = 2 + 2 + 4 * n by omega, take_step _ (2 + 2), take_step _ 2 2, List.drop_drop, List.drop_drop]
        · simp [hel]; omega
    obtain ⟨hext, hk12, hxok⟩ := hext
    have hbytes : q.bytes = l := by
      unfold Pkt.bytes
      rw [hhead, hwords, hext, List.append_assoc _ q.payload, m9, ← take_step, show l.drop (12 + 4 * (nb l 0 1 % 16)) = l.drop (12 + 4 * (nb l 0 1 % 16)) from rfl, ← take_step, show 12 + 4 * (nb l 0 1 % 16) + (k2 - (12 + 4 * (nb l 0 1 % 16))) = k2 by omega, List.take_append_drop]
    refine ⟨?_, hbytes⟩
    have hsz : q.size = l.length := by rw [← bytes_len, hbytes]
    unfold Pkt.wrong
    rw [if_neg, if_neg (by omega), if_neg (by omega)]
    rintro (h | h | h | h)
    · rw [m1] at h; omega
    · rw [m1] at h; omega
    · rw [hxok] at h; cases h
    · rw [m11] at h; cases h
  split at h
  · rename_i hpb
    split at h
    · cases h
    rename_i hpn
    cases h
    generalize hrr : l.drop k2 = r at *
    have hn0 : padN r ≠ 0 ∧ padN r ≤ r.length := by
      refine ⟨fun e => hpn (.inl e), Nat.le_of_not_lt fun e => hpn (.inr e)⟩
    have hpl : (r.drop (r.length - padN r)).length = padN r := by rw [List.length_drop]; omega
    refine main _ rfl rfl rfl rfl rfl rfl rfl rfl rfl (List.take_append_drop _ _) ?_ ?_
    · rw [hpb]
      symm
      simp only [decide_eq_true_eq]
      rw [hpl]
      omega
    · have hpp : padN (r.drop (r.length - padN r)) = padN r := by
        have := padN_append (r.take (r.length - padN r)) (b := r.drop (r.length - padN r)) (by rw [hpl]; omega)
        rw [List.take_append_drop] at this
        exact this.symm
      have h255 : padN r ≤ 255 := by
        unfold padN
        cases r.getLast? with
        | none => simp
        | some c => have := c.toNat_lt; simp; omega
      unfold padOk
      rw [hpl, hpp]
      simp
      omega
  · rename_i hpb
    cases h
    refine main _ rfl rfl rfl rfl rfl rfl rfl rfl rfl (List.append_nil _) ?_ rfl
    simp at hpb
    simp [hdr, hpb]
end Go.Proofs.Ytchbgiindfoepaa
