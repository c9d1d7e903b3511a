import Derived.Maps.Own
import Derived.WideKeyEntry
import Derived.Test.YtngfenjekgdfbaaMu1
/- 'm[k], x = v, y': an entry looked up ahead and stored behind, in a map of the call's own. No program in sight. -/
namespace Go.Proofs.Ytngfenjekgdfbaa
open Go.RowKit Go.Maps Go.ChangeMaps

theorem own_entry {H : Type} {P : Program} {w : World} {t k e : TypeId} {R : Value → Option (DataW H × List MemPlace)} {b n : Nat} {D : DataW H} (h : w.ownsMap P k R b n D) (K : Keyed P k) (ht : P.underlying t = some (.map k e)) {z : Value} (hz : ∀ u : World, (zeroValue e).run P u = .ok z u)
    (hn : n < maxLen) {key val : Value} {kl : Lit} {d : DataW H} {ps : List MemPlace} (hkey : keyOf P k key = some kl) (hv : R val = some (d, ps)) :
    ∃ (v0 : Value) (st : Nat) (w1 w2 : World), (Instr.mapEntry t (.map (some b)) key).run P w = .ok (.tuple #[v0, .int .i64 st]) w1 ∧ (Instr.entryStore t (.map (some b)) (.int .i64 st) val).run P w1 = .ok () w2 ∧ w2.ownsMap P k R b (n + 1) (D.put kl d) ∧ Fr [b] w w2 := by
  obtain ⟨w', hup, hown, hgr⟩ := h.update K ht hn hkey hv
  have hfr : Fr [b] w w' := (Fr.refl [b] w).grown hgr (fun r hr => by cases hr; exact .inl (by simp))
  obtain ⟨es, clock, hb, F, hs, rfl⟩ := h
  obtain ⟨s1, s2, _⟩ := F.stamped
  have hset : ∀ (o o' : Obj), setBlock (setBlock w b o) b o' = setBlock w b o' := fun o o' => by
    unfold setBlock
    simp
  have hat : ∀ o : Obj, (setBlock w b o).heap[b]? = some o := fun o => heap_setBlock_same hb o
  rcases K.find w hkey es.toList F.keys with ⟨h1, h2⟩ | ⟨j, e0, h1, h2, h3⟩
  · have e1 : (Instr.mapEntry t (.map (some b)) key).run P w = .ok (.tuple #[z, .int .i64 clock]) (setBlock w b (.map (es.push ⟨key, z, clock⟩) (clock + 1))) := by
      simp [Instr.mapEntry, run_underlying ht, MapKept.run_getObj_map hb, K.check w false hkey, h1, hz, MapKept.run_setObj_map _ hb, Result.andThen, setBlock]
      rfl
    have hidx : (es.push ⟨key, z, clock⟩).findIdx? (fun e => ((e.born : Nat) : Int) == ((clock : Nat) : Int)) = some es.size := by
      rw [WideElems.findIdx_arr]
      exact WideElems.findIdx_born (l := (es.push ⟨key, z, clock⟩).toList) (j := es.size) (e0 := ⟨key, z, clock⟩) (by
        simp only [Array.toList_push, List.map_append, List.map_cons, List.map_nil]
        refine List.nodup_append.2 ⟨s2, by simp, fun a ha c hc e1 => ?_⟩
        simp only [List.mem_singleton] at hc
        obtain ⟨x, hx, rfl⟩ := List.mem_map.1 ha
        have := s1 x hx
        omega) (by simp)
    have hmod : (es.push ⟨key, z, clock⟩).modify es.size (fun e => { e with val := val }) = es.push ⟨key, val, clock⟩ := by
      apply Array.ext'
      rw [Array.toList_modify, Array.toList_push, Array.toList_push, ← Array.length_toList, WideElems.modify_last]
    have e2 : (Instr.entryStore t (.map (some b)) (.int .i64 clock) val).run P (setBlock w b (.map (es.push ⟨key, z, clock⟩) (clock + 1))) = .ok () (setBlock w b (.map (es.push ⟨key, val, clock⟩) (clock + 1))) := by
      have hw2 := hat (.map (es.push ⟨key, z, clock⟩) (clock + 1))
      have hh := hset (.map (es.push ⟨key, z, clock⟩) (clock + 1)) (.map (es.push ⟨key, val, clock⟩) (clock + 1))
      simp [Instr.entryStore, MapKept.run_getObj_map hw2, asInt, asIntOf, hidx, hmod, MapKept.run_setObj_map _ hw2, Result.andThen]
      exact hh
    have e3 : (Instr.mapUpdate t (.map (some b)) key val).run P w = .ok () (setBlock w b (.map (es.push ⟨key, val, clock⟩) (clock + 1))) := by
      simp [Instr.mapUpdate, run_underlying ht, MapKept.run_getObj_map hb, K.check w false hkey, h1, MapKept.run_setObj_map _ hb, Result.andThen, setBlock]
    have e4 : w' = setBlock w b (.map (es.push ⟨key, val, clock⟩) (clock + 1)) := by
      rw [hup] at e3
      injection e3
    subst e4
    exact ⟨z, clock, _, _, e1, e2, hown, hfr⟩
  · have hj : es[j]? = some e0 := by simpa using h2
    have hsame : es.modify j (fun e => { e with key := key }) = es := by
      apply Array.ext'
      rw [Array.toList_modify, modify_eq_set _ _ _ _ h2]
      have : ({ e0 with key := key } : MapEntry) = e0 := by rw [← h3]
      rw [this]
      exact WideElems.set_self _ _ _ h2
    have e1 : (Instr.mapEntry t (.map (some b)) key).run P w = .ok (.tuple #[e0.val, .int .i64 e0.born]) (setBlock w b (.map es clock)) := by
      simp [Instr.mapEntry, run_underlying ht, MapKept.run_getObj_map hb, K.check w false hkey, h1, hj, h3, K.stays w hkey, hsame, MapKept.run_setObj_map _ hb, Result.andThen, setBlock]
      rfl
    have hidx : es.findIdx? (fun e => ((e.born : Nat) : Int) == ((e0.born : Nat) : Int)) = some j := by
      rw [WideElems.findIdx_arr]
      exact WideElems.findIdx_born s2 h2
    have hmod : es.modify j (fun e => { e with val := val }) = es.modify j (fun e' => { e' with key := key, val := val }) := by
      apply Array.ext'
      rw [Array.toList_modify, Array.toList_modify, modify_eq_set _ _ _ _ h2, modify_eq_set _ _ _ _ h2, ← h3]
    have e2 : (Instr.entryStore t (.map (some b)) (.int .i64 e0.born) val).run P (setBlock w b (.map es clock)) = .ok () (setBlock w b (.map (es.modify j (fun e' => { e' with key := key, val := val })) clock)) := by
      have hw2 := hat (.map es clock)
      have hh := hset (.map es clock) (.map (es.modify j (fun e' => { e' with key := key, val := val })) clock)
      simp [Instr.entryStore, MapKept.run_getObj_map hw2, asInt, asIntOf, hidx, hmod, MapKept.run_setObj_map _ hw2, Result.andThen]
      exact hh
    have e3 : (Instr.mapUpdate t (.map (some b)) key val).run P w = .ok () (setBlock w b (.map (es.modify j (fun e' => { e' with key := key, val := val })) clock)) := by
      simp [Instr.mapUpdate, run_underlying ht, MapKept.run_getObj_map hb, K.check w false hkey, h1, hj, h3, K.stays w hkey, MapKept.run_setObj_map _ hb, Result.andThen, setBlock]
    have e4 : w' = setBlock w b (.map (es.modify j (fun e' => { e' with key := key, val := val })) clock) := by
      rw [hup] at e3
      injection e3
    subst e4
    exact ⟨e0.val, e0.born, _, _, e1, e2, hown, hfr⟩
end Go.Proofs.Ytngfenjekgdfbaa
