/- The walks of rtp.Same, Clone, Seq, SSRC, PT, IsRTCP and the library's functions beneath. -/
import Derived.Test.YtchbgiindfoepaaRtpWrite2
namespace Go.Proofs.Ytchbgiindfoepaa
open Go.RowKit

theorem conv_bytes {w : World} {v : Value} {l : List UInt8} (h : Bytes w v l) : (convert 25 9 v).run Try.prog w = .ok (.string ⟨l.toArray⟩) w := by
  obtain ⟨a, cap, rfl⟩ := h.shape
  simp only [List.length_map] at h ⊢
  cases a with
  | none =>
    obtain ⟨_, h2, _, h4⟩ := h.len
    have := h4 rfl
    have hl : l = [] := List.eq_nil_of_length_eq_zero (by omega)
    subst hl
    exact run_convert_bytes_nil w 25 5 Try.underlying25 Try.underlying5 _ _ 9 Try.underlying9
  | some p =>
    refine run_convert_bytes_back w 25 9 5 p cap l Try.underlying25 Try.underlying5 Try.underlying9 (fun j hj => ?_)
    obtain ⟨b, o, e, hb, hc⟩ := h.at_ hj
    simp only [Option.some.injEq] at e
    subst e
    have := hc j (B8 l[j]) (by rw [List.getElem?_map, List.getElem?_eq_getElem hj]; rfl)
    have hadd : (⟨b, o, none⟩ : Addr).add j = ⟨b, o + j, none⟩ := by unfold Addr.add; split <;> simp_all
    rw [hadd]
    exact this

end Go.Proofs.Ytchbgiindfoepaa
