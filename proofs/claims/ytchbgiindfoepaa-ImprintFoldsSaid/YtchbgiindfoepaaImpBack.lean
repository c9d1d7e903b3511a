/- The walk of confluxlaw12.ImprintBack (printed by gen_imp11.py). -/
import Derived.Test.YtchbgiindfoepaaImp9
import Derived.Test.YtchbgiindfoepaaRtpField
namespace Go.Proofs.Ytchbgiindfoepaa
open Go.RowKit

theorem seq_bytes {l : List UInt8} {p : Pkt} (h : parseR l = .ok p) : nb l 2 2 = p.seq.toNat := by
  obtain ⟨h1, h2⟩ := parse_back h
  rw [← h2, nb2]
theorem ssrc_bytes {l : List UInt8} {p : Pkt} (h : parseR l = .ok p) : nb l 8 4 = p.ssrc.toNat := by
  obtain ⟨h1, h2⟩ := parse_back h
  rw [← h2, nb8]
theorem back_pack {l : List UInt8} {p : Pkt} (h : parseR l = .ok p) (more : List UInt8) : ({ imp l with body := (imp l).body ++ more } : Bt).pack p.seq p.ssrc = .ok l := by
  obtain ⟨h1, h2⟩ := parse_back h
  rw [← h2, pack_bytes h1, p.put_same]
end Go.Proofs.Ytchbgiindfoepaa
