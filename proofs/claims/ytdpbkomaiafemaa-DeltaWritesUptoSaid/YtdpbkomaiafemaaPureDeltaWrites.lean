/- The bytes of any delta, as the document says: for every delta that is small altogether. -/
import Derived.Test.YtdpbkomaiafemaaHDex9
import Derived.Test.YtdpbkomaiafemaaPureDeer
namespace Go.Proofs.Ytdpbkomaiafemaa.Pure
open Go.RowKit Go.Proofs.Ytdpbkomaiafemaa.HDe Go.Proofs.Ytdpbkomaiafemaa.Detx Go.Proofs.Ytdpbkomaiafemaa.Dedl Go.Proofs.Ytdpbkomaiafemaa.Dedn Go.Proofs.Ytdpbkomaiafemaa.Deec Go.Proofs.Ytdpbkomaiafemaa.Tx Go.Proofs.Ytdpbkomaiafemaa.Dl Go.Proofs.YtdpbkomaiafemaaW.PrintWords Go.Proofs.YtdpbkomaiafemaaW.PrintLast Go.Proofs.YtdpbkomaiafemaaW.PrintMore
set_option linter.unusedSimpArgs false
set_option linter.unusedVariables false

theorem DeltaWrites : oxbowlaw09_DeltaWrites.Pure := by
  intro d hd hb
  obtain ⟨hz, hl⟩ := sz_of (d := d) (n := 0) (by rw [Nat.zero_add]; exact hb)
  refine Ev.rounds ?_
  unfold oxbowlaw09_DeltaWrites.f
  refine Ev.bind (a := d) (Ev.const (by unfold oxbowlaw09_Copied.f; rw [if_pos (by simp only [List.length_nil]; omega), List.nil_append])) ?_
  exact Ev.bind (enc_ev d hz) (Ev.bind (refenc_ev d hz) (Ev.pos rfl (Ev.pos rfl (Ev.bind live_ev (Ev.now _)))))
end Go.Proofs.Ytdpbkomaiafemaa.Pure
