/- The reading of bytes as a delta, as the document says: for every string. -/
import Derived.Test.YtdpbkomaiafemaaHDdx10
import Derived.Test.YtdpbkomaiafemaaPureDddr
namespace Go.Proofs.Ytdpbkomaiafemaa.Pure
open Go.RowKit Go.Proofs.Ytdpbkomaiafemaa.HDd Go.Proofs.Ytdpbkomaiafemaa.Ddtx Go.Proofs.Ytdpbkomaiafemaa.Dddl Go.Proofs.Ytdpbkomaiafemaa.Dddn Go.Proofs.Ytdpbkomaiafemaa.Ddec Go.Proofs.Ytdpbkomaiafemaa.Tx Go.Proofs.Ytdpbkomaiafemaa.Dl Go.Proofs.YtdpbkomaiafemaaW.PrintWords Go.Proofs.YtdpbkomaiafemaaW.PrintLast Go.Proofs.YtdpbkomaiafemaaW.PrintMore
set_option linter.unusedSimpArgs false
set_option linter.unusedVariables false

theorem DeltaReads : oxbowlaw09_DeltaReads.Pure := by
  intro s hs
  refine Ev.rounds ?_
  unfold oxbowlaw09_DeltaReads.f
  exact Ev.bind (dec_ev s (by omega)) (Ev.bind (refdec_ev s (by omega)) (Ev.bind (same_ev _ _ (by have := decR_len s; omega) rfl) (Ev.pos rfl (Ev.pos rfl live_ev))))
end Go.Proofs.Ytdpbkomaiafemaa.Pure
