/- A delta written is read back, and not with more behind it: for every delta and text that are small altogether. -/
import Derived.Test.YtdpbkomaiafemaaHDdx10
import Derived.Test.YtdpbkomaiafemaaPureDddr
namespace Go.Proofs.Ytdpbkomaiafemaa.Pure
open Go.RowKit Go.Proofs.Ytdpbkomaiafemaa.HDd Go.Proofs.Ytdpbkomaiafemaa.Ddtx Go.Proofs.Ytdpbkomaiafemaa.Dddl Go.Proofs.Ytdpbkomaiafemaa.Dddn Go.Proofs.Ytdpbkomaiafemaa.Ddec Go.Proofs.Ytdpbkomaiafemaa.Tx Go.Proofs.Ytdpbkomaiafemaa.Dl Go.Proofs.YtdpbkomaiafemaaW.PrintWords Go.Proofs.YtdpbkomaiafemaaW.PrintLast Go.Proofs.YtdpbkomaiafemaaW.PrintMore
set_option linter.unusedSimpArgs false
set_option linter.unusedVariables false

theorem DeltaBack : oxbowlaw09_DeltaBack.Pure := by
  intro d more hd hm hb
  obtain ⟨hz, hl⟩ := sz_of (d := d) (n := more.size + 1) (by omega)
  refine Ev.rounds ?_
  unfold oxbowlaw09_DeltaBack.f
  refine Ev.bind (enc_ev d hz) ?_
  unfold encR
  by_cases h0 : (lensR d).2.2 = 0
  · rw [if_pos h0]
    obtain ⟨os, rfl, hv, hb, ht, hl, he⟩ := lensR_ok h0
    rw [parse_sop hv]
    have hlen := encB_length os hv ht hl
    have h1 := decR_enc os hv hb ht hl ⟨#[]⟩
    rw [show B (encB os) ++ (⟨#[]⟩ : ByteArray) = B (encB os) from Ev.ext_data (by rw [Ev.data_append]; simp), if_pos (show (⟨#[]⟩ : ByteArray).size = 0 from rfl)] at h1
    have h2 := decR_enc os hv hb ht hl more
    have hsz := B_size (encB os)
    have hD := dec_ev (B (encB os)) (by omega)
    rw [h1] at hD
    refine Ev.pos rfl (Ev.bind hD (Ev.bind (same_ev _ _ (by rw [List.length_map]; omega) rfl) (Ev.pos rfl (Ev.pos rfl ?_))))
    by_cases hm0 : more.size = 0
    · exact Ev.pos hm0 live_ev
    · rw [if_neg hm0] at h2
      have hD2 := dec_ev (B (encB os) ++ more) (by rw [ByteArray.size_append]; omega)
      rw [h2] at hD2
      exact Ev.neg hm0 (Ev.pos (by dsimp only; omega) (Ev.bind hD2 (Ev.pos rfl live_ev)))
  · rw [if_neg h0]
    exact Ev.neg h0 (Ev.pos rfl live_ev)
end Go.Proofs.Ytdpbkomaiafemaa.Pure
