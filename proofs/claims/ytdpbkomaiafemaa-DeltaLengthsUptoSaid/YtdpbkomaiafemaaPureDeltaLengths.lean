/- A text behind a delta is as long as its target: for every text and every delta that are small altogether. -/
import Derived.Test.YtdpbkomaiafemaaHDlx9
import Derived.Test.YtdpbkomaiafemaaPureDldn
namespace Go.Proofs.Ytdpbkomaiafemaa.Pure
open Go.RowKit Go.Proofs.Ytdpbkomaiafemaa.HDl Go.Proofs.Ytdpbkomaiafemaa.Dltx Go.Proofs.Ytdpbkomaiafemaa.Dldl Go.Proofs.Ytdpbkomaiafemaa.Dldn Go.Proofs.Ytdpbkomaiafemaa.Tx Go.Proofs.Ytdpbkomaiafemaa.Dl Go.Proofs.YtdpbkomaiafemaaW.PrintWords Go.Proofs.YtdpbkomaiafemaaW.PrintLast Go.Proofs.YtdpbkomaiafemaaW.PrintMore
set_option linter.unusedSimpArgs false
set_option linter.unusedVariables false

theorem DeltaLengths : oxbowlaw09_DeltaLengths.Pure := by
  intro s d hs hd hb
  obtain ⟨hz, hl⟩ := sz_of hb
  refine Ev.rounds ?_
  unfold oxbowlaw09_DeltaLengths.f
  refine Ev.bind (apply_ev s (by omega) d hz) ?_
  by_cases h : (applyR s d).2 = 0
  · refine Ev.pos h (Ev.bind (base_ev d hz) (Ev.bind (g := fun k => delta_Target.f k d) (a := ((lensR d).2.1, (lensR d).2.2)) ?_ ?_))
    · unfold delta_Target.f
      exact Ev.bind (lens_ev d hz) (Ev.now _)
    · have hA : applyR s d = applyR s d := rfl
      revert h
      unfold applyR
      cases hp : dec s.data.toList with
      | none => intro h; cases h
      | some l =>
        simp only
        by_cases h0 : (lensR d).2.2 = 0
        · rw [if_pos h0]
          by_cases h1 : (lensR d).1 = (l.length : Int)
          · rw [if_pos h1]
            obtain ⟨os, rfl, hv, hb', ht, hl', he⟩ := lensR_ok h0
            rw [parse_sop hv]
            intro _
            simp only
            rw [he] at h1
            have hbl : base os = l.length := Int.ofNat.inj h1
            have hal := app_length os l (by omega)
            have hst : (st (app os l)).size < 17592186044416 := by
              have := enc_length_le (app os l)
              rw [st_size]
              omega
            rw [he]
            refine Ev.pos rfl (Ev.pos rfl (Ev.bind (ref_len_ev s (by omega)) ?_))
            rw [hp]
            refine Ev.pos (by simp only [lenR]; omega) (Ev.bind (ref_len_ev _ hst) ?_)
            rw [dec_st _ (app_allP os l hv (dec_allP hp))]
            exact Ev.pos (by simp only [lenR]; omega) (Ev.bind live_ev (Ev.now _))
          · rw [if_neg h1]; intro h; cases h
        · rw [if_neg h0]; intro h; exact absurd h h0
  · refine Ev.neg h (Ev.pos ?_ (Ev.bind live_ev (Ev.now _)))
    revert h
    unfold applyR
    cases hp : dec s.data.toList with
    | none => intro _; exact (toList_nil _).2 rfl
    | some l =>
      simp only
      by_cases h0 : (lensR d).2.2 = 0
      · rw [if_pos h0]
        by_cases h1 : (lensR d).1 = (l.length : Int)
        · rw [if_pos h1]
          intro h
          cases hq : parse d with
          | none => exact (toList_nil _).2 rfl
          | some os => rw [hq] at h; exact absurd rfl h
        · rw [if_neg h1]; intro _; exact (toList_nil _).2 rfl
      · rw [if_neg h0]; intro _; exact (toList_nil _).2 rfl
end Go.Proofs.Ytdpbkomaiafemaa.Pure
