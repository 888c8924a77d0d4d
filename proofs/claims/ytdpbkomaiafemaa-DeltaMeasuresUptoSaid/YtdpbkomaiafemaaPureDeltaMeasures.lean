/- Whether any delta may be, of how long texts it is, and its normal form, as the document says; it is as it was: for every delta that is small altogether. -/
import Derived.Test.YtdpbkomaiafemaaHDmx13
import Derived.Test.YtdpbkomaiafemaaPureDmft
namespace Go.Proofs.Ytdpbkomaiafemaa.Pure
open Go.RowKit Go.Proofs.Ytdpbkomaiafemaa.HDm Go.Proofs.Ytdpbkomaiafemaa.Dmtx Go.Proofs.Ytdpbkomaiafemaa.Dmdl Go.Proofs.Ytdpbkomaiafemaa.Dmdn Go.Proofs.Ytdpbkomaiafemaa.Dmfm Go.Proofs.Ytdpbkomaiafemaa.Tx Go.Proofs.Ytdpbkomaiafemaa.Dl Go.Proofs.Ytdpbkomaiafemaa.Fm Go.Proofs.YtdpbkomaiafemaaW.PrintWords Go.Proofs.YtdpbkomaiafemaaW.PrintLast Go.Proofs.YtdpbkomaiafemaaW.PrintMore
set_option linter.unusedSimpArgs false
set_option linter.unusedVariables false

theorem written_loop (d : List S36) (hl : d.length < 9223372036854775807) : ∀ (r i : Nat) (n : List S36), n.length = i + r → n.length < 9223372036854775807 → Ev (fun k => oxbowlaw09_DeltaMeasures.l0 k d d n (i : Int)) true
  | 0, i, n, hi, hn => Ev.step (fun k => by simp only [oxbowlaw09_DeltaMeasures.l0]; rfl) (Ev.neg (by omega) (Ev.bind (same_ev d d hl rfl) (Ev.pos rfl (Ev.bind live_ev (Ev.now _)))))
  | r + 1, i, n, hi, hn => by
    refine Ev.step (fun k => by simp only [oxbowlaw09_DeltaMeasures.l0]; rfl) (Ev.pos (by omega) (Ev.pos (by omega) ?_))
    rw [Ev.wrap_succ i (by omega)]
    exact written_loop d hl r (i + 1) _ (by rw [List.length_set]; omega) (by rw [List.length_set]; omega)
theorem DeltaMeasures : oxbowlaw09_DeltaMeasures.Pure := by
  intro d hd hb
  obtain ⟨hz, hl⟩ := sz_of (d := d) (n := 0) (by rw [Nat.zero_add]; exact hb)
  refine Ev.rounds ?_
  unfold oxbowlaw09_DeltaMeasures.f
  have hnl : (normR d).1.length < 9223372036854775807 := by
    unfold normR
    split
    · cases hp : parse d with
      | none => simp
      | some os =>
        have h1 := length_nf os
        have h2 := congrArg List.length (parse_some hp).1
        rw [List.length_map] at h2
        show ((nf os).map sop).length < _
        rw [List.length_map]
        omega
    · simp
  refine Ev.bind (a := d) (Ev.const (by unfold oxbowlaw09_Copied.f; rw [if_pos (by simp only [List.length_nil]; omega), List.nil_append])) ?_
  refine Ev.bind (check_ev d hz) (Ev.bind (base_ev d hz) (Ev.bind (target_ev d hz) (Ev.bind (normal_ev d hz) (Ev.bind (refbase_ev d hz) (Ev.bind (reftarget_ev d hz) (Ev.bind (refnormal_ev d hz) (Ev.bind (refcheck_ev d hz) ?_)))))))
  refine Ev.pos rfl (Ev.pos rfl (Ev.pos rfl (Ev.pos rfl (Ev.pos rfl (Ev.pos rfl (Ev.bind (same_ev _ _ hnl rfl) (Ev.pos rfl (Ev.bind (same_ev d d (by omega) rfl) ?_))))))))
  refine Ev.step (fun k => by simp only [oxbowlaw09_DeltaMeasures.j0]; rfl) (Ev.neg (by decide) ?_)
  exact written_loop d (by omega) (normR d).1.length 0 (normR d).1 (by omega) hnl
end Go.Proofs.Ytdpbkomaiafemaa.Pure
