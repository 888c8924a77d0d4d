/- The normal form does the same to every text as the delta, and is its own normal form: for every text and every delta that are small altogether. -/
import Derived.Test.YtdpbkomaiafemaaHDlx9
import Derived.Test.YtdpbkomaiafemaaPureDldn
namespace Go.Proofs.Ytdpbkomaiafemaa.Pure
open Go.RowKit Go.Proofs.Ytdpbkomaiafemaa.HDl Go.Proofs.Ytdpbkomaiafemaa.Dltx Go.Proofs.Ytdpbkomaiafemaa.Dldl Go.Proofs.Ytdpbkomaiafemaa.Dldn Go.Proofs.Ytdpbkomaiafemaa.Tx Go.Proofs.Ytdpbkomaiafemaa.Dl Go.Proofs.YtdpbkomaiafemaaW.PrintWords Go.Proofs.YtdpbkomaiafemaaW.PrintLast Go.Proofs.YtdpbkomaiafemaaW.PrintMore
set_option linter.unusedSimpArgs false
set_option linter.unusedVariables false

theorem targ_ins {os : List O} {p : List Nat} (h : O.ins p ∈ os) : p.length ≤ targ os := by
  induction os with
  | nil => cases h
  | cons o os ih =>
    rcases List.mem_cons.1 h with rfl | h
    · simp only [targ]; omega
    · have := ih h
      cases o <;> simp only [targ] <;> omega
theorem sz_targ {os : List O} (h : targ os ≤ 1000) : Sz (os.map sop) := by
  intro x hx
  obtain ⟨o, ho, rfl⟩ := List.mem_map.1 hx
  cases o with
  | keep n => show 0 < _; omega
  | del n => show 0 < _; omega
  | ins p =>
    have h1 := targ_ins ho
    have h2 := enc_length_le p
    show (st p).size < _
    rw [st_size]
    omega
theorem target_ev (d : List S36) (hz : Sz d) : Ev (fun k => delta_Target.f k d) ((lensR d).2.1, (lensR d).2.2) := by
  unfold delta_Target.f
  exact Ev.bind (lens_ev d hz) (Ev.now _)
theorem DeltaNormal : oxbowlaw09_DeltaNormal.Pure := by
  intro s d hs hd hb
  obtain ⟨hz, hl⟩ := sz_of hb
  refine Ev.rounds ?_
  unfold oxbowlaw09_DeltaNormal.f
  refine Ev.bind (normal_ev d hz) ?_
  by_cases h0 : (lensR d).2.2 = 0
  · obtain ⟨os, rfl, hv, hb', ht, hl', he⟩ := lensR_ok h0
    have hvn := hv.nf hb'
    have hbn := base_nf os
    have htn := targ_nf os
    have hln := length_nf os
    have hzn : Sz ((nf os).map sop) := sz_targ (by omega)
    have hen := lensR_sop hvn (by omega) (by omega) (by omega)
    rw [normR_ok hv hl' hb' ht]
    simp only
    refine Ev.pos trivial (Ev.bind (normal_ev _ hzn) (Ev.bind (apply_ev s (by omega) _ hz) (Ev.bind (apply_ev s (by omega) _ hzn) (Ev.bind (base_ev _ hz) (Ev.bind (base_ev _ hzn) (Ev.bind (target_ev _ hz) (Ev.bind (target_ev _ hzn) ?_)))))))
    rw [normR_ok hvn (by omega) (by omega) (by omega), nf_nf]
    have ha : applyR s ((nf os).map sop) = applyR s (os.map sop) := by
      unfold applyR
      cases dec s.data.toList with
      | none => rfl
      | some l =>
        simp only
        rw [hen, he, parse_sop hv, parse_sop hvn]
        simp only [app_nf, hbn]
    rw [ha, he, hen]
    simp only
    refine Ev.pos trivial (Ev.bind (same_ev _ _ (by rw [List.length_map]; omega) rfl) (Ev.pos rfl (Ev.pos trivial (Ev.pos trivial (Ev.pos (by rw [hbn]) (Ev.pos (by rw [htn]) (Ev.bind live_ev (Ev.now _))))))))
  · have e : normR d = ([], (lensR d).2.2) := by unfold normR; rw [if_neg h0]
    rw [e]
    exact Ev.neg h0 (Ev.pos rfl (Ev.bind live_ev (Ev.now _)))
end Go.Proofs.Ytdpbkomaiafemaa.Pure
