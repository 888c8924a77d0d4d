/- What the document's normal form and target of deltas come to, in plain words. -/
import Derived.Test.YtdpbkomaiafemaaHDmx13
import Derived.Test.YtdpbkomaiafemaaHDmx9
import Derived.Test.YtdpbkomaiafemaaHDmx6
import Derived.Test.YtdpbkomaiafemaaPureDmfm
namespace Go.Proofs.Ytdpbkomaiafemaa.Dmfm
open Go.RowKit Go.Proofs.Ytdpbkomaiafemaa.HDm Go.Proofs.Ytdpbkomaiafemaa.Dmtx Go.Proofs.Ytdpbkomaiafemaa.Dmdl Go.Proofs.Ytdpbkomaiafemaa.Dmdn Go.Proofs.Ytdpbkomaiafemaa.Tx Go.Proofs.Ytdpbkomaiafemaa.Dl Go.Proofs.Ytdpbkomaiafemaa.Fm Go.Proofs.YtdpbkomaiafemaaW.PrintWords Go.Proofs.YtdpbkomaiafemaaW.PrintLast Go.Proofs.YtdpbkomaiafemaaW.PrintMore
set_option linter.unusedSimpArgs false
set_option linter.unusedVariables false

theorem target_ev (d : List S36) (hz : Sz d) : Ev (fun k => delta_Target.f k d) ((lensR d).2.1, (lensR d).2.2) := by
  unfold delta_Target.f
  exact Ev.bind (lens_ev d hz) (Ev.now _)
theorem reftarget_loop (os : List O) (hl : os.length ≤ 3000) (hv : V os) (hq : ∀ p, O.ins p ∈ os → p.length < 1099511627776) : ∀ (r i b : Nat), os.length = i + r → b ≤ 1099511628776 * i → Ev (fun k => oxbowref09_Target.l0 k (os.map sop) (b : Int) (i : Int)) (((b + targ (os.drop i) : Nat) : Int), 0)
  | 0, i, b, hi, hb => by
    refine Ev.step (fun k => by simp only [oxbowref09_Target.l0]; rfl) (Ev.neg (by rw [List.length_map]; omega) (Ev.val (Ev.now _) ?_))
    rw [List.drop_of_length_le (by omega)]
    rfl
  | r + 1, i, b, hi, hb => by
    have hil : i < os.length := by omega
    have hmem : os[i] ∈ os := List.getElem_mem hil
    have hvi : VO os[i] := hv _ hmem
    have w1 := Aside0.mk (Ev.wrap_succ i (by omega))
    refine Ev.step (fun k => by simp only [oxbowref09_Target.l0]; rfl) (Ev.pos (by rw [List.length_map]; omega) (Ev.pos (by omega) ?_))
    rw [sop_get os i hil, sop_f1, w1.out, List.drop_eq_getElem_cons hil]
    cases he : os[i] with
    | keep n =>
      rw [he] at hvi
      obtain ⟨h1, h2⟩ := hvi
      simp only [sN, sop, targ]
      rw [Ev.wrap_add b n (by omega)]
      refine Ev.pos trivial (Ev.val (reftarget_loop os hl hv hq r (i + 1) (b + n) (by omega) (by omega)) ?_)
      simp only [Nat.add_assoc]
    | del n =>
      simp only [sN, sop, targ]
      exact Ev.neg (by decide) (Ev.neg (by decide) (reftarget_loop os hl hv hq r (i + 1) b (by omega) (by omega)))
    | ins p =>
      rw [he] at hvi hmem
      have hp := hq p hmem
      have h1 := enc_length_le p
      simp only [sN, sop, targ]
      refine Ev.neg (by decide) (Ev.pos trivial (Ev.bind (ref_len_ev (st p) (by rw [st_size]; omega)) ?_))
      rw [dec_st p hvi.2]
      simp only [lenR]
      rw [Ev.wrap_add b p.length (by omega)]
      refine Ev.val (reftarget_loop os hl hv hq r (i + 1) (b + p.length) (by omega) (by omega)) ?_
      simp only [Nat.add_assoc]
theorem lensR_bad {d : List S36} (h0 : (lensR d).2.2 ≠ 0) : (lensR d).1 = 0 ∧ (lensR d).2.1 = 0 := by
  unfold lensR at h0 ⊢
  split
  · exact ⟨rfl, rfl⟩
  · cases hp : parse d with
    | none => exact ⟨rfl, rfl⟩
    | some os =>
      rw [if_neg (by assumption), hp] at h0
      simp only [moreR, finR] at h0 ⊢
      split
      · exact ⟨rfl, rfl⟩
      · split
        · exact ⟨rfl, rfl⟩
        · exact absurd (by rw [if_neg (by assumption), if_neg (by assumption)]) h0
theorem reftarget_ev (d : List S36) (hd : Sz d) : Ev (fun k => oxbowref09_Target.f k d) ((lensR d).2.1, (lensR d).2.2) := by
  unfold oxbowref09_Target.f
  refine Ev.bind (refcheck_ev d hd) ?_
  by_cases h0 : (lensR d).2.2 = 0
  · refine Ev.pos h0 ?_
    obtain ⟨os, rfl, hv, hb, ht, hl, he⟩ := lensR_ok h0
    rw [he]
    have := reftarget_loop os hl hv (sz_ins hd) os.length 0 0 (by omega) (by omega)
    simpa using this
  · refine Ev.neg h0 (Ev.val (Ev.now _) ?_)
    rw [(lensR_bad h0).2]
theorem refnormal_ev (d : List S36) (hd : Sz d) : Ev (fun k => oxbowref09_Normal.f k d) (normR d) := by
  unfold oxbowref09_Normal.f normR
  refine Ev.bind (refcheck_ev d hd) ?_
  by_cases h0 : (lensR d).2.2 = 0
  · rw [if_pos h0]
    refine Ev.pos h0 ?_
    obtain ⟨os, rfl, hv, hb, ht, hl, he⟩ := lensR_ok h0
    rw [parse_sop hv]
    refine Ev.bind (formed_ev os hv hl hb ht hd) (Ev.bind (built_ev (fmI os) (fmG os) (by rw [fmI_length, fmG_length]) (by rw [fmG_length]; omega) (fun q hq => by have := fmI_short q hq; omega)) ?_)
    rw [bd_nf os hv.v1]
    exact Ev.now _
  · rw [if_neg h0]
    exact Ev.neg h0 (Ev.now _)
end Go.Proofs.Ytdpbkomaiafemaa.Dmfm
