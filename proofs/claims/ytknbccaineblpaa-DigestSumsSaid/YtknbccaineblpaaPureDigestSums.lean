/- The digest of any bytes, from any number on, is just the document's: for every number and every text. -/
import Derived.Test.YtknbccaineblpaaHDigx1
import Derived.Test.YtknbccaineblpaaPureDg
namespace Go.Proofs.Ytknbccaineblpaa.Pure
open Go.RowKit Go.Proofs.Ytknbccaineblpaa.HDig Go.Proofs.Ytknbccaineblpaa.Dg Go.Proofs.YtknbccaineblpaaW.PrintWords Go.Proofs.YtknbccaineblpaaW.PrintLast

theorem name_same (x : Nat) (hx : x < 4294967296) : oxbowref07_Name.f (x : Int) = digest_Name.f (x : Int) := by
  unfold oxbowref07_Name.f digest_Name.f
  have h0 : wrap64 (x : Int) = (x : Int) := wrap_id _ (by omega) (by omega)
  have m : ∀ y : Nat, Int.tmod (y : Int) 256 = ((y % 256 : Nat) : Int) := fun y => by rw [Int.tmod_eq_emod_of_nonneg (by omega)]; rfl
  have d1 : Int.tdiv (x : Int) 16777216 = ((x / 16777216 : Nat) : Int) := by rw [Int.tdiv_eq_ediv_of_nonneg (by omega)]; rfl
  have d2 : Int.tdiv (x : Int) 65536 = ((x / 65536 : Nat) : Int) := by rw [Int.tdiv_eq_ediv_of_nonneg (by omega)]; rfl
  have d3 : Int.tdiv (x : Int) 256 = ((x / 256 : Nat) : Int) := by rw [Int.tdiv_eq_ediv_of_nonneg (by omega)]; rfl
  rw [h0, d1, d2, d3, wrap_id _ (by omega) (by omega), wrap_id ((x / 65536 : Nat) : Int) (by omega) (by omega), wrap_id ((x / 256 : Nat) : Int) (by omega) (by omega), m, m, m]
  have e1 : ((x / 16777216 : Nat) : Int) % 256 = (x : Int) / 16777216 % 256 := by omega
  have e2 : ((x / 65536 % 256 : Nat) : Int) % 256 = (x : Int) / 65536 % 256 := by omega
  have e3 : ((x / 256 % 256 : Nat) : Int) % 256 = (x : Int) / 256 % 256 := by omega
  have e4 : ((x % 256 : Nat) : Int) % 256 = (x : Int) % 256 := by omega
  rw [e1, e2, e3, e4]

theorem DigestSums : oxbowlaw07_DigestSums.Pure := by
  intro a0 s h0 hs
  obtain ⟨x, rfl⟩ : ∃ x : Nat, a0 = (x : Int) := ⟨a0.toNat, by simp [Lit.wf, IntKind.min, IntKind.max, IntKind.signed, IntKind.bits] at h0; omega⟩
  have hx : x < 4294967296 := by simp [Lit.wf, IntKind.min, IntKind.max, IntKind.signed, IntKind.bits] at h0; omega
  refine Ev.rounds ?_
  unfold oxbowlaw07_DigestSums.f
  refine Ev.bind live_ev (ev_pos rfl (Ev.bind (own_sum s (by omega)) (Ev.bind (ref_sum s (by omega)) (ev_pos rfl (Ev.bind (own_ext s (by omega) x hx) (Ev.bind (ref_ext s (by omega) x hx) (ev_pos rfl ?_)))))))
  refine Ev.congr (fun _ => ?_) (Ev.now true)
  rw [name_same x hx]
  unfold digest_Name.f
  simp

end Go.Proofs.Ytknbccaineblpaa.Pure
