/- Whether two lists are the same. -/
import Derived.Test.YtknbccaineblpaaHPkx2
import Derived.Test.YtknbccaineblpaaPurePkpl
namespace Go.Proofs.Ytknbccaineblpaa.Pkpk
open Go.RowKit Go.Proofs.Ytknbccaineblpaa.HPk Go.Proofs.Ytknbccaineblpaa.Pk Go.Proofs.YtknbccaineblpaaW.PrintWords Go.Proofs.YtknbccaineblpaaW.PrintLast Go.Proofs.YtknbccaineblpaaW.PrintMore
set_option linter.unusedSimpArgs false
set_option linter.unusedVariables false
theorem same_loop (l m : List ByteArray) (hl : l.length = m.length) (hb : l.length < 9223372036854775808) : ∀ (d i : Nat), i + d = l.length → Ev (fun k => oxbowlaw02_same.l0 k l m (i : Int)) (decide (l.drop i = m.drop i))
  | 0, i, hd => by
    refine Ev.step (f := fun _ => some true) (fun k => ?_) (Ev.val (Ev.now _) ?_)
    · simp only [oxbowlaw02_same.l0]; rw [if_neg (by omega)]
    · rw [List.drop_of_length_le (by omega), List.drop_of_length_le (by omega)]; simp
  | d + 1, i, hd => by
    have hlt : i < l.length := by omega
    have g1 := Ev.rdOf_get ByteArray.empty l i hlt
    have g2 := Ev.rdOf_get ByteArray.empty m i (by omega)
    have hw := Aside0.mk (Ev.wrap_succ i (by omega))
    rw [List.drop_eq_getElem_cons hlt, List.drop_eq_getElem_cons (show i < m.length by omega)]
    have e1 : (l[i] = m[i]) ↔ (l[i].toList = m[i].toList) := by
      rw [Ev.toList_data, Ev.toList_data]
      exact ⟨fun h => by rw [h], Ev.ext_data⟩
    generalize l[i] = s at g1 e1 ⊢
    generalize m[i] = t at g2 e1 ⊢
    by_cases h : s.toList = t.toList
    · refine Ev.step (f := fun k => oxbowlaw02_same.l0 k l m ((i + 1 : Nat) : Int)) (fun k => ?_) (Ev.val (same_loop l m hl hb d (i + 1) (by omega)) ?_)
      · simp only [oxbowlaw02_same.l0]
        rw [if_pos (by omega), if_pos (by omega), if_pos (by omega), g1, g2, if_pos h, hw.out]
      · simp [e1.2 h]
    · refine Ev.step (f := fun _ => some false) (fun k => ?_) (Ev.val (Ev.now _) ?_)
      · simp only [oxbowlaw02_same.l0]
        rw [if_pos (by omega), if_pos (by omega), if_pos (by omega), g1, g2, if_neg h]
      · have : ¬ s = t := fun h2 => h (e1.1 h2)
        simp [this]
theorem same_ev (l m : List ByteArray) (hb : l.length < 9223372036854775808) : Ev (fun k => oxbowlaw02_same.f k l m) (decide (l = m)) := by
  unfold oxbowlaw02_same.f
  by_cases h : l.length = m.length
  · refine Ev.pos (by omega) ?_
    have := same_loop l m h hb l.length 0 (by omega)
    simpa using this
  · refine Ev.neg (by omega) (Ev.val (Ev.now _) ?_)
    exact (decide_eq_false (fun h2 => h (by rw [h2]))).symm
end Go.Proofs.Ytknbccaineblpaa.Pkpk
