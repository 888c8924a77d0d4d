/- Of two words the lesser one's form is the lesser text: for every two words. -/
import Derived.Test.YtknbccaineblpaaHPkx2
import Derived.Test.YtknbccaineblpaaPurePkpl
namespace Go.Proofs.Ytknbccaineblpaa.Pure
open Go.RowKit Go.Proofs.Ytknbccaineblpaa.HPk Go.Proofs.Ytknbccaineblpaa.Pkpk Go.Proofs.Ytknbccaineblpaa.Pk Go.Proofs.YtknbccaineblpaaW.PrintWords Go.Proofs.YtknbccaineblpaaW.PrintLast

theorem less_cons (a b : Nat) (ha : a < 256) (hb : b < 256) (x y : List UInt8) : Op.bytesLess (UInt8.ofNat a :: x) (UInt8.ofNat b :: y) = if a < b then true else if a = b then Op.bytesLess x y else false := by
  simp only [Op.bytesLess]
  have h1 : (UInt8.ofNat a < UInt8.ofNat b) ↔ a < b := by rw [UInt8.lt_iff_toNat_lt, toNat_ofNat a ha, toNat_ofNat b hb]
  have h2 : (UInt8.ofNat a = UInt8.ofNat b) ↔ a = b := by rw [← UInt8.toNat_inj, toNat_ofNat a ha, toNat_ofNat b hb]
  by_cases h : a < b
  · simp [h1, h]
  · by_cases e : a = b
    · simp [e]
    · simp [h1, h2, h, e]

theorem less_word (a b : Nat) (ha : a < 4294967296) (hb : b < 4294967296) : Op.bytesLess (wd a) (wd b) = decide (a < b) := by
  unfold wd
  rw [less_cons _ _ (by omega) (by omega), less_cons _ _ (by omega) (by omega), less_cons _ _ (by omega) (by omega), less_cons _ _ (by omega) (by omega)]
  have h0 : Op.bytesLess [] [] = false := rfl
  rw [h0]
  split
  · exact (decide_eq_true (by omega)).symm
  · split
    · split
      · exact (decide_eq_true (by omega)).symm
      · split
        · split
          · exact (decide_eq_true (by omega)).symm
          · split
            · split
              · exact (decide_eq_true (by omega)).symm
              · split <;> exact (decide_eq_false (by omega)).symm
            · exact (decide_eq_false (by omega)).symm
        · exact (decide_eq_false (by omega)).symm
    · exact (decide_eq_false (by omega)).symm

theorem PackOrder : oxbowlaw02_PackOrder.Pure := by
  intro a b ha hb
  have h1 := Ev.wf_u32 ha
  have h2 := Ev.wf_u32 hb
  obtain ⟨x, rfl⟩ : ∃ x : Nat, a = (x : Int) := ⟨a.toNat, by omega⟩
  obtain ⟨y, rfl⟩ : ∃ y : Nat, b = (y : Int) := ⟨b.toNat, by omega⟩
  refine Ev.rounds ?_
  unfold oxbowlaw02_PackOrder.f
  refine Ev.bind live_ev (Ev.pos rfl (Ev.bind (Ev.const (word_ev x (by omega))) (Ev.bind (Ev.const (word_ev y (by omega))) (Ev.const ?_))))
  rw [Ev.toList_data, Ev.toList_data, wdB_data, wdB_data, less_word x y (by omega) (by omega)]
  simp

end Go.Proofs.Ytknbccaineblpaa.Pure
