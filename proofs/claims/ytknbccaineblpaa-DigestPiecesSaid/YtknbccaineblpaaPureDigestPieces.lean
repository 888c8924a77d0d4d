/- Bytes cut anywhere have the digest that one gets piece by piece: for every text and every row of cuts. -/
import Derived.Test.YtknbccaineblpaaHDigx1
import Derived.Test.YtknbccaineblpaaPureDg
namespace Go.Proofs.Ytknbccaineblpaa.Pure
open Go.RowKit Go.Proofs.Ytknbccaineblpaa.HDig Go.Proofs.Ytknbccaineblpaa.Dg Go.Proofs.YtknbccaineblpaaW.PrintWords Go.Proofs.YtknbccaineblpaaW.PrintLast

theorem extract_data (s : ByteArray) (i j : Nat) : (s.extract i j).data.toList = (s.data.toList.take j).drop i := by
  rw [ByteArray.data_extract, Array.toList_extract, List.extract_eq_take_drop, List.drop_take]
theorem extract_le (s : ByteArray) (i j : Nat) : (s.extract i j).size ≤ s.size := by rw [ByteArray.size_extract]; omega

theorem pieces_loop (s : ByteArray) (hs : s.size ≤ 140737488351232) (l : List Int) (hl : l.length ≤ 140737488351232) : ∀ (d i p : Nat), l.length - i = d → i ≤ l.length → p ≤ s.size →
    Ev (fun k => oxbowlaw07_DigestPieces.l0 k s l (ext 2166136261 (s.data.toList.take p) : Int) (p : Int) (i : Int)) true := by
  intro d
  induction d with
  | zero =>
    intro i p hd hi hp
    refine Ev.step (f := fun k => (oxbowlaw07_live.f k).bind fun t => if t = true then (if (0 : Int) ≤ p then (if (p : Int) ≤ (s.size : Int) then ((digest_Extend.f k (ext 2166136261 (s.data.toList.take p) : Int) (s.extract (p : Int).toNat s.size)).bind fun t124 => ((digest_Sum.f k s).bind fun t125 => some (t124 == t125))) else none) else none) else some false) (fun k => ?_) ?_
    · simp only [oxbowlaw07_DigestPieces.l0]; rw [if_neg (by omega)]
    · refine Ev.bind live_ev (ev_pos rfl (ev_pos (by omega) (ev_pos (by omega) (Ev.bind (own_ext _ ?_ _ (ext_lt _ _ (by decide))) (Ev.bind (own_sum s (by omega)) ?_)))))
      · have := extract_le s (p : Int).toNat s.size; omega
      · refine Ev.congr (fun _ => ?_) (Ev.now true)
        rw [← ext_append, extract_data, Int.toNat_natCast, List.take_of_length_le (show s.data.toList.length ≤ s.size by simp), List.take_append_drop]
        simp
  | succ d ih =>
    intro i p hd hi hp
    have hlt : i < l.length := by omega
    have hw : wrap64 ((i : Int) + 1) = ((i + 1 : Nat) : Int) := wrap_id _ (by omega) (by omega)
    by_cases h1 : rd l (i : Int) > (p : Int) ∧ rd l (i : Int) ≤ (s.size : Int)
    · obtain ⟨q, hq⟩ : ∃ q : Nat, rd l (i : Int) = (q : Int) := ⟨(rd l (i : Int)).toNat, by omega⟩
      rw [hq] at h1
      refine Ev.step (f := fun k => (digest_Extend.f k (ext 2166136261 (s.data.toList.take p) : Int) (s.extract p q)).bind fun t => oxbowlaw07_DigestPieces.l0 k s l t (q : Int) ((i + 1 : Nat) : Int)) (fun k => ?_) ?_
      · simp only [oxbowlaw07_DigestPieces.l0]
        rw [hq, if_pos (by omega), if_pos (by omega), if_pos h1.1, if_pos h1.2, if_pos (by omega), if_pos (by omega), hw, Int.toNat_natCast, Int.toNat_natCast]
      · refine Ev.bind (own_ext _ (by have := extract_le s p q; omega) _ (ext_lt _ _ (by decide))) ?_
        have hx : (s.data.toList.take p) ++ (s.extract p q).data.toList = s.data.toList.take q := by
          rw [extract_data]
          have hpq : p ≤ q := by omega
          have := List.take_append_drop p (s.data.toList.take q)
          rwa [List.take_take, Nat.min_eq_left hpq] at this
        rw [← ext_append, hx]
        exact ih (i + 1) q (by omega) (by omega) (by omega)
    · refine Ev.step (f := fun k => oxbowlaw07_DigestPieces.l0 k s l (ext 2166136261 (s.data.toList.take p) : Int) (p : Int) ((i + 1 : Nat) : Int)) (fun k => ?_) (ih (i + 1) p (by omega) (by omega) hp)
      simp only [oxbowlaw07_DigestPieces.l0]
      rw [if_pos (by omega), if_pos (by omega), hw]
      by_cases h2 : rd l (i : Int) > (p : Int)
      · rw [if_pos h2, if_neg (by omega)]
      · rw [if_neg h2]

theorem DigestPieces : oxbowlaw07_DigestPieces.Pure := by
  intro s l hs _ hl _
  refine Ev.rounds ?_
  unfold oxbowlaw07_DigestPieces.f
  refine Ev.bind (own_sum _ (by decide)) ?_
  exact pieces_loop s hs l (by omega) l.length 0 0 (by omega) (by omega) (by omega)

end Go.Proofs.Ytknbccaineblpaa.Pure
