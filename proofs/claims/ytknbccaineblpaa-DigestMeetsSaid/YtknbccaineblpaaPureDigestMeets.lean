/- Two pairs of unlike texts have one digest each, and keep it whatever stands behind both: for every text behind. -/
import Derived.Test.YtknbccaineblpaaHDigx1
import Derived.Test.YtknbccaineblpaaPureDg
namespace Go.Proofs.Ytknbccaineblpaa.Pure
open Go.RowKit Go.Proofs.Ytknbccaineblpaa.HDig Go.Proofs.Ytknbccaineblpaa.Dg Go.Proofs.YtknbccaineblpaaW.PrintWords Go.Proofs.YtknbccaineblpaaW.PrintLast

theorem data_append (a b : ByteArray) : (a ++ b).data.toList = a.data.toList ++ b.data.toList := by simp

theorem DigestMeets : oxbowlaw07_DigestMeets.Pure := by
  intro s hs
  have big : ∀ (a : ByteArray), a.size ≤ 10 → Ev (fun k => digest_Sum.f k (a ++ s)) (ext (ext 2166136261 a.data.toList) s.data.toList : Int) := by
    intro a ha
    rw [← ext_append, ← data_append]
    exact own_sum (a ++ s) (by rw [ByteArray.size_append]; omega)
  refine Ev.rounds ?_
  unfold oxbowlaw07_DigestMeets.f
  refine Ev.bind live_ev (ev_pos rfl (ev_pos (by omega) (Ev.bind (big _ (by decide)) (ev_pos (by omega) (Ev.bind (big _ (by decide)) (ev_pos ?_ (ev_pos (by omega) (Ev.bind (big _ (by decide)) (Ev.bind (big _ (by decide)) ?_)))))))))
  · have h : ext 2166136261 (ByteArray.mk #[99, 111, 115, 116, 97, 114, 114, 105, 110, 103]).data.toList = ext 2166136261 (ByteArray.mk #[108, 105, 113, 117, 105, 100]).data.toList := by decide +kernel
    rw [h]
  · have h : ext 2166136261 (ByteArray.mk #[100, 101, 99, 108, 105, 110, 97, 116, 101]).data.toList = ext 2166136261 (ByteArray.mk #[109, 97, 99, 97, 108, 108, 117, 109, 115]).data.toList := by decide +kernel
    refine Ev.congr (fun _ => ?_) (Ev.now true)
    rw [h]
    simp

end Go.Proofs.Ytknbccaineblpaa.Pure
