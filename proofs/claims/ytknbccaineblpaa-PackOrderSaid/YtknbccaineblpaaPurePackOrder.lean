import Derived.Test.YtknbccaineblpaaHPkx1
namespace Go.Proofs.Ytknbccaineblpaa.Pure
open Go.RowKit Go.Proofs.Ytknbccaineblpaa.HPk Go.Proofs.YtknbccaineblpaaW.PrintWords Go.Proofs.YtknbccaineblpaaW.PrintLast

/-- YOURS: ∀ (a0 : Int) (a1 : Int), (Lit.int .u32 a0).wf = true → (Lit.int .u32 a1).wf = true → ∃ k, oxbowlaw02_PackOrder.f k a0 a1 = some true
What it reaches (each with k first where it has rounds; `.mono`: more rounds tell the same; `.l0`, ..: its loops, with `.mono_l`): pack_Word.f, pack_put.f, pack_Num.f, pack_take.f, pack_TakeNum.f, oxbowlaw02_live.f, oxbowlaw02_PackOrder.f -/
theorem PackOrder : oxbowlaw02_PackOrder.Pure := by
  sorry

end Go.Proofs.Ytknbccaineblpaa.Pure
