-- Written by hprint.py over the kit's print.py; contracts of some functions by hand.
import Derived.Test.YtknbccaineblpaaProg
import Derived.Below
import Derived.Deep.Draws
import Derived.Deep.AppendLies
import Derived.Maps.AppendAt
import Derived.OwnWalk
import Derived.Laws.BytesArg
import Derived.Laws.MakeOwn
import Derived.Laws.OwnMore
import Derived.Deep.OwnRows
import Derived.Tactics
import Derived.Lib.ConvBytes
import Derived.Laws.Slices
import Derived.WalkKit
import Derived.KernelRfl
import Derived.RowKit3
import Derived.Deep.LoopGhost
import Derived.Deep.QuietTactic
import Derived.BigQuiet
import Derived.WideLaws
import Derived.Deep.DeepCutAuto
import Derived.Deep.CutBlock
import Derived.Deep.RegionHeld3
import Derived.Laws.Rows
import Derived.Lib.AppendStr
import Derived.ArgAppend
import Derived.Laws.IdiomCopy
import Derived.OrdersHeld
import Derived.Laws.BitsLemmas
import Derived.RowKit
import Derived.Test.YtknbccaineblpaaByt
import Derived.Test.YtknbccaineblpaaEv
import Derived.Test.YtknbccaineblpaaWWords
import Derived.Test.YtknbccaineblpaaWLast
import Derived.Test.YtknbccaineblpaaWTab
import Derived.Test.YtknbccaineblpaaWFour
import Derived.Test.YtknbccaineblpaaWQPut
import Derived.Test.YtknbccaineblpaaWApart
import Derived.Test.YtknbccaineblpaaWArr
import Derived.Test.YtknbccaineblpaaWZeros
import Derived.Test.YtknbccaineblpaaWFoot
import Derived.Test.YtknbccaineblpaaWKept
import Derived.Test.YtknbccaineblpaaWShare
import Derived.Test.YtknbccaineblpaaWN
import Derived.Test.YtknbccaineblpaaWFootNe
import Derived.Test.YtknbccaineblpaaWAt
import Derived.Test.YtknbccaineblpaaWEqStruct
import Derived.Test.YtknbccaineblpaaWRepsOne
import Derived.Test.YtknbccaineblpaaWInv
import Derived.Test.YtknbccaineblpaaWInvWords
import Derived.Test.YtknbccaineblpaaWGuard
import Derived.Test.YtknbccaineblpaaWNEv
import Derived.Test.YtknbccaineblpaaWMore
namespace Go.Proofs.Ytknbccaineblpaa.HDap
open Go.RowKit Go.Proofs.YtknbccaineblpaaW.PrintWords Go.Proofs.YtknbccaineblpaaW.PrintLast Go.Proofs.YtknbccaineblpaaW.PrintMore
attribute [local go_sem] max2_int min2_int max_two min_two max_three min_three max_four min_four   -- for this text's walks alone
set_option linter.unusedVariables false
set_option linter.unusedSimpArgs false



def errW : Option Int → Value
  | none => .nilIface
  | some c => .iface 0 (.int .i64 c)
theorem errW_none : errW none = .nilIface := rfl
theorem errW_some (c : Int) : errW (some c) = .iface 0 (.int .i64 c) := rfl

-- the values' own types

end Go.Proofs.Ytknbccaineblpaa.HDap
