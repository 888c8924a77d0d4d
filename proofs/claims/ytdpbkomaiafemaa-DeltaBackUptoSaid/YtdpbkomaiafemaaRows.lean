/-
  No cell of these rows narrows 'for every input' (looked for: loops, veiled, ifaces, maps, wideKeys, modest, calm, conditions, laid).
  DERIVED. THE GIVEN ROWS OF THIS SEAT. 11 by the template 'for every input the law returns true; each argument reads behind the call as it read before'; 0 by the template 'total and deterministic' (their statements: YtdpbkomaiafemaaTotals.lean).
  GIVEN WITH THE SEED: the statements are not yours to turn. If you find one false, say at which input.
  Laid BY PROGRAM, IN A SANDBOX (cutbox-rows.mjs): the forced cells as the released guide's own fill.sh prints them over the translation 6e62d67b846eaebb… (all of the seat's roots in one cut). By AI agents, Wed Nov 11 2026. No macro, syntax, notation, axiom, sorry.
-/
import Derived.Test.YtdpbkomaiafemaaChecked
import GoSem.Claim
import GoSem.ClaimJoined
import GoSem.ClaimMapViews
import Derived.JoinedTies
import Derived.KernelRfl
namespace Go.Proofs.Ytdpbkomaiafemaa
/- THE CELL 'sum', in the pinned program and in every row, IS THE sha256 OF THE DUMP (.gsa) THAT YtdpbkomaiafemaaProg.lean LOADS. Nothing in Lean hashes anything: it is a label: what it is worth is what the hold of that sum in a sandbox is worth. -/
noncomputable def Try.pinned : Pinned := { name := "ytdpbkomaiafemaa", sum := "6e62d67b846eaebbd34dea57e3109c42659563b6a8530545d995ff55a97096a7", checked := Try.checked }
namespace Rows
def none {H : Type} : Left H := { results := [], args := [] }

/-- 'oxbowlaw09.DeltaApplies': WHATEVER THE INPUT: true; the input reads as it did. -/
def deltaAppliesSpec : ChangeSpec := { name := "deltaApplies", fn := fun _ => fun
  | [d1, d2] => { results := [.lit (.bool true)], args := [d1, d2] }
  | _ => none }
def deltaAppliesRow : OpenClaim := { program := "ytdpbkomaiafemaa", sum := "6e62d67b846eaebbd34dea57e3109c42659563b6a8530545d995ff55a97096a7", func := "oxbow/oxbowlaw09.DeltaApplies", spec := "deltaApplies", apart := false }
def DeltaAppliesSaid : Prop := deltaAppliesRow.holds Try.pinned (OpenSpec.ofChange deltaAppliesSpec)

/-- ITS FALSE NEIGHBOUR: 'it returns false'. Refute it at one input. -/
def deltaAppliesWrong : ChangeSpec := { name := "deltaApplies", fn := fun _ => fun
  | [d1, d2] => { results := [.lit (.bool false)], args := [d1, d2] }
  | _ => none }
def DeltaAppliesWrongFalsely : Prop := deltaAppliesRow.holds Try.pinned (OpenSpec.ofChange deltaAppliesWrong)

/-- 'oxbowlaw09.DeltaMeasures': WHATEVER THE INPUT: true; the input reads as it did. -/
def deltaMeasuresSpec : ChangeSpec := { name := "deltaMeasures", fn := fun _ => fun
  | [d] => { results := [.lit (.bool true)], args := [d] }
  | _ => none }
def deltaMeasuresRow : OpenClaim := { program := "ytdpbkomaiafemaa", sum := "6e62d67b846eaebbd34dea57e3109c42659563b6a8530545d995ff55a97096a7", func := "oxbow/oxbowlaw09.DeltaMeasures", spec := "deltaMeasures", apart := false }
def DeltaMeasuresSaid : Prop := deltaMeasuresRow.holds Try.pinned (OpenSpec.ofChange deltaMeasuresSpec)

/-- ITS FALSE NEIGHBOUR: 'it returns false'. Refute it at one input. -/
def deltaMeasuresWrong : ChangeSpec := { name := "deltaMeasures", fn := fun _ => fun
  | [d] => { results := [.lit (.bool false)], args := [d] }
  | _ => none }
def DeltaMeasuresWrongFalsely : Prop := deltaMeasuresRow.holds Try.pinned (OpenSpec.ofChange deltaMeasuresWrong)

/-- 'oxbowlaw09.DeltaNormal': WHATEVER THE INPUT: true; the input reads as it did. -/
def deltaNormalSpec : ChangeSpec := { name := "deltaNormal", fn := fun _ => fun
  | [d1, d2] => { results := [.lit (.bool true)], args := [d1, d2] }
  | _ => none }
def deltaNormalRow : OpenClaim := { program := "ytdpbkomaiafemaa", sum := "6e62d67b846eaebbd34dea57e3109c42659563b6a8530545d995ff55a97096a7", func := "oxbow/oxbowlaw09.DeltaNormal", spec := "deltaNormal", apart := false }
def DeltaNormalSaid : Prop := deltaNormalRow.holds Try.pinned (OpenSpec.ofChange deltaNormalSpec)

/-- ITS FALSE NEIGHBOUR: 'it returns false'. Refute it at one input. -/
def deltaNormalWrong : ChangeSpec := { name := "deltaNormal", fn := fun _ => fun
  | [d1, d2] => { results := [.lit (.bool false)], args := [d1, d2] }
  | _ => none }
def DeltaNormalWrongFalsely : Prop := deltaNormalRow.holds Try.pinned (OpenSpec.ofChange deltaNormalWrong)

/-- 'oxbowlaw09.DeltaLengths': WHATEVER THE INPUT: true; the input reads as it did. -/
def deltaLengthsSpec : ChangeSpec := { name := "deltaLengths", fn := fun _ => fun
  | [d1, d2] => { results := [.lit (.bool true)], args := [d1, d2] }
  | _ => none }
def deltaLengthsRow : OpenClaim := { program := "ytdpbkomaiafemaa", sum := "6e62d67b846eaebbd34dea57e3109c42659563b6a8530545d995ff55a97096a7", func := "oxbow/oxbowlaw09.DeltaLengths", spec := "deltaLengths", apart := false }
def DeltaLengthsSaid : Prop := deltaLengthsRow.holds Try.pinned (OpenSpec.ofChange deltaLengthsSpec)

/-- ITS FALSE NEIGHBOUR: 'it returns false'. Refute it at one input. -/
def deltaLengthsWrong : ChangeSpec := { name := "deltaLengths", fn := fun _ => fun
  | [d1, d2] => { results := [.lit (.bool false)], args := [d1, d2] }
  | _ => none }
def DeltaLengthsWrongFalsely : Prop := deltaLengthsRow.holds Try.pinned (OpenSpec.ofChange deltaLengthsWrong)

/-- 'oxbowlaw11.DiffTells': WHATEVER THE INPUT: true; the input reads as it did. -/
def diffTellsSpec : ChangeSpec := { name := "diffTells", fn := fun _ => fun
  | [d1, d2] => { results := [.lit (.bool true)], args := [d1, d2] }
  | _ => none }
def diffTellsRow : OpenClaim := { program := "ytdpbkomaiafemaa", sum := "6e62d67b846eaebbd34dea57e3109c42659563b6a8530545d995ff55a97096a7", func := "oxbow/oxbowlaw11.DiffTells", spec := "diffTells", unfollowed := true, recurses := true, apart := false }
def DiffTellsSaid : Prop := diffTellsRow.holds Try.pinned (OpenSpec.ofChange diffTellsSpec)

/-- ITS FALSE NEIGHBOUR: 'it returns false'. Refute it at one input. -/
def diffTellsWrong : ChangeSpec := { name := "diffTells", fn := fun _ => fun
  | [d1, d2] => { results := [.lit (.bool false)], args := [d1, d2] }
  | _ => none }
def DiffTellsWrongFalsely : Prop := diffTellsRow.holds Try.pinned (OpenSpec.ofChange diffTellsWrong)

/-- 'oxbowlaw11.DiffEnds': WHATEVER THE INPUT: true; the input reads as it did. -/
def diffEndsSpec : ChangeSpec := { name := "diffEnds", fn := fun _ => fun
  | [d1, d2, d3] => { results := [.lit (.bool true)], args := [d1, d2, d3] }
  | _ => none }
def diffEndsRow : OpenClaim := { program := "ytdpbkomaiafemaa", sum := "6e62d67b846eaebbd34dea57e3109c42659563b6a8530545d995ff55a97096a7", func := "oxbow/oxbowlaw11.DiffEnds", spec := "diffEnds", unfollowed := true, recurses := true, apart := false }
def DiffEndsSaid : Prop := diffEndsRow.holds Try.pinned (OpenSpec.ofChange diffEndsSpec)

/-- ITS FALSE NEIGHBOUR: 'it returns false'. Refute it at one input. -/
def diffEndsWrong : ChangeSpec := { name := "diffEnds", fn := fun _ => fun
  | [d1, d2, d3] => { results := [.lit (.bool false)], args := [d1, d2, d3] }
  | _ => none }
def DiffEndsWrongFalsely : Prop := diffEndsRow.holds Try.pinned (OpenSpec.ofChange diffEndsWrong)

/-- 'oxbowlaw09.DeltaWrites': WHATEVER THE INPUT: true; the input reads as it did. -/
def deltaWritesSpec : ChangeSpec := { name := "deltaWrites", fn := fun _ => fun
  | [d] => { results := [.lit (.bool true)], args := [d] }
  | _ => none }
def deltaWritesRow : OpenClaim := { program := "ytdpbkomaiafemaa", sum := "6e62d67b846eaebbd34dea57e3109c42659563b6a8530545d995ff55a97096a7", func := "oxbow/oxbowlaw09.DeltaWrites", spec := "deltaWrites", apart := false }
def DeltaWritesSaid : Prop := deltaWritesRow.holds Try.pinned (OpenSpec.ofChange deltaWritesSpec)

/-- ITS FALSE NEIGHBOUR: 'it returns false'. Refute it at one input. -/
def deltaWritesWrong : ChangeSpec := { name := "deltaWrites", fn := fun _ => fun
  | [d] => { results := [.lit (.bool false)], args := [d] }
  | _ => none }
def DeltaWritesWrongFalsely : Prop := deltaWritesRow.holds Try.pinned (OpenSpec.ofChange deltaWritesWrong)

/-- 'oxbowlaw11.DiffMost': WHATEVER THE INPUT: true; the input reads as it did. -/
def diffMostSpec : ChangeSpec := { name := "diffMost", fn := fun _ => fun
  | [d1, d2] => { results := [.lit (.bool true)], args := [d1, d2] }
  | _ => none }
def diffMostRow : OpenClaim := { program := "ytdpbkomaiafemaa", sum := "6e62d67b846eaebbd34dea57e3109c42659563b6a8530545d995ff55a97096a7", func := "oxbow/oxbowlaw11.DiffMost", spec := "diffMost", unfollowed := true, recurses := true, apart := false }
def DiffMostSaid : Prop := diffMostRow.holds Try.pinned (OpenSpec.ofChange diffMostSpec)

/-- ITS FALSE NEIGHBOUR: 'it returns false'. Refute it at one input. -/
def diffMostWrong : ChangeSpec := { name := "diffMost", fn := fun _ => fun
  | [d1, d2] => { results := [.lit (.bool false)], args := [d1, d2] }
  | _ => none }
def DiffMostWrongFalsely : Prop := diffMostRow.holds Try.pinned (OpenSpec.ofChange diffMostWrong)

/-- 'oxbowlaw09.DeltaReads': WHATEVER THE INPUT: true; the input reads as it did. -/
def deltaReadsSpec : ChangeSpec := { name := "deltaReads", fn := fun _ => fun
  | [d] => { results := [.lit (.bool true)], args := [d] }
  | _ => none }
def deltaReadsRow : OpenClaim := { program := "ytdpbkomaiafemaa", sum := "6e62d67b846eaebbd34dea57e3109c42659563b6a8530545d995ff55a97096a7", func := "oxbow/oxbowlaw09.DeltaReads", spec := "deltaReads", apart := false }
def DeltaReadsSaid : Prop := deltaReadsRow.holds Try.pinned (OpenSpec.ofChange deltaReadsSpec)

/-- ITS FALSE NEIGHBOUR: 'it returns false'. Refute it at one input. -/
def deltaReadsWrong : ChangeSpec := { name := "deltaReads", fn := fun _ => fun
  | [d] => { results := [.lit (.bool false)], args := [d] }
  | _ => none }
def DeltaReadsWrongFalsely : Prop := deltaReadsRow.holds Try.pinned (OpenSpec.ofChange deltaReadsWrong)

/-- 'oxbowlaw11.DiffGives': WHATEVER THE INPUT: true; the input reads as it did. -/
def diffGivesSpec : ChangeSpec := { name := "diffGives", fn := fun _ => fun
  | [d1, d2] => { results := [.lit (.bool true)], args := [d1, d2] }
  | _ => none }
def diffGivesRow : OpenClaim := { program := "ytdpbkomaiafemaa", sum := "6e62d67b846eaebbd34dea57e3109c42659563b6a8530545d995ff55a97096a7", func := "oxbow/oxbowlaw11.DiffGives", spec := "diffGives", unfollowed := true, recurses := true, apart := false }
def DiffGivesSaid : Prop := diffGivesRow.holds Try.pinned (OpenSpec.ofChange diffGivesSpec)

/-- ITS FALSE NEIGHBOUR: 'it returns false'. Refute it at one input. -/
def diffGivesWrong : ChangeSpec := { name := "diffGives", fn := fun _ => fun
  | [d1, d2] => { results := [.lit (.bool false)], args := [d1, d2] }
  | _ => none }
def DiffGivesWrongFalsely : Prop := diffGivesRow.holds Try.pinned (OpenSpec.ofChange diffGivesWrong)

/-- 'oxbowlaw09.DeltaBack': WHATEVER THE INPUT: true; the input reads as it did. -/
def deltaBackSpec : ChangeSpec := { name := "deltaBack", fn := fun _ => fun
  | [d1, d2] => { results := [.lit (.bool true)], args := [d1, d2] }
  | _ => none }
def deltaBackRow : OpenClaim := { program := "ytdpbkomaiafemaa", sum := "6e62d67b846eaebbd34dea57e3109c42659563b6a8530545d995ff55a97096a7", func := "oxbow/oxbowlaw09.DeltaBack", spec := "deltaBack", apart := false }
def DeltaBackSaid : Prop := deltaBackRow.holds Try.pinned (OpenSpec.ofChange deltaBackSpec)

/-- ITS FALSE NEIGHBOUR: 'it returns false'. Refute it at one input. -/
def deltaBackWrong : ChangeSpec := { name := "deltaBack", fn := fun _ => fun
  | [d1, d2] => { results := [.lit (.bool false)], args := [d1, d2] }
  | _ => none }
def DeltaBackWrongFalsely : Prop := deltaBackRow.holds Try.pinned (OpenSpec.ofChange deltaBackWrong)

/- THE SECOND FORM. 'bulk': how many values and letters a reading holds, each counted each time it is reached (what is shared counts as often as it is met; a slice's spare places count too). A statement '..UptoSaid' is the law's where the arguments, and the package variables that the reading takes, are together of bulk at most 1048576: NARROWER than '..Said'. Prove '..Said' where nothing that the law and all that it calls make is longer than what came in: it says more and counts as full. Else prove '..UptoSaid'. A law counts once. -/
mutual
def uptoBulk {H : Type} : DataW H → Nat
  | .lit (.string bytes) => bytes.length + 1
  | .lit _ => 1
  | .nil => 1
  | .ptr d => uptoBulk d + 1
  | .slice elems spare => uptoBulkAll elems + uptoBulkAll spare + 1
  | .agg parts => uptoBulkAll parts + 1
  | .iface _ d => uptoBulk d + 1
  | .map entries => uptoBulkEntries entries + 1
  | .held _ => 1
def uptoBulkAll {H : Type} : List (DataW H) → Nat
  | [] => 0
  | d :: r => uptoBulk d + uptoBulkAll r
def uptoBulkEntries {H : Type} : List (Lit × DataW H) → Nat
  | [] => 0
  | x :: r => uptoBulkEntry x + uptoBulkEntries r
def uptoBulkEntry {H : Type} : Lit × DataW H → Nat
  | (.string bytes, d) => bytes.length + uptoBulk d + 1
  | (_, d) => uptoBulk d + 1
 end
def uptoSmall : (H : Type) → List (DataW H) → Bool := fun _ ds => decide (uptoBulkAll ds ≤ 1048576)
def OpenSpec.upto (s : _root_.Go.ChangeSpec) : _root_.Go.OpenSpec := { _root_.Go.OpenSpec.ofChange s with cond := some uptoSmall }

/-- 'oxbowlaw09.DeltaApplies', WHERE WHAT IT READS IS OF BULK AT MOST 1048576: true; the input reads as it did. -/
def deltaAppliesUptoRow : OpenClaim := { program := "ytdpbkomaiafemaa", sum := "6e62d67b846eaebbd34dea57e3109c42659563b6a8530545d995ff55a97096a7", func := "oxbow/oxbowlaw09.DeltaApplies", spec := "deltaApplies", apart := false, narrowed := true }
def DeltaAppliesUptoSaid : Prop := deltaAppliesUptoRow.holds Try.pinned (OpenSpec.upto deltaAppliesSpec)

/-- 'oxbowlaw09.DeltaMeasures', WHERE WHAT IT READS IS OF BULK AT MOST 1048576: true; the input reads as it did. -/
def deltaMeasuresUptoRow : OpenClaim := { program := "ytdpbkomaiafemaa", sum := "6e62d67b846eaebbd34dea57e3109c42659563b6a8530545d995ff55a97096a7", func := "oxbow/oxbowlaw09.DeltaMeasures", spec := "deltaMeasures", apart := false, narrowed := true }
def DeltaMeasuresUptoSaid : Prop := deltaMeasuresUptoRow.holds Try.pinned (OpenSpec.upto deltaMeasuresSpec)

/-- 'oxbowlaw09.DeltaNormal', WHERE WHAT IT READS IS OF BULK AT MOST 1048576: true; the input reads as it did. -/
def deltaNormalUptoRow : OpenClaim := { program := "ytdpbkomaiafemaa", sum := "6e62d67b846eaebbd34dea57e3109c42659563b6a8530545d995ff55a97096a7", func := "oxbow/oxbowlaw09.DeltaNormal", spec := "deltaNormal", apart := false, narrowed := true }
def DeltaNormalUptoSaid : Prop := deltaNormalUptoRow.holds Try.pinned (OpenSpec.upto deltaNormalSpec)

/-- 'oxbowlaw09.DeltaLengths', WHERE WHAT IT READS IS OF BULK AT MOST 1048576: true; the input reads as it did. -/
def deltaLengthsUptoRow : OpenClaim := { program := "ytdpbkomaiafemaa", sum := "6e62d67b846eaebbd34dea57e3109c42659563b6a8530545d995ff55a97096a7", func := "oxbow/oxbowlaw09.DeltaLengths", spec := "deltaLengths", apart := false, narrowed := true }
def DeltaLengthsUptoSaid : Prop := deltaLengthsUptoRow.holds Try.pinned (OpenSpec.upto deltaLengthsSpec)

/-- 'oxbowlaw11.DiffTells', WHERE WHAT IT READS IS OF BULK AT MOST 1048576: true; the input reads as it did. -/
def diffTellsUptoRow : OpenClaim := { program := "ytdpbkomaiafemaa", sum := "6e62d67b846eaebbd34dea57e3109c42659563b6a8530545d995ff55a97096a7", func := "oxbow/oxbowlaw11.DiffTells", spec := "diffTells", unfollowed := true, recurses := true, apart := false, narrowed := true }
def DiffTellsUptoSaid : Prop := diffTellsUptoRow.holds Try.pinned (OpenSpec.upto diffTellsSpec)

/-- 'oxbowlaw11.DiffEnds', WHERE WHAT IT READS IS OF BULK AT MOST 1048576: true; the input reads as it did. -/
def diffEndsUptoRow : OpenClaim := { program := "ytdpbkomaiafemaa", sum := "6e62d67b846eaebbd34dea57e3109c42659563b6a8530545d995ff55a97096a7", func := "oxbow/oxbowlaw11.DiffEnds", spec := "diffEnds", unfollowed := true, recurses := true, apart := false, narrowed := true }
def DiffEndsUptoSaid : Prop := diffEndsUptoRow.holds Try.pinned (OpenSpec.upto diffEndsSpec)

/-- 'oxbowlaw09.DeltaWrites', WHERE WHAT IT READS IS OF BULK AT MOST 1048576: true; the input reads as it did. -/
def deltaWritesUptoRow : OpenClaim := { program := "ytdpbkomaiafemaa", sum := "6e62d67b846eaebbd34dea57e3109c42659563b6a8530545d995ff55a97096a7", func := "oxbow/oxbowlaw09.DeltaWrites", spec := "deltaWrites", apart := false, narrowed := true }
def DeltaWritesUptoSaid : Prop := deltaWritesUptoRow.holds Try.pinned (OpenSpec.upto deltaWritesSpec)

/-- 'oxbowlaw11.DiffMost', WHERE WHAT IT READS IS OF BULK AT MOST 1048576: true; the input reads as it did. -/
def diffMostUptoRow : OpenClaim := { program := "ytdpbkomaiafemaa", sum := "6e62d67b846eaebbd34dea57e3109c42659563b6a8530545d995ff55a97096a7", func := "oxbow/oxbowlaw11.DiffMost", spec := "diffMost", unfollowed := true, recurses := true, apart := false, narrowed := true }
def DiffMostUptoSaid : Prop := diffMostUptoRow.holds Try.pinned (OpenSpec.upto diffMostSpec)

/-- 'oxbowlaw09.DeltaReads', WHERE WHAT IT READS IS OF BULK AT MOST 1048576: true; the input reads as it did. -/
def deltaReadsUptoRow : OpenClaim := { program := "ytdpbkomaiafemaa", sum := "6e62d67b846eaebbd34dea57e3109c42659563b6a8530545d995ff55a97096a7", func := "oxbow/oxbowlaw09.DeltaReads", spec := "deltaReads", apart := false, narrowed := true }
def DeltaReadsUptoSaid : Prop := deltaReadsUptoRow.holds Try.pinned (OpenSpec.upto deltaReadsSpec)

/-- 'oxbowlaw11.DiffGives', WHERE WHAT IT READS IS OF BULK AT MOST 1048576: true; the input reads as it did. -/
def diffGivesUptoRow : OpenClaim := { program := "ytdpbkomaiafemaa", sum := "6e62d67b846eaebbd34dea57e3109c42659563b6a8530545d995ff55a97096a7", func := "oxbow/oxbowlaw11.DiffGives", spec := "diffGives", unfollowed := true, recurses := true, apart := false, narrowed := true }
def DiffGivesUptoSaid : Prop := diffGivesUptoRow.holds Try.pinned (OpenSpec.upto diffGivesSpec)

/-- 'oxbowlaw09.DeltaBack', WHERE WHAT IT READS IS OF BULK AT MOST 1048576: true; the input reads as it did. -/
def deltaBackUptoRow : OpenClaim := { program := "ytdpbkomaiafemaa", sum := "6e62d67b846eaebbd34dea57e3109c42659563b6a8530545d995ff55a97096a7", func := "oxbow/oxbowlaw09.DeltaBack", spec := "deltaBack", apart := false, narrowed := true }
def DeltaBackUptoSaid : Prop := deltaBackUptoRow.holds Try.pinned (OpenSpec.upto deltaBackSpec)

end Rows
end Go.Proofs.Ytdpbkomaiafemaa
