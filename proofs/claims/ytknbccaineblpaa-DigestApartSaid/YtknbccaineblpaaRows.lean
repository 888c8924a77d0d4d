/-
  No cell of these rows narrows 'for every input' (looked for: loops, veiled, ifaces, maps, wideKeys, modest, calm, conditions, laid).
  DERIVED. THE GIVEN ROWS OF THIS SEAT. 12 by the template 'for every input the law returns true; each argument reads behind the call as it read before'; 0 by the template 'total and deterministic' (their statements: YtknbccaineblpaaTotals.lean).
  GIVEN WITH THE SEED: the statements are not yours to turn. If you find one false, say at which input.
  Laid BY PROGRAM, IN A SANDBOX (cutbox-rows.mjs): the forced cells as the released guide's own fill.sh prints them over the translation 34877a896866b818… (all of the seat's roots in one cut). By AI agents, Wed Nov 11 2026. No macro, syntax, notation, axiom, sorry.
-/
import Derived.Test.YtknbccaineblpaaChecked
import GoSem.Claim
import GoSem.ClaimJoined
import GoSem.ClaimMapViews
import Derived.JoinedTies
import Derived.KernelRfl
namespace Go.Proofs.Ytknbccaineblpaa
/- THE CELL 'sum', in the pinned program and in every row, IS THE sha256 OF THE DUMP (.gsa) THAT YtknbccaineblpaaProg.lean LOADS. Nothing in Lean hashes anything: it is a label: what it is worth is what the hold of that sum in a sandbox is worth. -/
noncomputable def Try.pinned : Pinned := { name := "ytknbccaineblpaa", sum := "34877a896866b8188639e53a5f23f2c475a42961b43657b8d2a03ff341f6adfe", checked := Try.checked }
namespace Rows
def none {H : Type} : Left H := { results := [], args := [] }

/-- 'oxbowlaw07.DigestSums': WHATEVER THE INPUT: true; the input reads as it did. -/
def digestSumsSpec : ChangeSpec := { name := "digestSums", fn := fun _ => fun
  | [d1, d2] => { results := [.lit (.bool true)], args := [d1, d2] }
  | _ => none }
def digestSumsRow : OpenClaim := { program := "ytknbccaineblpaa", sum := "34877a896866b8188639e53a5f23f2c475a42961b43657b8d2a03ff341f6adfe", func := "oxbow/oxbowlaw07.DigestSums", spec := "digestSums", plainKeys := false, apart := false }
def DigestSumsSaid : Prop := digestSumsRow.holds Try.pinned (OpenSpec.ofChange digestSumsSpec)

/-- ITS FALSE NEIGHBOUR: 'it returns false'. Refute it at one input. -/
def digestSumsWrong : ChangeSpec := { name := "digestSums", fn := fun _ => fun
  | [d1, d2] => { results := [.lit (.bool false)], args := [d1, d2] }
  | _ => none }
def DigestSumsWrongFalsely : Prop := digestSumsRow.holds Try.pinned (OpenSpec.ofChange digestSumsWrong)

/-- 'oxbowlaw07.DigestPieces': WHATEVER THE INPUT: true; the input reads as it did. -/
def digestPiecesSpec : ChangeSpec := { name := "digestPieces", fn := fun _ => fun
  | [d1, d2] => { results := [.lit (.bool true)], args := [d1, d2] }
  | _ => none }
def digestPiecesRow : OpenClaim := { program := "ytknbccaineblpaa", sum := "34877a896866b8188639e53a5f23f2c475a42961b43657b8d2a03ff341f6adfe", func := "oxbow/oxbowlaw07.DigestPieces", spec := "digestPieces", plainKeys := false, apart := false }
def DigestPiecesSaid : Prop := digestPiecesRow.holds Try.pinned (OpenSpec.ofChange digestPiecesSpec)

/-- ITS FALSE NEIGHBOUR: 'it returns false'. Refute it at one input. -/
def digestPiecesWrong : ChangeSpec := { name := "digestPieces", fn := fun _ => fun
  | [d1, d2] => { results := [.lit (.bool false)], args := [d1, d2] }
  | _ => none }
def DigestPiecesWrongFalsely : Prop := digestPiecesRow.holds Try.pinned (OpenSpec.ofChange digestPiecesWrong)

/-- 'oxbowlaw07.DigestApart': WHATEVER THE INPUT: true; the input reads as it did. -/
def digestApartSpec : ChangeSpec := { name := "digestApart", fn := fun _ => fun
  | [d1, d2, d3, d4, d5] => { results := [.lit (.bool true)], args := [d1, d2, d3, d4, d5] }
  | _ => none }
def digestApartRow : OpenClaim := { program := "ytknbccaineblpaa", sum := "34877a896866b8188639e53a5f23f2c475a42961b43657b8d2a03ff341f6adfe", func := "oxbow/oxbowlaw07.DigestApart", spec := "digestApart", plainKeys := false, apart := false }
def DigestApartSaid : Prop := digestApartRow.holds Try.pinned (OpenSpec.ofChange digestApartSpec)

/-- ITS FALSE NEIGHBOUR: 'it returns false'. Refute it at one input. -/
def digestApartWrong : ChangeSpec := { name := "digestApart", fn := fun _ => fun
  | [d1, d2, d3, d4, d5] => { results := [.lit (.bool false)], args := [d1, d2, d3, d4, d5] }
  | _ => none }
def DigestApartWrongFalsely : Prop := digestApartRow.holds Try.pinned (OpenSpec.ofChange digestApartWrong)

/-- 'oxbowlaw07.DigestMeets': WHATEVER THE INPUT: true; the input reads as it did. -/
def digestMeetsSpec : ChangeSpec := { name := "digestMeets", fn := fun _ => fun
  | [d] => { results := [.lit (.bool true)], args := [d] }
  | _ => none }
def digestMeetsRow : OpenClaim := { program := "ytknbccaineblpaa", sum := "34877a896866b8188639e53a5f23f2c475a42961b43657b8d2a03ff341f6adfe", func := "oxbow/oxbowlaw07.DigestMeets", spec := "digestMeets", plainKeys := false, apart := false }
def DigestMeetsSaid : Prop := digestMeetsRow.holds Try.pinned (OpenSpec.ofChange digestMeetsSpec)

/-- ITS FALSE NEIGHBOUR: 'it returns false'. Refute it at one input. -/
def digestMeetsWrong : ChangeSpec := { name := "digestMeets", fn := fun _ => fun
  | [d] => { results := [.lit (.bool false)], args := [d] }
  | _ => none }
def DigestMeetsWrongFalsely : Prop := digestMeetsRow.holds Try.pinned (OpenSpec.ofChange digestMeetsWrong)

/-- 'oxbowlaw02.PackOrder': WHATEVER THE INPUT: true; the input reads as it did. -/
def packOrderSpec : ChangeSpec := { name := "packOrder", fn := fun _ => fun
  | [d1, d2] => { results := [.lit (.bool true)], args := [d1, d2] }
  | _ => none }
def packOrderRow : OpenClaim := { program := "ytknbccaineblpaa", sum := "34877a896866b8188639e53a5f23f2c475a42961b43657b8d2a03ff341f6adfe", func := "oxbow/oxbowlaw02.PackOrder", spec := "packOrder", plainKeys := false, apart := false }
def PackOrderSaid : Prop := packOrderRow.holds Try.pinned (OpenSpec.ofChange packOrderSpec)

/-- ITS FALSE NEIGHBOUR: 'it returns false'. Refute it at one input. -/
def packOrderWrong : ChangeSpec := { name := "packOrder", fn := fun _ => fun
  | [d1, d2] => { results := [.lit (.bool false)], args := [d1, d2] }
  | _ => none }
def PackOrderWrongFalsely : Prop := packOrderRow.holds Try.pinned (OpenSpec.ofChange packOrderWrong)

/-- 'oxbowlaw02.PackWrites': WHATEVER THE INPUT: true; the input reads as it did. -/
def packWritesSpec : ChangeSpec := { name := "packWrites", fn := fun _ => fun
  | [d1, d2, d3, d4] => { results := [.lit (.bool true)], args := [d1, d2, d3, d4] }
  | _ => none }
def packWritesRow : OpenClaim := { program := "ytknbccaineblpaa", sum := "34877a896866b8188639e53a5f23f2c475a42961b43657b8d2a03ff341f6adfe", func := "oxbow/oxbowlaw02.PackWrites", spec := "packWrites", plainKeys := false, apart := false }
def PackWritesSaid : Prop := packWritesRow.holds Try.pinned (OpenSpec.ofChange packWritesSpec)

/-- ITS FALSE NEIGHBOUR: 'it returns false'. Refute it at one input. -/
def packWritesWrong : ChangeSpec := { name := "packWrites", fn := fun _ => fun
  | [d1, d2, d3, d4] => { results := [.lit (.bool false)], args := [d1, d2, d3, d4] }
  | _ => none }
def PackWritesWrongFalsely : Prop := packWritesRow.holds Try.pinned (OpenSpec.ofChange packWritesWrong)

/-- 'oxbowlaw02.PackBack': WHATEVER THE INPUT: true; the input reads as it did. -/
def packBackSpec : ChangeSpec := { name := "packBack", fn := fun _ => fun
  | [d1, d2, d3, d4] => { results := [.lit (.bool true)], args := [d1, d2, d3, d4] }
  | _ => none }
def packBackRow : OpenClaim := { program := "ytknbccaineblpaa", sum := "34877a896866b8188639e53a5f23f2c475a42961b43657b8d2a03ff341f6adfe", func := "oxbow/oxbowlaw02.PackBack", spec := "packBack", unfollowed := true, recurses := true, plainKeys := false, apart := false }
def PackBackSaid : Prop := packBackRow.holds Try.pinned (OpenSpec.ofChange packBackSpec)

/-- ITS FALSE NEIGHBOUR: 'it returns false'. Refute it at one input. -/
def packBackWrong : ChangeSpec := { name := "packBack", fn := fun _ => fun
  | [d1, d2, d3, d4] => { results := [.lit (.bool false)], args := [d1, d2, d3, d4] }
  | _ => none }
def PackBackWrongFalsely : Prop := packBackRow.holds Try.pinned (OpenSpec.ofChange packBackWrong)

/-- 'oxbowlaw02.PackOneForm': WHATEVER THE INPUT: true; the input reads as it did. -/
def packOneFormSpec : ChangeSpec := { name := "packOneForm", fn := fun _ => fun
  | [d1, d2] => { results := [.lit (.bool true)], args := [d1, d2] }
  | _ => none }
def packOneFormRow : OpenClaim := { program := "ytknbccaineblpaa", sum := "34877a896866b8188639e53a5f23f2c475a42961b43657b8d2a03ff341f6adfe", func := "oxbow/oxbowlaw02.PackOneForm", spec := "packOneForm", unfollowed := true, recurses := true, plainKeys := false, apart := false }
def PackOneFormSaid : Prop := packOneFormRow.holds Try.pinned (OpenSpec.ofChange packOneFormSpec)

/-- ITS FALSE NEIGHBOUR: 'it returns false'. Refute it at one input. -/
def packOneFormWrong : ChangeSpec := { name := "packOneForm", fn := fun _ => fun
  | [d1, d2] => { results := [.lit (.bool false)], args := [d1, d2] }
  | _ => none }
def PackOneFormWrongFalsely : Prop := packOneFormRow.holds Try.pinned (OpenSpec.ofChange packOneFormWrong)

/-- 'oxbowlaw02.PackNested': WHATEVER THE INPUT: true; the input reads as it did. -/
def packNestedSpec : ChangeSpec := { name := "packNested", fn := fun _ => fun
  | [d] => { results := [.lit (.bool true)], args := [d] }
  | _ => none }
def packNestedRow : OpenClaim := { program := "ytknbccaineblpaa", sum := "34877a896866b8188639e53a5f23f2c475a42961b43657b8d2a03ff341f6adfe", func := "oxbow/oxbowlaw02.PackNested", spec := "packNested", unfollowed := true, recurses := true, plainKeys := false, apart := false }
def PackNestedSaid : Prop := packNestedRow.holds Try.pinned (OpenSpec.ofChange packNestedSpec)

/-- ITS FALSE NEIGHBOUR: 'it returns false'. Refute it at one input. -/
def packNestedWrong : ChangeSpec := { name := "packNested", fn := fun _ => fun
  | [d] => { results := [.lit (.bool false)], args := [d] }
  | _ => none }
def PackNestedWrongFalsely : Prop := packNestedRow.holds Try.pinned (OpenSpec.ofChange packNestedWrong)

/-- 'oxbowlaw17.NetMakes': WHATEVER THE INPUT: true; the input reads as it did. -/
def netMakesSpec : ChangeSpec := { name := "netMakes", fn := fun _ => fun
  | [d] => { results := [.lit (.bool true)], args := [d] }
  | _ => none }
def netMakesRow : OpenClaim := { program := "ytknbccaineblpaa", sum := "34877a896866b8188639e53a5f23f2c475a42961b43657b8d2a03ff341f6adfe", func := "oxbow/oxbowlaw17.NetMakes", spec := "netMakes", plainKeys := false, apart := false }
def NetMakesSaid : Prop := netMakesRow.holds Try.pinned (OpenSpec.ofChange netMakesSpec)

/-- ITS FALSE NEIGHBOUR: 'it returns false'. Refute it at one input. -/
def netMakesWrong : ChangeSpec := { name := "netMakes", fn := fun _ => fun
  | [d] => { results := [.lit (.bool false)], args := [d] }
  | _ => none }
def NetMakesWrongFalsely : Prop := netMakesRow.holds Try.pinned (OpenSpec.ofChange netMakesWrong)

/-- 'oxbowlaw17.NetScripts': WHATEVER THE INPUT: true; the input reads as it did. -/
def netScriptsSpec : ChangeSpec := { name := "netScripts", fn := fun _ => fun
  | [d1, d2] => { results := [.lit (.bool true)], args := [d1, d2] }
  | _ => none }
def netScriptsRow : OpenClaim := { program := "ytknbccaineblpaa", sum := "34877a896866b8188639e53a5f23f2c475a42961b43657b8d2a03ff341f6adfe", func := "oxbow/oxbowlaw17.NetScripts", spec := "netScripts", plainKeys := false, apart := false }
def NetScriptsSaid : Prop := netScriptsRow.holds Try.pinned (OpenSpec.ofChange netScriptsSpec)

/-- ITS FALSE NEIGHBOUR: 'it returns false'. Refute it at one input. -/
def netScriptsWrong : ChangeSpec := { name := "netScripts", fn := fun _ => fun
  | [d1, d2] => { results := [.lit (.bool false)], args := [d1, d2] }
  | _ => none }
def NetScriptsWrongFalsely : Prop := netScriptsRow.holds Try.pinned (OpenSpec.ofChange netScriptsWrong)

/-- 'oxbowlaw17.NetKeeps': WHATEVER THE INPUT: true; the input reads as it did. -/
def netKeepsSpec : ChangeSpec := { name := "netKeeps", fn := fun _ => fun
  | [d1, d2] => { results := [.lit (.bool true)], args := [d1, d2] }
  | _ => none }
def netKeepsRow : OpenClaim := { program := "ytknbccaineblpaa", sum := "34877a896866b8188639e53a5f23f2c475a42961b43657b8d2a03ff341f6adfe", func := "oxbow/oxbowlaw17.NetKeeps", spec := "netKeeps", plainKeys := false, apart := false }
def NetKeepsSaid : Prop := netKeepsRow.holds Try.pinned (OpenSpec.ofChange netKeepsSpec)

/-- ITS FALSE NEIGHBOUR: 'it returns false'. Refute it at one input. -/
def netKeepsWrong : ChangeSpec := { name := "netKeeps", fn := fun _ => fun
  | [d1, d2] => { results := [.lit (.bool false)], args := [d1, d2] }
  | _ => none }
def NetKeepsWrongFalsely : Prop := netKeepsRow.holds Try.pinned (OpenSpec.ofChange netKeepsWrong)

/- THE SECOND FORM. 'bulk': how many values and letters a reading holds, each counted each time it is reached (what is shared counts as often as it is met; a slice's spare places count too). A statement '..UptoSaid' is the law's where the arguments, and the package variables that the reading takes, are together of bulk at most 1048576: NARROWER than '..Said'. Prove '..Said' where nothing that the law and all that it calls make is longer than what came in: it says more and counts as full. Else prove '..UptoSaid'. A law counts once. -/
mutual
def uptoBulk {H : Type} : DataW H → Nat
  | .lit (.string bytes) => bytes.length + 1
  | .lit _ => 1
  | .nil => 1
  | .ptr d => uptoBulk d + 1
  | .slice elems spare => uptoBulkAll elems + uptoBulkAll spare + 1
  | .agg parts => uptoBulkAll parts + 1
  | .iface _ d => uptoBulk d + 1
  | .map entries => uptoBulkEntries entries + 1
  | .held _ => 1
def uptoBulkAll {H : Type} : List (DataW H) → Nat
  | [] => 0
  | d :: r => uptoBulk d + uptoBulkAll r
def uptoBulkEntries {H : Type} : List (Lit × DataW H) → Nat
  | [] => 0
  | x :: r => uptoBulkEntry x + uptoBulkEntries r
def uptoBulkEntry {H : Type} : Lit × DataW H → Nat
  | (.string bytes, d) => bytes.length + uptoBulk d + 1
  | (_, d) => uptoBulk d + 1
 end
def uptoSmall : (H : Type) → List (DataW H) → Bool := fun _ ds => decide (uptoBulkAll ds ≤ 1048576)
def OpenSpec.upto (s : _root_.Go.ChangeSpec) : _root_.Go.OpenSpec := { _root_.Go.OpenSpec.ofChange s with cond := some uptoSmall }

/-- 'oxbowlaw07.DigestSums', WHERE WHAT IT READS IS OF BULK AT MOST 1048576: true; the input reads as it did. -/
def digestSumsUptoRow : OpenClaim := { program := "ytknbccaineblpaa", sum := "34877a896866b8188639e53a5f23f2c475a42961b43657b8d2a03ff341f6adfe", func := "oxbow/oxbowlaw07.DigestSums", spec := "digestSums", plainKeys := false, apart := false, narrowed := true }
def DigestSumsUptoSaid : Prop := digestSumsUptoRow.holds Try.pinned (OpenSpec.upto digestSumsSpec)

/-- 'oxbowlaw07.DigestPieces', WHERE WHAT IT READS IS OF BULK AT MOST 1048576: true; the input reads as it did. -/
def digestPiecesUptoRow : OpenClaim := { program := "ytknbccaineblpaa", sum := "34877a896866b8188639e53a5f23f2c475a42961b43657b8d2a03ff341f6adfe", func := "oxbow/oxbowlaw07.DigestPieces", spec := "digestPieces", plainKeys := false, apart := false, narrowed := true }
def DigestPiecesUptoSaid : Prop := digestPiecesUptoRow.holds Try.pinned (OpenSpec.upto digestPiecesSpec)

/-- 'oxbowlaw07.DigestApart', WHERE WHAT IT READS IS OF BULK AT MOST 1048576: true; the input reads as it did. -/
def digestApartUptoRow : OpenClaim := { program := "ytknbccaineblpaa", sum := "34877a896866b8188639e53a5f23f2c475a42961b43657b8d2a03ff341f6adfe", func := "oxbow/oxbowlaw07.DigestApart", spec := "digestApart", plainKeys := false, apart := false, narrowed := true }
def DigestApartUptoSaid : Prop := digestApartUptoRow.holds Try.pinned (OpenSpec.upto digestApartSpec)

/-- 'oxbowlaw07.DigestMeets', WHERE WHAT IT READS IS OF BULK AT MOST 1048576: true; the input reads as it did. -/
def digestMeetsUptoRow : OpenClaim := { program := "ytknbccaineblpaa", sum := "34877a896866b8188639e53a5f23f2c475a42961b43657b8d2a03ff341f6adfe", func := "oxbow/oxbowlaw07.DigestMeets", spec := "digestMeets", plainKeys := false, apart := false, narrowed := true }
def DigestMeetsUptoSaid : Prop := digestMeetsUptoRow.holds Try.pinned (OpenSpec.upto digestMeetsSpec)

/-- 'oxbowlaw02.PackOrder', WHERE WHAT IT READS IS OF BULK AT MOST 1048576: true; the input reads as it did. -/
def packOrderUptoRow : OpenClaim := { program := "ytknbccaineblpaa", sum := "34877a896866b8188639e53a5f23f2c475a42961b43657b8d2a03ff341f6adfe", func := "oxbow/oxbowlaw02.PackOrder", spec := "packOrder", plainKeys := false, apart := false, narrowed := true }
def PackOrderUptoSaid : Prop := packOrderUptoRow.holds Try.pinned (OpenSpec.upto packOrderSpec)

/-- 'oxbowlaw02.PackWrites', WHERE WHAT IT READS IS OF BULK AT MOST 1048576: true; the input reads as it did. -/
def packWritesUptoRow : OpenClaim := { program := "ytknbccaineblpaa", sum := "34877a896866b8188639e53a5f23f2c475a42961b43657b8d2a03ff341f6adfe", func := "oxbow/oxbowlaw02.PackWrites", spec := "packWrites", plainKeys := false, apart := false, narrowed := true }
def PackWritesUptoSaid : Prop := packWritesUptoRow.holds Try.pinned (OpenSpec.upto packWritesSpec)

/-- 'oxbowlaw02.PackBack', WHERE WHAT IT READS IS OF BULK AT MOST 1048576: true; the input reads as it did. -/
def packBackUptoRow : OpenClaim := { program := "ytknbccaineblpaa", sum := "34877a896866b8188639e53a5f23f2c475a42961b43657b8d2a03ff341f6adfe", func := "oxbow/oxbowlaw02.PackBack", spec := "packBack", unfollowed := true, recurses := true, plainKeys := false, apart := false, narrowed := true }
def PackBackUptoSaid : Prop := packBackUptoRow.holds Try.pinned (OpenSpec.upto packBackSpec)

/-- 'oxbowlaw02.PackOneForm', WHERE WHAT IT READS IS OF BULK AT MOST 1048576: true; the input reads as it did. -/
def packOneFormUptoRow : OpenClaim := { program := "ytknbccaineblpaa", sum := "34877a896866b8188639e53a5f23f2c475a42961b43657b8d2a03ff341f6adfe", func := "oxbow/oxbowlaw02.PackOneForm", spec := "packOneForm", unfollowed := true, recurses := true, plainKeys := false, apart := false, narrowed := true }
def PackOneFormUptoSaid : Prop := packOneFormUptoRow.holds Try.pinned (OpenSpec.upto packOneFormSpec)

/-- 'oxbowlaw02.PackNested', WHERE WHAT IT READS IS OF BULK AT MOST 1048576: true; the input reads as it did. -/
def packNestedUptoRow : OpenClaim := { program := "ytknbccaineblpaa", sum := "34877a896866b8188639e53a5f23f2c475a42961b43657b8d2a03ff341f6adfe", func := "oxbow/oxbowlaw02.PackNested", spec := "packNested", unfollowed := true, recurses := true, plainKeys := false, apart := false, narrowed := true }
def PackNestedUptoSaid : Prop := packNestedUptoRow.holds Try.pinned (OpenSpec.upto packNestedSpec)

/-- 'oxbowlaw17.NetMakes', WHERE WHAT IT READS IS OF BULK AT MOST 1048576: true; the input reads as it did. -/
def netMakesUptoRow : OpenClaim := { program := "ytknbccaineblpaa", sum := "34877a896866b8188639e53a5f23f2c475a42961b43657b8d2a03ff341f6adfe", func := "oxbow/oxbowlaw17.NetMakes", spec := "netMakes", plainKeys := false, apart := false, narrowed := true }
def NetMakesUptoSaid : Prop := netMakesUptoRow.holds Try.pinned (OpenSpec.upto netMakesSpec)

/-- 'oxbowlaw17.NetScripts', WHERE WHAT IT READS IS OF BULK AT MOST 1048576: true; the input reads as it did. -/
def netScriptsUptoRow : OpenClaim := { program := "ytknbccaineblpaa", sum := "34877a896866b8188639e53a5f23f2c475a42961b43657b8d2a03ff341f6adfe", func := "oxbow/oxbowlaw17.NetScripts", spec := "netScripts", plainKeys := false, apart := false, narrowed := true }
def NetScriptsUptoSaid : Prop := netScriptsUptoRow.holds Try.pinned (OpenSpec.upto netScriptsSpec)

/-- 'oxbowlaw17.NetKeeps', WHERE WHAT IT READS IS OF BULK AT MOST 1048576: true; the input reads as it did. -/
def netKeepsUptoRow : OpenClaim := { program := "ytknbccaineblpaa", sum := "34877a896866b8188639e53a5f23f2c475a42961b43657b8d2a03ff341f6adfe", func := "oxbow/oxbowlaw17.NetKeeps", spec := "netKeeps", plainKeys := false, apart := false, narrowed := true }
def NetKeepsUptoSaid : Prop := netKeepsUptoRow.holds Try.pinned (OpenSpec.upto netKeepsSpec)

end Rows
end Go.Proofs.Ytknbccaineblpaa
