/- The row of the law DeltaNormal over its pure statement. -/
import Derived.Test.YtdpbkomaiafemaaRows
import Derived.Test.YtdpbkomaiafemaaRd
import Derived.Test.YtdpbkomaiafemaaHDlx9
import Derived.Test.YtdpbkomaiafemaaPureDeltaNormal
import Derived.WalkKit
import Derived.ProofKit
import Derived.OpenShut
import Derived.ShutString
import Derived.ChangeOld
import Derived.Below
import Derived.SizedLaws
import Derived.WideShapes
import Derived.Carry
import Derived.JoinedCond
import Derived.Deep.CondSized
namespace Go.Proofs.Ytdpbkomaiafemaa.deltaNormalUpto
open Go.ChangeShapes Go.WideShapes Go.ChangeAt Go.RowKit
open Go.ChangeMaps (open_string shut_string)
open Go.Proofs.Ytdpbkomaiafemaa.HDl Go.Proofs.YtdpbkomaiafemaaW.PrintWords
set_option linter.unusedVariables false
set_option linter.unusedSimpArgs false
local instance : Inhabited S36 := ⟨z36⟩
theorem own : ownKnob Try.prog.godebug = none := by kernel_rfl
theorem laidOut : laidOutB Try.prog = true := by kernel_rfl
set_option maxRecDepth 100000 in
theorem rd1 : Rd.Rd Try.prog 22 (Kd.slice 36 k36) (fun y => (y.length * 32 ≤ 140737488351232 ∧ y.length ≤ maxLen ∧ ∀ y278 ∈ y, ((Lit.int .i64 y278.f0).wf = true ∧ (Lit.int .i64 y278.f1).wf = true ∧ y278.f2.size ≤ 140737488351232))) (fun y => ((y.map fun y279 => ((1 + (1 + (y279.f2.size + 1))) + 1)).sum + 1)) := (Rd.slice (B := 32) Try.underlying22 (by kernel_rfl) (by kernel_rfl) (Rd.struct (fun x : S36 => (x.f0, x.f1, x.f2)) (fun p : (Int) × (Int) × (ByteArray) => (⟨p.1, p.2.1, p.2.2⟩ : S36)) (fun _ => rfl) Try.underlying36 (by kernel_rfl) (Rd.next rfl (by kernel_rfl) rfl (Rd.int Try.underlying3) (Rd.next rfl (by kernel_rfl) rfl (Rd.int Try.underlying3) (Rd.last rfl (by kernel_rfl) (Rd.string Try.underlying9))))))
set_option maxRecDepth 100000 in
theorem contract (H : Type) (enc : TypeId × Value → H) (W : World) (base : Nat) (args : Array Value) (ds gs : List (DataW H)) (before : List MemPlace)
    (hval0 : ∀ (j : Nat) t v, Try.f5.params[j]? = some t → args[j]? = some v → Value.okWide Try.prog W .any base t v)
    (hW : DataW.Whole enc Try.prog Try.f5.params.toList Rows.deltaNormalSpec.vars false W args.toList ds gs before)
    (hsz0 : (DataW.weightsEach Try.prog (Try.f5.params.toList ++ Rows.deltaNormalSpec.plain.varTypes Try.prog) (ds ++ gs)).all (· ≤ reachBytes) = true) (hk : Rows.uptoSmall H (ds ++ gs) = true) :
    Calls Try.prog 5 args W fun e W' => ∃ v, e = .returned v ∧ Rows.deltaNormalSpec.post enc Try.prog Try.f5 false true false false W args v W' := by
  have hsz : (DataW.weightsEach Try.prog (Try.f5.params.toList ++ Rows.deltaNormalSpec.plain.varTypes Try.prog) (ds ++ gs)).all (· ≤ reachBytes) = true := hsz0
  have hval := hval0
  have hW' := hW
  obtain ⟨p, q, hA0, hV, rfl, hfz, hnd⟩ := hW
  have hA : DataW.TrodAll enc Try.prog W 0 (fun _ => true) true Try.f5.params.toList args.toList ds p := hA0
  rw [Try.params5] at hA hval hsz
  obtain ⟨v0, vs0, d0, ds0, p0, q0, hargs, rfl, rfl, h0, r0⟩ := trodAll_cons hA
  obtain ⟨v1, vs1, d1, ds1, p1, q1, rfl, rfl, rfl, h1, r1⟩ := trodAll_cons r0
  obtain ⟨rfl, rfl, rfl⟩ := trodAll_nil r1
  obtain rfl : args = #[v0, v1] := by cases args; simp_all
  obtain ⟨rfl, rfl⟩ := trodVars_none hV
  obtain ⟨a0, rfl, rfl, rfl, z0⟩ := open_string Try.underlying9 (hval 0 9 v0 rfl rfl) h0
  have w0 : a0.size ≤ 140737488351232 := by
    have z := sized_string hsz (j := 0) (t := 9) rfl rfl
    rw [Array.length_toList] at z
    exact z
  have k1 := h1
  have lt1 : ∀ x ∈ p1, x.block < W.heap.size := by obtain ⟨m, hm⟩ := k1; exact DataW.trod_lt m _ _ _ hm
  obtain ⟨y1, K1, O1, B1⟩ := Rd.arg rd1 hsz (j := 1) rfl rfl h1
  obtain ⟨a1, len1, cap1, rfl⟩ := okWide_slice Try.underlying22 (hval 1 22 v1 rfl rfl)
  obtain ⟨A1, c1, e1, lc1, C1⟩ := K1
  simp only [Value.cells, List.cons.injEq, Value.slice.injEq, and_true] at e1
  obtain ⟨rfl, rfl, rfl⟩ := e1
  have hb : (a0.size + 1) + ((y1.map fun y280 => ((1 + (1 + (y280.f2.size + 1))) + 1)).sum + 1) ≤ 1048576 := by
    have hk1 := of_decide_eq_true hk
    simp only [List.append_nil, Rows.uptoBulkAll, Rows.uptoBulk, Array.length_toList] at hk1
    have hs0 : a0.data.size = a0.size := rfl
    have hb1 : (((y1.map fun y281 => ((1 + (1 + (y281.f2.size + 1))) + 1)).sum + 1)) ≤ _ := B1
    omega
  obtain ⟨k, h⟩ := Pure.DeltaNormal a0 y1 w0 O1 hb
  refine (oxbowlaw09_DeltaNormal.calls k a0 _ _ y1 true W C1 lc1 h).mono fun e W' he => ?_
  obtain ⟨rfl, bel0⟩ := he
  have bel := bel0
  exact ⟨_, rfl, _, _, _, [], _, [], hW', trodAll_mk1 (shut_bool Try.underlying4 _), (trodAll_cons_mk (shut_string Try.underlying9 z0) (trodAll_cons_mk (Below.trod laidOut (by kernel_rfl) (of_decide_eq_true (by kernel_rfl)) k1 bel lt1) trodAll_mk0)), rfl, bel.frame _, fun h => by cases h⟩
set_option maxRecDepth 100000 in
theorem lifted (os : Os) (started : os.Started) (H : Type) (enc : TypeId × Value → H) (F : Stop.Interp) :
    ReturnsInHanded {} Try.checked os 5 .any ((Rows.OpenSpec.upto Rows.deltaNormalSpec).pre6 enc Try.prog Try.f5 Rows.deltaNormalUptoRow.domain false) (((Rows.OpenSpec.upto Rows.deltaNormalSpec).at F).post enc Try.prog Try.f5 false true false false) := by
  refine returnsInHanded_of_cond_sized (C := Try.checked) (s := (Rows.OpenSpec.upto Rows.deltaNormalSpec)) (k := Rows.uptoSmall) rfl own started (by kernel_rfl) Try.func5
    (OpenSpec.witness (enc := enc) (C := Try.checked) (s := (Rows.OpenSpec.upto Rows.deltaNormalSpec)) (k := Rows.uptoSmall) rfl false ⟨#[], #[.string ByteArray.empty, .slice none 0 0], []⟩ 8 (by kernel_rfl) (by kernel_rfl) (by kernel_rfl)
      (x := ([.lit (.string []), .nil], [], [])) (by kernel_rfl) rfl (by kernel_rfl)) ?_
  intro W base args ds gs before hval hW _ hk hsz _
  exact contract H enc W base args ds gs before hval hW hsz hk
theorem over : Rows.deltaNormalUptoRow.holds Try.pinned (Rows.OpenSpec.upto Rows.deltaNormalSpec) :=
  OpenClaim.holds_of_cond 5 Try.f5 rfl rfl rfl rfl rfl rfl rfl ⟨rfl, rfl, rfl, rfl, rfl⟩ rfl rfl rfl rfl rfl (by kernel_rfl) Try.func5 (by kernel_rfl)
    (of_decide_eq_true (by kernel_rfl)) (by unfold Func.isWrapper; first | (rw [if_pos (by decide +kernel)]; kernel_rfl) | (rw [if_neg (by decide +kernel)]; exact ⟨rfl, rfl⟩))
    (fun os started H enc _ F => lifted os started H enc F)
theorem proved : Rows.DeltaNormalUptoSaid := over
#print axioms proved
end Go.Proofs.Ytdpbkomaiafemaa.deltaNormalUpto
namespace Go.Proofs.Ytdpbkomaiafemaa
/-- The row, under a short name, for the claim. -/
theorem deltaNormalUpto_holds : Rows.DeltaNormalUptoSaid := deltaNormalUpto.proved
end Go.Proofs.Ytdpbkomaiafemaa
