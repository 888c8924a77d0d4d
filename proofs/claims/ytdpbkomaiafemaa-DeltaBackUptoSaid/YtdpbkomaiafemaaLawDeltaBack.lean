/- The row of the law DeltaBack over its pure statement. -/
import Derived.Test.YtdpbkomaiafemaaRows
import Derived.Test.YtdpbkomaiafemaaRd
import Derived.Test.YtdpbkomaiafemaaHDdx10
import Derived.Test.YtdpbkomaiafemaaPureDeltaBack
import Derived.WalkKit
import Derived.ProofKit
import Derived.OpenShut
import Derived.ShutString
import Derived.ChangeOld
import Derived.Below
import Derived.SizedLaws
import Derived.WideShapes
import Derived.Carry
import Derived.JoinedCond
import Derived.Deep.CondSized
namespace Go.Proofs.Ytdpbkomaiafemaa.deltaBackUpto
open Go.ChangeShapes Go.WideShapes Go.ChangeAt Go.RowKit
open Go.ChangeMaps (open_string shut_string)
open Go.Proofs.Ytdpbkomaiafemaa.HDd Go.Proofs.YtdpbkomaiafemaaW.PrintWords
set_option linter.unusedVariables false
set_option linter.unusedSimpArgs false
local instance : Inhabited S36 := ⟨z36⟩
theorem own : ownKnob Try.prog.godebug = none := by kernel_rfl
theorem laidOut : laidOutB Try.prog = true := by kernel_rfl
set_option maxRecDepth 100000 in
theorem rd0 : Rd.Rd Try.prog 22 (Kd.slice 36 k36) (fun y => (y.length * 32 ≤ 140737488351232 ∧ y.length ≤ maxLen ∧ ∀ y225 ∈ y, ((Lit.int .i64 y225.f0).wf = true ∧ (Lit.int .i64 y225.f1).wf = true ∧ y225.f2.size ≤ 140737488351232))) (fun y => ((y.map fun y226 => ((1 + (1 + (y226.f2.size + 1))) + 1)).sum + 1)) := (Rd.slice (B := 32) Try.underlying22 (by kernel_rfl) (by kernel_rfl) (Rd.struct (fun x : S36 => (x.f0, x.f1, x.f2)) (fun p : (Int) × (Int) × (ByteArray) => (⟨p.1, p.2.1, p.2.2⟩ : S36)) (fun _ => rfl) Try.underlying36 (by kernel_rfl) (Rd.next rfl (by kernel_rfl) rfl (Rd.int Try.underlying3) (Rd.next rfl (by kernel_rfl) rfl (Rd.int Try.underlying3) (Rd.last rfl (by kernel_rfl) (Rd.string Try.underlying9))))))
set_option maxRecDepth 100000 in
theorem contract (H : Type) (enc : TypeId × Value → H) (W : World) (base : Nat) (args : Array Value) (ds gs : List (DataW H)) (before : List MemPlace)
    (hval0 : ∀ (j : Nat) t v, Try.f13.params[j]? = some t → args[j]? = some v → Value.okWide Try.prog W .any base t v)
    (hW : DataW.Whole enc Try.prog Try.f13.params.toList Rows.deltaBackSpec.vars false W args.toList ds gs before)
    (hsz0 : (DataW.weightsEach Try.prog (Try.f13.params.toList ++ Rows.deltaBackSpec.plain.varTypes Try.prog) (ds ++ gs)).all (· ≤ reachBytes) = true) (hk : Rows.uptoSmall H (ds ++ gs) = true) :
    Calls Try.prog 13 args W fun e W' => ∃ v, e = .returned v ∧ Rows.deltaBackSpec.post enc Try.prog Try.f13 false true false false W args v W' := by
  have hsz : (DataW.weightsEach Try.prog (Try.f13.params.toList ++ Rows.deltaBackSpec.plain.varTypes Try.prog) (ds ++ gs)).all (· ≤ reachBytes) = true := hsz0
  have hval := hval0
  have hW' := hW
  obtain ⟨p, q, hA0, hV, rfl, hfz, hnd⟩ := hW
  have hA : DataW.TrodAll enc Try.prog W 0 (fun _ => true) true Try.f13.params.toList args.toList ds p := hA0
  rw [Try.params13] at hA hval hsz
  obtain ⟨v0, vs0, d0, ds0, p0, q0, hargs, rfl, rfl, h0, r0⟩ := trodAll_cons hA
  obtain ⟨v1, vs1, d1, ds1, p1, q1, rfl, rfl, rfl, h1, r1⟩ := trodAll_cons r0
  obtain ⟨rfl, rfl, rfl⟩ := trodAll_nil r1
  obtain rfl : args = #[v0, v1] := by cases args; simp_all
  obtain ⟨rfl, rfl⟩ := trodVars_none hV
  have k0 := h0
  have lt0 : ∀ x ∈ p0, x.block < W.heap.size := by obtain ⟨m, hm⟩ := k0; exact DataW.trod_lt m _ _ _ hm
  obtain ⟨y0, K0, O0, B0⟩ := Rd.arg rd0 hsz (j := 0) rfl rfl h0
  obtain ⟨a0, len0, cap0, rfl⟩ := okWide_slice Try.underlying22 (hval 0 22 v0 rfl rfl)
  obtain ⟨A0, c0, e0, lc0, C0⟩ := K0
  simp only [Value.cells, List.cons.injEq, Value.slice.injEq, and_true] at e0
  obtain ⟨rfl, rfl, rfl⟩ := e0
  obtain ⟨a1, rfl, rfl, rfl, z1⟩ := open_string Try.underlying9 (hval 1 9 v1 rfl rfl) h1
  have w1 : a1.size ≤ 140737488351232 := by
    have z := sized_string hsz (j := 1) (t := 9) rfl rfl
    rw [Array.length_toList] at z
    exact z
  have hb : ((y0.map fun y227 => ((1 + (1 + (y227.f2.size + 1))) + 1)).sum + 1) + (a1.size + 1) ≤ 1048576 := by
    have hk1 := of_decide_eq_true hk
    simp only [List.append_nil, Rows.uptoBulkAll, Rows.uptoBulk, Array.length_toList] at hk1
    have hb0 : (((y0.map fun y228 => ((1 + (1 + (y228.f2.size + 1))) + 1)).sum + 1)) ≤ _ := B0
    have hs1 : a1.data.size = a1.size := rfl
    omega
  obtain ⟨k, h⟩ := Pure.DeltaBack y0 a1 O0 w1 hb
  refine (oxbowlaw09_DeltaBack.calls k _ _ y0 a1 true W C0 lc0 h).mono fun e W' he => ?_
  obtain ⟨rfl, bel0⟩ := he
  have bel := bel0
  exact ⟨_, rfl, _, _, _, [], _, [], hW', trodAll_mk1 (shut_bool Try.underlying4 _), (trodAll_cons_mk (Below.trod laidOut (by kernel_rfl) (of_decide_eq_true (by kernel_rfl)) k0 bel lt0) (trodAll_cons_mk (shut_string Try.underlying9 z1) trodAll_mk0)), rfl, bel.frame _, fun h => by cases h⟩
set_option maxRecDepth 100000 in
theorem lifted (os : Os) (started : os.Started) (H : Type) (enc : TypeId × Value → H) (F : Stop.Interp) :
    ReturnsInHanded {} Try.checked os 13 .any ((Rows.OpenSpec.upto Rows.deltaBackSpec).pre6 enc Try.prog Try.f13 Rows.deltaBackUptoRow.domain false) (((Rows.OpenSpec.upto Rows.deltaBackSpec).at F).post enc Try.prog Try.f13 false true false false) := by
  refine returnsInHanded_of_cond_sized (C := Try.checked) (s := (Rows.OpenSpec.upto Rows.deltaBackSpec)) (k := Rows.uptoSmall) rfl own started (by kernel_rfl) Try.func13
    (OpenSpec.witness (enc := enc) (C := Try.checked) (s := (Rows.OpenSpec.upto Rows.deltaBackSpec)) (k := Rows.uptoSmall) rfl false ⟨#[], #[.slice none 0 0, .string ByteArray.empty], []⟩ 8 (by kernel_rfl) (by kernel_rfl) (by kernel_rfl)
      (x := ([.nil, .lit (.string [])], [], [])) (by kernel_rfl) rfl (by kernel_rfl)) ?_
  intro W base args ds gs before hval hW _ hk hsz _
  exact contract H enc W base args ds gs before hval hW hsz hk
theorem over : Rows.deltaBackUptoRow.holds Try.pinned (Rows.OpenSpec.upto Rows.deltaBackSpec) :=
  OpenClaim.holds_of_cond 13 Try.f13 rfl rfl rfl rfl rfl rfl rfl ⟨rfl, rfl, rfl, rfl, rfl⟩ rfl rfl rfl rfl rfl (by kernel_rfl) Try.func13 (by kernel_rfl)
    (of_decide_eq_true (by kernel_rfl)) (by unfold Func.isWrapper; first | (rw [if_pos (by decide +kernel)]; kernel_rfl) | (rw [if_neg (by decide +kernel)]; exact ⟨rfl, rfl⟩))
    (fun os started H enc _ F => lifted os started H enc F)
theorem proved : Rows.DeltaBackUptoSaid := over
#print axioms proved
end Go.Proofs.Ytdpbkomaiafemaa.deltaBackUpto
namespace Go.Proofs.Ytdpbkomaiafemaa
/-- The row, under a short name, for the claim. -/
theorem deltaBackUpto_holds : Rows.DeltaBackUptoSaid := deltaBackUpto.proved
end Go.Proofs.Ytdpbkomaiafemaa
