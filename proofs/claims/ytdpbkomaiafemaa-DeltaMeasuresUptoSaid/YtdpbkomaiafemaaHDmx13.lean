-- Written by hprint.py over the kit's print.py; contracts of some functions by hand.
import Derived.Test.YtdpbkomaiafemaaHDmx0
import Derived.Test.YtdpbkomaiafemaaHDmx3
import Derived.Test.YtdpbkomaiafemaaHDmx5
import Derived.Test.YtdpbkomaiafemaaHDmx6
import Derived.Test.YtdpbkomaiafemaaHDmx8
import Derived.Test.YtdpbkomaiafemaaHDmx9
import Derived.Test.YtdpbkomaiafemaaHDmx11
import Derived.Test.YtdpbkomaiafemaaHDmx12
namespace Go.Proofs.Ytdpbkomaiafemaa.HDm
open Go.RowKit Go.Proofs.YtdpbkomaiafemaaW.PrintWords Go.Proofs.YtdpbkomaiafemaaW.PrintLast Go.Proofs.YtdpbkomaiafemaaW.PrintMore
attribute [local go_sem] max2_int min2_int max_two min_two max_three min_three max_four min_four   -- for this text's walks alone
set_option linter.unusedVariables false
set_option linter.unusedSimpArgs false

/-! ### oxbowref09_Normal: function 24 -/
def oxbowref09_Normal.f (k : Nat) (l0 : List (S36)) : Option ((List (S36)) × Int) := (oxbowref09_Check.f k l0).bind fun t251 => (if t251 = 0 then ((oxbowref09_Formed.f k l0).bind fun bt252 => ((oxbowref09_Built.f k bt252.1 bt252.2).bind fun t258 => (some (t258, 0)))) else (some (([] : List (S36)), t251)))
theorem oxbowref09_Normal.mono : ∀ a0 k, LeO (oxbowref09_Normal.f k a0) (oxbowref09_Normal.f (k + 1) a0) := by
 intro a0 k
 unfold oxbowref09_Normal.f
 repeat' first
   | (with_reducible exact oxbowref09_Built.mono _ _ _)
   | (with_reducible exact oxbowref09_Check.mono _ _)
   | (with_reducible exact oxbowref09_Formed.mono _ _)
   | (with_reducible exact LeO.refl _)
   | (with_reducible exact LeO.none _)
   | (with_reducible refine LeO.ite ?_ ?_)
   | (with_reducible refine LeO.bind ?_ (fun _ => ?_))
   | exact oxbowref09_Built.mono _ _ _
   | exact oxbowref09_Check.mono _ _
   | exact oxbowref09_Formed.mono _ _
   | exact LeO.none _
   | refine LeO.ite ?_ ?_
   | refine LeO.bind ?_ (fun _ => ?_)
set_option maxHeartbeats 8000000 in
set_option maxRecDepth 100000 in
theorem oxbowref09_Normal.calls (k : Nat) (A0 : Option Addr) (c0 : Nat) (l0 : List (S36)) (r1 : List (S36)) (r2 : Int) (w : World) (hr0 : Kd.C k36 w A0 l0.length l0) (hc0 : l0.length ≤ c0) (h : oxbowref09_Normal.f k l0 = some (r1, r2)) :
  Calls Try.prog 24 #[.slice A0 l0.length c0] w fun e w' => ∃ v0_ : Value, e = .returned (.tuple #[v0_, .int .i64 r2]) ∧ Kd.R k36 36 w' w.heap.size (fun _ => True) v0_ r1 ∧ Below w.heap.size w w' := by
 have HR0 := Aside0.mk hr0
 have HC0 := Aside0.mk hc0
 clear hr0 hc0
 have HB := Aside0.mk (Below.refl w.heap.size w)
 have H : ((oxbowref09_Check.f k l0).bind fun t251 => (if t251 = 0 then ((oxbowref09_Formed.f k l0).bind fun bt252 => ((oxbowref09_Built.f k bt252.1 bt252.2).bind fun t258 => (some (t258, 0)))) else (some (([] : List (S36)), t251)))) = some (r1, r2) := h
 clear h
 replace H := Option.bind_eq_some_iff.mp H
 obtain ⟨t251, A20, H⟩ := H
 replace H : (if t251 = 0 then ((oxbowref09_Formed.f k l0).bind fun bt252 => ((oxbowref09_Built.f k bt252.1 bt252.2).bind fun t258 => (some (t258, 0)))) else (some (([] : List (S36)), t251))) = some (r1, r2) := H
 have A2 := Aside0.mk A20
 clear A20
 by_cases c3 : t251 = 0
 ·rw [if_pos c3] at H
  have c3b0 : (t251 == 0) = true := beq_iff_eq.mpr c3
  have c3b1 : (t251 != 0) = false := bne_eq_false_iff_eq.mpr c3
  clear c3
  replace H := Option.bind_eq_some_iff.mp H
  obtain ⟨⟨t252, t255⟩, A40, H⟩ := H
  replace H : ((oxbowref09_Built.f k t252 t255).bind fun t258 => (some (t258, 0))) = some (r1, r2) := H
  have A4 := Aside0.mk A40
  clear A40
  replace H := Option.bind_eq_some_iff.mp H
  obtain ⟨t258, A50, H⟩ := H
  replace H : (some (t258, 0)) = some (r1, r2) := H
  have A5 := Aside0.mk A50
  clear A50
  simp only [Option.some.injEq, Prod.mk.injEq] at H
  obtain ⟨rfl, rfl⟩ := H
  go_enter Try.func24, Try.ntmps24
  go_wp2_with (first | ((with_reducible refine gate_callee (f := 25) rfl ?_); refine goesL_ (some 6) rfl rfl Try.func25 (by kernel_rfl) rfl #[.slice A0 l0.length c0] rfl (by (try simp only [List.map_toArray, List.map_cons, List.map_nil]); first | done | rfl | (simp only [List.length_drop, List.length_take]; rfl)) ?_; (with_reducible refine (oxbowref09_Check.calls k _ _ l0 t251 _ ?side1 ?side2 A2.out).mono ?_); (case side1 => repeat (first | exact HR0.out | (with_reducible refine Kd.C_alloc ?_ _) | (with_reducible refine Kd.C_drewN ?_ _) | (with_reducible refine Kd.C_drew ?_))); (case side2 => exact HC0.out); rintro e w6 ⟨rfl, hb⟩; refine ⟨_, rfl, ?_⟩; have n0_ := Aside0.mk (below_step (by repeat (first | (with_reducible first | exact HB.out | apply below_alloc | apply pw_below_drewN | apply below_drew1) | exact HB.out)) hb); clear HB; have HB := n0_; clear n0_; (try clear hb); (try clear hb2); (try clear hk); (try clear hi)) | ((with_reducible refine gate_callee (f := 46) rfl ?_); refine goesL_ (some 11) rfl rfl Try.func46 (by kernel_rfl) rfl #[.slice A0 l0.length c0] rfl (by (try simp only [List.map_toArray, List.map_cons, List.map_nil]); first | done | rfl | (simp only [List.length_drop, List.length_take]; rfl)) ?_; (with_reducible refine (oxbowref09_Formed.calls k _ _ l0 t252 t255 _ ?side1 ?side2 A4.out).mono ?_); (case side1 => repeat (first | exact (Kd.C_below HR0.out HB.out) | (with_reducible refine Kd.C_alloc ?_ _) | (with_reducible refine Kd.C_drewN ?_ _) | (with_reducible refine Kd.C_drew ?_))); (case side2 => exact HC0.out); rintro e w7 ⟨v253, v256, rfl, ho0, ho1, hb⟩; refine ⟨_, rfl, ?_⟩; have n0_ := Aside0.mk (Kd.R_lower ho0 (below_size (by repeat (first | (with_reducible first | exact HB.out | apply below_alloc | apply pw_below_drewN | apply below_drew1) | exact HB.out)))); have n1_ := Aside0.mk (Kd.R_lower ho1 (below_size (by repeat (first | (with_reducible first | exact HB.out | apply below_alloc | apply pw_below_drewN | apply below_drew1) | exact HB.out)))); have n2_ := Aside0.mk (below_step (by repeat (first | (with_reducible first | exact HB.out | apply below_alloc | apply pw_below_drewN | apply below_drew1) | exact HB.out)) hb); clear HB; have HO254 := n0_; have HO257 := n1_; have HB := n2_; clear n0_ n1_ n2_; (try clear hb); (try clear hb2); (try clear hk); (try clear hi); (try clear ho0); (try clear ho1); obtain ⟨Ao8, co8, eo8⟩ := Kd.R_slice HO254.out; subst eo8; obtain ⟨Ao9, co9, eo9⟩ := Kd.R_slice HO257.out; subst eo9) | ((with_reducible refine gate_callee (f := 45) rfl ?_); refine goesL_ (some 12) rfl rfl Try.func45 (by kernel_rfl) rfl #[.agg #[.slice Ao8 t252.length co8, .slice Ao9 t255.length co9]] rfl (by (try simp only [List.map_toArray, List.map_cons, List.map_nil]); first | done | rfl | (simp only [List.length_drop, List.length_take]; rfl)) ?_; (with_reducible refine (oxbowref09_Built.calls k _ _ t252 _ _ t255 t258 _ ?side1 ?side2 ?side3 ?side4 A5.out).mono ?_); (case side1 => repeat (first | exact (Kd.R_reads' HO254.out).2.2 | (with_reducible refine Kd.C_alloc ?_ _) | (with_reducible refine Kd.C_drewN ?_ _) | (with_reducible refine Kd.C_drew ?_))); (case side2 => exact (Kd.R_reads' HO254.out).2.1); (case side3 => repeat (first | exact (Kd.R_reads' HO257.out).2.2 | (with_reducible refine Kd.C_alloc ?_ _) | (with_reducible refine Kd.C_drewN ?_ _) | (with_reducible refine Kd.C_drew ?_))); (case side4 => exact (Kd.R_reads' HO257.out).2.1); rintro e w10 ⟨v259, rfl, ho0, hb⟩; refine ⟨_, rfl, ?_⟩; have n0_ := Aside0.mk (Kd.R_below (by (with_reducible repeat (first | apply Kd.R_alloc | apply Kd.R_drewN | apply Kd.R_drew)); exact HO254.out) hb); have n1_ := Aside0.mk (Kd.R_below (by (with_reducible repeat (first | apply Kd.R_alloc | apply Kd.R_drewN | apply Kd.R_drew)); exact HO257.out) hb); have n2_ := Aside0.mk (Kd.R_lower ho0 (below_size (by repeat (first | (with_reducible first | exact HB.out | apply below_alloc | apply pw_below_drewN | apply below_drew1) | exact HB.out)))); have n3_ := Aside0.mk (below_step (by repeat (first | (with_reducible first | exact HB.out | apply below_alloc | apply pw_below_drewN | apply below_drew1) | exact HB.out)) hb); clear HO254; clear HO257; clear HB; have HO254 := n0_; have HO257 := n1_; have HO260 := n2_; have HB := n3_; clear n0_ n1_ n2_ n3_; (try clear hb); (try clear hb2); (try clear hk); (try clear hi); (try clear ho0)))
  go_ret2
  exact ⟨_, by first | rfl | (simp [errW_none, errW_some] <;> rfl) | (simp [*, errW_none, errW_some] <;> rfl), by (with_reducible repeat (first | apply Kd.R_alloc | apply Kd.R_drewN | apply Kd.R_drew)); exact HO260.out, by repeat (first | (with_reducible first | exact HB.out | apply below_alloc | apply pw_below_drewN | apply below_drew1) | exact HB.out)⟩
 ·rw [if_neg c3] at H
  have c3b0 : (t251 == 0) = false := beq_eq_false_iff_ne.mpr c3
  have c3b1 : (t251 != 0) = true := bne_iff_ne.mpr c3
  simp only [Option.some.injEq, Prod.mk.injEq] at H
  obtain ⟨rfl, rfl⟩ := H
  go_enter Try.func24, Try.ntmps24
  go_wp2_with (first | ((with_reducible refine gate_callee (f := 25) rfl ?_); refine goesL_ (some 6) rfl rfl Try.func25 (by kernel_rfl) rfl #[.slice A0 l0.length c0] rfl (by (try simp only [List.map_toArray, List.map_cons, List.map_nil]); first | done | rfl | (simp only [List.length_drop, List.length_take]; rfl)) ?_; (with_reducible refine (oxbowref09_Check.calls k _ _ l0 t251 _ ?side1 ?side2 A2.out).mono ?_); (case side1 => repeat (first | exact HR0.out | (with_reducible refine Kd.C_alloc ?_ _) | (with_reducible refine Kd.C_drewN ?_ _) | (with_reducible refine Kd.C_drew ?_))); (case side2 => exact HC0.out); rintro e w11 ⟨rfl, hb⟩; refine ⟨_, rfl, ?_⟩; have n0_ := Aside0.mk (below_step (by repeat (first | (with_reducible first | exact HB.out | apply below_alloc | apply pw_below_drewN | apply below_drew1) | exact HB.out)) hb); clear HB; have HB := n0_; clear n0_; (try clear hb); (try clear hb2); (try clear hk); (try clear hi)))
  go_ret2
  exact ⟨_, by first | rfl | (simp [errW_none, errW_some] <;> rfl) | (simp [*, errW_none, errW_some] <;> rfl), by first | exact Kd.R_nil _ _ _ _ _ | exact Kd.N_nil _ _ _ _ _ | exact Kd.V_nil _ _ _ _ _ | exact Kd.Q_nil _ _ _ _ _ | exact Kd.S_nil _ _ _ _ _, by repeat (first | (with_reducible first | exact HB.out | apply below_alloc | apply pw_below_drewN | apply below_drew1) | exact HB.out)⟩

/-! ### oxbowlaw09_DeltaMeasures: function 4 -/
mutual
def oxbowlaw09_DeltaMeasures.j0 : Nat → List (S36) → List (S36) → List (S36) → Bool → Option (Bool)
 | 0, _, _, _, _ => none
 | k + 1, x0, x3, x9, x92 => if x92 = true then (some false) else (oxbowlaw09_DeltaMeasures.l0 k x0 x3 x9 0)
def oxbowlaw09_DeltaMeasures.l0 : Nat → List (S36) → List (S36) → List (S36) → Int → Option (Bool)
 | 0, _, _, _, _ => none
 | k + 1, x0, x3, x9, x17 => if x17 < (x9.length : Int) then (if 0 ≤ x17 then (oxbowlaw09_DeltaMeasures.l0 k x0 x3 (x9.set (x17 : Int).toNat (⟨9, (rd_T36 x9 x17).f1, (rd_T36 x9 x17).f2⟩ : S36)) (wrap64 (x17 + 1))) else (none)) else ((oxbowref09_Same.f k x3 x0).bind fun t285 => (if t285 = true then ((oxbowlaw09_live.f k).bind fun t286 => (some t286)) else (some false)))
end
def oxbowlaw09_DeltaMeasures.f (k : Nat) (l0 : List (S36)) : Option (Bool) := (oxbowlaw09_Copied.f l0).bind fun t261 => ((delta_Check.f k t261).bind fun t264 => ((delta_Base.f k t261).bind fun bt265 => ((delta_Target.f k t261).bind fun bt267 => ((delta_Normal.f k t261).bind fun bt269 => ((oxbowref09_Base.f k l0).bind fun bt273 => ((oxbowref09_Target.f k l0).bind fun bt275 => ((oxbowref09_Normal.f k l0).bind fun bt277 => ((oxbowref09_Check.f k l0).bind fun t281 => (if t264 = t281 then (if bt265.1 = bt273.1 then (if bt265.2 = bt273.2 then (if bt267.1 = bt275.1 then (if bt267.2 = bt275.2 then (if bt269.2 = bt277.2 then ((oxbowref09_Same.f k bt269.1 bt277.1).bind fun t282 => (if t282 = true then ((oxbowref09_Same.f k t261 l0).bind fun t283 => (oxbowlaw09_DeltaMeasures.j0 k l0 t261 bt269.1 (!t283))) else (oxbowlaw09_DeltaMeasures.j0 k l0 t261 bt269.1 true))) else (oxbowlaw09_DeltaMeasures.j0 k l0 t261 bt269.1 true)) else (oxbowlaw09_DeltaMeasures.j0 k l0 t261 bt269.1 true)) else (oxbowlaw09_DeltaMeasures.j0 k l0 t261 bt269.1 true)) else (oxbowlaw09_DeltaMeasures.j0 k l0 t261 bt269.1 true)) else (oxbowlaw09_DeltaMeasures.j0 k l0 t261 bt269.1 true)) else (oxbowlaw09_DeltaMeasures.j0 k l0 t261 bt269.1 true))))))))))
theorem oxbowlaw09_DeltaMeasures.mono_l : ∀ k, (∀ y0 y1 y2 y3, LeO (oxbowlaw09_DeltaMeasures.j0 k y0 y1 y2 y3) (oxbowlaw09_DeltaMeasures.j0 (k + 1) y0 y1 y2 y3)) ∧ (∀ y0 y1 y2 y3, LeO (oxbowlaw09_DeltaMeasures.l0 k y0 y1 y2 y3) (oxbowlaw09_DeltaMeasures.l0 (k + 1) y0 y1 y2 y3))
 | 0 => ⟨fun _ _ _ _ r h => by simp [oxbowlaw09_DeltaMeasures.j0] at h, fun _ _ _ _ r h => by simp [oxbowlaw09_DeltaMeasures.l0] at h⟩
 | k + 1 => by
  obtain ⟨ih0, ih1⟩ := oxbowlaw09_DeltaMeasures.mono_l k
  refine ⟨?_, ?_⟩
  ·intro y0 y1 y2 y3
   unfold oxbowlaw09_DeltaMeasures.j0
   repeat' first
   | (with_reducible exact ih0 _ _ _ _)
   | (with_reducible exact ih1 _ _ _ _)
   | (with_reducible exact delta_Base.mono _ _)
   | (with_reducible exact delta_Check.mono _ _)
   | (with_reducible exact delta_Normal.mono _ _)
   | (with_reducible exact delta_Target.mono _ _)
   | (with_reducible exact oxbowlaw09_live.mono _)
   | (with_reducible exact oxbowref09_Base.mono _ _)
   | (with_reducible exact oxbowref09_Check.mono _ _)
   | (with_reducible exact oxbowref09_Normal.mono _ _)
   | (with_reducible exact oxbowref09_Same.mono _ _ _)
   | (with_reducible exact oxbowref09_Target.mono _ _)
   | (with_reducible exact LeO.refl _)
   | (with_reducible exact LeO.none _)
   | (with_reducible refine LeO.ite ?_ ?_)
   | (with_reducible refine LeO.bind ?_ (fun _ => ?_))
   | exact ih0 _ _ _ _
   | exact ih1 _ _ _ _
   | exact delta_Base.mono _ _
   | exact delta_Check.mono _ _
   | exact delta_Normal.mono _ _
   | exact delta_Target.mono _ _
   | exact oxbowlaw09_live.mono _
   | exact oxbowref09_Base.mono _ _
   | exact oxbowref09_Check.mono _ _
   | exact oxbowref09_Normal.mono _ _
   | exact oxbowref09_Same.mono _ _ _
   | exact oxbowref09_Target.mono _ _
   | exact LeO.none _
   | refine LeO.ite ?_ ?_
   | refine LeO.bind ?_ (fun _ => ?_)
  ·intro y0 y1 y2 y3
   unfold oxbowlaw09_DeltaMeasures.l0
   repeat' first
   | (with_reducible exact ih0 _ _ _ _)
   | (with_reducible exact ih1 _ _ _ _)
   | (with_reducible exact delta_Base.mono _ _)
   | (with_reducible exact delta_Check.mono _ _)
   | (with_reducible exact delta_Normal.mono _ _)
   | (with_reducible exact delta_Target.mono _ _)
   | (with_reducible exact oxbowlaw09_live.mono _)
   | (with_reducible exact oxbowref09_Base.mono _ _)
   | (with_reducible exact oxbowref09_Check.mono _ _)
   | (with_reducible exact oxbowref09_Normal.mono _ _)
   | (with_reducible exact oxbowref09_Same.mono _ _ _)
   | (with_reducible exact oxbowref09_Target.mono _ _)
   | (with_reducible exact LeO.refl _)
   | (with_reducible exact LeO.none _)
   | (with_reducible refine LeO.ite ?_ ?_)
   | (with_reducible refine LeO.bind ?_ (fun _ => ?_))
   | exact ih0 _ _ _ _
   | exact ih1 _ _ _ _
   | exact delta_Base.mono _ _
   | exact delta_Check.mono _ _
   | exact delta_Normal.mono _ _
   | exact delta_Target.mono _ _
   | exact oxbowlaw09_live.mono _
   | exact oxbowref09_Base.mono _ _
   | exact oxbowref09_Check.mono _ _
   | exact oxbowref09_Normal.mono _ _
   | exact oxbowref09_Same.mono _ _ _
   | exact oxbowref09_Target.mono _ _
   | exact LeO.none _
   | refine LeO.ite ?_ ?_
   | refine LeO.bind ?_ (fun _ => ?_)
theorem oxbowlaw09_DeltaMeasures.mono : ∀ a0 k, LeO (oxbowlaw09_DeltaMeasures.f k a0) (oxbowlaw09_DeltaMeasures.f (k + 1) a0) := by
 intro a0 k
 obtain ⟨ih0, ih1⟩ := oxbowlaw09_DeltaMeasures.mono_l k
 unfold oxbowlaw09_DeltaMeasures.f
 repeat' first
   | (with_reducible exact ih0 _ _ _ _)
   | (with_reducible exact ih1 _ _ _ _)
   | (with_reducible exact delta_Base.mono _ _)
   | (with_reducible exact delta_Check.mono _ _)
   | (with_reducible exact delta_Normal.mono _ _)
   | (with_reducible exact delta_Target.mono _ _)
   | (with_reducible exact oxbowlaw09_live.mono _)
   | (with_reducible exact oxbowref09_Base.mono _ _)
   | (with_reducible exact oxbowref09_Check.mono _ _)
   | (with_reducible exact oxbowref09_Normal.mono _ _)
   | (with_reducible exact oxbowref09_Same.mono _ _ _)
   | (with_reducible exact oxbowref09_Target.mono _ _)
   | (with_reducible exact LeO.refl _)
   | (with_reducible exact LeO.none _)
   | (with_reducible refine LeO.ite ?_ ?_)
   | (with_reducible refine LeO.bind ?_ (fun _ => ?_))
   | exact ih0 _ _ _ _
   | exact ih1 _ _ _ _
   | exact delta_Base.mono _ _
   | exact delta_Check.mono _ _
   | exact delta_Normal.mono _ _
   | exact delta_Target.mono _ _
   | exact oxbowlaw09_live.mono _
   | exact oxbowref09_Base.mono _ _
   | exact oxbowref09_Check.mono _ _
   | exact oxbowref09_Normal.mono _ _
   | exact oxbowref09_Same.mono _ _ _
   | exact oxbowref09_Target.mono _ _
   | exact LeO.none _
   | refine LeO.ite ?_ ?_
   | refine LeO.bind ?_ (fun _ => ?_)
set_option maxHeartbeats 8000000 in
set_option maxRecDepth 100000 in
theorem oxbowlaw09_DeltaMeasures.calls (k : Nat) (A0 : Option Addr) (c0 : Nat) (l0 : List (S36)) (r : Bool) (w : World) (hr0 : Kd.C k36 w A0 l0.length l0) (hc0 : l0.length ≤ c0) (h : oxbowlaw09_DeltaMeasures.f k l0 = some r) :
  Calls Try.prog 4 #[.slice A0 l0.length c0] w fun e w' => e = .returned (.bool r) ∧ Below w.heap.size w w' := by
 have HR0 := Aside0.mk hr0
 have HC0 := Aside0.mk hc0
 clear hr0 hc0
 have HB := Aside0.mk (Below.refl w.heap.size w)
 have H : ((oxbowlaw09_Copied.f l0).bind fun t261 => ((delta_Check.f k t261).bind fun t264 => ((delta_Base.f k t261).bind fun bt265 => ((delta_Target.f k t261).bind fun bt267 => ((delta_Normal.f k t261).bind fun bt269 => ((oxbowref09_Base.f k l0).bind fun bt273 => ((oxbowref09_Target.f k l0).bind fun bt275 => ((oxbowref09_Normal.f k l0).bind fun bt277 => ((oxbowref09_Check.f k l0).bind fun t281 => (if t264 = t281 then (if bt265.1 = bt273.1 then (if bt265.2 = bt273.2 then (if bt267.1 = bt275.1 then (if bt267.2 = bt275.2 then (if bt269.2 = bt277.2 then ((oxbowref09_Same.f k bt269.1 bt277.1).bind fun t282 => (if t282 = true then ((oxbowref09_Same.f k t261 l0).bind fun t283 => (oxbowlaw09_DeltaMeasures.j0 k l0 t261 bt269.1 (!t283))) else (oxbowlaw09_DeltaMeasures.j0 k l0 t261 bt269.1 true))) else (oxbowlaw09_DeltaMeasures.j0 k l0 t261 bt269.1 true)) else (oxbowlaw09_DeltaMeasures.j0 k l0 t261 bt269.1 true)) else (oxbowlaw09_DeltaMeasures.j0 k l0 t261 bt269.1 true)) else (oxbowlaw09_DeltaMeasures.j0 k l0 t261 bt269.1 true)) else (oxbowlaw09_DeltaMeasures.j0 k l0 t261 bt269.1 true)) else (oxbowlaw09_DeltaMeasures.j0 k l0 t261 bt269.1 true))))))))))) = some r := h
 clear h
 replace H := Option.bind_eq_some_iff.mp H
 obtain ⟨t261, A20, H⟩ := H
 replace H : ((delta_Check.f k t261).bind fun t264 => ((delta_Base.f k t261).bind fun bt265 => ((delta_Target.f k t261).bind fun bt267 => ((delta_Normal.f k t261).bind fun bt269 => ((oxbowref09_Base.f k l0).bind fun bt273 => ((oxbowref09_Target.f k l0).bind fun bt275 => ((oxbowref09_Normal.f k l0).bind fun bt277 => ((oxbowref09_Check.f k l0).bind fun t281 => (if t264 = t281 then (if bt265.1 = bt273.1 then (if bt265.2 = bt273.2 then (if bt267.1 = bt275.1 then (if bt267.2 = bt275.2 then (if bt269.2 = bt277.2 then ((oxbowref09_Same.f k bt269.1 bt277.1).bind fun t282 => (if t282 = true then ((oxbowref09_Same.f k t261 l0).bind fun t283 => (oxbowlaw09_DeltaMeasures.j0 k l0 t261 bt269.1 (!t283))) else (oxbowlaw09_DeltaMeasures.j0 k l0 t261 bt269.1 true))) else (oxbowlaw09_DeltaMeasures.j0 k l0 t261 bt269.1 true)) else (oxbowlaw09_DeltaMeasures.j0 k l0 t261 bt269.1 true)) else (oxbowlaw09_DeltaMeasures.j0 k l0 t261 bt269.1 true)) else (oxbowlaw09_DeltaMeasures.j0 k l0 t261 bt269.1 true)) else (oxbowlaw09_DeltaMeasures.j0 k l0 t261 bt269.1 true)) else (oxbowlaw09_DeltaMeasures.j0 k l0 t261 bt269.1 true)))))))))) = some r := H
 have A2 := Aside0.mk A20
 clear A20
 replace H := Option.bind_eq_some_iff.mp H
 obtain ⟨t264, A30, H⟩ := H
 replace H : ((delta_Base.f k t261).bind fun bt265 => ((delta_Target.f k t261).bind fun bt267 => ((delta_Normal.f k t261).bind fun bt269 => ((oxbowref09_Base.f k l0).bind fun bt273 => ((oxbowref09_Target.f k l0).bind fun bt275 => ((oxbowref09_Normal.f k l0).bind fun bt277 => ((oxbowref09_Check.f k l0).bind fun t281 => (if t264 = t281 then (if bt265.1 = bt273.1 then (if bt265.2 = bt273.2 then (if bt267.1 = bt275.1 then (if bt267.2 = bt275.2 then (if bt269.2 = bt277.2 then ((oxbowref09_Same.f k bt269.1 bt277.1).bind fun t282 => (if t282 = true then ((oxbowref09_Same.f k t261 l0).bind fun t283 => (oxbowlaw09_DeltaMeasures.j0 k l0 t261 bt269.1 (!t283))) else (oxbowlaw09_DeltaMeasures.j0 k l0 t261 bt269.1 true))) else (oxbowlaw09_DeltaMeasures.j0 k l0 t261 bt269.1 true)) else (oxbowlaw09_DeltaMeasures.j0 k l0 t261 bt269.1 true)) else (oxbowlaw09_DeltaMeasures.j0 k l0 t261 bt269.1 true)) else (oxbowlaw09_DeltaMeasures.j0 k l0 t261 bt269.1 true)) else (oxbowlaw09_DeltaMeasures.j0 k l0 t261 bt269.1 true)) else (oxbowlaw09_DeltaMeasures.j0 k l0 t261 bt269.1 true))))))))) = some r := H
 have A3 := Aside0.mk A30
 clear A30
 replace H := Option.bind_eq_some_iff.mp H
 obtain ⟨⟨t265, t266⟩, A40, H⟩ := H
 replace H : ((delta_Target.f k t261).bind fun bt267 => ((delta_Normal.f k t261).bind fun bt269 => ((oxbowref09_Base.f k l0).bind fun bt273 => ((oxbowref09_Target.f k l0).bind fun bt275 => ((oxbowref09_Normal.f k l0).bind fun bt277 => ((oxbowref09_Check.f k l0).bind fun t281 => (if t264 = t281 then (if t265 = bt273.1 then (if t266 = bt273.2 then (if bt267.1 = bt275.1 then (if bt267.2 = bt275.2 then (if bt269.2 = bt277.2 then ((oxbowref09_Same.f k bt269.1 bt277.1).bind fun t282 => (if t282 = true then ((oxbowref09_Same.f k t261 l0).bind fun t283 => (oxbowlaw09_DeltaMeasures.j0 k l0 t261 bt269.1 (!t283))) else (oxbowlaw09_DeltaMeasures.j0 k l0 t261 bt269.1 true))) else (oxbowlaw09_DeltaMeasures.j0 k l0 t261 bt269.1 true)) else (oxbowlaw09_DeltaMeasures.j0 k l0 t261 bt269.1 true)) else (oxbowlaw09_DeltaMeasures.j0 k l0 t261 bt269.1 true)) else (oxbowlaw09_DeltaMeasures.j0 k l0 t261 bt269.1 true)) else (oxbowlaw09_DeltaMeasures.j0 k l0 t261 bt269.1 true)) else (oxbowlaw09_DeltaMeasures.j0 k l0 t261 bt269.1 true)))))))) = some r := H
 have A4 := Aside0.mk A40
 clear A40
 replace H := Option.bind_eq_some_iff.mp H
 obtain ⟨⟨t267, t268⟩, A50, H⟩ := H
 replace H : ((delta_Normal.f k t261).bind fun bt269 => ((oxbowref09_Base.f k l0).bind fun bt273 => ((oxbowref09_Target.f k l0).bind fun bt275 => ((oxbowref09_Normal.f k l0).bind fun bt277 => ((oxbowref09_Check.f k l0).bind fun t281 => (if t264 = t281 then (if t265 = bt273.1 then (if t266 = bt273.2 then (if t267 = bt275.1 then (if t268 = bt275.2 then (if bt269.2 = bt277.2 then ((oxbowref09_Same.f k bt269.1 bt277.1).bind fun t282 => (if t282 = true then ((oxbowref09_Same.f k t261 l0).bind fun t283 => (oxbowlaw09_DeltaMeasures.j0 k l0 t261 bt269.1 (!t283))) else (oxbowlaw09_DeltaMeasures.j0 k l0 t261 bt269.1 true))) else (oxbowlaw09_DeltaMeasures.j0 k l0 t261 bt269.1 true)) else (oxbowlaw09_DeltaMeasures.j0 k l0 t261 bt269.1 true)) else (oxbowlaw09_DeltaMeasures.j0 k l0 t261 bt269.1 true)) else (oxbowlaw09_DeltaMeasures.j0 k l0 t261 bt269.1 true)) else (oxbowlaw09_DeltaMeasures.j0 k l0 t261 bt269.1 true)) else (oxbowlaw09_DeltaMeasures.j0 k l0 t261 bt269.1 true))))))) = some r := H
 have A5 := Aside0.mk A50
 clear A50
 replace H := Option.bind_eq_some_iff.mp H
 obtain ⟨⟨t269, t270⟩, A60, H⟩ := H
 replace H : ((oxbowref09_Base.f k l0).bind fun bt273 => ((oxbowref09_Target.f k l0).bind fun bt275 => ((oxbowref09_Normal.f k l0).bind fun bt277 => ((oxbowref09_Check.f k l0).bind fun t281 => (if t264 = t281 then (if t265 = bt273.1 then (if t266 = bt273.2 then (if t267 = bt275.1 then (if t268 = bt275.2 then (if t270 = bt277.2 then ((oxbowref09_Same.f k t269 bt277.1).bind fun t282 => (if t282 = true then ((oxbowref09_Same.f k t261 l0).bind fun t283 => (oxbowlaw09_DeltaMeasures.j0 k l0 t261 t269 (!t283))) else (oxbowlaw09_DeltaMeasures.j0 k l0 t261 t269 true))) else (oxbowlaw09_DeltaMeasures.j0 k l0 t261 t269 true)) else (oxbowlaw09_DeltaMeasures.j0 k l0 t261 t269 true)) else (oxbowlaw09_DeltaMeasures.j0 k l0 t261 t269 true)) else (oxbowlaw09_DeltaMeasures.j0 k l0 t261 t269 true)) else (oxbowlaw09_DeltaMeasures.j0 k l0 t261 t269 true)) else (oxbowlaw09_DeltaMeasures.j0 k l0 t261 t269 true)))))) = some r := H
 have A6 := Aside0.mk A60
 clear A60
 replace H := Option.bind_eq_some_iff.mp H
 obtain ⟨⟨t273, t274⟩, A70, H⟩ := H
 replace H : ((oxbowref09_Target.f k l0).bind fun bt275 => ((oxbowref09_Normal.f k l0).bind fun bt277 => ((oxbowref09_Check.f k l0).bind fun t281 => (if t264 = t281 then (if t265 = t273 then (if t266 = t274 then (if t267 = bt275.1 then (if t268 = bt275.2 then (if t270 = bt277.2 then ((oxbowref09_Same.f k t269 bt277.1).bind fun t282 => (if t282 = true then ((oxbowref09_Same.f k t261 l0).bind fun t283 => (oxbowlaw09_DeltaMeasures.j0 k l0 t261 t269 (!t283))) else (oxbowlaw09_DeltaMeasures.j0 k l0 t261 t269 true))) else (oxbowlaw09_DeltaMeasures.j0 k l0 t261 t269 true)) else (oxbowlaw09_DeltaMeasures.j0 k l0 t261 t269 true)) else (oxbowlaw09_DeltaMeasures.j0 k l0 t261 t269 true)) else (oxbowlaw09_DeltaMeasures.j0 k l0 t261 t269 true)) else (oxbowlaw09_DeltaMeasures.j0 k l0 t261 t269 true)) else (oxbowlaw09_DeltaMeasures.j0 k l0 t261 t269 true))))) = some r := H
 have A7 := Aside0.mk A70
 clear A70
 replace H := Option.bind_eq_some_iff.mp H
 obtain ⟨⟨t275, t276⟩, A80, H⟩ := H
 replace H : ((oxbowref09_Normal.f k l0).bind fun bt277 => ((oxbowref09_Check.f k l0).bind fun t281 => (if t264 = t281 then (if t265 = t273 then (if t266 = t274 then (if t267 = t275 then (if t268 = t276 then (if t270 = bt277.2 then ((oxbowref09_Same.f k t269 bt277.1).bind fun t282 => (if t282 = true then ((oxbowref09_Same.f k t261 l0).bind fun t283 => (oxbowlaw09_DeltaMeasures.j0 k l0 t261 t269 (!t283))) else (oxbowlaw09_DeltaMeasures.j0 k l0 t261 t269 true))) else (oxbowlaw09_DeltaMeasures.j0 k l0 t261 t269 true)) else (oxbowlaw09_DeltaMeasures.j0 k l0 t261 t269 true)) else (oxbowlaw09_DeltaMeasures.j0 k l0 t261 t269 true)) else (oxbowlaw09_DeltaMeasures.j0 k l0 t261 t269 true)) else (oxbowlaw09_DeltaMeasures.j0 k l0 t261 t269 true)) else (oxbowlaw09_DeltaMeasures.j0 k l0 t261 t269 true)))) = some r := H
 have A8 := Aside0.mk A80
 clear A80
 replace H := Option.bind_eq_some_iff.mp H
 obtain ⟨⟨t277, t278⟩, A90, H⟩ := H
 replace H : ((oxbowref09_Check.f k l0).bind fun t281 => (if t264 = t281 then (if t265 = t273 then (if t266 = t274 then (if t267 = t275 then (if t268 = t276 then (if t270 = t278 then ((oxbowref09_Same.f k t269 t277).bind fun t282 => (if t282 = true then ((oxbowref09_Same.f k t261 l0).bind fun t283 => (oxbowlaw09_DeltaMeasures.j0 k l0 t261 t269 (!t283))) else (oxbowlaw09_DeltaMeasures.j0 k l0 t261 t269 true))) else (oxbowlaw09_DeltaMeasures.j0 k l0 t261 t269 true)) else (oxbowlaw09_DeltaMeasures.j0 k l0 t261 t269 true)) else (oxbowlaw09_DeltaMeasures.j0 k l0 t261 t269 true)) else (oxbowlaw09_DeltaMeasures.j0 k l0 t261 t269 true)) else (oxbowlaw09_DeltaMeasures.j0 k l0 t261 t269 true)) else (oxbowlaw09_DeltaMeasures.j0 k l0 t261 t269 true))) = some r := H
 have A9 := Aside0.mk A90
 clear A90
 have HC10 := Aside0.mk H
 clear H
 go_enter Try.func4, Try.ntmps4
 go_upto_region 9 with (first | ((with_reducible refine gate_callee (f := 15) rfl ?_); refine goesL_ (some 19) rfl rfl Try.func15 (by kernel_rfl) rfl #[.slice A0 l0.length c0] rfl (by (try simp only [List.map_toArray, List.map_cons, List.map_nil]); first | done | rfl | (simp only [List.length_drop, List.length_take]; rfl)) ?_; (with_reducible refine (oxbowlaw09_Copied.calls _ _ l0 t261 _ ?side1 ?side2 A2.out).mono ?_); (case side1 => repeat (first | exact HR0.out | (with_reducible refine Kd.C_alloc ?_ _) | (with_reducible refine Kd.C_drewN ?_ _) | (with_reducible refine Kd.C_drew ?_))); (case side2 => exact HC0.out); rintro e w11 ⟨v262, rfl, ho0, hb⟩; refine ⟨_, rfl, ?_⟩; have n0_ := Aside0.mk (Kd.R_lower ho0 (below_size (by repeat (first | (with_reducible first | exact HB.out | apply below_alloc | apply pw_below_drewN | apply below_drew1) | exact HB.out)))); have n1_ := Aside0.mk (below_step (by repeat (first | (with_reducible first | exact HB.out | apply below_alloc | apply pw_below_drewN | apply below_drew1) | exact HB.out)) hb); clear HB; have HO263 := n0_; have HB := n1_; clear n0_ n1_; (try clear hb); (try clear hb2); (try clear hk); (try clear hi); (try clear ho0); obtain ⟨Ao12, co12, eo12⟩ := Kd.R_slice HO263.out; subst eo12) | ((with_reducible refine gate_callee (f := 18) rfl ?_); refine goesL_ (some 21) rfl rfl Try.func18 (by kernel_rfl) rfl #[.slice Ao12 t261.length co12] rfl (by (try simp only [List.map_toArray, List.map_cons, List.map_nil]); first | done | rfl | (simp only [List.length_drop, List.length_take]; rfl)) ?_; (with_reducible refine (delta_Check.calls k _ _ t261 t264 _ ?side1 ?side2 A3.out).mono ?_); (case side1 => repeat (first | exact (Kd.R_reads' HO263.out).2.2 | (with_reducible refine Kd.C_alloc ?_ _) | (with_reducible refine Kd.C_drewN ?_ _) | (with_reducible refine Kd.C_drew ?_))); (case side2 => exact (Kd.R_reads' HO263.out).2.1); rintro e w13 ⟨rfl, hb⟩; refine ⟨_, rfl, ?_⟩; have n0_ := Aside0.mk (Kd.R_below (by (with_reducible repeat (first | apply Kd.R_alloc | apply Kd.R_drewN | apply Kd.R_drew)); exact HO263.out) hb); have n1_ := Aside0.mk (below_step (by repeat (first | (with_reducible first | exact HB.out | apply below_alloc | apply pw_below_drewN | apply below_drew1) | exact HB.out)) hb); clear HO263; clear HB; have HO263 := n0_; have HB := n1_; clear n0_ n1_; (try clear hb); (try clear hb2); (try clear hk); (try clear hi)) | ((with_reducible refine gate_callee (f := 19) rfl ?_); refine goesL_ (some 24) rfl rfl Try.func19 (by kernel_rfl) rfl #[.slice Ao12 t261.length co12] rfl (by (try simp only [List.map_toArray, List.map_cons, List.map_nil]); first | done | rfl | (simp only [List.length_drop, List.length_take]; rfl)) ?_; (with_reducible refine (delta_Base.calls k _ _ t261 t265 t266 _ ?side1 ?side2 A4.out).mono ?_); (case side1 => repeat (first | exact (Kd.R_reads' HO263.out).2.2 | (with_reducible refine Kd.C_alloc ?_ _) | (with_reducible refine Kd.C_drewN ?_ _) | (with_reducible refine Kd.C_drew ?_))); (case side2 => exact (Kd.R_reads' HO263.out).2.1); rintro e w14 ⟨rfl, hb⟩; refine ⟨_, rfl, ?_⟩; have n0_ := Aside0.mk (Kd.R_below (by (with_reducible repeat (first | apply Kd.R_alloc | apply Kd.R_drewN | apply Kd.R_drew)); exact HO263.out) hb); have n1_ := Aside0.mk (below_step (by repeat (first | (with_reducible first | exact HB.out | apply below_alloc | apply pw_below_drewN | apply below_drew1) | exact HB.out)) hb); clear HO263; clear HB; have HO263 := n0_; have HB := n1_; clear n0_ n1_; (try clear hb); (try clear hb2); (try clear hk); (try clear hi)) | ((with_reducible refine gate_callee (f := 20) rfl ?_); refine goesL_ (some 29) rfl rfl Try.func20 (by kernel_rfl) rfl #[.slice Ao12 t261.length co12] rfl (by (try simp only [List.map_toArray, List.map_cons, List.map_nil]); first | done | rfl | (simp only [List.length_drop, List.length_take]; rfl)) ?_; (with_reducible refine (delta_Target.calls k _ _ t261 t267 t268 _ ?side1 ?side2 A5.out).mono ?_); (case side1 => repeat (first | exact (Kd.R_reads' HO263.out).2.2 | (with_reducible refine Kd.C_alloc ?_ _) | (with_reducible refine Kd.C_drewN ?_ _) | (with_reducible refine Kd.C_drew ?_))); (case side2 => exact (Kd.R_reads' HO263.out).2.1); rintro e w15 ⟨rfl, hb⟩; refine ⟨_, rfl, ?_⟩; have n0_ := Aside0.mk (Kd.R_below (by (with_reducible repeat (first | apply Kd.R_alloc | apply Kd.R_drewN | apply Kd.R_drew)); exact HO263.out) hb); have n1_ := Aside0.mk (below_step (by repeat (first | (with_reducible first | exact HB.out | apply below_alloc | apply pw_below_drewN | apply below_drew1) | exact HB.out)) hb); clear HO263; clear HB; have HO263 := n0_; have HB := n1_; clear n0_ n1_; (try clear hb); (try clear hb2); (try clear hk); (try clear hi)) | ((with_reducible refine gate_callee (f := 21) rfl ?_); refine goesL_ (some 34) rfl rfl Try.func21 (by kernel_rfl) rfl #[.slice Ao12 t261.length co12] rfl (by (try simp only [List.map_toArray, List.map_cons, List.map_nil]); first | done | rfl | (simp only [List.length_drop, List.length_take]; rfl)) ?_; (with_reducible refine (delta_Normal.calls k _ _ t261 t269 t270 _ ?side1 ?side2 A6.out).mono ?_); (case side1 => repeat (first | exact (Kd.R_reads' HO263.out).2.2 | (with_reducible refine Kd.C_alloc ?_ _) | (with_reducible refine Kd.C_drewN ?_ _) | (with_reducible refine Kd.C_drew ?_))); (case side2 => exact (Kd.R_reads' HO263.out).2.1); rintro e w16 ⟨v271, rfl, ho0, hb⟩; refine ⟨_, rfl, ?_⟩; have n0_ := Aside0.mk (Kd.R_elder' (by (with_reducible repeat (first | apply Kd.R_alloc | apply Kd.R_drewN | apply Kd.R_drew)); exact HO263.out) (Kd.R_base ho0) hb); have n1_ := Aside0.mk (Kd.R_lower (Kd.R_new' ho0 (Kd.R_lt (by (with_reducible repeat (first | apply Kd.R_alloc | apply Kd.R_drewN | apply Kd.R_drew)); exact HO263.out))) (below_size (by repeat (first | (with_reducible first | exact HB.out | apply below_alloc | apply pw_below_drewN | apply below_drew1) | exact HB.out)))); have n2_ := Aside0.mk (below_step (by repeat (first | (with_reducible first | exact HB.out | apply below_alloc | apply pw_below_drewN | apply below_drew1) | exact HB.out)) hb); clear HO263; clear HB; have HO263 := n0_; have HO272 := n1_; have HB := n2_; clear n0_ n1_ n2_; (try clear hb); (try clear hb2); (try clear hk); (try clear hi); (try clear ho0)) | ((with_reducible refine gate_callee (f := 22) rfl ?_); refine goesL_ (some 39) rfl rfl Try.func22 (by kernel_rfl) rfl #[.slice A0 l0.length c0] rfl (by (try simp only [List.map_toArray, List.map_cons, List.map_nil]); first | done | rfl | (simp only [List.length_drop, List.length_take]; rfl)) ?_; (with_reducible refine (oxbowref09_Base.calls k _ _ l0 t273 t274 _ ?side1 ?side2 A7.out).mono ?_); (case side1 => repeat (first | exact (Kd.C_below HR0.out HB.out) | (with_reducible refine Kd.C_alloc ?_ _) | (with_reducible refine Kd.C_drewN ?_ _) | (with_reducible refine Kd.C_drew ?_))); (case side2 => exact HC0.out); rintro e w17 ⟨rfl, hb⟩; refine ⟨_, rfl, ?_⟩; have n0_ := Aside0.mk (Kd.R_below (by (with_reducible repeat (first | apply Kd.R_alloc | apply Kd.R_drewN | apply Kd.R_drew)); exact HO263.out) hb); have n1_ := Aside0.mk (Kd.R_below (by (with_reducible repeat (first | apply Kd.R_alloc | apply Kd.R_drewN | apply Kd.R_drew)); exact HO272.out) hb); have n2_ := Aside0.mk (below_step (by repeat (first | (with_reducible first | exact HB.out | apply below_alloc | apply pw_below_drewN | apply below_drew1) | exact HB.out)) hb); clear HO263; clear HO272; clear HB; have HO263 := n0_; have HO272 := n1_; have HB := n2_; clear n0_ n1_ n2_; (try clear hb); (try clear hb2); (try clear hk); (try clear hi)) | ((with_reducible refine gate_callee (f := 23) rfl ?_); refine goesL_ (some 44) rfl rfl Try.func23 (by kernel_rfl) rfl #[.slice A0 l0.length c0] rfl (by (try simp only [List.map_toArray, List.map_cons, List.map_nil]); first | done | rfl | (simp only [List.length_drop, List.length_take]; rfl)) ?_; (with_reducible refine (oxbowref09_Target.calls k _ _ l0 t275 t276 _ ?side1 ?side2 A8.out).mono ?_); (case side1 => repeat (first | exact (Kd.C_below HR0.out HB.out) | (with_reducible refine Kd.C_alloc ?_ _) | (with_reducible refine Kd.C_drewN ?_ _) | (with_reducible refine Kd.C_drew ?_))); (case side2 => exact HC0.out); rintro e w18 ⟨rfl, hb⟩; refine ⟨_, rfl, ?_⟩; have n0_ := Aside0.mk (Kd.R_below (by (with_reducible repeat (first | apply Kd.R_alloc | apply Kd.R_drewN | apply Kd.R_drew)); exact HO263.out) hb); have n1_ := Aside0.mk (Kd.R_below (by (with_reducible repeat (first | apply Kd.R_alloc | apply Kd.R_drewN | apply Kd.R_drew)); exact HO272.out) hb); have n2_ := Aside0.mk (below_step (by repeat (first | (with_reducible first | exact HB.out | apply below_alloc | apply pw_below_drewN | apply below_drew1) | exact HB.out)) hb); clear HO263; clear HO272; clear HB; have HO263 := n0_; have HO272 := n1_; have HB := n2_; clear n0_ n1_ n2_; (try clear hb); (try clear hb2); (try clear hk); (try clear hi)) | ((with_reducible refine gate_callee (f := 24) rfl ?_); refine goesL_ (some 49) rfl rfl Try.func24 (by kernel_rfl) rfl #[.slice A0 l0.length c0] rfl (by (try simp only [List.map_toArray, List.map_cons, List.map_nil]); first | done | rfl | (simp only [List.length_drop, List.length_take]; rfl)) ?_; (with_reducible refine (oxbowref09_Normal.calls k _ _ l0 t277 t278 _ ?side1 ?side2 A9.out).mono ?_); (case side1 => repeat (first | exact (Kd.C_below HR0.out HB.out) | (with_reducible refine Kd.C_alloc ?_ _) | (with_reducible refine Kd.C_drewN ?_ _) | (with_reducible refine Kd.C_drew ?_))); (case side2 => exact HC0.out); rintro e w19 ⟨v279, rfl, ho0, hb⟩; refine ⟨_, rfl, ?_⟩; have n0_ := Aside0.mk (Kd.R_elder' (by (with_reducible repeat (first | apply Kd.R_alloc | apply Kd.R_drewN | apply Kd.R_drew)); exact HO263.out) (Kd.R_base ho0) hb); have n1_ := Aside0.mk (Kd.R_elder' (by (with_reducible repeat (first | apply Kd.R_alloc | apply Kd.R_drewN | apply Kd.R_drew)); exact HO272.out) (Kd.R_base ho0) hb); have n2_ := Aside0.mk (Kd.R_lower (Kd.R_new' (Kd.R_new' ho0 (Kd.R_lt (by (with_reducible repeat (first | apply Kd.R_alloc | apply Kd.R_drewN | apply Kd.R_drew)); exact HO263.out))) (Kd.R_lt (by (with_reducible repeat (first | apply Kd.R_alloc | apply Kd.R_drewN | apply Kd.R_drew)); exact HO272.out))) (below_size (by repeat (first | (with_reducible first | exact HB.out | apply below_alloc | apply pw_below_drewN | apply below_drew1) | exact HB.out)))); have n3_ := Aside0.mk (below_step (by repeat (first | (with_reducible first | exact HB.out | apply below_alloc | apply pw_below_drewN | apply below_drew1) | exact HB.out)) hb); clear HO263; clear HO272; clear HB; have HO263 := n0_; have HO272 := n1_; have HO280 := n2_; have HB := n3_; clear n0_ n1_ n2_ n3_; (try clear hb); (try clear hb2); (try clear hk); (try clear hi); (try clear ho0)))
 (try simp only [Act.put, List.setIfInBounds_toArray, List.set_cons_zero, List.set_cons_succ])
 go_cut [92] (fun v92 wc => ∃ (kq : Nat) (x92_9 : Bool), v92 = .bool x92_9 ∧ Aside0 (oxbowlaw09_DeltaMeasures.j0 kq l0 t261 t269 x92_9 = some r) ∧ Aside0 (kq ≤ k) ∧ Aside0 (Kd.R k36 36 wc w.heap.size (fun k_ => some k_ ≠ (v271 : Value).ownBlock) (.slice Ao12 t261.length co12) t261) ∧ Aside0 (Kd.R k36 36 wc w.heap.size (fun k_ => some k_ ≠ ((.slice Ao12 t261.length co12) : Value).ownBlock) v271 t269) ∧ Aside0 (Below w.heap.size w wc))
 case first =>
  have H := HC10.out
  clear HC10
  replace H := Option.bind_eq_some_iff.mp H
  obtain ⟨t281, A200, H⟩ := H
  replace H : (if t264 = t281 then (if t265 = t273 then (if t266 = t274 then (if t267 = t275 then (if t268 = t276 then (if t270 = t278 then ((oxbowref09_Same.f k t269 t277).bind fun t282 => (if t282 = true then ((oxbowref09_Same.f k t261 l0).bind fun t283 => (oxbowlaw09_DeltaMeasures.j0 k l0 t261 t269 (!t283))) else (oxbowlaw09_DeltaMeasures.j0 k l0 t261 t269 true))) else (oxbowlaw09_DeltaMeasures.j0 k l0 t261 t269 true)) else (oxbowlaw09_DeltaMeasures.j0 k l0 t261 t269 true)) else (oxbowlaw09_DeltaMeasures.j0 k l0 t261 t269 true)) else (oxbowlaw09_DeltaMeasures.j0 k l0 t261 t269 true)) else (oxbowlaw09_DeltaMeasures.j0 k l0 t261 t269 true)) else (oxbowlaw09_DeltaMeasures.j0 k l0 t261 t269 true)) = some r := H
  have A20 := Aside0.mk A200
  clear A200
  by_cases c21 : t264 = t281
  ·rw [if_pos c21] at H
   have c21b0 : (t264 == t281) = true := beq_iff_eq.mpr c21
   have c21b1 : (t264 != t281) = false := bne_eq_false_iff_eq.mpr c21
   clear c21
   (first | rw [c21b0] | (simp only [i64_w, i32_w]; rw [c21b0]) | skip)
   by_cases c22 : t265 = t273
   ·rw [if_pos c22] at H
    have c22b0 : (t265 == t273) = true := beq_iff_eq.mpr c22
    have c22b1 : (t265 != t273) = false := bne_eq_false_iff_eq.mpr c22
    clear c22
    by_cases c23 : t266 = t274
    ·rw [if_pos c23] at H
     have c23b0 : (t266 == t274) = true := beq_iff_eq.mpr c23
     have c23b1 : (t266 != t274) = false := bne_eq_false_iff_eq.mpr c23
     clear c23
     by_cases c24 : t267 = t275
     ·rw [if_pos c24] at H
      have c24b0 : (t267 == t275) = true := beq_iff_eq.mpr c24
      have c24b1 : (t267 != t275) = false := bne_eq_false_iff_eq.mpr c24
      clear c24
      by_cases c25 : t268 = t276
      ·rw [if_pos c25] at H
       have c25b0 : (t268 == t276) = true := beq_iff_eq.mpr c25
       have c25b1 : (t268 != t276) = false := bne_eq_false_iff_eq.mpr c25
       clear c25
       by_cases c26 : t270 = t278
       ·rw [if_pos c26] at H
        have c26b0 : (t270 == t278) = true := beq_iff_eq.mpr c26
        have c26b1 : (t270 != t278) = false := bne_eq_false_iff_eq.mpr c26
        clear c26
        replace H := Option.bind_eq_some_iff.mp H
        obtain ⟨t282, A270, H⟩ := H
        replace H : (if t282 = true then ((oxbowref09_Same.f k t261 l0).bind fun t283 => (oxbowlaw09_DeltaMeasures.j0 k l0 t261 t269 (!t283))) else (oxbowlaw09_DeltaMeasures.j0 k l0 t261 t269 true)) = some r := H
        have A27 := Aside0.mk A270
        clear A270
        by_cases c28 : t282 = true
        ·subst c28
         have H1 : ((oxbowref09_Same.f k t261 l0).bind fun t283 => (oxbowlaw09_DeltaMeasures.j0 k l0 t261 t269 (!t283))) = some r := by rw [if_pos rfl] at H; exact H
         clear H
         have H := H1
         clear H1
         replace H := Option.bind_eq_some_iff.mp H
         obtain ⟨t283, A290, H⟩ := H
         replace H : (oxbowlaw09_DeltaMeasures.j0 k l0 t261 t269 (!t283)) = some r := H
         have A29 := Aside0.mk A290
         clear A290
         have H' := Aside0.mk H
         clear H
         go_wp2_with (first | ((with_reducible refine gate_callee (f := 25) rfl ?_); refine goesL_ (some 54) rfl rfl Try.func25 (by kernel_rfl) rfl #[.slice A0 l0.length c0] rfl (by (try simp only [List.map_toArray, List.map_cons, List.map_nil]); first | done | rfl | (simp only [List.length_drop, List.length_take]; rfl)) ?_; (with_reducible refine (oxbowref09_Check.calls k _ _ l0 t281 _ ?side1 ?side2 A20.out).mono ?_); (case side1 => repeat (first | exact (Kd.C_below HR0.out HB.out) | (with_reducible refine Kd.C_alloc ?_ _) | (with_reducible refine Kd.C_drewN ?_ _) | (with_reducible refine Kd.C_drew ?_))); (case side2 => exact HC0.out); rintro e w30 ⟨rfl, hb⟩; refine ⟨_, rfl, ?_⟩; have n0_ := Aside0.mk (Kd.R_below (by (with_reducible repeat (first | apply Kd.R_alloc | apply Kd.R_drewN | apply Kd.R_drew)); exact HO263.out) hb); have n1_ := Aside0.mk (Kd.R_below (by (with_reducible repeat (first | apply Kd.R_alloc | apply Kd.R_drewN | apply Kd.R_drew)); exact HO272.out) hb); have n2_ := Aside0.mk (Kd.R_below (by (with_reducible repeat (first | apply Kd.R_alloc | apply Kd.R_drewN | apply Kd.R_drew)); exact HO280.out) hb); have n3_ := Aside0.mk (below_step (by repeat (first | (with_reducible first | exact HB.out | apply below_alloc | apply pw_below_drewN | apply below_drew1) | exact HB.out)) hb); clear HO263; clear HO272; clear HO280; clear HB; have HO263 := n0_; have HO272 := n1_; have HO280 := n2_; have HB := n3_; clear n0_ n1_ n2_ n3_; (try clear hb); (try clear hb2); (try clear hk); (try clear hi); obtain ⟨Ao31, co31, eo31⟩ := Kd.R_slice HO272.out; subst eo31; obtain ⟨Ao32, co32, eo32⟩ := Kd.R_slice HO280.out; subst eo32) | (go_at_call 26; (with_reducible refine (oxbowref09_Same.calls k _ _ t269 _ _ t277 true _ ?side1 ?side2 ?side3 ?side4 A27.out).mono ?_); (case side1 => repeat (first | exact (Kd.R_reads' HO272.out).2.2 | (with_reducible refine Kd.C_alloc ?_ _) | (with_reducible refine Kd.C_drewN ?_ _) | (with_reducible refine Kd.C_drew ?_))); (case side2 => exact (Kd.R_reads' HO272.out).2.1); (case side3 => repeat (first | exact (Kd.R_reads' HO280.out).2.2 | (with_reducible refine Kd.C_alloc ?_ _) | (with_reducible refine Kd.C_drewN ?_ _) | (with_reducible refine Kd.C_drew ?_))); (case side4 => exact (Kd.R_reads' HO280.out).2.1); rintro e w' ⟨rfl, ⟨nd, rfl⟩⟩) | (go_at_call 26; (with_reducible refine (oxbowref09_Same.calls k _ _ t261 _ _ l0 t283 _ ?side1 ?side2 ?side3 ?side4 A29.out).mono ?_); (case side1 => repeat (first | exact (Kd.R_reads' HO263.out).2.2 | (with_reducible refine Kd.C_alloc ?_ _) | (with_reducible refine Kd.C_drewN ?_ _) | (with_reducible refine Kd.C_drew ?_))); (case side2 => exact (Kd.R_reads' HO263.out).2.1); (case side3 => repeat (first | exact (Kd.C_below HR0.out (by repeat (first | (with_reducible first | exact HB.out | apply below_alloc | apply pw_below_drewN | apply below_drew1) | exact HB.out))) | (with_reducible refine Kd.C_alloc ?_ _) | (with_reducible refine Kd.C_drewN ?_ _) | (with_reducible refine Kd.C_drew ?_))); (case side4 => exact HC0.out); rintro e w' ⟨rfl, ⟨nd, rfl⟩⟩))
         go_meet
         case rel => exact ⟨_, (!t283), (by first | rfl | (simp; done) | (simp [*]; done) | (simp; (generalize ByteArray.toList _ = l_); cases l_ <;> rfl)), H', ⟨by first | omega | exact Nat.le_refl _⟩, ⟨by (with_reducible repeat (first | apply Kd.R_alloc | apply Kd.R_drewN | apply Kd.R_drew)); exact Kd.R_mono HO263.out (fun _ hk => hk.1.2)⟩, ⟨by (with_reducible repeat (first | apply Kd.R_alloc | apply Kd.R_drewN | apply Kd.R_drew)); exact Kd.R_mono HO272.out (fun _ hk => hk.1.2)⟩, ⟨by repeat (first | (with_reducible first | exact HB.out | apply below_alloc | apply pw_below_drewN | apply below_drew1) | exact HB.out)⟩⟩
        ·replace c28 := Bool.eq_false_iff.mpr c28
         subst c28
         have H1 : (oxbowlaw09_DeltaMeasures.j0 k l0 t261 t269 true) = some r := by rw [if_neg (show ¬ (false = true) by decide)] at H; exact H
         clear H
         have H := H1
         clear H1
         have H' := Aside0.mk H
         clear H
         go_wp2_with (first | ((with_reducible refine gate_callee (f := 25) rfl ?_); refine goesL_ (some 54) rfl rfl Try.func25 (by kernel_rfl) rfl #[.slice A0 l0.length c0] rfl (by (try simp only [List.map_toArray, List.map_cons, List.map_nil]); first | done | rfl | (simp only [List.length_drop, List.length_take]; rfl)) ?_; (with_reducible refine (oxbowref09_Check.calls k _ _ l0 t281 _ ?side1 ?side2 A20.out).mono ?_); (case side1 => repeat (first | exact (Kd.C_below HR0.out HB.out) | (with_reducible refine Kd.C_alloc ?_ _) | (with_reducible refine Kd.C_drewN ?_ _) | (with_reducible refine Kd.C_drew ?_))); (case side2 => exact HC0.out); rintro e w33 ⟨rfl, hb⟩; refine ⟨_, rfl, ?_⟩; have n0_ := Aside0.mk (Kd.R_below (by (with_reducible repeat (first | apply Kd.R_alloc | apply Kd.R_drewN | apply Kd.R_drew)); exact HO263.out) hb); have n1_ := Aside0.mk (Kd.R_below (by (with_reducible repeat (first | apply Kd.R_alloc | apply Kd.R_drewN | apply Kd.R_drew)); exact HO272.out) hb); have n2_ := Aside0.mk (Kd.R_below (by (with_reducible repeat (first | apply Kd.R_alloc | apply Kd.R_drewN | apply Kd.R_drew)); exact HO280.out) hb); have n3_ := Aside0.mk (below_step (by repeat (first | (with_reducible first | exact HB.out | apply below_alloc | apply pw_below_drewN | apply below_drew1) | exact HB.out)) hb); clear HO263; clear HO272; clear HO280; clear HB; have HO263 := n0_; have HO272 := n1_; have HO280 := n2_; have HB := n3_; clear n0_ n1_ n2_ n3_; (try clear hb); (try clear hb2); (try clear hk); (try clear hi); obtain ⟨Ao34, co34, eo34⟩ := Kd.R_slice HO272.out; subst eo34; obtain ⟨Ao35, co35, eo35⟩ := Kd.R_slice HO280.out; subst eo35) | (go_at_call 26; (with_reducible refine (oxbowref09_Same.calls k _ _ t269 _ _ t277 false _ ?side1 ?side2 ?side3 ?side4 A27.out).mono ?_); (case side1 => repeat (first | exact (Kd.R_reads' HO272.out).2.2 | (with_reducible refine Kd.C_alloc ?_ _) | (with_reducible refine Kd.C_drewN ?_ _) | (with_reducible refine Kd.C_drew ?_))); (case side2 => exact (Kd.R_reads' HO272.out).2.1); (case side3 => repeat (first | exact (Kd.R_reads' HO280.out).2.2 | (with_reducible refine Kd.C_alloc ?_ _) | (with_reducible refine Kd.C_drewN ?_ _) | (with_reducible refine Kd.C_drew ?_))); (case side4 => exact (Kd.R_reads' HO280.out).2.1); rintro e w' ⟨rfl, ⟨nd, rfl⟩⟩))
         go_meet
         case rel => exact ⟨_, (true), (by first | rfl | (simp; done) | (simp [*]; done) | (simp; (generalize ByteArray.toList _ = l_); cases l_ <;> rfl)), H', ⟨by first | omega | exact Nat.le_refl _⟩, ⟨by (with_reducible repeat (first | apply Kd.R_alloc | apply Kd.R_drewN | apply Kd.R_drew)); exact Kd.R_mono HO263.out (fun _ hk => hk.1.2)⟩, ⟨by (with_reducible repeat (first | apply Kd.R_alloc | apply Kd.R_drewN | apply Kd.R_drew)); exact Kd.R_mono HO272.out (fun _ hk => hk.1.2)⟩, ⟨by repeat (first | (with_reducible first | exact HB.out | apply below_alloc | apply pw_below_drewN | apply below_drew1) | exact HB.out)⟩⟩
       ·rw [if_neg c26] at H
        have c26b0 : (t270 == t278) = false := beq_eq_false_iff_ne.mpr c26
        have c26b1 : (t270 != t278) = true := bne_iff_ne.mpr c26
        have H' := Aside0.mk H
        clear H
        go_wp2_with (first | ((with_reducible refine gate_callee (f := 25) rfl ?_); refine goesL_ (some 54) rfl rfl Try.func25 (by kernel_rfl) rfl #[.slice A0 l0.length c0] rfl (by (try simp only [List.map_toArray, List.map_cons, List.map_nil]); first | done | rfl | (simp only [List.length_drop, List.length_take]; rfl)) ?_; (with_reducible refine (oxbowref09_Check.calls k _ _ l0 t281 _ ?side1 ?side2 A20.out).mono ?_); (case side1 => repeat (first | exact (Kd.C_below HR0.out HB.out) | (with_reducible refine Kd.C_alloc ?_ _) | (with_reducible refine Kd.C_drewN ?_ _) | (with_reducible refine Kd.C_drew ?_))); (case side2 => exact HC0.out); rintro e w36 ⟨rfl, hb⟩; refine ⟨_, rfl, ?_⟩; have n0_ := Aside0.mk (Kd.R_below (by (with_reducible repeat (first | apply Kd.R_alloc | apply Kd.R_drewN | apply Kd.R_drew)); exact HO263.out) hb); have n1_ := Aside0.mk (Kd.R_below (by (with_reducible repeat (first | apply Kd.R_alloc | apply Kd.R_drewN | apply Kd.R_drew)); exact HO272.out) hb); have n2_ := Aside0.mk (Kd.R_below (by (with_reducible repeat (first | apply Kd.R_alloc | apply Kd.R_drewN | apply Kd.R_drew)); exact HO280.out) hb); have n3_ := Aside0.mk (below_step (by repeat (first | (with_reducible first | exact HB.out | apply below_alloc | apply pw_below_drewN | apply below_drew1) | exact HB.out)) hb); clear HO263; clear HO272; clear HO280; clear HB; have HO263 := n0_; have HO272 := n1_; have HO280 := n2_; have HB := n3_; clear n0_ n1_ n2_ n3_; (try clear hb); (try clear hb2); (try clear hk); (try clear hi)))
        go_meet
        case rel => exact ⟨_, (true), (by first | rfl | (simp; done) | (simp [*]; done) | (simp; (generalize ByteArray.toList _ = l_); cases l_ <;> rfl)), H', ⟨by first | omega | exact Nat.le_refl _⟩, ⟨by (with_reducible repeat (first | apply Kd.R_alloc | apply Kd.R_drewN | apply Kd.R_drew)); exact Kd.R_mono HO263.out (fun _ hk => hk.1.2)⟩, ⟨by (with_reducible repeat (first | apply Kd.R_alloc | apply Kd.R_drewN | apply Kd.R_drew)); exact Kd.R_mono HO272.out (fun _ hk => hk.1.2)⟩, ⟨by repeat (first | (with_reducible first | exact HB.out | apply below_alloc | apply pw_below_drewN | apply below_drew1) | exact HB.out)⟩⟩
      ·rw [if_neg c25] at H
       have c25b0 : (t268 == t276) = false := beq_eq_false_iff_ne.mpr c25
       have c25b1 : (t268 != t276) = true := bne_iff_ne.mpr c25
       have H' := Aside0.mk H
       clear H
       go_wp2_with (first | ((with_reducible refine gate_callee (f := 25) rfl ?_); refine goesL_ (some 54) rfl rfl Try.func25 (by kernel_rfl) rfl #[.slice A0 l0.length c0] rfl (by (try simp only [List.map_toArray, List.map_cons, List.map_nil]); first | done | rfl | (simp only [List.length_drop, List.length_take]; rfl)) ?_; (with_reducible refine (oxbowref09_Check.calls k _ _ l0 t281 _ ?side1 ?side2 A20.out).mono ?_); (case side1 => repeat (first | exact (Kd.C_below HR0.out HB.out) | (with_reducible refine Kd.C_alloc ?_ _) | (with_reducible refine Kd.C_drewN ?_ _) | (with_reducible refine Kd.C_drew ?_))); (case side2 => exact HC0.out); rintro e w37 ⟨rfl, hb⟩; refine ⟨_, rfl, ?_⟩; have n0_ := Aside0.mk (Kd.R_below (by (with_reducible repeat (first | apply Kd.R_alloc | apply Kd.R_drewN | apply Kd.R_drew)); exact HO263.out) hb); have n1_ := Aside0.mk (Kd.R_below (by (with_reducible repeat (first | apply Kd.R_alloc | apply Kd.R_drewN | apply Kd.R_drew)); exact HO272.out) hb); have n2_ := Aside0.mk (Kd.R_below (by (with_reducible repeat (first | apply Kd.R_alloc | apply Kd.R_drewN | apply Kd.R_drew)); exact HO280.out) hb); have n3_ := Aside0.mk (below_step (by repeat (first | (with_reducible first | exact HB.out | apply below_alloc | apply pw_below_drewN | apply below_drew1) | exact HB.out)) hb); clear HO263; clear HO272; clear HO280; clear HB; have HO263 := n0_; have HO272 := n1_; have HO280 := n2_; have HB := n3_; clear n0_ n1_ n2_ n3_; (try clear hb); (try clear hb2); (try clear hk); (try clear hi)))
       go_meet
       case rel => exact ⟨_, (true), (by first | rfl | (simp; done) | (simp [*]; done) | (simp; (generalize ByteArray.toList _ = l_); cases l_ <;> rfl)), H', ⟨by first | omega | exact Nat.le_refl _⟩, ⟨by (with_reducible repeat (first | apply Kd.R_alloc | apply Kd.R_drewN | apply Kd.R_drew)); exact Kd.R_mono HO263.out (fun _ hk => hk.1.2)⟩, ⟨by (with_reducible repeat (first | apply Kd.R_alloc | apply Kd.R_drewN | apply Kd.R_drew)); exact Kd.R_mono HO272.out (fun _ hk => hk.1.2)⟩, ⟨by repeat (first | (with_reducible first | exact HB.out | apply below_alloc | apply pw_below_drewN | apply below_drew1) | exact HB.out)⟩⟩
     ·rw [if_neg c24] at H
      have c24b0 : (t267 == t275) = false := beq_eq_false_iff_ne.mpr c24
      have c24b1 : (t267 != t275) = true := bne_iff_ne.mpr c24
      have H' := Aside0.mk H
      clear H
      go_wp2_with (first | ((with_reducible refine gate_callee (f := 25) rfl ?_); refine goesL_ (some 54) rfl rfl Try.func25 (by kernel_rfl) rfl #[.slice A0 l0.length c0] rfl (by (try simp only [List.map_toArray, List.map_cons, List.map_nil]); first | done | rfl | (simp only [List.length_drop, List.length_take]; rfl)) ?_; (with_reducible refine (oxbowref09_Check.calls k _ _ l0 t281 _ ?side1 ?side2 A20.out).mono ?_); (case side1 => repeat (first | exact (Kd.C_below HR0.out HB.out) | (with_reducible refine Kd.C_alloc ?_ _) | (with_reducible refine Kd.C_drewN ?_ _) | (with_reducible refine Kd.C_drew ?_))); (case side2 => exact HC0.out); rintro e w38 ⟨rfl, hb⟩; refine ⟨_, rfl, ?_⟩; have n0_ := Aside0.mk (Kd.R_below (by (with_reducible repeat (first | apply Kd.R_alloc | apply Kd.R_drewN | apply Kd.R_drew)); exact HO263.out) hb); have n1_ := Aside0.mk (Kd.R_below (by (with_reducible repeat (first | apply Kd.R_alloc | apply Kd.R_drewN | apply Kd.R_drew)); exact HO272.out) hb); have n2_ := Aside0.mk (Kd.R_below (by (with_reducible repeat (first | apply Kd.R_alloc | apply Kd.R_drewN | apply Kd.R_drew)); exact HO280.out) hb); have n3_ := Aside0.mk (below_step (by repeat (first | (with_reducible first | exact HB.out | apply below_alloc | apply pw_below_drewN | apply below_drew1) | exact HB.out)) hb); clear HO263; clear HO272; clear HO280; clear HB; have HO263 := n0_; have HO272 := n1_; have HO280 := n2_; have HB := n3_; clear n0_ n1_ n2_ n3_; (try clear hb); (try clear hb2); (try clear hk); (try clear hi)))
      go_meet
      case rel => exact ⟨_, (true), (by first | rfl | (simp; done) | (simp [*]; done) | (simp; (generalize ByteArray.toList _ = l_); cases l_ <;> rfl)), H', ⟨by first | omega | exact Nat.le_refl _⟩, ⟨by (with_reducible repeat (first | apply Kd.R_alloc | apply Kd.R_drewN | apply Kd.R_drew)); exact Kd.R_mono HO263.out (fun _ hk => hk.1.2)⟩, ⟨by (with_reducible repeat (first | apply Kd.R_alloc | apply Kd.R_drewN | apply Kd.R_drew)); exact Kd.R_mono HO272.out (fun _ hk => hk.1.2)⟩, ⟨by repeat (first | (with_reducible first | exact HB.out | apply below_alloc | apply pw_below_drewN | apply below_drew1) | exact HB.out)⟩⟩
    ·rw [if_neg c23] at H
     have c23b0 : (t266 == t274) = false := beq_eq_false_iff_ne.mpr c23
     have c23b1 : (t266 != t274) = true := bne_iff_ne.mpr c23
     have H' := Aside0.mk H
     clear H
     go_wp2_with (first | ((with_reducible refine gate_callee (f := 25) rfl ?_); refine goesL_ (some 54) rfl rfl Try.func25 (by kernel_rfl) rfl #[.slice A0 l0.length c0] rfl (by (try simp only [List.map_toArray, List.map_cons, List.map_nil]); first | done | rfl | (simp only [List.length_drop, List.length_take]; rfl)) ?_; (with_reducible refine (oxbowref09_Check.calls k _ _ l0 t281 _ ?side1 ?side2 A20.out).mono ?_); (case side1 => repeat (first | exact (Kd.C_below HR0.out HB.out) | (with_reducible refine Kd.C_alloc ?_ _) | (with_reducible refine Kd.C_drewN ?_ _) | (with_reducible refine Kd.C_drew ?_))); (case side2 => exact HC0.out); rintro e w39 ⟨rfl, hb⟩; refine ⟨_, rfl, ?_⟩; have n0_ := Aside0.mk (Kd.R_below (by (with_reducible repeat (first | apply Kd.R_alloc | apply Kd.R_drewN | apply Kd.R_drew)); exact HO263.out) hb); have n1_ := Aside0.mk (Kd.R_below (by (with_reducible repeat (first | apply Kd.R_alloc | apply Kd.R_drewN | apply Kd.R_drew)); exact HO272.out) hb); have n2_ := Aside0.mk (Kd.R_below (by (with_reducible repeat (first | apply Kd.R_alloc | apply Kd.R_drewN | apply Kd.R_drew)); exact HO280.out) hb); have n3_ := Aside0.mk (below_step (by repeat (first | (with_reducible first | exact HB.out | apply below_alloc | apply pw_below_drewN | apply below_drew1) | exact HB.out)) hb); clear HO263; clear HO272; clear HO280; clear HB; have HO263 := n0_; have HO272 := n1_; have HO280 := n2_; have HB := n3_; clear n0_ n1_ n2_ n3_; (try clear hb); (try clear hb2); (try clear hk); (try clear hi)))
     go_meet
     case rel => exact ⟨_, (true), (by first | rfl | (simp; done) | (simp [*]; done) | (simp; (generalize ByteArray.toList _ = l_); cases l_ <;> rfl)), H', ⟨by first | omega | exact Nat.le_refl _⟩, ⟨by (with_reducible repeat (first | apply Kd.R_alloc | apply Kd.R_drewN | apply Kd.R_drew)); exact Kd.R_mono HO263.out (fun _ hk => hk.1.2)⟩, ⟨by (with_reducible repeat (first | apply Kd.R_alloc | apply Kd.R_drewN | apply Kd.R_drew)); exact Kd.R_mono HO272.out (fun _ hk => hk.1.2)⟩, ⟨by repeat (first | (with_reducible first | exact HB.out | apply below_alloc | apply pw_below_drewN | apply below_drew1) | exact HB.out)⟩⟩
   ·rw [if_neg c22] at H
    have c22b0 : (t265 == t273) = false := beq_eq_false_iff_ne.mpr c22
    have c22b1 : (t265 != t273) = true := bne_iff_ne.mpr c22
    have H' := Aside0.mk H
    clear H
    go_wp2_with (first | ((with_reducible refine gate_callee (f := 25) rfl ?_); refine goesL_ (some 54) rfl rfl Try.func25 (by kernel_rfl) rfl #[.slice A0 l0.length c0] rfl (by (try simp only [List.map_toArray, List.map_cons, List.map_nil]); first | done | rfl | (simp only [List.length_drop, List.length_take]; rfl)) ?_; (with_reducible refine (oxbowref09_Check.calls k _ _ l0 t281 _ ?side1 ?side2 A20.out).mono ?_); (case side1 => repeat (first | exact (Kd.C_below HR0.out HB.out) | (with_reducible refine Kd.C_alloc ?_ _) | (with_reducible refine Kd.C_drewN ?_ _) | (with_reducible refine Kd.C_drew ?_))); (case side2 => exact HC0.out); rintro e w40 ⟨rfl, hb⟩; refine ⟨_, rfl, ?_⟩; have n0_ := Aside0.mk (Kd.R_below (by (with_reducible repeat (first | apply Kd.R_alloc | apply Kd.R_drewN | apply Kd.R_drew)); exact HO263.out) hb); have n1_ := Aside0.mk (Kd.R_below (by (with_reducible repeat (first | apply Kd.R_alloc | apply Kd.R_drewN | apply Kd.R_drew)); exact HO272.out) hb); have n2_ := Aside0.mk (Kd.R_below (by (with_reducible repeat (first | apply Kd.R_alloc | apply Kd.R_drewN | apply Kd.R_drew)); exact HO280.out) hb); have n3_ := Aside0.mk (below_step (by repeat (first | (with_reducible first | exact HB.out | apply below_alloc | apply pw_below_drewN | apply below_drew1) | exact HB.out)) hb); clear HO263; clear HO272; clear HO280; clear HB; have HO263 := n0_; have HO272 := n1_; have HO280 := n2_; have HB := n3_; clear n0_ n1_ n2_ n3_; (try clear hb); (try clear hb2); (try clear hk); (try clear hi)))
    go_meet
    case rel => exact ⟨_, (true), (by first | rfl | (simp; done) | (simp [*]; done) | (simp; (generalize ByteArray.toList _ = l_); cases l_ <;> rfl)), H', ⟨by first | omega | exact Nat.le_refl _⟩, ⟨by (with_reducible repeat (first | apply Kd.R_alloc | apply Kd.R_drewN | apply Kd.R_drew)); exact Kd.R_mono HO263.out (fun _ hk => hk.1.2)⟩, ⟨by (with_reducible repeat (first | apply Kd.R_alloc | apply Kd.R_drewN | apply Kd.R_drew)); exact Kd.R_mono HO272.out (fun _ hk => hk.1.2)⟩, ⟨by repeat (first | (with_reducible first | exact HB.out | apply below_alloc | apply pw_below_drewN | apply below_drew1) | exact HB.out)⟩⟩
  ·rw [if_neg c21] at H
   have c21b0 : (t264 == t281) = false := beq_eq_false_iff_ne.mpr c21
   have c21b1 : (t264 != t281) = true := bne_iff_ne.mpr c21
   (first | rw [c21b0] | (simp only [i64_w, i32_w]; rw [c21b0]) | skip)
   have H' := Aside0.mk H
   clear H
   go_wp2_with (first | ((with_reducible refine gate_callee (f := 25) rfl ?_); refine goesL_ (some 54) rfl rfl Try.func25 (by kernel_rfl) rfl #[.slice A0 l0.length c0] rfl (by (try simp only [List.map_toArray, List.map_cons, List.map_nil]); first | done | rfl | (simp only [List.length_drop, List.length_take]; rfl)) ?_; (with_reducible refine (oxbowref09_Check.calls k _ _ l0 t281 _ ?side1 ?side2 A20.out).mono ?_); (case side1 => repeat (first | exact (Kd.C_below HR0.out HB.out) | (with_reducible refine Kd.C_alloc ?_ _) | (with_reducible refine Kd.C_drewN ?_ _) | (with_reducible refine Kd.C_drew ?_))); (case side2 => exact HC0.out); rintro e w41 ⟨rfl, hb⟩; refine ⟨_, rfl, ?_⟩; have n0_ := Aside0.mk (Kd.R_below (by (with_reducible repeat (first | apply Kd.R_alloc | apply Kd.R_drewN | apply Kd.R_drew)); exact HO263.out) hb); have n1_ := Aside0.mk (Kd.R_below (by (with_reducible repeat (first | apply Kd.R_alloc | apply Kd.R_drewN | apply Kd.R_drew)); exact HO272.out) hb); have n2_ := Aside0.mk (Kd.R_below (by (with_reducible repeat (first | apply Kd.R_alloc | apply Kd.R_drewN | apply Kd.R_drew)); exact HO280.out) hb); have n3_ := Aside0.mk (below_step (by repeat (first | (with_reducible first | exact HB.out | apply below_alloc | apply pw_below_drewN | apply below_drew1) | exact HB.out)) hb); clear HO263; clear HO272; clear HO280; clear HB; have HO263 := n0_; have HO272 := n1_; have HO280 := n2_; have HB := n3_; clear n0_ n1_ n2_ n3_; (try clear hb); (try clear hb2); (try clear hk); (try clear hi)))
   go_meet
   case rel => exact ⟨_, (true), (by first | rfl | (simp; done) | (simp [*]; done) | (simp; (generalize ByteArray.toList _ = l_); cases l_ <;> rfl)), H', ⟨by first | omega | exact Nat.le_refl _⟩, ⟨by (with_reducible repeat (first | apply Kd.R_alloc | apply Kd.R_drewN | apply Kd.R_drew)); exact Kd.R_mono HO263.out (fun _ hk => hk.1.2)⟩, ⟨by (with_reducible repeat (first | apply Kd.R_alloc | apply Kd.R_drewN | apply Kd.R_drew)); exact Kd.R_mono HO272.out (fun _ hk => hk.1.2)⟩, ⟨by repeat (first | (with_reducible first | exact HB.out | apply below_alloc | apply pw_below_drewN | apply below_drew1) | exact HB.out)⟩⟩
 case rest =>
  clear HC10
  try clear c1
  try clear c2
  try clear p2
  try clear c4
  try clear c15
  try clear c18
  try clear c19
  try clear c20
  try clear c21
  try clear c21b0
  try clear c21b1
  try clear c22
  try clear c22b0
  try clear c22b1
  try clear c23
  try clear c23b0
  try clear c23b1
  try clear c24
  try clear c24b0
  try clear c24b1
  try clear c25
  try clear c25b0
  try clear c25b1
  try clear c26
  try clear c26b0
  try clear c26b1
  try clear c28
  obtain ⟨kq, x92_9, rfl, HA, HJ9, HO_3, HO_9, HB⟩ := hcut
  cases kq with
  | zero => exact absurd HA.out (by simp [oxbowlaw09_DeltaMeasures.j0])
  | succ kj9 =>
   have H := HA.out
   clear HA
   simp only [oxbowlaw09_DeltaMeasures.j0] at H
   by_cases c42 : x92_9 = true
   ·subst c42
    have H1 : (some false) = some r := by rw [if_pos rfl] at H; exact H
    clear H
    have H := H1
    clear H1
    obtain rfl := Option.some.inj H
    go_wp2
    go_ret
    exact ⟨by first | rfl | (simp [errW_none, errW_some] <;> rfl) | (simp [*, errW_none, errW_some] <;> rfl), by repeat (first | (with_reducible first | exact HB.out | apply below_alloc | apply pw_below_drewN | apply below_drew1) | exact HB.out)⟩
   ·replace c42 := Bool.eq_false_iff.mpr c42
    subst c42
    have H1 : (oxbowlaw09_DeltaMeasures.l0 kj9 l0 t261 t269 0) = some r := by rw [if_neg (show ¬ (false = true) by decide)] at H; exact H
    clear H
    have H := H1
    clear H1
    have H' := Aside0.mk H
    clear H
    go_wp2
    go_loopg [17] kj9 (fun kq v17 w' => ∃ (x9_2 : List (S36)) (x17_2 : Int), v17 = .int .i64 x17_2 ∧ Aside0 (oxbowlaw09_DeltaMeasures.l0 kq l0 t261 x9_2 x17_2 = some r) ∧ Aside0 (kq ≤ kj9) ∧ Aside0 (Kd.R k36 36 w' w.heap.size (fun k_ => some k_ ≠ (v271 : Value).ownBlock) (.slice Ao12 t261.length co12) t261) ∧ Aside0 (Kd.R k36 36 w' w.heap.size (fun k_ => some k_ ≠ ((.slice Ao12 t261.length co12) : Value).ownBlock) v271 x9_2) ∧ Aside0 (Below w.heap.size w w'))
    case atStart => exact ⟨(t269), (0), (by first | rfl | (simp; done) | (simp [*]; done) | (simp; (generalize ByteArray.toList _ = l_); cases l_ <;> rfl)), H', ⟨Nat.le_refl _⟩, ⟨by (with_reducible repeat (first | apply Kd.R_alloc | apply Kd.R_drewN | apply Kd.R_drew)); exact HO_3.out⟩, ⟨by (with_reducible repeat (first | apply Kd.R_alloc | apply Kd.R_drewN | apply Kd.R_drew)); exact HO_9.out⟩, ⟨by repeat (first | (with_reducible first | exact HB.out | apply below_alloc | apply pw_below_drewN | apply below_drew1) | exact HB.out)⟩⟩
    case round =>
     clear H'
     try clear c1
     try clear c2
     try clear p2
     try clear c4
     try clear c15
     try clear c18
     try clear c19
     try clear c20
     try clear c21
     try clear c21b0
     try clear c21b1
     try clear c22
     try clear c22b0
     try clear c22b1
     try clear c23
     try clear c23b0
     try clear c23b1
     try clear c24
     try clear c24b0
     try clear c24b1
     try clear c25
     try clear c25b0
     try clear c25b1
     try clear c26
     try clear c26b0
     try clear c26b1
     try clear c28
     try clear c42
     try clear p2
     obtain ⟨x9_2, x17_2, rfl, HA, HK2, HO_3, HO_9, HB⟩ := hrel
     cases gk with
     | zero => exact absurd HA.out (by simp [oxbowlaw09_DeltaMeasures.l0])
     | succ k2 =>
      have H := HA.out
      clear HA
      simp only [oxbowlaw09_DeltaMeasures.l0] at H
      by_cases c43 : x17_2 < (x9_2.length : Int)
      ·rw [if_pos c43] at H
       have c43b0 : decide (x17_2 < (x9_2.length : Int)) = true := decide_eq_true c43
       clear c43
       by_cases c44 : 0 ≤ x17_2
       ·rw [if_pos c44] at H
        have c44b0 : decide (0 ≤ x17_2) = true := decide_eq_true c44
        clear c44
        obtain ⟨y284, hy284⟩ : ∃ y_ : List (S36), y_ = (x9_2.set (x17_2 : Int).toNat (⟨9, (rd_T36 x9_2 x17_2).f1, (rd_T36 x9_2 x17_2).f2⟩ : S36)) := ⟨_, rfl⟩
        replace H : (oxbowlaw09_DeltaMeasures.l0 k2 l0 t261 y284 (wrap64 (x17_2 + 1))) = some r := by first | (rw [hy284]; with_reducible exact H) | (have H2_ := (Option.bind_some _ _).symm.trans H; rw [hy284]; with_reducible exact H2_) | (have H2_ := (Option.bind_some _ _).symm.trans H; with_reducible exact H2_) | with_reducible exact H | (rw [hy284]; exact H) | exact H
        have Ny284 := Aside0.mk hy284
        clear hy284
        have H' := Aside0.mk H
        clear H
        obtain ⟨Ao46, co46, eo46⟩ := Kd.R_slice HO_9.out
        subst eo46
        have p45 : 0 ≤ (x17_2 : Int) := of_decide_eq_true (by first | (with_reducible assumption) | assumption)
        have q45 : (x17_2 : Int) < ((x9_2.length : Int) : Int) := of_decide_eq_true (by first | (with_reducible assumption) | assumption)
        obtain ⟨go45, co45, eo45, gb45, gl45, cl45, HG45⟩ := Kd.R_form HO_9.out (by omega)
        (first | cases eo45 | (injection eo45 with ea_ en_ ec_; (first | subst ea_ | (injection ea_ with ea_; subst ea_)); subst ec_; clear en_))
        have GB45 := Aside0.mk gb45
        have GG45 := Aside0.mk HG45
        clear gb45 gl45 HG45
        obtain ⟨ce45, hcl45, hM45, hcc45, hfr45⟩ := Kd.R_elem HO_9.out z36 (x17_2 : Int) p45 q45
        obtain rfl := k36_openM hM45
        have hx45_0 : wr.cell? ⟨go45, (x17_2 : Int).toNat * 3, none⟩ = some (.int .i64 ((rd_T36 x9_2 x17_2).f0)) := hcc45 0 _ rfl
        have hx45_1 : wr.cell? ⟨go45, (x17_2 : Int).toNat * 3 + 1, none⟩ = some (.int .i64 ((rd_T36 x9_2 x17_2).f1)) := hcc45 1 _ rfl
        have hx45_2 : wr.cell? ⟨go45, (x17_2 : Int).toNat * 3 + 2, none⟩ = some (.string ((rd_T36 x9_2 x17_2).f2)) := hcc45 2 _ rfl
        have hf45_0 : wr.frozen? ⟨go45, (x17_2 : Int).toNat * 3, none⟩ = false := hfr45 0
        have hf45_1 : wr.frozen? ⟨go45, (x17_2 : Int).toNat * 3 + 1, none⟩ = false := hfr45 1
        have hf45_2 : wr.frozen? ⟨go45, (x17_2 : Int).toNat * 3 + 2, none⟩ = false := hfr45 2
        clear hcl45 hcc45 hfr45 hM45
        replace p45 := eq_true p45
        replace q45 := eq_true q45
        have HX47 := Aside0.mk (show Kd.R k36 36 wr w.heap.size (fun k_ => some k_ ≠ (.slice Ao12 t261.length co12 : Value).ownBlock) (.slice (some ⟨go45, 0, none⟩) x9_2.length co46) x9_2 from (by (with_reducible repeat (first | apply Kd.R_alloc | apply Kd.R_drewN | apply Kd.R_drew)); exact HO_9.out))
        obtain ⟨ce47, hcl47, hM47, hcc47, hfr47⟩ := Kd.R_elem HX47.out z36 (x17_2 : Int) (of_decide_eq_true (by first | (with_reducible assumption) | assumption)) (by have h_ : (x17_2 : Int) < ((x9_2.length : Int) : Int) := of_decide_eq_true (by first | (with_reducible assumption) | assumption); first | exact h_ | (have e_ := (Kd.R_reads' HO_9.out).1; omega) | simpa using h_)
        obtain rfl := k36_openM hM47
        have HP47 := Kd.R_seg HX47.out (x17_2 : Int) (of_decide_eq_true (by first | (with_reducible assumption) | assumption)) (by have h_ : (x17_2 : Int) < ((x9_2.length : Int) : Int) := of_decide_eq_true (by first | (with_reducible assumption) | assumption); first | exact h_ | (have e_ := (Kd.R_reads' HO_9.out).1; omega) | simpa using h_) (seg := [.int .i64 9]) (j := 0) hcl47 hcc47 (show 1 ≤ 3 from by decide) (x' := (⟨9, (rd_T36 x9_2 x17_2).f1, (rd_T36 x9_2 x17_2).f2⟩ : S36)) (k36_mkM _ _ _ (⟨9, (rd_T36 x9_2 x17_2).f1, (rd_T36 x9_2 x17_2).f2⟩ : S36) ) (fun _ hk => hk)
        have hx47_0 := hcc47 0 _ rfl
        (try simp only [show (k36).sz = 3 from rfl, Nat.mul_one, Nat.add_zero] at hx47_0)
        have hf47_0 := hfr47 0
        (try simp only [show (k36).sz = 3 from rfl, Nat.mul_one, Nat.add_zero] at hf47_0)
        clear hcl47 hcc47 hfr47 hM47
        go_wp2_with (first | ((with_reducible refine gate_store (t := 3) (p := 102) rfl ?_); refine store_event (t := 3) (p := 102) (v := ?vo_w48) (w1 := (wr.setCell ⟨go45, (x17_2 : Int).toNat * 3, none⟩ (.int .i64 9))) ?hg ?ho ?hn ?hr ?_; (case ho => rfl); (case hg => rfl); (case hn => rfl); (case hr => first | (go_simp; done) | (go_simp; rfl)); intro w48 hw; have hg : wr.grownBy w48 (some go45) := (by rw [hw]; exact HP47.2); have hp_ : Kd.R k36 36 w48 w.heap.size (fun k_ => some k_ ≠ (.slice Ao12 t261.length co12 : Value).ownBlock) (.slice (some ⟨go45, 0, none⟩) x9_2.length co46) y284 := (by rw [hw, Ny284.out]; exact HP47.1); clear HP47; have n0_ := Aside0.mk (Kd.R_after (v := (.slice (some ⟨go45, 0, none⟩) x9_2.length co46)) (v1 := (.slice (some ⟨go45, 0, none⟩) x9_2.length co46)) (ok := (fun _ => True)) (by (with_reducible repeat (first | apply Kd.R_alloc | apply Kd.R_drewN | apply Kd.R_drew)); exact Kd.R_mono HO_3.out (fun _ hk => ⟨trivial, hk⟩)) hg (.inl rfl)); have n1_ := Aside0.mk (hp_); have n2_ := Aside0.mk ((by rw [hw]; exact below_set (HB.out) GB45.out : Below w.heap.size w w48)); clear HO_3; clear HO_9; clear HB; have HO_3 := n0_; have HO_9 := n1_; have HB := n2_; clear n0_ n1_ n2_; clear hg hw hp_))
        go_roundg k2
        case measure => have := HJ9.out; have := HK2.out; omega
        case rel => exact ⟨(y284), (wrap64 (x17_2 + 1)), (by first | rfl | (simp; done) | (simp [*]; done) | (simp; (generalize ByteArray.toList _ = l_); cases l_ <;> rfl)), H', ⟨by have := HJ9.out; have := HK2.out; omega⟩, ⟨by (with_reducible repeat (first | apply Kd.R_alloc | apply Kd.R_drewN | apply Kd.R_drew)); exact Kd.R_mono HO_3.out (fun _ hk => hk.2)⟩, ⟨by (with_reducible repeat (first | apply Kd.R_alloc | apply Kd.R_drewN | apply Kd.R_drew)); exact HO_9.out⟩, ⟨by repeat (first | (with_reducible first | exact HB.out | apply below_alloc | apply pw_below_drewN | apply below_drew1) | exact HB.out)⟩⟩
       ·rw [if_neg c44] at H
        exact absurd H (by simp)
      ·rw [if_neg c43] at H
       have c43b0 : decide (x17_2 < (x9_2.length : Int)) = false := decide_eq_false c43
       clear c43
       replace H := Option.bind_eq_some_iff.mp H
       obtain ⟨t285, A490, H⟩ := H
       replace H : (if t285 = true then ((oxbowlaw09_live.f k2).bind fun t286 => (some t286)) else (some false)) = some r := H
       have A49 := Aside0.mk A490
       clear A490
       by_cases c50 : t285 = true
       ·subst c50
        have H1 : ((oxbowlaw09_live.f k2).bind fun t286 => (some t286)) = some r := by rw [if_pos rfl] at H; exact H
        clear H
        have H := H1
        clear H1
        replace H := Option.bind_eq_some_iff.mp H
        obtain ⟨t286, A510, H⟩ := H
        replace H : (some t286) = some r := H
        have A51 := Aside0.mk A510
        clear A510
        obtain rfl := Option.some.inj H
        obtain ⟨Ao52, co52, eo52⟩ := Kd.R_slice HO_9.out
        subst eo52
        go_wp2_with (first | ((with_reducible refine gate_callee (f := 26) rfl ?_); refine goesL_ (some 105) rfl rfl Try.func26 (by kernel_rfl) rfl #[.slice Ao12 t261.length co12, .slice A0 l0.length c0] rfl (by (try simp only [List.map_toArray, List.map_cons, List.map_nil]); first | done | rfl | (simp only [List.length_drop, List.length_take]; rfl)) ?_; (with_reducible refine (oxbowref09_Same.calls k2 _ _ t261 _ _ l0 true _ ?side1 ?side2 ?side3 ?side4 A49.out).mono ?_); (case side1 => repeat (first | exact (Kd.R_reads' HO_3.out).2.2 | (with_reducible refine Kd.C_alloc ?_ _) | (with_reducible refine Kd.C_drewN ?_ _) | (with_reducible refine Kd.C_drew ?_))); (case side2 => exact (Kd.R_reads' HO_3.out).2.1); (case side3 => repeat (first | exact (Kd.C_below HR0.out HB.out) | (with_reducible refine Kd.C_alloc ?_ _) | (with_reducible refine Kd.C_drewN ?_ _) | (with_reducible refine Kd.C_drew ?_))); (case side4 => exact HC0.out); rintro e w' ⟨rfl, ⟨nd, rfl⟩⟩; refine ⟨_, rfl, ?_⟩) | (go_at_call 17; (with_reducible refine (oxbowlaw09_live.calls k2  t286 _ A51.out).mono ?_); rintro e w53 ⟨rfl, hb⟩; have n0_ := Aside0.mk (Kd.R_below (by (with_reducible repeat (first | apply Kd.R_alloc | apply Kd.R_drewN | apply Kd.R_drew)); exact HO_3.out) hb); have n1_ := Aside0.mk (Kd.R_below (by (with_reducible repeat (first | apply Kd.R_alloc | apply Kd.R_drewN | apply Kd.R_drew)); exact HO_9.out) hb); have n2_ := Aside0.mk (below_step (by repeat (first | (with_reducible first | exact HB.out | apply below_alloc | apply pw_below_drewN | apply below_drew1) | exact HB.out)) hb); clear HO_3; clear HO_9; clear HB; have HO_3 := n0_; have HO_9 := n1_; have HB := n2_; clear n0_ n1_ n2_; (try clear hb); (try clear hb2); (try clear hk); (try clear hi)))
        go_ret
        exact ⟨by first | rfl | (simp [errW_none, errW_some] <;> rfl) | (simp [*, errW_none, errW_some] <;> rfl), by repeat (first | (with_reducible first | exact HB.out | apply below_alloc | apply pw_below_drewN | apply below_drew1) | exact HB.out)⟩
       ·replace c50 := Bool.eq_false_iff.mpr c50
        subst c50
        have H1 : (some false) = some r := by rw [if_neg (show ¬ (false = true) by decide)] at H; exact H
        clear H
        have H := H1
        clear H1
        obtain rfl := Option.some.inj H
        obtain ⟨Ao54, co54, eo54⟩ := Kd.R_slice HO_9.out
        subst eo54
        go_wp2_with (first | ((with_reducible refine gate_callee (f := 26) rfl ?_); refine goesL_ (some 105) rfl rfl Try.func26 (by kernel_rfl) rfl #[.slice Ao12 t261.length co12, .slice A0 l0.length c0] rfl (by (try simp only [List.map_toArray, List.map_cons, List.map_nil]); first | done | rfl | (simp only [List.length_drop, List.length_take]; rfl)) ?_; (with_reducible refine (oxbowref09_Same.calls k2 _ _ t261 _ _ l0 false _ ?side1 ?side2 ?side3 ?side4 A49.out).mono ?_); (case side1 => repeat (first | exact (Kd.R_reads' HO_3.out).2.2 | (with_reducible refine Kd.C_alloc ?_ _) | (with_reducible refine Kd.C_drewN ?_ _) | (with_reducible refine Kd.C_drew ?_))); (case side2 => exact (Kd.R_reads' HO_3.out).2.1); (case side3 => repeat (first | exact (Kd.C_below HR0.out HB.out) | (with_reducible refine Kd.C_alloc ?_ _) | (with_reducible refine Kd.C_drewN ?_ _) | (with_reducible refine Kd.C_drew ?_))); (case side4 => exact HC0.out); rintro e w' ⟨rfl, ⟨nd, rfl⟩⟩; refine ⟨_, rfl, ?_⟩))
        go_ret
        exact ⟨by first | rfl | (simp [errW_none, errW_some] <;> rfl) | (simp [*, errW_none, errW_some] <;> rfl), by repeat (first | (with_reducible first | exact HB.out | apply below_alloc | apply pw_below_drewN | apply below_drew1) | exact HB.out)⟩

/-- The one pure statement of oxbowlaw09_DeltaMeasures. -/
def oxbowlaw09_DeltaMeasures.Pure : Prop := ∀ (l0 : List (S36)), (l0.length * 32 ≤ 140737488351232 ∧ l0.length ≤ maxLen ∧ ∀ y287 ∈ l0, ((Lit.int .i64 y287.f0).wf = true ∧ (Lit.int .i64 y287.f1).wf = true ∧ y287.f2.size ≤ 140737488351232)) → ((l0.map fun y288 => ((1 + (1 + (y288.f2.size + 1))) + 1)).sum + 1) ≤ 1048576 → ∃ k, oxbowlaw09_DeltaMeasures.f k l0 = some true

end Go.Proofs.Ytdpbkomaiafemaa.HDm
