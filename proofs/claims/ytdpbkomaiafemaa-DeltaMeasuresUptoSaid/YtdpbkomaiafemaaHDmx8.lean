-- Written by hprint.py over the kit's print.py; contracts of some functions by hand.
import Derived.Test.YtdpbkomaiafemaaHDmx0
import Derived.Test.YtdpbkomaiafemaaHDmx7
namespace Go.Proofs.Ytdpbkomaiafemaa.HDm
open Go.RowKit Go.Proofs.YtdpbkomaiafemaaW.PrintWords Go.Proofs.YtdpbkomaiafemaaW.PrintLast Go.Proofs.YtdpbkomaiafemaaW.PrintMore
attribute [local go_sem] max2_int min2_int max_two min_two max_three min_three max_four min_four   -- for this text's walks alone
set_option linter.unusedVariables false
set_option linter.unusedSimpArgs false

/-! ### oxbowref01_Points: function 40 -/
def oxbowref01_Points.l0 : Nat → ByteArray → List Int → Option (List Int × Bool)
 | 0, _, _ => none
 | k + 1, x0, x4 => if (x0.size : Int) > 0 then ((oxbowref01_first.f k x0).bind fun bt188 => (if bt188.2 = 0 then (some (([] : List Int), false)) else (if x4.length < 17592186044416 then (if 0 ≤ bt188.2 then (if bt188.2 ≤ (x0.size : Int) then (oxbowref01_Points.l0 k (x0.extract (bt188.2 : Int).toNat x0.size) (x4 ++ [bt188.1])) else (none)) else (none)) else (none)))) else (some (x4, true))
def oxbowref01_Points.f (k : Nat) (a0 : ByteArray) : Option (List Int × Bool) := oxbowref01_Points.l0 k a0 ([] : List Int)
theorem oxbowref01_Points.mono_l : ∀ k, (∀ y0 y1, LeO (oxbowref01_Points.l0 k y0 y1) (oxbowref01_Points.l0 (k + 1) y0 y1))
 | 0 => fun _ _ r h => by simp [oxbowref01_Points.l0] at h
 | k + 1 => by
  have ih0 := oxbowref01_Points.mono_l k
  ·intro y0 y1
   unfold oxbowref01_Points.l0
   repeat' first
   | (with_reducible exact ih0 _ _)
   | (with_reducible exact oxbowref01_first.mono _ _)
   | (with_reducible exact LeO.refl _)
   | (with_reducible exact LeO.none _)
   | (with_reducible refine LeO.ite ?_ ?_)
   | (with_reducible refine LeO.bind ?_ (fun _ => ?_))
   | exact ih0 _ _
   | exact oxbowref01_first.mono _ _
   | exact LeO.none _
   | refine LeO.ite ?_ ?_
   | refine LeO.bind ?_ (fun _ => ?_)
theorem oxbowref01_Points.mono : ∀ a0 k, LeO (oxbowref01_Points.f k a0) (oxbowref01_Points.f (k + 1) a0) := by
 intro a0 k
 have ih0 := oxbowref01_Points.mono_l k
 unfold oxbowref01_Points.f
 repeat' first
   | (with_reducible exact ih0 _ _)
   | (with_reducible exact oxbowref01_first.mono _ _)
   | (with_reducible exact LeO.refl _)
   | (with_reducible exact LeO.none _)
   | (with_reducible refine LeO.ite ?_ ?_)
   | (with_reducible refine LeO.bind ?_ (fun _ => ?_))
   | exact ih0 _ _
   | exact oxbowref01_first.mono _ _
   | exact LeO.none _
   | refine LeO.ite ?_ ?_
   | refine LeO.bind ?_ (fun _ => ?_)
set_option maxHeartbeats 8000000 in
set_option maxRecDepth 100000 in
theorem oxbowref01_Points.calls (k : Nat) (a0 : ByteArray) (r1 : List Int) (r2 : Bool) (w : World) (h : oxbowref01_Points.f k a0 = some (r1, r2)) :
  Calls Try.prog 40 #[.string a0] w fun e w' => ∃ v0_ : Value, e = .returned (.tuple #[v0_, .bool r2]) ∧ Kd.R (Kd.int .i64) 3 w' w.heap.size (fun _ => True) v0_ r1 ∧ Below w.heap.size w w' := by
 have HB := Aside0.mk (Below.refl w.heap.size w)
 have H : (oxbowref01_Points.l0 k a0 ([] : List Int)) = some (r1, r2) := h
 clear h
 have H' := Aside0.mk H
 clear H
 go_enter Try.func40, Try.ntmps40
 go_wp2
 go_loopg [0, 4] k (fun kq v0 v4 w' => ∃ (x0_1 : ByteArray) (x4_1 : List Int), v0 = .string x0_1 ∧ Aside0 (oxbowref01_Points.l0 kq x0_1 x4_1 = some (r1, r2)) ∧ Aside0 (kq ≤ k) ∧ Aside0 (Kd.R (Kd.int .i64) 3 w' w.heap.size (fun _ => True) v4 x4_1) ∧ Aside0 (Below w.heap.size w w'))
 case atStart => exact ⟨(a0), (([] : List Int)), (by first | rfl | (simp; done) | (simp [*]; done) | (simp; (generalize ByteArray.toList _ = l_); cases l_ <;> rfl)), H', ⟨Nat.le_refl _⟩, ⟨by first | exact Kd.R_nil _ _ _ _ _ | exact Kd.N_nil _ _ _ _ _ | exact Kd.V_nil _ _ _ _ _ | exact Kd.Q_nil _ _ _ _ _ | exact Kd.S_nil _ _ _ _ _⟩, ⟨by repeat (first | (with_reducible first | exact HB.out | apply below_alloc | apply pw_below_drewN | apply below_drew1) | exact HB.out)⟩⟩
 case round =>
  clear H'
  obtain ⟨x0_1, x4_1, rfl, HA, HK1, HO_4, HB⟩ := hrel
  cases gk with
  | zero => exact absurd HA.out (by simp [oxbowref01_Points.l0])
  | succ k1 =>
   have H := HA.out
   clear HA
   simp only [oxbowref01_Points.l0] at H
   by_cases c2 : (x0_1.size : Int) > 0
   ·rw [if_pos c2] at H
    have c2b0 : decide (0 < (x0_1.size : Int)) = true := decide_eq_true c2
    have c2b1 : decide (0 < x0_1.size) = true := decide_eq_true (by omega)
    clear c2
    replace H := Option.bind_eq_some_iff.mp H
    obtain ⟨⟨t188, t189⟩, A30, H⟩ := H
    replace H : (if t189 = 0 then (some (([] : List Int), false)) else (if x4_1.length < 17592186044416 then (if 0 ≤ t189 then (if t189 ≤ (x0_1.size : Int) then (oxbowref01_Points.l0 k1 (x0_1.extract (t189 : Int).toNat x0_1.size) (x4_1 ++ [t188])) else (none)) else (none)) else (none))) = some (r1, r2) := H
    have A3 := Aside0.mk A30
    clear A30
    by_cases c4 : t189 = 0
    ·rw [if_pos c4] at H
     have c4b0 : (t189 == 0) = true := beq_iff_eq.mpr c4
     have c4b1 : (t189 != 0) = false := bne_eq_false_iff_eq.mpr c4
     clear c4
     simp only [Option.some.injEq, Prod.mk.injEq] at H
     obtain ⟨rfl, rfl⟩ := H
     go_wp2_with (first | ((with_reducible refine gate_callee (f := 65) rfl ?_); refine goesL_ (some 12) rfl rfl Try.func65 (by kernel_rfl) rfl #[.string x0_1] rfl (by (try simp only [List.map_toArray, List.map_cons, List.map_nil]); first | done | rfl | (simp only [List.length_drop, List.length_take]; rfl)) ?_; (with_reducible refine (oxbowref01_first.calls k1 x0_1 t188 t189 _ A3.out).mono ?_); rintro e w5 ⟨rfl, hb⟩; refine ⟨_, rfl, ?_⟩; have n0_ := Aside0.mk (Kd.R_below (by (with_reducible repeat (first | apply Kd.R_alloc | apply Kd.R_drewN | apply Kd.R_drew)); exact HO_4.out) hb); have n1_ := Aside0.mk (below_step (by repeat (first | (with_reducible first | exact HB.out | apply below_alloc | apply pw_below_drewN | apply below_drew1) | exact HB.out)) hb); clear HO_4; clear HB; have HO_4 := n0_; have HB := n1_; clear n0_ n1_; (try clear hb); (try clear hb2); (try clear hk); (try clear hi)))
     go_ret2
     exact ⟨_, by first | rfl | (simp [errW_none, errW_some] <;> rfl) | (simp [*, errW_none, errW_some] <;> rfl), by first | exact Kd.R_nil _ _ _ _ _ | exact Kd.N_nil _ _ _ _ _ | exact Kd.V_nil _ _ _ _ _ | exact Kd.Q_nil _ _ _ _ _ | exact Kd.S_nil _ _ _ _ _, by repeat (first | (with_reducible first | exact HB.out | apply below_alloc | apply pw_below_drewN | apply below_drew1) | exact HB.out)⟩
    ·rw [if_neg c4] at H
     have c4b0 : (t189 == 0) = false := beq_eq_false_iff_ne.mpr c4
     have c4b1 : (t189 != 0) = true := bne_iff_ne.mpr c4
     by_cases c6 : x4_1.length < 17592186044416
     ·rw [if_pos c6] at H
      have LMc6 := Aside0.mk c6
      clear c6
      obtain ⟨y190, hy190⟩ : ∃ y_ : List Int, y_ = (x4_1 ++ [t188]) := ⟨_, rfl⟩
      replace H : (if 0 ≤ t189 then (if t189 ≤ (x0_1.size : Int) then (oxbowref01_Points.l0 k1 (x0_1.extract (t189 : Int).toNat x0_1.size) y190) else (none)) else (none)) = some (r1, r2) := by first | (rw [hy190]; with_reducible exact H) | (have H2_ := (Option.bind_some _ _).symm.trans H; rw [hy190]; with_reducible exact H2_) | (have H2_ := (Option.bind_some _ _).symm.trans H; with_reducible exact H2_) | with_reducible exact H | (rw [hy190]; exact H) | exact H
      have Ny190 := Aside0.mk hy190
      clear hy190
      by_cases c7 : 0 ≤ t189
      ·rw [if_pos c7] at H
       have c7b0 := eq_true c7
       have c7b1 : decide (0 ≤ t189) = true := decide_eq_true c7
       clear c7
       by_cases c8 : t189 ≤ (x0_1.size : Int)
       ·rw [if_pos c8] at H
        have c8b0 := eq_true c8
        have c8b1 : decide (t189 ≤ (x0_1.size : Int)) = true := decide_eq_true c8
        clear c8
        have H' := Aside0.mk H
        clear H
        go_wp2_with (first | ((with_reducible refine gate_callee (f := 65) rfl ?_); refine goesL_ (some 12) rfl rfl Try.func65 (by kernel_rfl) rfl #[.string x0_1] rfl (by (try simp only [List.map_toArray, List.map_cons, List.map_nil]); first | done | rfl | (simp only [List.length_drop, List.length_take]; rfl)) ?_; (with_reducible refine (oxbowref01_first.calls k1 x0_1 t188 t189 _ A3.out).mono ?_); rintro e w9 ⟨rfl, hb⟩; refine ⟨_, rfl, ?_⟩; have n0_ := Aside0.mk (Kd.R_below (by (with_reducible repeat (first | apply Kd.R_alloc | apply Kd.R_drewN | apply Kd.R_drew)); exact HO_4.out) hb); have n1_ := Aside0.mk (below_step (by repeat (first | (with_reducible first | exact HB.out | apply below_alloc | apply pw_below_drewN | apply below_drew1) | exact HB.out)) hb); clear HO_4; clear HB; have HO_4 := n0_; have HB := n1_; clear n0_ n1_; (try clear hb); (try clear hb2); (try clear hk); (try clear hi)) | ((with_reducible refine gate_builtin (b := .append) (xs := #[.tmp 17, .tmp 19]) rfl ?_); at_builtin; refine Kd.R_append (Kd.int .i64) (w0 := w) w.heap.size rfl (.tmp 17) (.tmp 19) 48 3 (.int .i64 0) 8 rfl Try.underlying48 info3 rfl (by decide) (by omega) u4 x4_1 t188 [.int .i64 t188] (fun _ => True) (fun _ => False) rfl rfl ?aP (fun _ hk => hk.elim) ?aF ?aO ?aB ?aS ?aL ?_; (case aP => exact rfl); (case aB => exact (by repeat (first | (with_reducible first | exact HB.out | apply below_alloc | apply pw_below_drewN | apply below_drew1) | exact HB.out))); (case aF => exact (fun _ _ => trivial)); (case aO => exact (by (with_reducible repeat (first | apply Kd.R_alloc | apply Kd.R_drewN | apply Kd.R_drew)); exact HO_4.out)); (case aS => exact (below_size (by repeat (first | (with_reducible first | exact HB.out | apply below_alloc | apply pw_below_drewN | apply below_drew1) | exact HB.out)))); (case aL => have := LMc6.out; omega); intro v191 w10 ho hb hg hat; rw [← Ny190.out] at ho; have n0_ := Aside0.mk (hb); have n1_ := Aside0.mk (ho); clear HB; clear HO_4; have HB := n0_; have HO192 := n1_; clear n0_ n1_; clear ho hb hg hat))
        go_roundg k1
        case measure => have := HK1.out; omega
        case rel => exact ⟨(x0_1.extract (t189 : Int).toNat x0_1.size), (y190), (by first | rfl | (simp; done) | (simp [*]; done) | (simp; (generalize ByteArray.toList _ = l_); cases l_ <;> rfl)), H', ⟨by have := HK1.out; omega⟩, ⟨by (with_reducible repeat (first | apply Kd.R_alloc | apply Kd.R_drewN | apply Kd.R_drew)); exact HO192.out⟩, ⟨by repeat (first | (with_reducible first | exact HB.out | apply below_alloc | apply pw_below_drewN | apply below_drew1) | exact HB.out)⟩⟩
       ·rw [if_neg c8] at H
        exact absurd H (by simp)
      ·rw [if_neg c7] at H
       exact absurd H (by simp)
     ·rw [if_neg c6] at H
      exact absurd H (by simp)
   ·rw [if_neg c2] at H
    have c2b0 : decide (0 < (x0_1.size : Int)) = false := decide_eq_false c2
    have c2b1 : decide (0 < x0_1.size) = false := decide_eq_false (by omega)
    clear c2
    simp only [Option.some.injEq, Prod.mk.injEq] at H
    obtain ⟨rfl, rfl⟩ := H
    go_wp2
    go_ret2
    exact ⟨_, by first | rfl | (simp [errW_none, errW_some] <;> rfl) | (simp [*, errW_none, errW_some] <;> rfl), by (with_reducible repeat (first | apply Kd.R_alloc | apply Kd.R_drewN | apply Kd.R_drew)); exact HO_4.out, by repeat (first | (with_reducible first | exact HB.out | apply below_alloc | apply pw_below_drewN | apply below_drew1) | exact HB.out)⟩

/-! ### oxbowref01_Len: function 27 -/
def oxbowref01_Len.f (k : Nat) (a0 : ByteArray) : Option (Int) := (oxbowref01_Points.f k a0).bind fun bt193 => (if bt193.2 = true then (some (bt193.1.length : Int)) else (some (-1)))
theorem oxbowref01_Len.mono : ∀ a0 k, LeO (oxbowref01_Len.f k a0) (oxbowref01_Len.f (k + 1) a0) := by
 intro a0 k
 unfold oxbowref01_Len.f
 repeat' first
   | (with_reducible exact oxbowref01_Points.mono _ _)
   | (with_reducible exact LeO.refl _)
   | (with_reducible exact LeO.none _)
   | (with_reducible refine LeO.ite ?_ ?_)
   | (with_reducible refine LeO.bind ?_ (fun _ => ?_))
   | exact oxbowref01_Points.mono _ _
   | exact LeO.none _
   | refine LeO.ite ?_ ?_
   | refine LeO.bind ?_ (fun _ => ?_)
set_option maxHeartbeats 8000000 in
set_option maxRecDepth 100000 in
theorem oxbowref01_Len.calls (k : Nat) (a0 : ByteArray) (r : Int) (w : World) (h : oxbowref01_Len.f k a0 = some r) :
  Calls Try.prog 27 #[.string a0] w fun e w' => e = .returned (.int .i64 r) ∧ Below w.heap.size w w' := by
 have HB := Aside0.mk (Below.refl w.heap.size w)
 have H : ((oxbowref01_Points.f k a0).bind fun bt193 => (if bt193.2 = true then (some (bt193.1.length : Int)) else (some (-1)))) = some r := h
 clear h
 replace H := Option.bind_eq_some_iff.mp H
 obtain ⟨⟨t193, t194⟩, A20, H⟩ := H
 replace H : (if t194 = true then (some (t193.length : Int)) else (some (-1))) = some r := H
 have A2 := Aside0.mk A20
 clear A20
 by_cases c3 : t194 = true
 ·subst c3
  have H1 : (some (t193.length : Int)) = some r := by rw [if_pos rfl] at H; exact H
  clear H
  have H := H1
  clear H1
  obtain rfl := Option.some.inj H
  go_enter Try.func27, Try.ntmps27
  go_wp2_with (first | ((with_reducible refine gate_callee (f := 40) rfl ?_); refine goesL_ (some 7) rfl rfl Try.func40 (by kernel_rfl) rfl #[.string a0] rfl (by (try simp only [List.map_toArray, List.map_cons, List.map_nil]); first | done | rfl | (simp only [List.length_drop, List.length_take]; rfl)) ?_; (with_reducible refine (oxbowref01_Points.calls k a0 t193 true _ A2.out).mono ?_); rintro e w4 ⟨v195, rfl, ho0, hb⟩; refine ⟨_, rfl, ?_⟩; have n0_ := Aside0.mk (Kd.R_lower ho0 (below_size (by repeat (first | (with_reducible first | exact HB.out | apply below_alloc | apply pw_below_drewN | apply below_drew1) | exact HB.out)))); have n1_ := Aside0.mk (below_step (by repeat (first | (with_reducible first | exact HB.out | apply below_alloc | apply pw_below_drewN | apply below_drew1) | exact HB.out)) hb); clear HB; have HO196 := n0_; have HB := n1_; clear n0_ n1_; (try clear hb); (try clear hb2); (try clear hk); (try clear hi); (try clear ho0); obtain ⟨Ao5, co5, eo5⟩ := Kd.R_slice HO196.out; subst eo5))
  go_ret
  exact ⟨by first | rfl | (simp [errW_none, errW_some] <;> rfl) | (simp [*, errW_none, errW_some] <;> rfl), by repeat (first | (with_reducible first | exact HB.out | apply below_alloc | apply pw_below_drewN | apply below_drew1) | exact HB.out)⟩
 ·replace c3 := Bool.eq_false_iff.mpr c3
  subst c3
  have H1 : (some (-1)) = some r := by rw [if_neg (show ¬ (false = true) by decide)] at H; exact H
  clear H
  have H := H1
  clear H1
  obtain rfl := Option.some.inj H
  go_enter Try.func27, Try.ntmps27
  go_wp2_with (first | ((with_reducible refine gate_callee (f := 40) rfl ?_); refine goesL_ (some 7) rfl rfl Try.func40 (by kernel_rfl) rfl #[.string a0] rfl (by (try simp only [List.map_toArray, List.map_cons, List.map_nil]); first | done | rfl | (simp only [List.length_drop, List.length_take]; rfl)) ?_; (with_reducible refine (oxbowref01_Points.calls k a0 t193 false _ A2.out).mono ?_); rintro e w6 ⟨v195, rfl, ho0, hb⟩; refine ⟨_, rfl, ?_⟩; have n0_ := Aside0.mk (Kd.R_lower ho0 (below_size (by repeat (first | (with_reducible first | exact HB.out | apply below_alloc | apply pw_below_drewN | apply below_drew1) | exact HB.out)))); have n1_ := Aside0.mk (below_step (by repeat (first | (with_reducible first | exact HB.out | apply below_alloc | apply pw_below_drewN | apply below_drew1) | exact HB.out)) hb); clear HB; have HO196 := n0_; have HB := n1_; clear n0_ n1_; (try clear hb); (try clear hb2); (try clear hk); (try clear hi); (try clear ho0)))
  go_ret
  exact ⟨by first | rfl | (simp [errW_none, errW_some] <;> rfl) | (simp [*, errW_none, errW_some] <;> rfl), by repeat (first | (with_reducible first | exact HB.out | apply below_alloc | apply pw_below_drewN | apply below_drew1) | exact HB.out)⟩

/-! ### oxbowref09_Check: function 25 -/
mutual
def oxbowref09_Check.l0 : Nat → List (S36) → Int → Int → Int → Option (Int)
 | 0, _, _, _, _ => none
 | k + 1, x0, x3, x4, x5 => if x5 < (x0.length : Int) then (if 0 ≤ x5 then ((oxbowref01_Len.f k ((rd_T36 x0 x5).f2)).bind fun t199 => (if ((rd_T36 x0 x5).f0) = 1 then (oxbowref09_Check.j1 k x0 x3 x4 x5 t199 ((rd_T36 x0 x5).f0) (((rd_T36 x0 x5).f0) == 1) ((rd_T36 x0 x5).f0) ((rd_T36 x0 x5).f1) ((rd_T36 x0 x5).f2)) else (oxbowref09_Check.j1 k x0 x3 x4 x5 t199 ((rd_T36 x0 x5).f0) (((rd_T36 x0 x5).f0) == 3) ((rd_T36 x0 x5).f0) ((rd_T36 x0 x5).f1) ((rd_T36 x0 x5).f2)))) else (none)) else (if x3 > 1000 then (some 91) else (if x4 > 1000 then (some 91) else (some 0)))
def oxbowref09_Check.j1 : Nat → List (S36) → Int → Int → Int → Int → Int → Bool → Int → Int → ByteArray → Option (Int)
 | 0, _, _, _, _, _, _, _, _, _, _ => none
 | k + 1, x0, x3, x4, x5, x7, x25, x26, x199000, x199001, x199002 => if x26 = true then (if x199001 < 1 then (oxbowref09_Check.j2 k x0 x3 x4 x5 true x199000 x199001 x199002) else (if x199001 > 1000 then (oxbowref09_Check.j2 k x0 x3 x4 x5 true x199000 x199001 x199002) else (oxbowref09_Check.j2 k x0 x3 x4 x5 (x199002.toList != ([] : List UInt8)) x199000 x199001 x199002))) else (if x25 = 2 then (if x199001 = 0 then (if x7 < 1 then (some 90) else (oxbowref09_Check.l0 k x0 x3 (wrap64 (x4 + x7)) (wrap64 (x5 + 1)))) else (some 90)) else (some 90))
def oxbowref09_Check.j2 : Nat → List (S36) → Int → Int → Int → Bool → Int → Int → ByteArray → Option (Int)
 | 0, _, _, _, _, _, _, _, _ => none
 | k + 1, x0, x3, x4, x5, x41, x199000, x199001, x199002 => if x41 = true then (some 90) else (if x199000 = 1 then (oxbowref09_Check.l0 k x0 (wrap64 (x3 + x199001)) (wrap64 (x4 + x199001)) (wrap64 (x5 + 1))) else (oxbowref09_Check.l0 k x0 (wrap64 (x3 + x199001)) x4 (wrap64 (x5 + 1))))
end
def oxbowref09_Check.f (k : Nat) (l0 : List (S36)) : Option (Int) := if (l0.length : Int) > 3000 then (some 90) else (oxbowref09_Check.l0 k l0 0 0 0)
theorem oxbowref09_Check.mono_l : ∀ k, (∀ y0 y1 y2 y3, LeO (oxbowref09_Check.l0 k y0 y1 y2 y3) (oxbowref09_Check.l0 (k + 1) y0 y1 y2 y3)) ∧ (∀ y0 y1 y2 y3 y4 y5 y6 y7 y8 y9, LeO (oxbowref09_Check.j1 k y0 y1 y2 y3 y4 y5 y6 y7 y8 y9) (oxbowref09_Check.j1 (k + 1) y0 y1 y2 y3 y4 y5 y6 y7 y8 y9)) ∧ (∀ y0 y1 y2 y3 y4 y5 y6 y7, LeO (oxbowref09_Check.j2 k y0 y1 y2 y3 y4 y5 y6 y7) (oxbowref09_Check.j2 (k + 1) y0 y1 y2 y3 y4 y5 y6 y7))
 | 0 => ⟨fun _ _ _ _ r h => by simp [oxbowref09_Check.l0] at h, fun _ _ _ _ _ _ _ _ _ _ r h => by simp [oxbowref09_Check.j1] at h, fun _ _ _ _ _ _ _ _ r h => by simp [oxbowref09_Check.j2] at h⟩
 | k + 1 => by
  obtain ⟨ih0, ih1, ih2⟩ := oxbowref09_Check.mono_l k
  refine ⟨?_, ?_, ?_⟩
  ·intro y0 y1 y2 y3
   unfold oxbowref09_Check.l0
   repeat' first
   | (with_reducible exact ih0 _ _ _ _)
   | (with_reducible exact ih1 _ _ _ _ _ _ _ _ _ _)
   | (with_reducible exact ih2 _ _ _ _ _ _ _ _)
   | (with_reducible exact oxbowref01_Len.mono _ _)
   | (with_reducible exact LeO.refl _)
   | (with_reducible exact LeO.none _)
   | (with_reducible refine LeO.ite ?_ ?_)
   | (with_reducible refine LeO.bind ?_ (fun _ => ?_))
   | exact ih0 _ _ _ _
   | exact ih1 _ _ _ _ _ _ _ _ _ _
   | exact ih2 _ _ _ _ _ _ _ _
   | exact oxbowref01_Len.mono _ _
   | exact LeO.none _
   | refine LeO.ite ?_ ?_
   | refine LeO.bind ?_ (fun _ => ?_)
  ·intro y0 y1 y2 y3 y4 y5 y6 y7 y8 y9
   unfold oxbowref09_Check.j1
   repeat' first
   | (with_reducible exact ih0 _ _ _ _)
   | (with_reducible exact ih1 _ _ _ _ _ _ _ _ _ _)
   | (with_reducible exact ih2 _ _ _ _ _ _ _ _)
   | (with_reducible exact oxbowref01_Len.mono _ _)
   | (with_reducible exact LeO.refl _)
   | (with_reducible exact LeO.none _)
   | (with_reducible refine LeO.ite ?_ ?_)
   | (with_reducible refine LeO.bind ?_ (fun _ => ?_))
   | exact ih0 _ _ _ _
   | exact ih1 _ _ _ _ _ _ _ _ _ _
   | exact ih2 _ _ _ _ _ _ _ _
   | exact oxbowref01_Len.mono _ _
   | exact LeO.none _
   | refine LeO.ite ?_ ?_
   | refine LeO.bind ?_ (fun _ => ?_)
  ·intro y0 y1 y2 y3 y4 y5 y6 y7
   unfold oxbowref09_Check.j2
   repeat' first
   | (with_reducible exact ih0 _ _ _ _)
   | (with_reducible exact ih1 _ _ _ _ _ _ _ _ _ _)
   | (with_reducible exact ih2 _ _ _ _ _ _ _ _)
   | (with_reducible exact oxbowref01_Len.mono _ _)
   | (with_reducible exact LeO.refl _)
   | (with_reducible exact LeO.none _)
   | (with_reducible refine LeO.ite ?_ ?_)
   | (with_reducible refine LeO.bind ?_ (fun _ => ?_))
   | exact ih0 _ _ _ _
   | exact ih1 _ _ _ _ _ _ _ _ _ _
   | exact ih2 _ _ _ _ _ _ _ _
   | exact oxbowref01_Len.mono _ _
   | exact LeO.none _
   | refine LeO.ite ?_ ?_
   | refine LeO.bind ?_ (fun _ => ?_)
theorem oxbowref09_Check.mono : ∀ a0 k, LeO (oxbowref09_Check.f k a0) (oxbowref09_Check.f (k + 1) a0) := by
 intro a0 k
 obtain ⟨ih0, ih1, ih2⟩ := oxbowref09_Check.mono_l k
 unfold oxbowref09_Check.f
 repeat' first
   | (with_reducible exact ih0 _ _ _ _)
   | (with_reducible exact ih1 _ _ _ _ _ _ _ _ _ _)
   | (with_reducible exact ih2 _ _ _ _ _ _ _ _)
   | (with_reducible exact oxbowref01_Len.mono _ _)
   | (with_reducible exact LeO.refl _)
   | (with_reducible exact LeO.none _)
   | (with_reducible refine LeO.ite ?_ ?_)
   | (with_reducible refine LeO.bind ?_ (fun _ => ?_))
   | exact ih0 _ _ _ _
   | exact ih1 _ _ _ _ _ _ _ _ _ _
   | exact ih2 _ _ _ _ _ _ _ _
   | exact oxbowref01_Len.mono _ _
   | exact LeO.none _
   | refine LeO.ite ?_ ?_
   | refine LeO.bind ?_ (fun _ => ?_)
set_option maxHeartbeats 8000000 in
set_option maxRecDepth 100000 in
theorem oxbowref09_Check.calls (k : Nat) (A0 : Option Addr) (c0 : Nat) (l0 : List (S36)) (r : Int) (w : World) (hr0 : Kd.C k36 w A0 l0.length l0) (hc0 : l0.length ≤ c0) (h : oxbowref09_Check.f k l0 = some r) :
  Calls Try.prog 25 #[.slice A0 l0.length c0] w fun e w' => e = .returned (.int .i64 r) ∧ Below w.heap.size w w' := by
 have hu36 := Try.underlying36
 have HR0 := Aside0.mk hr0
 have HC0 := Aside0.mk hc0
 clear hr0 hc0
 have HB := Aside0.mk (Below.refl w.heap.size w)
 have H : (if (l0.length : Int) > 3000 then (some 90) else (oxbowref09_Check.l0 k l0 0 0 0)) = some r := h
 clear h
 by_cases c2 : (l0.length : Int) > 3000
 ·rw [if_pos c2] at H
  have c2b0 : decide (3000 < (l0.length : Int)) = true := decide_eq_true c2
  have c2b1 : decide (3000 < l0.length) = true := decide_eq_true (by omega)
  clear c2
  obtain rfl := Option.some.inj H
  go_enter Try.func25, Try.ntmps25
  go_wp2
  go_ret
  exact ⟨by first | rfl | (simp [errW_none, errW_some] <;> rfl) | (simp [*, errW_none, errW_some] <;> rfl), by repeat (first | (with_reducible first | exact HB.out | apply below_alloc | apply pw_below_drewN | apply below_drew1) | exact HB.out)⟩
 ·rw [if_neg c2] at H
  have c2b0 : decide (3000 < (l0.length : Int)) = false := decide_eq_false c2
  have c2b1 : decide (3000 < l0.length) = false := decide_eq_false (by omega)
  clear c2
  have H' := Aside0.mk H
  clear H
  go_enter Try.func25, Try.ntmps25
  go_wp2
  go_loopg [3, 4, 5] k (fun kq v3 v4 v5 w' => ∃ (x3_1 : Int) (x4_1 : Int) (x5_1 : Int), v3 = .int .i64 x3_1 ∧ v4 = .int .i64 x4_1 ∧ v5 = .int .i64 x5_1 ∧ Aside0 (oxbowref09_Check.l0 kq l0 x3_1 x4_1 x5_1 = some r) ∧ Aside0 (kq ≤ k) ∧ Aside0 (Below w.heap.size w w'))
  case atStart => exact ⟨(0), (0), (0), (by first | rfl | (simp; done) | (simp [*]; done) | (simp; (generalize ByteArray.toList _ = l_); cases l_ <;> rfl)), (by first | rfl | (simp; done) | (simp [*]; done) | (simp; (generalize ByteArray.toList _ = l_); cases l_ <;> rfl)), (by first | rfl | (simp; done) | (simp [*]; done) | (simp; (generalize ByteArray.toList _ = l_); cases l_ <;> rfl)), H', ⟨Nat.le_refl _⟩, ⟨by repeat (first | (with_reducible first | exact HB.out | apply below_alloc | apply pw_below_drewN | apply below_drew1) | exact HB.out)⟩⟩
  case round =>
   clear H'
   try clear c2
   try clear c2b0
   try clear c2b1
   try clear p2
   obtain ⟨x3_1, x4_1, x5_1, rfl, rfl, rfl, HA, HK1, HB⟩ := hrel
   cases gk with
   | zero => exact absurd HA.out (by simp [oxbowref09_Check.l0])
   | succ k1 =>
    have H := HA.out
    clear HA
    simp only [oxbowref09_Check.l0] at H
    by_cases c3 : x5_1 < (l0.length : Int)
    ·rw [if_pos c3] at H
     have c3b0 : decide (x5_1 < (l0.length : Int)) = true := decide_eq_true c3
     clear c3
     by_cases c4 : 0 ≤ x5_1
     ·rw [if_pos c4] at H
      have c4b0 : decide (0 ≤ x5_1) = true := decide_eq_true c4
      clear c4
      replace H := Option.bind_eq_some_iff.mp H
      obtain ⟨t199, A50, H⟩ := H
      replace H : (if ((rd_T36 l0 x5_1).f0) = 1 then (oxbowref09_Check.j1 k1 l0 x3_1 x4_1 x5_1 t199 ((rd_T36 l0 x5_1).f0) (((rd_T36 l0 x5_1).f0) == 1) ((rd_T36 l0 x5_1).f0) ((rd_T36 l0 x5_1).f1) ((rd_T36 l0 x5_1).f2)) else (oxbowref09_Check.j1 k1 l0 x3_1 x4_1 x5_1 t199 ((rd_T36 l0 x5_1).f0) (((rd_T36 l0 x5_1).f0) == 3) ((rd_T36 l0 x5_1).f0) ((rd_T36 l0 x5_1).f1) ((rd_T36 l0 x5_1).f2))) = some r := H
      have A5 := Aside0.mk A50
      clear A50
      have HC6 := Aside0.mk H
      clear H
      have p197 : 0 ≤ (x5_1 : Int) := of_decide_eq_true (by first | (with_reducible assumption) | assumption)
      have q197 : x5_1 < (l0.length : Int) := of_decide_eq_true (by first | (with_reducible assumption) | assumption)
      obtain ⟨ad197, e197, hx197_0, hx197_1, hx197_2⟩ := at_T36 HR0.out x5_1 p197 q197
      cases e197
      replace hx197_0 := (HB.out.cell (World.block_lt_of_cell? w _ hx197_0)).trans hx197_0
      replace hx197_1 := (HB.out.cell (World.block_lt_of_cell? w _ hx197_1)).trans hx197_1
      replace hx197_2 := (HB.out.cell (World.block_lt_of_cell? w _ hx197_2)).trans hx197_2
      replace p197 := eq_true p197
      replace q197 := eq_true q197
      go_upto_if 26 with (first | ((with_reducible refine gate_dst (N := 6) rfl ?_); refine box_event ?hg (N := 6) ?hd (cs := #[.int .i64 0, .int .i64 0, .string (⟨#[]⟩ : ByteArray)]) (t := 36) ?hr ?_; (case hd => rfl); (case hg => rfl); (case hr => first | (go_simp; done) | (go_simp; rfl)); intro gb198 hg w7 hbox hb; have n0_ := Aside0.mk (below_step (by repeat (first | (with_reducible first | exact HB.out | apply below_alloc | apply pw_below_drewN | apply below_drew1) | exact HB.out)) hb); have n1_ := Aside0.mk (hbox); have n2_ := Aside0.mk ((by rw [hg]; exact (below_size (by repeat (first | (with_reducible first | exact HB.out | apply below_alloc | apply pw_below_drewN | apply below_drew1) | exact HB.out))) : w.heap.size ≤ gb198)); have n3_ := Aside0.mk ((by rw [hg]; exact (below_size (by repeat (first | (with_reducible first | exact HB.out | apply below_alloc | apply pw_below_drewN | apply below_drew1) | exact HB.out))) : w.heap.size ≤ gb198)); clear HB; have HB := n0_; have BK198 := n1_; have GW198 := n2_; have GE198 := n3_; clear n0_ n1_ n2_ n3_; clear hb hbox hg; have hcz8_0 : w7.cell? ⟨gb198, 0, none⟩ = some (.int .i64 0) := (blk_cell BK198.out 0).trans rfl; have hcz8_1 : w7.cell? ⟨gb198, 1, none⟩ = some (.int .i64 0) := (blk_cell BK198.out 1).trans rfl; have hcz8_2 : w7.cell? ⟨gb198, 2, none⟩ = some (.string (⟨#[]⟩ : ByteArray)) := (blk_cell BK198.out 2).trans rfl; have hfz8_0 := blk_frozen BK198.out 0; have hfz8_1 := blk_frozen BK198.out 1; have hfz8_2 := blk_frozen BK198.out 2) | ((with_reducible refine gate_callee (f := 27) rfl ?_); refine goesL_ (some 23) rfl rfl Try.func27 (by kernel_rfl) rfl #[.string ((rd_T36 l0 x5_1).f2)] rfl (by (try simp only [List.map_toArray, List.map_cons, List.map_nil]); first | done | rfl | (simp only [List.length_drop, List.length_take]; rfl)) ?_; (with_reducible refine (oxbowref01_Len.calls k1 ((rd_T36 l0 x5_1).f2) t199 _ A5.out).mono ?_); rintro e w9 ⟨rfl, hb⟩; refine ⟨_, rfl, ?_⟩; have n0_ := Aside0.mk (blk_below (g := gb198) (o := .cells #[.int .i64 ((rd_T36 l0 x5_1).f0), .int .i64 ((rd_T36 l0 x5_1).f1), .string ((rd_T36 l0 x5_1).f2)] 36 (0, 0)) (by (with_reducible repeat (first | refine blk_drewN ?_ _ | refine blk_drew ?_ | refine blk_alloc ?_ _)); refine blk_put (cs := #[.int .i64 ((rd_T36 l0 x5_1).f0), .int .i64 ((rd_T36 l0 x5_1).f1), .string (⟨#[]⟩ : ByteArray)]) ?_ 2 _ rfl; (with_reducible repeat (first | refine blk_drewN ?_ _ | refine blk_drew ?_ | refine blk_alloc ?_ _)); refine blk_put (cs := #[.int .i64 ((rd_T36 l0 x5_1).f0), .int .i64 0, .string (⟨#[]⟩ : ByteArray)]) ?_ 1 _ rfl; (with_reducible repeat (first | refine blk_drewN ?_ _ | refine blk_drew ?_ | refine blk_alloc ?_ _)); refine blk_put (cs := #[.int .i64 0, .int .i64 0, .string (⟨#[]⟩ : ByteArray)]) ?_ 0 _ rfl; (with_reducible repeat (first | refine blk_drewN ?_ _ | refine blk_drew ?_ | refine blk_alloc ?_ _)); exact BK198.out) hb); have n1_ := Aside0.mk (below_step (by repeat (first | (with_reducible first | exact HB.out | apply below_alloc | apply pw_below_drewN | apply below_drew1 | refine below_set ?_ GE198.out) | exact HB.out)) hb); clear BK198; clear HB; have BK198 := n0_; have HB := n1_; clear n0_ n1_; (try clear hb); (try clear hb2); (try clear hk); (try clear hi); have hcz10_0 : w9.cell? ⟨gb198, 0, none⟩ = some (.int .i64 ((rd_T36 l0 x5_1).f0)) := (blk_cell BK198.out 0).trans rfl; have hcz10_1 : w9.cell? ⟨gb198, 1, none⟩ = some (.int .i64 ((rd_T36 l0 x5_1).f1)) := (blk_cell BK198.out 1).trans rfl; have hcz10_2 : w9.cell? ⟨gb198, 2, none⟩ = some (.string ((rd_T36 l0 x5_1).f2)) := (blk_cell BK198.out 2).trans rfl; have hfz10_0 := blk_frozen BK198.out 0; have hfz10_1 := blk_frozen BK198.out 1; have hfz10_2 := blk_frozen BK198.out 2))
      (try simp only [Act.put, List.setIfInBounds_toArray, List.set_cons_zero, List.set_cons_succ])
      go_cut [26] (fun v26 wc => ∃ (kq : Nat) (x26_5 : Bool), v26 = .bool x26_5 ∧ Aside0 (oxbowref09_Check.j1 kq l0 x3_1 x4_1 x5_1 t199 ((rd_T36 l0 x5_1).f0) x26_5 ((rd_T36 l0 x5_1).f0) ((rd_T36 l0 x5_1).f1) ((rd_T36 l0 x5_1).f2) = some r) ∧ Aside0 (kq ≤ k1) ∧ Aside0 (wc.heap[gb198]? = some (.cells #[.int .i64 ((rd_T36 l0 x5_1).f0), .int .i64 ((rd_T36 l0 x5_1).f1), .string ((rd_T36 l0 x5_1).f2)] 36 (0, 0))) ∧ Aside0 (Below w.heap.size w wc))
      case first =>
       have H := HC6.out
       clear HC6
       by_cases c11 : ((rd_T36 l0 x5_1).f0) = 1
       ·rw [if_pos c11] at H
        have c11b0 : (((rd_T36 l0 x5_1).f0) == 1) = true := beq_iff_eq.mpr c11
        have c11b1 : (((rd_T36 l0 x5_1).f0) != 1) = false := bne_eq_false_iff_eq.mpr c11
        clear c11
        (first | rw [c11b0] | (simp only [i64_w, i32_w]; rw [c11b0]) | skip)
        have H' := Aside0.mk H
        clear H
        go_wp2
        go_meet
        case rel => exact ⟨_, ((((rd_T36 l0 x5_1).f0) == 1)), (by first | rfl | (simp; done) | (simp [*]; done) | (simp; (generalize ByteArray.toList _ = l_); cases l_ <;> rfl)), H', ⟨by have := HK1.out; first | omega | exact Nat.le_refl _⟩, ⟨by (with_reducible repeat (first | refine blk_drewN ?_ _ | refine blk_drew ?_ | refine blk_alloc ?_ _)); exact BK198.out⟩, ⟨by repeat (first | (with_reducible first | exact HB.out | apply below_alloc | apply pw_below_drewN | apply below_drew1 | refine below_set ?_ GE198.out) | exact HB.out)⟩⟩
       ·rw [if_neg c11] at H
        have c11b0 : (((rd_T36 l0 x5_1).f0) == 1) = false := beq_eq_false_iff_ne.mpr c11
        have c11b1 : (((rd_T36 l0 x5_1).f0) != 1) = true := bne_iff_ne.mpr c11
        (first | rw [c11b0] | (simp only [i64_w, i32_w]; rw [c11b0]) | skip)
        have H' := Aside0.mk H
        clear H
        go_wp2
        go_meet
        case rel => exact ⟨_, ((((rd_T36 l0 x5_1).f0) == 3)), (by first | rfl | (simp; done) | (simp [*]; done) | (simp; (generalize ByteArray.toList _ = l_); cases l_ <;> rfl)), H', ⟨by have := HK1.out; first | omega | exact Nat.le_refl _⟩, ⟨by (with_reducible repeat (first | refine blk_drewN ?_ _ | refine blk_drew ?_ | refine blk_alloc ?_ _)); exact BK198.out⟩, ⟨by repeat (first | (with_reducible first | exact HB.out | apply below_alloc | apply pw_below_drewN | apply below_drew1 | refine below_set ?_ GE198.out) | exact HB.out)⟩⟩
      case rest =>
       clear HC6
       try clear c1
       try clear p1
       try clear q1
       try clear hx1
       try clear c2
       try clear c2b0
       try clear c2b1
       try clear p2
       try clear c3
       try clear c3b0
       try clear c4
       try clear c4b0
       try clear c11
       try clear c11b0
       try clear c11b1
       try clear hcz10_0
       try clear hcz10_1
       try clear hcz10_2
       try clear hcz8_0
       try clear hcz8_1
       try clear hcz8_2
       try clear hfz10_0
       try clear hfz10_1
       try clear hfz10_2
       try clear hfz8_0
       try clear hfz8_1
       try clear hfz8_2
       try clear hx197_0
       try clear hx197_1
       try clear hx197_2
       try clear p197
       try clear p2
       try clear q197
       obtain ⟨kq, x26_5, rfl, HA, HJ5, BK198, HB⟩ := hcut
       cases kq with
       | zero => exact absurd HA.out (by simp [oxbowref09_Check.j1])
       | succ kj5 =>
        have H := HA.out
        clear HA
        simp only [oxbowref09_Check.j1] at H
        by_cases c12 : x26_5 = true
        ·subst c12
         have H1 : (if ((rd_T36 l0 x5_1).f1) < 1 then (oxbowref09_Check.j2 kj5 l0 x3_1 x4_1 x5_1 true ((rd_T36 l0 x5_1).f0) ((rd_T36 l0 x5_1).f1) ((rd_T36 l0 x5_1).f2)) else (if ((rd_T36 l0 x5_1).f1) > 1000 then (oxbowref09_Check.j2 kj5 l0 x3_1 x4_1 x5_1 true ((rd_T36 l0 x5_1).f0) ((rd_T36 l0 x5_1).f1) ((rd_T36 l0 x5_1).f2)) else (oxbowref09_Check.j2 kj5 l0 x3_1 x4_1 x5_1 (((rd_T36 l0 x5_1).f2).toList != ([] : List UInt8)) ((rd_T36 l0 x5_1).f0) ((rd_T36 l0 x5_1).f1) ((rd_T36 l0 x5_1).f2)))) = some r := by rw [if_pos rfl] at H; exact H
         clear H
         have H := H1
         clear H1
         have HC13 := Aside0.mk H
         clear H
         go_upto_region 14 with (fail)
         go_cut [41] (fun v41 wc => ∃ (kq : Nat) (x41_12 : Bool), v41 = .bool x41_12 ∧ Aside0 (oxbowref09_Check.j2 kq l0 x3_1 x4_1 x5_1 x41_12 ((rd_T36 l0 x5_1).f0) ((rd_T36 l0 x5_1).f1) ((rd_T36 l0 x5_1).f2) = some r) ∧ Aside0 (kq ≤ kj5) ∧ Aside0 (wc.heap[gb198]? = some (.cells #[.int .i64 ((rd_T36 l0 x5_1).f0), .int .i64 ((rd_T36 l0 x5_1).f1), .string ((rd_T36 l0 x5_1).f2)] 36 (0, 0))) ∧ Aside0 (Below w.heap.size w wc))
         case first =>
          have H := HC13.out
          clear HC13
          by_cases c14 : ((rd_T36 l0 x5_1).f1) < 1
          ·rw [if_pos c14] at H
           have c14b0 : decide (((rd_T36 l0 x5_1).f1) < 1) = true := decide_eq_true c14
           clear c14
           (first | rw [c14b0] | (simp only [i64_w, i32_w]; rw [c14b0]) | skip)
           have H' := Aside0.mk H
           clear H
           have hcz15_0 : wc.cell? ⟨gb198, 0, none⟩ = some (.int .i64 ((rd_T36 l0 x5_1).f0)) := (blk_cell BK198.out 0).trans rfl
           have hcz15_1 : wc.cell? ⟨gb198, 1, none⟩ = some (.int .i64 ((rd_T36 l0 x5_1).f1)) := (blk_cell BK198.out 1).trans rfl
           have hcz15_2 : wc.cell? ⟨gb198, 2, none⟩ = some (.string ((rd_T36 l0 x5_1).f2)) := (blk_cell BK198.out 2).trans rfl
           have hfz15_0 := blk_frozen BK198.out 0
           have hfz15_1 := blk_frozen BK198.out 1
           have hfz15_2 := blk_frozen BK198.out 2
           go_wp2
           go_meet
           case rel => exact ⟨_, (true), (by first | rfl | (simp; done) | (simp [*]; done) | (simp; (generalize ByteArray.toList _ = l_); cases l_ <;> rfl)), H', ⟨by have := HK1.out; have := HJ5.out; first | omega | exact Nat.le_refl _⟩, ⟨by (with_reducible repeat (first | refine blk_drewN ?_ _ | refine blk_drew ?_ | refine blk_alloc ?_ _)); exact BK198.out⟩, ⟨by repeat (first | (with_reducible first | exact HB.out | apply below_alloc | apply pw_below_drewN | apply below_drew1 | refine below_set ?_ GE198.out) | exact HB.out)⟩⟩
          ·rw [if_neg c14] at H
           have c14b0 : decide (((rd_T36 l0 x5_1).f1) < 1) = false := decide_eq_false c14
           clear c14
           (first | rw [c14b0] | (simp only [i64_w, i32_w]; rw [c14b0]) | skip)
           by_cases c16 : ((rd_T36 l0 x5_1).f1) > 1000
           ·rw [if_pos c16] at H
            have c16b0 : decide (1000 < ((rd_T36 l0 x5_1).f1)) = true := decide_eq_true c16
            clear c16
            have H' := Aside0.mk H
            clear H
            have hcz17_0 : wc.cell? ⟨gb198, 0, none⟩ = some (.int .i64 ((rd_T36 l0 x5_1).f0)) := (blk_cell BK198.out 0).trans rfl
            have hcz17_1 : wc.cell? ⟨gb198, 1, none⟩ = some (.int .i64 ((rd_T36 l0 x5_1).f1)) := (blk_cell BK198.out 1).trans rfl
            have hcz17_2 : wc.cell? ⟨gb198, 2, none⟩ = some (.string ((rd_T36 l0 x5_1).f2)) := (blk_cell BK198.out 2).trans rfl
            have hfz17_0 := blk_frozen BK198.out 0
            have hfz17_1 := blk_frozen BK198.out 1
            have hfz17_2 := blk_frozen BK198.out 2
            go_wp2
            go_meet
            case rel => exact ⟨_, (true), (by first | rfl | (simp; done) | (simp [*]; done) | (simp; (generalize ByteArray.toList _ = l_); cases l_ <;> rfl)), H', ⟨by have := HK1.out; have := HJ5.out; first | omega | exact Nat.le_refl _⟩, ⟨by (with_reducible repeat (first | refine blk_drewN ?_ _ | refine blk_drew ?_ | refine blk_alloc ?_ _)); exact BK198.out⟩, ⟨by repeat (first | (with_reducible first | exact HB.out | apply below_alloc | apply pw_below_drewN | apply below_drew1 | refine below_set ?_ GE198.out) | exact HB.out)⟩⟩
           ·rw [if_neg c16] at H
            have c16b0 : decide (1000 < ((rd_T36 l0 x5_1).f1)) = false := decide_eq_false c16
            clear c16
            have H' := Aside0.mk H
            clear H
            have hcz18_0 : wc.cell? ⟨gb198, 0, none⟩ = some (.int .i64 ((rd_T36 l0 x5_1).f0)) := (blk_cell BK198.out 0).trans rfl
            have hcz18_1 : wc.cell? ⟨gb198, 1, none⟩ = some (.int .i64 ((rd_T36 l0 x5_1).f1)) := (blk_cell BK198.out 1).trans rfl
            have hcz18_2 : wc.cell? ⟨gb198, 2, none⟩ = some (.string ((rd_T36 l0 x5_1).f2)) := (blk_cell BK198.out 2).trans rfl
            have hfz18_0 := blk_frozen BK198.out 0
            have hfz18_1 := blk_frozen BK198.out 1
            have hfz18_2 := blk_frozen BK198.out 2
            go_wp2
            go_meet
            case rel => exact ⟨_, ((((rd_T36 l0 x5_1).f2).toList != ([] : List UInt8))), (by first | rfl | (simp; done) | (simp [*]; done) | (simp; (generalize ByteArray.toList _ = l_); cases l_ <;> rfl)), H', ⟨by have := HK1.out; have := HJ5.out; first | omega | exact Nat.le_refl _⟩, ⟨by (with_reducible repeat (first | refine blk_drewN ?_ _ | refine blk_drew ?_ | refine blk_alloc ?_ _)); exact BK198.out⟩, ⟨by repeat (first | (with_reducible first | exact HB.out | apply below_alloc | apply pw_below_drewN | apply below_drew1 | refine below_set ?_ GE198.out) | exact HB.out)⟩⟩
         case rest =>
          clear HC13
          try clear c1
          try clear p1
          try clear q1
          try clear hx1
          try clear c2
          try clear c2b0
          try clear c2b1
          try clear p2
          try clear c3
          try clear c3b0
          try clear c4
          try clear c4b0
          try clear c11
          try clear c11b0
          try clear c11b1
          try clear c12
          try clear c14
          try clear c14b0
          try clear c16
          try clear c16b0
          try clear hcz10_0
          try clear hcz10_1
          try clear hcz10_2
          try clear hcz15_0
          try clear hcz15_1
          try clear hcz15_2
          try clear hcz17_0
          try clear hcz17_1
          try clear hcz17_2
          try clear hcz18_0
          try clear hcz18_1
          try clear hcz18_2
          try clear hcz8_0
          try clear hcz8_1
          try clear hcz8_2
          try clear hfz10_0
          try clear hfz10_1
          try clear hfz10_2
          try clear hfz15_0
          try clear hfz15_1
          try clear hfz15_2
          try clear hfz17_0
          try clear hfz17_1
          try clear hfz17_2
          try clear hfz18_0
          try clear hfz18_1
          try clear hfz18_2
          try clear hfz8_0
          try clear hfz8_1
          try clear hfz8_2
          try clear hx197_0
          try clear hx197_1
          try clear hx197_2
          try clear p1
          try clear p197
          try clear p2
          try clear q1
          try clear q197
          obtain ⟨kq, x41_12, rfl, HA, HJ12, BK198, HB⟩ := hcut
          cases kq with
          | zero => exact absurd HA.out (by simp [oxbowref09_Check.j2])
          | succ kj12 =>
           have H := HA.out
           clear HA
           simp only [oxbowref09_Check.j2] at H
           by_cases c19 : x41_12 = true
           ·subst c19
            have H1 : (some 90) = some r := by rw [if_pos rfl] at H; exact H
            clear H
            have H := H1
            clear H1
            obtain rfl := Option.some.inj H
            go_wp2
            go_ret
            exact ⟨by first | rfl | (simp [errW_none, errW_some] <;> rfl) | (simp [*, errW_none, errW_some] <;> rfl), by repeat (first | (with_reducible first | exact HB.out | apply below_alloc | apply pw_below_drewN | apply below_drew1 | refine below_set ?_ GE198.out) | exact HB.out)⟩
           ·replace c19 := Bool.eq_false_iff.mpr c19
            subst c19
            have H1 : (if ((rd_T36 l0 x5_1).f0) = 1 then (oxbowref09_Check.l0 kj12 l0 (wrap64 (x3_1 + ((rd_T36 l0 x5_1).f1))) (wrap64 (x4_1 + ((rd_T36 l0 x5_1).f1))) (wrap64 (x5_1 + 1))) else (oxbowref09_Check.l0 kj12 l0 (wrap64 (x3_1 + ((rd_T36 l0 x5_1).f1))) x4_1 (wrap64 (x5_1 + 1)))) = some r := by rw [if_neg (show ¬ (false = true) by decide)] at H; exact H
            clear H
            have H := H1
            clear H1
            by_cases c20 : ((rd_T36 l0 x5_1).f0) = 1
            ·rw [if_pos c20] at H
             have c20b0 : (((rd_T36 l0 x5_1).f0) == 1) = true := beq_iff_eq.mpr c20
             have c20b1 : (((rd_T36 l0 x5_1).f0) != 1) = false := bne_eq_false_iff_eq.mpr c20
             clear c20
             have H' := Aside0.mk H
             clear H
             have hcz21_0 : wc.cell? ⟨gb198, 0, none⟩ = some (.int .i64 ((rd_T36 l0 x5_1).f0)) := (blk_cell BK198.out 0).trans rfl
             have hcz21_1 : wc.cell? ⟨gb198, 1, none⟩ = some (.int .i64 ((rd_T36 l0 x5_1).f1)) := (blk_cell BK198.out 1).trans rfl
             have hcz21_2 : wc.cell? ⟨gb198, 2, none⟩ = some (.string ((rd_T36 l0 x5_1).f2)) := (blk_cell BK198.out 2).trans rfl
             have hfz21_0 := blk_frozen BK198.out 0
             have hfz21_1 := blk_frozen BK198.out 1
             have hfz21_2 := blk_frozen BK198.out 2
             go_wp2
             go_roundg kj12
             case measure => have := HK1.out; have := HJ5.out; have := HJ12.out; omega
             case rel => exact ⟨(wrap64 (x3_1 + ((rd_T36 l0 x5_1).f1))), (wrap64 (x4_1 + ((rd_T36 l0 x5_1).f1))), (wrap64 (x5_1 + 1)), (by first | rfl | (simp; done) | (simp [*]; done) | (simp; (generalize ByteArray.toList _ = l_); cases l_ <;> rfl)), (by first | rfl | (simp; done) | (simp [*]; done) | (simp; (generalize ByteArray.toList _ = l_); cases l_ <;> rfl)), (by first | rfl | (simp; done) | (simp [*]; done) | (simp; (generalize ByteArray.toList _ = l_); cases l_ <;> rfl)), H', ⟨by have := HK1.out; have := HJ5.out; have := HJ12.out; omega⟩, ⟨by repeat (first | (with_reducible first | exact HB.out | apply below_alloc | apply pw_below_drewN | apply below_drew1 | refine below_set ?_ GE198.out) | exact HB.out)⟩⟩
            ·rw [if_neg c20] at H
             have c20b0 : (((rd_T36 l0 x5_1).f0) == 1) = false := beq_eq_false_iff_ne.mpr c20
             have c20b1 : (((rd_T36 l0 x5_1).f0) != 1) = true := bne_iff_ne.mpr c20
             have H' := Aside0.mk H
             clear H
             have hcz22_0 : wc.cell? ⟨gb198, 0, none⟩ = some (.int .i64 ((rd_T36 l0 x5_1).f0)) := (blk_cell BK198.out 0).trans rfl
             have hcz22_1 : wc.cell? ⟨gb198, 1, none⟩ = some (.int .i64 ((rd_T36 l0 x5_1).f1)) := (blk_cell BK198.out 1).trans rfl
             have hcz22_2 : wc.cell? ⟨gb198, 2, none⟩ = some (.string ((rd_T36 l0 x5_1).f2)) := (blk_cell BK198.out 2).trans rfl
             have hfz22_0 := blk_frozen BK198.out 0
             have hfz22_1 := blk_frozen BK198.out 1
             have hfz22_2 := blk_frozen BK198.out 2
             go_wp2
             go_roundg kj12
             case measure => have := HK1.out; have := HJ5.out; have := HJ12.out; omega
             case rel => exact ⟨(wrap64 (x3_1 + ((rd_T36 l0 x5_1).f1))), (x4_1), (wrap64 (x5_1 + 1)), (by first | rfl | (simp; done) | (simp [*]; done) | (simp; (generalize ByteArray.toList _ = l_); cases l_ <;> rfl)), (by first | rfl | (simp; done) | (simp [*]; done) | (simp; (generalize ByteArray.toList _ = l_); cases l_ <;> rfl)), (by first | rfl | (simp; done) | (simp [*]; done) | (simp; (generalize ByteArray.toList _ = l_); cases l_ <;> rfl)), H', ⟨by have := HK1.out; have := HJ5.out; have := HJ12.out; omega⟩, ⟨by repeat (first | (with_reducible first | exact HB.out | apply below_alloc | apply pw_below_drewN | apply below_drew1 | refine below_set ?_ GE198.out) | exact HB.out)⟩⟩
        ·replace c12 := Bool.eq_false_iff.mpr c12
         subst c12
         have H1 : (if ((rd_T36 l0 x5_1).f0) = 2 then (if ((rd_T36 l0 x5_1).f1) = 0 then (if t199 < 1 then (some 90) else (oxbowref09_Check.l0 kj5 l0 x3_1 (wrap64 (x4_1 + t199)) (wrap64 (x5_1 + 1)))) else (some 90)) else (some 90)) = some r := by rw [if_neg (show ¬ (false = true) by decide)] at H; exact H
         clear H
         have H := H1
         clear H1
         by_cases c23 : ((rd_T36 l0 x5_1).f0) = 2
         ·rw [if_pos c23] at H
          have c23b0 : (((rd_T36 l0 x5_1).f0) == 2) = true := beq_iff_eq.mpr c23
          have c23b1 : (((rd_T36 l0 x5_1).f0) != 2) = false := bne_eq_false_iff_eq.mpr c23
          clear c23
          by_cases c24 : ((rd_T36 l0 x5_1).f1) = 0
          ·rw [if_pos c24] at H
           have c24b0 : (((rd_T36 l0 x5_1).f1) == 0) = true := beq_iff_eq.mpr c24
           have c24b1 : (((rd_T36 l0 x5_1).f1) != 0) = false := bne_eq_false_iff_eq.mpr c24
           clear c24
           by_cases c25 : t199 < 1
           ·rw [if_pos c25] at H
            have c25b0 : decide (t199 < 1) = true := decide_eq_true c25
            clear c25
            obtain rfl := Option.some.inj H
            have hcz26_0 : wc.cell? ⟨gb198, 0, none⟩ = some (.int .i64 ((rd_T36 l0 x5_1).f0)) := (blk_cell BK198.out 0).trans rfl
            have hcz26_1 : wc.cell? ⟨gb198, 1, none⟩ = some (.int .i64 ((rd_T36 l0 x5_1).f1)) := (blk_cell BK198.out 1).trans rfl
            have hcz26_2 : wc.cell? ⟨gb198, 2, none⟩ = some (.string ((rd_T36 l0 x5_1).f2)) := (blk_cell BK198.out 2).trans rfl
            have hfz26_0 := blk_frozen BK198.out 0
            have hfz26_1 := blk_frozen BK198.out 1
            have hfz26_2 := blk_frozen BK198.out 2
            go_wp2
            go_ret
            exact ⟨by first | rfl | (simp [errW_none, errW_some] <;> rfl) | (simp [*, errW_none, errW_some] <;> rfl), by repeat (first | (with_reducible first | exact HB.out | apply below_alloc | apply pw_below_drewN | apply below_drew1 | refine below_set ?_ GE198.out) | exact HB.out)⟩
           ·rw [if_neg c25] at H
            have c25b0 : decide (t199 < 1) = false := decide_eq_false c25
            clear c25
            have H' := Aside0.mk H
            clear H
            have hcz27_0 : wc.cell? ⟨gb198, 0, none⟩ = some (.int .i64 ((rd_T36 l0 x5_1).f0)) := (blk_cell BK198.out 0).trans rfl
            have hcz27_1 : wc.cell? ⟨gb198, 1, none⟩ = some (.int .i64 ((rd_T36 l0 x5_1).f1)) := (blk_cell BK198.out 1).trans rfl
            have hcz27_2 : wc.cell? ⟨gb198, 2, none⟩ = some (.string ((rd_T36 l0 x5_1).f2)) := (blk_cell BK198.out 2).trans rfl
            have hfz27_0 := blk_frozen BK198.out 0
            have hfz27_1 := blk_frozen BK198.out 1
            have hfz27_2 := blk_frozen BK198.out 2
            go_wp2
            go_roundg kj5
            case measure => have := HK1.out; have := HJ5.out; omega
            case rel => exact ⟨(x3_1), (wrap64 (x4_1 + t199)), (wrap64 (x5_1 + 1)), (by first | rfl | (simp; done) | (simp [*]; done) | (simp; (generalize ByteArray.toList _ = l_); cases l_ <;> rfl)), (by first | rfl | (simp; done) | (simp [*]; done) | (simp; (generalize ByteArray.toList _ = l_); cases l_ <;> rfl)), (by first | rfl | (simp; done) | (simp [*]; done) | (simp; (generalize ByteArray.toList _ = l_); cases l_ <;> rfl)), H', ⟨by have := HK1.out; have := HJ5.out; omega⟩, ⟨by repeat (first | (with_reducible first | exact HB.out | apply below_alloc | apply pw_below_drewN | apply below_drew1 | refine below_set ?_ GE198.out) | exact HB.out)⟩⟩
          ·rw [if_neg c24] at H
           have c24b0 : (((rd_T36 l0 x5_1).f1) == 0) = false := beq_eq_false_iff_ne.mpr c24
           have c24b1 : (((rd_T36 l0 x5_1).f1) != 0) = true := bne_iff_ne.mpr c24
           obtain rfl := Option.some.inj H
           have hcz28_0 : wc.cell? ⟨gb198, 0, none⟩ = some (.int .i64 ((rd_T36 l0 x5_1).f0)) := (blk_cell BK198.out 0).trans rfl
           have hcz28_1 : wc.cell? ⟨gb198, 1, none⟩ = some (.int .i64 ((rd_T36 l0 x5_1).f1)) := (blk_cell BK198.out 1).trans rfl
           have hcz28_2 : wc.cell? ⟨gb198, 2, none⟩ = some (.string ((rd_T36 l0 x5_1).f2)) := (blk_cell BK198.out 2).trans rfl
           have hfz28_0 := blk_frozen BK198.out 0
           have hfz28_1 := blk_frozen BK198.out 1
           have hfz28_2 := blk_frozen BK198.out 2
           go_wp2
           go_ret
           exact ⟨by first | rfl | (simp [errW_none, errW_some] <;> rfl) | (simp [*, errW_none, errW_some] <;> rfl), by repeat (first | (with_reducible first | exact HB.out | apply below_alloc | apply pw_below_drewN | apply below_drew1 | refine below_set ?_ GE198.out) | exact HB.out)⟩
         ·rw [if_neg c23] at H
          have c23b0 : (((rd_T36 l0 x5_1).f0) == 2) = false := beq_eq_false_iff_ne.mpr c23
          have c23b1 : (((rd_T36 l0 x5_1).f0) != 2) = true := bne_iff_ne.mpr c23
          obtain rfl := Option.some.inj H
          go_wp2
          go_ret
          exact ⟨by first | rfl | (simp [errW_none, errW_some] <;> rfl) | (simp [*, errW_none, errW_some] <;> rfl), by repeat (first | (with_reducible first | exact HB.out | apply below_alloc | apply pw_below_drewN | apply below_drew1 | refine below_set ?_ GE198.out) | exact HB.out)⟩
     ·rw [if_neg c4] at H
      exact absurd H (by simp)
    ·rw [if_neg c3] at H
     have c3b0 : decide (x5_1 < (l0.length : Int)) = false := decide_eq_false c3
     clear c3
     by_cases c29 : x3_1 > 1000
     ·rw [if_pos c29] at H
      have c29b0 : decide (1000 < x3_1) = true := decide_eq_true c29
      clear c29
      obtain rfl := Option.some.inj H
      go_wp2
      go_ret
      exact ⟨by first | rfl | (simp [errW_none, errW_some] <;> rfl) | (simp [*, errW_none, errW_some] <;> rfl), by repeat (first | (with_reducible first | exact HB.out | apply below_alloc | apply pw_below_drewN | apply below_drew1) | exact HB.out)⟩
     ·rw [if_neg c29] at H
      have c29b0 : decide (1000 < x3_1) = false := decide_eq_false c29
      clear c29
      by_cases c30 : x4_1 > 1000
      ·rw [if_pos c30] at H
       have c30b0 : decide (1000 < x4_1) = true := decide_eq_true c30
       clear c30
       obtain rfl := Option.some.inj H
       go_wp2
       go_ret
       exact ⟨by first | rfl | (simp [errW_none, errW_some] <;> rfl) | (simp [*, errW_none, errW_some] <;> rfl), by repeat (first | (with_reducible first | exact HB.out | apply below_alloc | apply pw_below_drewN | apply below_drew1) | exact HB.out)⟩
      ·rw [if_neg c30] at H
       have c30b0 : decide (1000 < x4_1) = false := decide_eq_false c30
       clear c30
       obtain rfl := Option.some.inj H
       go_wp2
       go_ret
       exact ⟨by first | rfl | (simp [errW_none, errW_some] <;> rfl) | (simp [*, errW_none, errW_some] <;> rfl), by repeat (first | (with_reducible first | exact HB.out | apply below_alloc | apply pw_below_drewN | apply below_drew1) | exact HB.out)⟩

/-! ### oxbowref09_Base: function 22 -/
def oxbowref09_Base.l0 : Nat → List (S36) → Int → Int → Option (Int × Int)
 | 0, _, _, _ => none
 | k + 1, x0, x5, x6 => if x6 < (x0.length : Int) then (if 0 ≤ x6 then (oxbowref09_Base.l0 k x0 (wrap64 (x5 + ((rd_T36 x0 x6).f1))) (wrap64 (x6 + 1))) else (none)) else (some (x5, 0))
def oxbowref09_Base.f (k : Nat) (l0 : List (S36)) : Option (Int × Int) := (oxbowref09_Check.f k l0).bind fun t200 => (if t200 = 0 then (oxbowref09_Base.l0 k l0 0 0) else (some (0, t200)))
theorem oxbowref09_Base.mono_l : ∀ k, (∀ y0 y1 y2, LeO (oxbowref09_Base.l0 k y0 y1 y2) (oxbowref09_Base.l0 (k + 1) y0 y1 y2))
 | 0 => fun _ _ _ r h => by simp [oxbowref09_Base.l0] at h
 | k + 1 => by
  have ih0 := oxbowref09_Base.mono_l k
  ·intro y0 y1 y2
   unfold oxbowref09_Base.l0
   repeat' first
   | (with_reducible exact ih0 _ _ _)
   | (with_reducible exact oxbowref09_Check.mono _ _)
   | (with_reducible exact LeO.refl _)
   | (with_reducible exact LeO.none _)
   | (with_reducible refine LeO.ite ?_ ?_)
   | (with_reducible refine LeO.bind ?_ (fun _ => ?_))
   | exact ih0 _ _ _
   | exact oxbowref09_Check.mono _ _
   | exact LeO.none _
   | refine LeO.ite ?_ ?_
   | refine LeO.bind ?_ (fun _ => ?_)
theorem oxbowref09_Base.mono : ∀ a0 k, LeO (oxbowref09_Base.f k a0) (oxbowref09_Base.f (k + 1) a0) := by
 intro a0 k
 have ih0 := oxbowref09_Base.mono_l k
 unfold oxbowref09_Base.f
 repeat' first
   | (with_reducible exact ih0 _ _ _)
   | (with_reducible exact oxbowref09_Check.mono _ _)
   | (with_reducible exact LeO.refl _)
   | (with_reducible exact LeO.none _)
   | (with_reducible refine LeO.ite ?_ ?_)
   | (with_reducible refine LeO.bind ?_ (fun _ => ?_))
   | exact ih0 _ _ _
   | exact oxbowref09_Check.mono _ _
   | exact LeO.none _
   | refine LeO.ite ?_ ?_
   | refine LeO.bind ?_ (fun _ => ?_)
set_option maxHeartbeats 8000000 in
set_option maxRecDepth 100000 in
theorem oxbowref09_Base.calls (k : Nat) (A0 : Option Addr) (c0 : Nat) (l0 : List (S36)) (r1 : Int) (r2 : Int) (w : World) (hr0 : Kd.C k36 w A0 l0.length l0) (hc0 : l0.length ≤ c0) (h : oxbowref09_Base.f k l0 = some (r1, r2)) :
  Calls Try.prog 22 #[.slice A0 l0.length c0] w fun e w' => e = .returned (.tuple #[.int .i64 r1, .int .i64 r2]) ∧ Below w.heap.size w w' := by
 have HR0 := Aside0.mk hr0
 have HC0 := Aside0.mk hc0
 clear hr0 hc0
 have HB := Aside0.mk (Below.refl w.heap.size w)
 have H : ((oxbowref09_Check.f k l0).bind fun t200 => (if t200 = 0 then (oxbowref09_Base.l0 k l0 0 0) else (some (0, t200)))) = some (r1, r2) := h
 clear h
 replace H := Option.bind_eq_some_iff.mp H
 obtain ⟨t200, A20, H⟩ := H
 replace H : (if t200 = 0 then (oxbowref09_Base.l0 k l0 0 0) else (some (0, t200))) = some (r1, r2) := H
 have A2 := Aside0.mk A20
 clear A20
 by_cases c3 : t200 = 0
 ·rw [if_pos c3] at H
  have c3b0 : (t200 == 0) = true := beq_iff_eq.mpr c3
  have c3b1 : (t200 != 0) = false := bne_eq_false_iff_eq.mpr c3
  clear c3
  have H' := Aside0.mk H
  clear H
  go_enter Try.func22, Try.ntmps22
  go_wp2_with (first | ((with_reducible refine gate_callee (f := 25) rfl ?_); refine goesL_ (some 8) rfl rfl Try.func25 (by kernel_rfl) rfl #[.slice A0 l0.length c0] rfl (by (try simp only [List.map_toArray, List.map_cons, List.map_nil]); first | done | rfl | (simp only [List.length_drop, List.length_take]; rfl)) ?_; (with_reducible refine (oxbowref09_Check.calls k _ _ l0 t200 _ ?side1 ?side2 A2.out).mono ?_); (case side1 => repeat (first | exact HR0.out | (with_reducible refine Kd.C_alloc ?_ _) | (with_reducible refine Kd.C_drewN ?_ _) | (with_reducible refine Kd.C_drew ?_))); (case side2 => exact HC0.out); rintro e w4 ⟨rfl, hb⟩; refine ⟨_, rfl, ?_⟩; have n0_ := Aside0.mk (below_step (by repeat (first | (with_reducible first | exact HB.out | apply below_alloc | apply pw_below_drewN | apply below_drew1) | exact HB.out)) hb); clear HB; have HB := n0_; clear n0_; (try clear hb); (try clear hb2); (try clear hk); (try clear hi)))
  go_loopg [5, 6] k (fun kq v5 v6 w' => ∃ (x5_1 : Int) (x6_1 : Int), v5 = .int .i64 x5_1 ∧ v6 = .int .i64 x6_1 ∧ Aside0 (oxbowref09_Base.l0 kq l0 x5_1 x6_1 = some (r1, r2)) ∧ Aside0 (kq ≤ k) ∧ Aside0 (Below w.heap.size w w'))
  case atStart => exact ⟨(0), (0), (by first | rfl | (simp; done) | (simp [*]; done) | (simp; (generalize ByteArray.toList _ = l_); cases l_ <;> rfl)), (by first | rfl | (simp; done) | (simp [*]; done) | (simp; (generalize ByteArray.toList _ = l_); cases l_ <;> rfl)), H', ⟨Nat.le_refl _⟩, ⟨by repeat (first | (with_reducible first | exact HB.out | apply below_alloc | apply pw_below_drewN | apply below_drew1) | exact HB.out)⟩⟩
  case round =>
   clear H'
   try clear c2
   try clear p2
   try clear c3
   try clear c3b0
   try clear c3b1
   obtain ⟨x5_1, x6_1, rfl, rfl, HA, HK1, HB⟩ := hrel
   cases gk with
   | zero => exact absurd HA.out (by simp [oxbowref09_Base.l0])
   | succ k1 =>
    have H := HA.out
    clear HA
    simp only [oxbowref09_Base.l0] at H
    by_cases c5 : x6_1 < (l0.length : Int)
    ·rw [if_pos c5] at H
     have c5b0 : decide (x6_1 < (l0.length : Int)) = true := decide_eq_true c5
     clear c5
     by_cases c6 : 0 ≤ x6_1
     ·rw [if_pos c6] at H
      have c6b0 : decide (0 ≤ x6_1) = true := decide_eq_true c6
      clear c6
      have H' := Aside0.mk H
      clear H
      have p201 : 0 ≤ (x6_1 : Int) := of_decide_eq_true (by first | (with_reducible assumption) | assumption)
      have q201 : x6_1 < (l0.length : Int) := of_decide_eq_true (by first | (with_reducible assumption) | assumption)
      obtain ⟨ad201, e201, hx201_0, hx201_1, hx201_2⟩ := at_T36 HR0.out x6_1 p201 q201
      cases e201
      replace hx201_0 := (HB.out.cell (World.block_lt_of_cell? w _ hx201_0)).trans hx201_0
      replace hx201_1 := (HB.out.cell (World.block_lt_of_cell? w _ hx201_1)).trans hx201_1
      replace hx201_2 := (HB.out.cell (World.block_lt_of_cell? w _ hx201_2)).trans hx201_2
      replace p201 := eq_true p201
      replace q201 := eq_true q201
      go_wp2
      go_roundg k1
      case measure => have := HK1.out; omega
      case rel => exact ⟨(wrap64 (x5_1 + ((rd_T36 l0 x6_1).f1))), (wrap64 (x6_1 + 1)), (by first | rfl | (simp; done) | (simp [*]; done) | (simp; (generalize ByteArray.toList _ = l_); cases l_ <;> rfl)), (by first | rfl | (simp; done) | (simp [*]; done) | (simp; (generalize ByteArray.toList _ = l_); cases l_ <;> rfl)), H', ⟨by have := HK1.out; omega⟩, ⟨by repeat (first | (with_reducible first | exact HB.out | apply below_alloc | apply pw_below_drewN | apply below_drew1) | exact HB.out)⟩⟩
     ·rw [if_neg c6] at H
      exact absurd H (by simp)
    ·rw [if_neg c5] at H
     have c5b0 : decide (x6_1 < (l0.length : Int)) = false := decide_eq_false c5
     clear c5
     simp only [Option.some.injEq, Prod.mk.injEq] at H
     obtain ⟨rfl, rfl⟩ := H
     go_wp2
     go_ret2
     exact ⟨by first | rfl | (simp [errW_none, errW_some] <;> rfl) | (simp [*, errW_none, errW_some] <;> rfl), by repeat (first | (with_reducible first | exact HB.out | apply below_alloc | apply pw_below_drewN | apply below_drew1) | exact HB.out)⟩
 ·rw [if_neg c3] at H
  have c3b0 : (t200 == 0) = false := beq_eq_false_iff_ne.mpr c3
  have c3b1 : (t200 != 0) = true := bne_iff_ne.mpr c3
  simp only [Option.some.injEq, Prod.mk.injEq] at H
  obtain ⟨rfl, rfl⟩ := H
  go_enter Try.func22, Try.ntmps22
  go_wp2_with (first | ((with_reducible refine gate_callee (f := 25) rfl ?_); refine goesL_ (some 8) rfl rfl Try.func25 (by kernel_rfl) rfl #[.slice A0 l0.length c0] rfl (by (try simp only [List.map_toArray, List.map_cons, List.map_nil]); first | done | rfl | (simp only [List.length_drop, List.length_take]; rfl)) ?_; (with_reducible refine (oxbowref09_Check.calls k _ _ l0 t200 _ ?side1 ?side2 A2.out).mono ?_); (case side1 => repeat (first | exact HR0.out | (with_reducible refine Kd.C_alloc ?_ _) | (with_reducible refine Kd.C_drewN ?_ _) | (with_reducible refine Kd.C_drew ?_))); (case side2 => exact HC0.out); rintro e w7 ⟨rfl, hb⟩; refine ⟨_, rfl, ?_⟩; have n0_ := Aside0.mk (below_step (by repeat (first | (with_reducible first | exact HB.out | apply below_alloc | apply pw_below_drewN | apply below_drew1) | exact HB.out)) hb); clear HB; have HB := n0_; clear n0_; (try clear hb); (try clear hb2); (try clear hk); (try clear hi)))
  go_ret2
  exact ⟨by first | rfl | (simp [errW_none, errW_some] <;> rfl) | (simp [*, errW_none, errW_some] <;> rfl), by repeat (first | (with_reducible first | exact HB.out | apply below_alloc | apply pw_below_drewN | apply below_drew1) | exact HB.out)⟩

end Go.Proofs.Ytdpbkomaiafemaa.HDm
