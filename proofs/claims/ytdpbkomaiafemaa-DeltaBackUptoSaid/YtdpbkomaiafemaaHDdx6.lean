-- Written by hprint.py over the kit's print.py; contracts of some functions by hand.
import Derived.Test.YtdpbkomaiafemaaHDdx0
import Derived.Test.YtdpbkomaiafemaaHDdx1
import Derived.Test.YtdpbkomaiafemaaHDdx4
import Derived.Test.YtdpbkomaiafemaaHDdx5
namespace Go.Proofs.Ytdpbkomaiafemaa.HDd
open Go.RowKit Go.Proofs.YtdpbkomaiafemaaW.PrintWords Go.Proofs.YtdpbkomaiafemaaW.PrintLast Go.Proofs.YtdpbkomaiafemaaW.PrintMore
attribute [local go_sem] max2_int min2_int max_two min_two max_three min_three max_four min_four   -- for this text's walks alone
set_option linter.unusedVariables false
set_option linter.unusedSimpArgs false

attribute [local go_sem high] eqA36
/-! ### oxbowref09_Same: function 26 -/
def oxbowref09_Same.l0 : Nat → List (S36) → List (S36) → Int → Option (Bool)
  | 0, _, _, _ => none
  | k + 1, x0, x1, x5 => if x5 < (x0.length : Int) then (if 0 ≤ x5 then (if x5 < (x1.length : Int) then (if (!(((rd_T36 x0 x5).f0) == ((rd_T36 x1 x5).f0)) || (!(((rd_T36 x0 x5).f1) == ((rd_T36 x1 x5).f1)) || (!((((rd_T36 x0 x5).f2).toList) == (((rd_T36 x1 x5).f2).toList))))) = true then (some false) else (oxbowref09_Same.l0 k x0 x1 (wrap64 (x5 + 1)))) else (none)) else (none)) else (some true)
def oxbowref09_Same.f (k : Nat) (l0 : List (S36)) (l1 : List (S36)) : Option (Bool) := if (l0.length : Int) = (l1.length : Int) then (oxbowref09_Same.l0 k l0 l1 0) else (some false)
theorem oxbowref09_Same.mono_l : ∀ k, (∀ y0 y1 y2, LeO (oxbowref09_Same.l0 k y0 y1 y2) (oxbowref09_Same.l0 (k + 1) y0 y1 y2))
  | 0 => fun _ _ _ r h => by simp [oxbowref09_Same.l0] at h
  | k + 1 => by
    have ih0 := oxbowref09_Same.mono_l k
    · intro y0 y1 y2
      unfold oxbowref09_Same.l0
      repeat' first
      | (with_reducible exact ih0 _ _ _)
      | (with_reducible exact LeO.refl _)
      | (with_reducible exact LeO.none _)
      | (with_reducible refine LeO.ite ?_ ?_)
      | (with_reducible refine LeO.bind ?_ (fun _ => ?_))
      | exact ih0 _ _ _
      | exact LeO.none _
      | refine LeO.ite ?_ ?_
      | refine LeO.bind ?_ (fun _ => ?_)
theorem oxbowref09_Same.mono : ∀ a0 a1 k, LeO (oxbowref09_Same.f k a0 a1) (oxbowref09_Same.f (k + 1) a0 a1) := by
  intro a0 a1 k
  have ih0 := oxbowref09_Same.mono_l k
  unfold oxbowref09_Same.f
  repeat' first
      | (with_reducible exact ih0 _ _ _)
      | (with_reducible exact LeO.refl _)
      | (with_reducible exact LeO.none _)
      | (with_reducible refine LeO.ite ?_ ?_)
      | (with_reducible refine LeO.bind ?_ (fun _ => ?_))
      | exact ih0 _ _ _
      | exact LeO.none _
      | refine LeO.ite ?_ ?_
      | refine LeO.bind ?_ (fun _ => ?_)
set_option maxHeartbeats 8000000 in
set_option maxRecDepth 100000 in
theorem oxbowref09_Same.calls (k : Nat) (A0 : Option Addr) (c0 : Nat) (l0 : List (S36)) (A1 : Option Addr) (c1 : Nat) (l1 : List (S36)) (r : Bool) (w : World) (hr0 : Kd.C k36 w A0 l0.length l0) (hc0 : l0.length ≤ c0) (hr1 : Kd.C k36 w A1 l1.length l1) (hc1 : l1.length ≤ c1) (h : oxbowref09_Same.f k l0 l1 = some r) :
    Calls Try.prog 26 #[.slice A0 l0.length c0, .slice A1 l1.length c1] w fun e w' => e = .returned (.bool r) ∧ Drawn0 w w' := by
  have hu36 := Try.underlying36
  have HR0 := Aside0.mk hr0
  have HC0 := Aside0.mk hc0
  clear hr0 hc0
  have HR1 := Aside0.mk hr1
  have HC1 := Aside0.mk hc1
  clear hr1 hc1
  have H : (if (l0.length : Int) = (l1.length : Int) then (oxbowref09_Same.l0 k l0 l1 0) else (some false)) = some r := h
  clear h
  by_cases c3 : (l0.length : Int) = (l1.length : Int)
  · rw [if_pos c3] at H
    have c3b0 : ((l0.length : Int) == (l1.length : Int)) = true := beq_iff_eq.mpr c3
    have c3b1 : ((l0.length : Int) != (l1.length : Int)) = false := bne_eq_false_iff_eq.mpr c3
    have c3b2 : (l0.length == l1.length) = true := by first | simpa using c3 | (simp at c3 ⊢; omega)
    clear c3
    have H' := Aside0.mk H
    clear H
    go_enter Try.func26, Try.ntmps26
    go_wp2
    repeat (go_quiet (fail); try go_wp2)
    go_loopg [5] k (fun kq v5 w' => ∃ (x5_1 : Int), v5 = .int .i64 x5_1 ∧ Aside0 (oxbowref09_Same.l0 kq l0 l1 x5_1 = some r) ∧ Aside0 (kq ≤ k) ∧ Drawn0 w w')
    case atStart => exact ⟨(0), (by first | rfl | (simp; done) | (simp [*]; done) | (simp; (generalize ByteArray.toList _ = l_); cases l_ <;> rfl)), H', ⟨Nat.le_refl _⟩, by repeat (first | exact Drawn0.refl _ | apply Drawn0.step)⟩
    case round =>
      clear H'
      try clear c1
      try clear c2
      try clear p2
      try clear c3
      try clear c3b0
      try clear c3b1
      try clear c3b2
      obtain ⟨x5_1, rfl, HA, HK1, ⟨m1, rfl⟩⟩ := hrel
      cases gk with
      | zero => exact absurd HA.out (by simp [oxbowref09_Same.l0])
      | succ k1 =>
        have H := HA.out
        clear HA
        simp only [oxbowref09_Same.l0] at H
        by_cases c4 : x5_1 < (l0.length : Int)
        · rw [if_pos c4] at H
          have c4b0 : decide (x5_1 < (l0.length : Int)) = true := decide_eq_true c4
          clear c4
          by_cases c5 : 0 ≤ x5_1
          · rw [if_pos c5] at H
            have c5b0 : decide (0 ≤ x5_1) = true := decide_eq_true c5
            clear c5
            by_cases c6 : x5_1 < (l1.length : Int)
            · rw [if_pos c6] at H
              have c6b0 : decide (x5_1 < (l1.length : Int)) = true := decide_eq_true c6
              clear c6
              by_cases c7 : (!(((rd_T36 l0 x5_1).f0) == ((rd_T36 l1 x5_1).f0)) || (!(((rd_T36 l0 x5_1).f1) == ((rd_T36 l1 x5_1).f1)) || (!((((rd_T36 l0 x5_1).f2).toList) == (((rd_T36 l1 x5_1).f2).toList))))) = true
              · rw [if_pos c7] at H
                have c7b0 : (!(((rd_T36 l0 x5_1).f0) == ((rd_T36 l1 x5_1).f0)) || (!(((rd_T36 l0 x5_1).f1) == ((rd_T36 l1 x5_1).f1)) || (!((((rd_T36 l0 x5_1).f2).toList) == (((rd_T36 l1 x5_1).f2).toList))))) = true := c7
                clear c7
                obtain rfl := Option.some.inj H
                have p165 : 0 ≤ (x5_1 : Int) := of_decide_eq_true (by first | (with_reducible assumption) | assumption)
                have q165 : x5_1 < (l0.length : Int) := of_decide_eq_true (by first | (with_reducible assumption) | assumption)
                obtain ⟨ad165, e165, hx165_0, hx165_1, hx165_2⟩ := at_T36 HR0.out x5_1 p165 q165
                cases e165
                replace p165 := eq_true p165
                replace q165 := eq_true q165
                have p166 : 0 ≤ (x5_1 : Int) := of_decide_eq_true (by first | (with_reducible assumption) | assumption)
                have q166 : x5_1 < (l1.length : Int) := of_decide_eq_true (by first | (with_reducible assumption) | assumption)
                obtain ⟨ad166, e166, hx166_0, hx166_1, hx166_2⟩ := at_T36 HR1.out x5_1 p166 q166
                cases e166
                replace p166 := eq_true p166
                replace q166 := eq_true q166
                go_wp2
                repeat (go_quiet (fail); try go_wp2)
                go_ret
                exact ⟨by first | rfl | (simp; done) | (simp [*]; done), by repeat (first | exact Drawn0.refl _ | apply Drawn0.step)⟩
              · rw [if_neg c7] at H
                have c7b0 : (!(((rd_T36 l0 x5_1).f0) == ((rd_T36 l1 x5_1).f0)) || (!(((rd_T36 l0 x5_1).f1) == ((rd_T36 l1 x5_1).f1)) || (!((((rd_T36 l0 x5_1).f2).toList) == (((rd_T36 l1 x5_1).f2).toList))))) = false := by simpa using c7
                clear c7
                have H' := Aside0.mk H
                clear H
                have p165 : 0 ≤ (x5_1 : Int) := of_decide_eq_true (by first | (with_reducible assumption) | assumption)
                have q165 : x5_1 < (l0.length : Int) := of_decide_eq_true (by first | (with_reducible assumption) | assumption)
                obtain ⟨ad165, e165, hx165_0, hx165_1, hx165_2⟩ := at_T36 HR0.out x5_1 p165 q165
                cases e165
                replace p165 := eq_true p165
                replace q165 := eq_true q165
                have p166 : 0 ≤ (x5_1 : Int) := of_decide_eq_true (by first | (with_reducible assumption) | assumption)
                have q166 : x5_1 < (l1.length : Int) := of_decide_eq_true (by first | (with_reducible assumption) | assumption)
                obtain ⟨ad166, e166, hx166_0, hx166_1, hx166_2⟩ := at_T36 HR1.out x5_1 p166 q166
                cases e166
                replace p166 := eq_true p166
                replace q166 := eq_true q166
                go_wp2
                repeat (go_quiet (fail); try go_wp2)
                go_roundg k1
                case measure => have := HK1.out; omega
                case rel => exact ⟨(wrap64 (x5_1 + 1)), (by first | rfl | (simp; done) | (simp [*]; done) | (simp; (generalize ByteArray.toList _ = l_); cases l_ <;> rfl)), H', ⟨by have := HK1.out; omega⟩, by repeat (first | exact Drawn0.refl _ | apply Drawn0.step)⟩
            · rw [if_neg c6] at H
              exact absurd H (by simp)
          · rw [if_neg c5] at H
            exact absurd H (by simp)
        · rw [if_neg c4] at H
          have c4b0 : decide (x5_1 < (l0.length : Int)) = false := decide_eq_false c4
          clear c4
          obtain rfl := Option.some.inj H
          go_wp2
          repeat (go_quiet (fail); try go_wp2)
          go_ret
          exact ⟨by first | rfl | (simp; done) | (simp [*]; done), by repeat (first | exact Drawn0.refl _ | apply Drawn0.step)⟩
  · rw [if_neg c3] at H
    have c3b0 : ((l0.length : Int) == (l1.length : Int)) = false := beq_eq_false_iff_ne.mpr c3
    have c3b1 : ((l0.length : Int) != (l1.length : Int)) = true := bne_iff_ne.mpr c3
    have c3b2 : (l0.length == l1.length) = false := by first | simpa using c3 | (simp at c3 ⊢; omega)
    obtain rfl := Option.some.inj H
    go_enter Try.func26, Try.ntmps26
    go_wp2
    repeat (go_quiet (fail); try go_wp2)
    go_ret
    exact ⟨by first | rfl | (simp; done) | (simp [*]; done), by repeat (first | exact Drawn0.refl _ | apply Drawn0.step)⟩

/-! ### oxbowlaw09_live: function 17 -/
def oxbowlaw09_live.f (k : Nat)  : Option (Bool) := (some (([(⟨3, 1, (⟨#[]⟩ : ByteArray)⟩ : S36), (⟨2, 0, (⟨#[120]⟩ : ByteArray)⟩ : S36), (⟨3, 1, (⟨#[]⟩ : ByteArray)⟩ : S36), (⟨1, 1, (⟨#[]⟩ : ByteArray)⟩ : S36), (⟨1, 2, (⟨#[]⟩ : ByteArray)⟩ : S36)] : List (S36)) : List (S36))).bind fun y167 => ((delta_Normal.f k y167).bind fun bt170 => ((delta_Apply.f k (⟨#[97, 98, 99, 100, 101]⟩ : ByteArray) y167).bind fun bt174 => (if bt170.2 = 0 then ((oxbowref09_Same.f k bt170.1 (([(⟨2, 0, (⟨#[120]⟩ : ByteArray)⟩ : S36), (⟨3, 2, (⟨#[]⟩ : ByteArray)⟩ : S36), (⟨1, 3, (⟨#[]⟩ : ByteArray)⟩ : S36)] : List (S36)))).bind fun t179 => (if t179 = true then (if bt174.2 = 0 then (some (bt174.1.toList == ([120, 99, 100, 101] : List UInt8))) else (some false)) else (some false))) else (some false))))
theorem oxbowlaw09_live.mono : ∀ k, LeO (oxbowlaw09_live.f k ) (oxbowlaw09_live.f (k + 1) ) := by
  intro  k
  unfold oxbowlaw09_live.f
  repeat' first
      | (with_reducible exact delta_Apply.mono _ _ _)
      | (with_reducible exact delta_Normal.mono _ _)
      | (with_reducible exact oxbowref09_Same.mono _ _ _)
      | (with_reducible exact LeO.refl _)
      | (with_reducible exact LeO.none _)
      | (with_reducible refine LeO.ite ?_ ?_)
      | (with_reducible refine LeO.bind ?_ (fun _ => ?_))
      | exact delta_Apply.mono _ _ _
      | exact delta_Normal.mono _ _
      | exact oxbowref09_Same.mono _ _ _
      | exact LeO.none _
      | refine LeO.ite ?_ ?_
      | refine LeO.bind ?_ (fun _ => ?_)
set_option maxHeartbeats 8000000 in
set_option maxRecDepth 100000 in
theorem oxbowlaw09_live.calls (k : Nat)  (r : Bool) (w : World) (h : oxbowlaw09_live.f k  = some r) :
    Calls Try.prog 17 #[] w fun e w' => e = .returned (.bool r) ∧ Below w.heap.size w w' := by
  have hu36 := Try.underlying36
  have HB := Aside0.mk (Below.refl w.heap.size w)
  have H : ((some (([(⟨3, 1, (⟨#[]⟩ : ByteArray)⟩ : S36), (⟨2, 0, (⟨#[120]⟩ : ByteArray)⟩ : S36), (⟨3, 1, (⟨#[]⟩ : ByteArray)⟩ : S36), (⟨1, 1, (⟨#[]⟩ : ByteArray)⟩ : S36), (⟨1, 2, (⟨#[]⟩ : ByteArray)⟩ : S36)] : List (S36)) : List (S36))).bind fun y167 => ((delta_Normal.f k y167).bind fun bt170 => ((delta_Apply.f k (⟨#[97, 98, 99, 100, 101]⟩ : ByteArray) y167).bind fun bt174 => (if bt170.2 = 0 then ((oxbowref09_Same.f k bt170.1 (([(⟨2, 0, (⟨#[120]⟩ : ByteArray)⟩ : S36), (⟨3, 2, (⟨#[]⟩ : ByteArray)⟩ : S36), (⟨1, 3, (⟨#[]⟩ : ByteArray)⟩ : S36)] : List (S36)))).bind fun t179 => (if t179 = true then (if bt174.2 = 0 then (some (bt174.1.toList == ([120, 99, 100, 101] : List UInt8))) else (some false)) else (some false))) else (some false))))) = some r := h
  clear h
  obtain ⟨y167, hy167⟩ : ∃ y_ : List (S36), y_ = (([(⟨3, 1, (⟨#[]⟩ : ByteArray)⟩ : S36), (⟨2, 0, (⟨#[120]⟩ : ByteArray)⟩ : S36), (⟨3, 1, (⟨#[]⟩ : ByteArray)⟩ : S36), (⟨1, 1, (⟨#[]⟩ : ByteArray)⟩ : S36), (⟨1, 2, (⟨#[]⟩ : ByteArray)⟩ : S36)] : List (S36))) := ⟨_, rfl⟩
  replace H : ((delta_Normal.f k y167).bind fun bt170 => ((delta_Apply.f k (⟨#[97, 98, 99, 100, 101]⟩ : ByteArray) y167).bind fun bt174 => (if bt170.2 = 0 then ((oxbowref09_Same.f k bt170.1 (([(⟨2, 0, (⟨#[120]⟩ : ByteArray)⟩ : S36), (⟨3, 2, (⟨#[]⟩ : ByteArray)⟩ : S36), (⟨1, 3, (⟨#[]⟩ : ByteArray)⟩ : S36)] : List (S36)))).bind fun t179 => (if t179 = true then (if bt174.2 = 0 then (some (bt174.1.toList == ([120, 99, 100, 101] : List UInt8))) else (some false)) else (some false))) else (some false)))) = some r := by first | (rw [hy167]; with_reducible exact H) | (have H2_ := (Option.bind_some _ _).symm.trans H; rw [hy167]; with_reducible exact H2_) | (have H2_ := (Option.bind_some _ _).symm.trans H; with_reducible exact H2_) | with_reducible exact H | (rw [hy167]; exact H) | exact H
  have Ny167 := Aside0.mk hy167
  clear hy167
  replace H := Option.bind_eq_some_iff.mp H
  obtain ⟨⟨t170, t171⟩, A10, H⟩ := H
  replace H : ((delta_Apply.f k (⟨#[97, 98, 99, 100, 101]⟩ : ByteArray) y167).bind fun bt174 => (if t171 = 0 then ((oxbowref09_Same.f k t170 (([(⟨2, 0, (⟨#[120]⟩ : ByteArray)⟩ : S36), (⟨3, 2, (⟨#[]⟩ : ByteArray)⟩ : S36), (⟨1, 3, (⟨#[]⟩ : ByteArray)⟩ : S36)] : List (S36)))).bind fun t179 => (if t179 = true then (if bt174.2 = 0 then (some (bt174.1.toList == ([120, 99, 100, 101] : List UInt8))) else (some false)) else (some false))) else (some false))) = some r := H
  have A1 := Aside0.mk A10
  clear A10
  replace H := Option.bind_eq_some_iff.mp H
  obtain ⟨⟨t174, t175⟩, A20, H⟩ := H
  replace H : (if t171 = 0 then ((oxbowref09_Same.f k t170 (([(⟨2, 0, (⟨#[120]⟩ : ByteArray)⟩ : S36), (⟨3, 2, (⟨#[]⟩ : ByteArray)⟩ : S36), (⟨1, 3, (⟨#[]⟩ : ByteArray)⟩ : S36)] : List (S36)))).bind fun t179 => (if t179 = true then (if t175 = 0 then (some (t174.toList == ([120, 99, 100, 101] : List UInt8))) else (some false)) else (some false))) else (some false)) = some r := H
  have A2 := Aside0.mk A20
  clear A20
  by_cases c3 : t171 = 0
  · rw [if_pos c3] at H
    have c3b0 : (t171 == 0) = true := beq_iff_eq.mpr c3
    have c3b1 : (t171 != 0) = false := bne_eq_false_iff_eq.mpr c3
    clear c3
    obtain ⟨y176, hy176⟩ : ∃ y_ : List (S36), y_ = (([(⟨2, 0, (⟨#[120]⟩ : ByteArray)⟩ : S36), (⟨3, 2, (⟨#[]⟩ : ByteArray)⟩ : S36), (⟨1, 3, (⟨#[]⟩ : ByteArray)⟩ : S36)] : List (S36))) := ⟨_, rfl⟩
    replace H : ((oxbowref09_Same.f k t170 y176).bind fun t179 => (if t179 = true then (if t175 = 0 then (some (t174.toList == ([120, 99, 100, 101] : List UInt8))) else (some false)) else (some false))) = some r := by first | (rw [hy176]; with_reducible exact H) | (have H2_ := (Option.bind_some _ _).symm.trans H; rw [hy176]; with_reducible exact H2_) | (have H2_ := (Option.bind_some _ _).symm.trans H; with_reducible exact H2_) | with_reducible exact H | (rw [hy176]; exact H) | exact H
    have Ny176 := Aside0.mk hy176
    clear hy176
    replace H := Option.bind_eq_some_iff.mp H
    obtain ⟨t179, A40, H⟩ := H
    replace H : (if t179 = true then (if t175 = 0 then (some (t174.toList == ([120, 99, 100, 101] : List UInt8))) else (some false)) else (some false)) = some r := H
    have A4 := Aside0.mk A40
    clear A40
    by_cases c5 : t179 = true
    · subst c5
      have H1 : (if t175 = 0 then (some (t174.toList == ([120, 99, 100, 101] : List UInt8))) else (some false)) = some r := by rw [if_pos rfl] at H; exact H
      clear H
      have H := H1
      clear H1
      by_cases c6 : t175 = 0
      · rw [if_pos c6] at H
        have c6b0 : (t175 == 0) = true := beq_iff_eq.mpr c6
        have c6b1 : (t175 != 0) = false := bne_eq_false_iff_eq.mpr c6
        clear c6
        obtain rfl := Option.some.inj H
        go_enter Try.func17, Try.ntmps17
        go_wp2_with (first | ((with_reducible refine gate_dst (N := 11) rfl ?_); (try (refine gate_guard (by rfl) ?_; dsimp only)); refine Kd.R_lit k36 _ 36 ?hg (N := 11) ?hd (xs := ([(⟨3, 1, (⟨#[]⟩ : ByteArray)⟩ : S36), (⟨2, 0, (⟨#[120]⟩ : ByteArray)⟩ : S36), (⟨3, 1, (⟨#[]⟩ : ByteArray)⟩ : S36), (⟨1, 1, (⟨#[]⟩ : ByteArray)⟩ : S36), (⟨1, 2, (⟨#[]⟩ : ByteArray)⟩ : S36)] : List (S36))) (inner := [.int .i64 3, .int .i64 1, .string (⟨#[]⟩ : ByteArray), .int .i64 2, .int .i64 0, .string (⟨#[120]⟩ : ByteArray), .int .i64 3, .int .i64 1, .string (⟨#[]⟩ : ByteArray), .int .i64 1, .int .i64 1, .string (⟨#[]⟩ : ByteArray), .int .i64 1, .int .i64 2, .string (⟨#[]⟩ : ByteArray)]) (ok := fun _ => True) (okp := fun _ => True) ?hr ?hp (fun _ hk => hk) trivial (Below.refl _ _) (Nat.le_refl _) (by simp) ?_; (case hd => rfl); (case hg => rfl); (case hr => first | (go_simp; done) | (go_simp; rfl)); (case hp => exact (Reps.c3 (show Kd.M k36 _ _ _ (⟨3, 1, (⟨#[]⟩ : ByteArray)⟩ : S36) [.int .i64 3, .int .i64 1, .string (⟨#[]⟩ : ByteArray)] from (k36_mkM _ _ _ (⟨3, 1, (⟨#[]⟩ : ByteArray)⟩ : S36) )) (Reps.c3 (show Kd.M k36 _ _ _ (⟨2, 0, (⟨#[120]⟩ : ByteArray)⟩ : S36) [.int .i64 2, .int .i64 0, .string (⟨#[120]⟩ : ByteArray)] from (k36_mkM _ _ _ (⟨2, 0, (⟨#[120]⟩ : ByteArray)⟩ : S36) )) (Reps.c3 (show Kd.M k36 _ _ _ (⟨3, 1, (⟨#[]⟩ : ByteArray)⟩ : S36) [.int .i64 3, .int .i64 1, .string (⟨#[]⟩ : ByteArray)] from (k36_mkM _ _ _ (⟨3, 1, (⟨#[]⟩ : ByteArray)⟩ : S36) )) (Reps.c3 (show Kd.M k36 _ _ _ (⟨1, 1, (⟨#[]⟩ : ByteArray)⟩ : S36) [.int .i64 1, .int .i64 1, .string (⟨#[]⟩ : ByteArray)] from (k36_mkM _ _ _ (⟨1, 1, (⟨#[]⟩ : ByteArray)⟩ : S36) )) (Reps.c3 (show Kd.M k36 _ _ _ (⟨1, 2, (⟨#[]⟩ : ByteArray)⟩ : S36) [.int .i64 1, .int .i64 2, .string (⟨#[]⟩ : ByteArray)] from (k36_mkM _ _ _ (⟨1, 2, (⟨#[]⟩ : ByteArray)⟩ : S36) )) (Reps.none _ _))))))); intro v168 w7 ho8 hb hg_ hnew_; clear hg_ hnew_; (first | rw [← Ny167.out] at ho8 | (simp only [Int.reduceToNat] at ho8; rw [← Ny167.out] at ho8)); have n0_ := Aside0.mk (Kd.R_lower ho8 (below_size (by repeat (first | (with_reducible first | exact HB.out | apply below_alloc | apply pw_below_drewN | apply below_drew1) | exact HB.out)))); have n1_ := Aside0.mk (below_step (by repeat (first | (with_reducible first | exact HB.out | apply below_alloc | apply pw_below_drewN | apply below_drew1) | exact HB.out)) hb); clear HB; have HO169 := n0_; have HB := n1_; clear n0_ n1_; clear hb ho8; obtain ⟨Ao9, co9, eo9⟩ := Kd.R_slice HO169.out; subst eo9) | ((with_reducible refine gate_callee (f := 21) rfl ?_); refine goesL_ (some 14) rfl rfl Try.func21 (by kernel_rfl) rfl #[.slice Ao9 y167.length co9] rfl (by (try simp only [List.map_toArray, List.map_cons, List.map_nil]); first | done | rfl | (simp only [List.length_drop, List.length_take]; rfl)) ?_; (with_reducible refine (delta_Normal.calls k _ _ y167 t170 t171 _ ?side1 ?side2 A1.out).mono ?_); (case side1 => repeat (first | exact (Kd.R_reads' HO169.out).2.2 | (with_reducible refine Kd.C_alloc ?_ _) | (with_reducible refine Kd.C_drewN ?_ _) | (with_reducible refine Kd.C_drew ?_))); (case side2 => exact (Kd.R_reads' HO169.out).2.1); rintro e w10 ⟨v172, rfl, ho0, hb⟩; refine ⟨_, rfl, ?_⟩; have n0_ := Aside0.mk (Kd.R_elder' (by (with_reducible repeat (first | apply Kd.R_alloc | apply Kd.R_drewN | apply Kd.R_drew)); exact HO169.out) (Kd.R_base ho0) hb); have n1_ := Aside0.mk (Kd.R_lower (Kd.R_new' ho0 (Kd.R_lt (by (with_reducible repeat (first | apply Kd.R_alloc | apply Kd.R_drewN | apply Kd.R_drew)); exact HO169.out))) (below_size (by repeat (first | (with_reducible first | exact HB.out | apply below_alloc | apply pw_below_drewN | apply below_drew1) | exact HB.out)))); have n2_ := Aside0.mk (below_step (by repeat (first | (with_reducible first | exact HB.out | apply below_alloc | apply pw_below_drewN | apply below_drew1) | exact HB.out)) hb); clear HO169; clear HB; have HO169 := n0_; have HO173 := n1_; have HB := n2_; clear n0_ n1_ n2_; (try clear hb); (try clear hb2); (try clear hk); (try clear hi); (try clear ho0)) | ((with_reducible refine gate_callee (f := 14) rfl ?_); refine goesL_ (some 19) rfl rfl Try.func14 (by kernel_rfl) rfl #[.string (⟨#[97, 98, 99, 100, 101]⟩ : ByteArray), .slice Ao9 y167.length co9] rfl (by (try simp only [List.map_toArray, List.map_cons, List.map_nil]); first | done | rfl | (simp only [List.length_drop, List.length_take]; rfl)) ?_; (with_reducible refine (delta_Apply.calls k (⟨#[97, 98, 99, 100, 101]⟩ : ByteArray) _ _ y167 t174 t175 _ ?side1 ?side2 A2.out).mono ?_); (case side1 => repeat (first | exact (Kd.R_reads' HO169.out).2.2 | (with_reducible refine Kd.C_alloc ?_ _) | (with_reducible refine Kd.C_drewN ?_ _) | (with_reducible refine Kd.C_drew ?_))); (case side2 => exact (Kd.R_reads' HO169.out).2.1); rintro e w11 ⟨rfl, hb⟩; refine ⟨_, rfl, ?_⟩; have n0_ := Aside0.mk (Kd.R_below (by (with_reducible repeat (first | apply Kd.R_alloc | apply Kd.R_drewN | apply Kd.R_drew)); exact HO169.out) hb); have n1_ := Aside0.mk (Kd.R_below (by (with_reducible repeat (first | apply Kd.R_alloc | apply Kd.R_drewN | apply Kd.R_drew)); exact HO173.out) hb); have n2_ := Aside0.mk (below_step (by repeat (first | (with_reducible first | exact HB.out | apply below_alloc | apply pw_below_drewN | apply below_drew1) | exact HB.out)) hb); clear HO169; clear HO173; clear HB; have HO169 := n0_; have HO173 := n1_; have HB := n2_; clear n0_ n1_ n2_; (try clear hb); (try clear hb2); (try clear hk); (try clear hi)) | ((with_reducible refine gate_dst (N := 29) rfl ?_); (try (refine gate_guard (by rfl) ?_; dsimp only)); refine Kd.R_lit k36 _ 36 ?hg (N := 29) ?hd (xs := ([(⟨2, 0, (⟨#[120]⟩ : ByteArray)⟩ : S36), (⟨3, 2, (⟨#[]⟩ : ByteArray)⟩ : S36), (⟨1, 3, (⟨#[]⟩ : ByteArray)⟩ : S36)] : List (S36))) (inner := [.int .i64 2, .int .i64 0, .string (⟨#[120]⟩ : ByteArray), .int .i64 3, .int .i64 2, .string (⟨#[]⟩ : ByteArray), .int .i64 1, .int .i64 3, .string (⟨#[]⟩ : ByteArray)]) (ok := fun _ => True) (okp := fun _ => True) ?hr ?hp (fun _ hk => hk) trivial (Below.refl _ _) (Nat.le_refl _) (by simp) ?_; (case hd => rfl); (case hg => rfl); (case hr => first | (go_simp; done) | (go_simp; rfl)); (case hp => exact (Reps.c3 (show Kd.M k36 _ _ _ (⟨2, 0, (⟨#[120]⟩ : ByteArray)⟩ : S36) [.int .i64 2, .int .i64 0, .string (⟨#[120]⟩ : ByteArray)] from (k36_mkM _ _ _ (⟨2, 0, (⟨#[120]⟩ : ByteArray)⟩ : S36) )) (Reps.c3 (show Kd.M k36 _ _ _ (⟨3, 2, (⟨#[]⟩ : ByteArray)⟩ : S36) [.int .i64 3, .int .i64 2, .string (⟨#[]⟩ : ByteArray)] from (k36_mkM _ _ _ (⟨3, 2, (⟨#[]⟩ : ByteArray)⟩ : S36) )) (Reps.c3 (show Kd.M k36 _ _ _ (⟨1, 3, (⟨#[]⟩ : ByteArray)⟩ : S36) [.int .i64 1, .int .i64 3, .string (⟨#[]⟩ : ByteArray)] from (k36_mkM _ _ _ (⟨1, 3, (⟨#[]⟩ : ByteArray)⟩ : S36) )) (Reps.none _ _))))); intro v177 w12 ho13 hb hg_ hnew_; clear hg_ hnew_; (first | rw [← Ny176.out] at ho13 | (simp only [Int.reduceToNat] at ho13; rw [← Ny176.out] at ho13)); have n0_ := Aside0.mk (Kd.R_elder' (by (with_reducible repeat (first | apply Kd.R_alloc | apply Kd.R_drewN | apply Kd.R_drew)); exact HO169.out) (Kd.R_base ho13) hb); have n1_ := Aside0.mk (Kd.R_elder' (by (with_reducible repeat (first | apply Kd.R_alloc | apply Kd.R_drewN | apply Kd.R_drew)); exact HO173.out) (Kd.R_base ho13) hb); have n2_ := Aside0.mk (Kd.R_lower (Kd.R_new' (Kd.R_new' ho13 (Kd.R_lt (by (with_reducible repeat (first | apply Kd.R_alloc | apply Kd.R_drewN | apply Kd.R_drew)); exact HO169.out))) (Kd.R_lt (by (with_reducible repeat (first | apply Kd.R_alloc | apply Kd.R_drewN | apply Kd.R_drew)); exact HO173.out))) (below_size (by repeat (first | (with_reducible first | exact HB.out | apply below_alloc | apply pw_below_drewN | apply below_drew1) | exact HB.out)))); have n3_ := Aside0.mk (below_step (by repeat (first | (with_reducible first | exact HB.out | apply below_alloc | apply pw_below_drewN | apply below_drew1) | exact HB.out)) hb); clear HO169; clear HO173; clear HB; have HO169 := n0_; have HO173 := n1_; have HO178 := n2_; have HB := n3_; clear n0_ n1_ n2_ n3_; clear hb ho13; obtain ⟨Ao14, co14, eo14⟩ := Kd.R_slice HO173.out; subst eo14; obtain ⟨Ao15, co15, eo15⟩ := Kd.R_slice HO178.out; subst eo15) | (go_at_call 26; (with_reducible refine (oxbowref09_Same.calls k _ _ t170 _ _ y176 true _ ?side1 ?side2 ?side3 ?side4 A4.out).mono ?_); (case side1 => repeat (first | exact (Kd.R_reads' HO173.out).2.2 | (with_reducible refine Kd.C_alloc ?_ _) | (with_reducible refine Kd.C_drewN ?_ _) | (with_reducible refine Kd.C_drew ?_))); (case side2 => exact (Kd.R_reads' HO173.out).2.1); (case side3 => repeat (first | exact (Kd.R_reads' HO178.out).2.2 | (with_reducible refine Kd.C_alloc ?_ _) | (with_reducible refine Kd.C_drewN ?_ _) | (with_reducible refine Kd.C_drew ?_))); (case side4 => exact (Kd.R_reads' HO178.out).2.1); rintro e w' ⟨rfl, ⟨nd, rfl⟩⟩))
        go_ret
        exact ⟨by first | rfl | (simp [errW_none, errW_some] <;> rfl) | (simp [*, errW_none, errW_some] <;> rfl), by repeat (first | (with_reducible first | exact HB.out | apply below_alloc | apply pw_below_drewN | apply below_drew1) | exact HB.out)⟩
      · rw [if_neg c6] at H
        have c6b0 : (t175 == 0) = false := beq_eq_false_iff_ne.mpr c6
        have c6b1 : (t175 != 0) = true := bne_iff_ne.mpr c6
        obtain rfl := Option.some.inj H
        go_enter Try.func17, Try.ntmps17
        go_wp2_with (first | ((with_reducible refine gate_dst (N := 11) rfl ?_); (try (refine gate_guard (by rfl) ?_; dsimp only)); refine Kd.R_lit k36 _ 36 ?hg (N := 11) ?hd (xs := ([(⟨3, 1, (⟨#[]⟩ : ByteArray)⟩ : S36), (⟨2, 0, (⟨#[120]⟩ : ByteArray)⟩ : S36), (⟨3, 1, (⟨#[]⟩ : ByteArray)⟩ : S36), (⟨1, 1, (⟨#[]⟩ : ByteArray)⟩ : S36), (⟨1, 2, (⟨#[]⟩ : ByteArray)⟩ : S36)] : List (S36))) (inner := [.int .i64 3, .int .i64 1, .string (⟨#[]⟩ : ByteArray), .int .i64 2, .int .i64 0, .string (⟨#[120]⟩ : ByteArray), .int .i64 3, .int .i64 1, .string (⟨#[]⟩ : ByteArray), .int .i64 1, .int .i64 1, .string (⟨#[]⟩ : ByteArray), .int .i64 1, .int .i64 2, .string (⟨#[]⟩ : ByteArray)]) (ok := fun _ => True) (okp := fun _ => True) ?hr ?hp (fun _ hk => hk) trivial (Below.refl _ _) (Nat.le_refl _) (by simp) ?_; (case hd => rfl); (case hg => rfl); (case hr => first | (go_simp; done) | (go_simp; rfl)); (case hp => exact (Reps.c3 (show Kd.M k36 _ _ _ (⟨3, 1, (⟨#[]⟩ : ByteArray)⟩ : S36) [.int .i64 3, .int .i64 1, .string (⟨#[]⟩ : ByteArray)] from (k36_mkM _ _ _ (⟨3, 1, (⟨#[]⟩ : ByteArray)⟩ : S36) )) (Reps.c3 (show Kd.M k36 _ _ _ (⟨2, 0, (⟨#[120]⟩ : ByteArray)⟩ : S36) [.int .i64 2, .int .i64 0, .string (⟨#[120]⟩ : ByteArray)] from (k36_mkM _ _ _ (⟨2, 0, (⟨#[120]⟩ : ByteArray)⟩ : S36) )) (Reps.c3 (show Kd.M k36 _ _ _ (⟨3, 1, (⟨#[]⟩ : ByteArray)⟩ : S36) [.int .i64 3, .int .i64 1, .string (⟨#[]⟩ : ByteArray)] from (k36_mkM _ _ _ (⟨3, 1, (⟨#[]⟩ : ByteArray)⟩ : S36) )) (Reps.c3 (show Kd.M k36 _ _ _ (⟨1, 1, (⟨#[]⟩ : ByteArray)⟩ : S36) [.int .i64 1, .int .i64 1, .string (⟨#[]⟩ : ByteArray)] from (k36_mkM _ _ _ (⟨1, 1, (⟨#[]⟩ : ByteArray)⟩ : S36) )) (Reps.c3 (show Kd.M k36 _ _ _ (⟨1, 2, (⟨#[]⟩ : ByteArray)⟩ : S36) [.int .i64 1, .int .i64 2, .string (⟨#[]⟩ : ByteArray)] from (k36_mkM _ _ _ (⟨1, 2, (⟨#[]⟩ : ByteArray)⟩ : S36) )) (Reps.none _ _))))))); intro v168 w16 ho17 hb hg_ hnew_; clear hg_ hnew_; (first | rw [← Ny167.out] at ho17 | (simp only [Int.reduceToNat] at ho17; rw [← Ny167.out] at ho17)); have n0_ := Aside0.mk (Kd.R_lower ho17 (below_size (by repeat (first | (with_reducible first | exact HB.out | apply below_alloc | apply pw_below_drewN | apply below_drew1) | exact HB.out)))); have n1_ := Aside0.mk (below_step (by repeat (first | (with_reducible first | exact HB.out | apply below_alloc | apply pw_below_drewN | apply below_drew1) | exact HB.out)) hb); clear HB; have HO169 := n0_; have HB := n1_; clear n0_ n1_; clear hb ho17; obtain ⟨Ao18, co18, eo18⟩ := Kd.R_slice HO169.out; subst eo18) | ((with_reducible refine gate_callee (f := 21) rfl ?_); refine goesL_ (some 14) rfl rfl Try.func21 (by kernel_rfl) rfl #[.slice Ao18 y167.length co18] rfl (by (try simp only [List.map_toArray, List.map_cons, List.map_nil]); first | done | rfl | (simp only [List.length_drop, List.length_take]; rfl)) ?_; (with_reducible refine (delta_Normal.calls k _ _ y167 t170 t171 _ ?side1 ?side2 A1.out).mono ?_); (case side1 => repeat (first | exact (Kd.R_reads' HO169.out).2.2 | (with_reducible refine Kd.C_alloc ?_ _) | (with_reducible refine Kd.C_drewN ?_ _) | (with_reducible refine Kd.C_drew ?_))); (case side2 => exact (Kd.R_reads' HO169.out).2.1); rintro e w19 ⟨v172, rfl, ho0, hb⟩; refine ⟨_, rfl, ?_⟩; have n0_ := Aside0.mk (Kd.R_elder' (by (with_reducible repeat (first | apply Kd.R_alloc | apply Kd.R_drewN | apply Kd.R_drew)); exact HO169.out) (Kd.R_base ho0) hb); have n1_ := Aside0.mk (Kd.R_lower (Kd.R_new' ho0 (Kd.R_lt (by (with_reducible repeat (first | apply Kd.R_alloc | apply Kd.R_drewN | apply Kd.R_drew)); exact HO169.out))) (below_size (by repeat (first | (with_reducible first | exact HB.out | apply below_alloc | apply pw_below_drewN | apply below_drew1) | exact HB.out)))); have n2_ := Aside0.mk (below_step (by repeat (first | (with_reducible first | exact HB.out | apply below_alloc | apply pw_below_drewN | apply below_drew1) | exact HB.out)) hb); clear HO169; clear HB; have HO169 := n0_; have HO173 := n1_; have HB := n2_; clear n0_ n1_ n2_; (try clear hb); (try clear hb2); (try clear hk); (try clear hi); (try clear ho0)) | ((with_reducible refine gate_callee (f := 14) rfl ?_); refine goesL_ (some 19) rfl rfl Try.func14 (by kernel_rfl) rfl #[.string (⟨#[97, 98, 99, 100, 101]⟩ : ByteArray), .slice Ao18 y167.length co18] rfl (by (try simp only [List.map_toArray, List.map_cons, List.map_nil]); first | done | rfl | (simp only [List.length_drop, List.length_take]; rfl)) ?_; (with_reducible refine (delta_Apply.calls k (⟨#[97, 98, 99, 100, 101]⟩ : ByteArray) _ _ y167 t174 t175 _ ?side1 ?side2 A2.out).mono ?_); (case side1 => repeat (first | exact (Kd.R_reads' HO169.out).2.2 | (with_reducible refine Kd.C_alloc ?_ _) | (with_reducible refine Kd.C_drewN ?_ _) | (with_reducible refine Kd.C_drew ?_))); (case side2 => exact (Kd.R_reads' HO169.out).2.1); rintro e w20 ⟨rfl, hb⟩; refine ⟨_, rfl, ?_⟩; have n0_ := Aside0.mk (Kd.R_below (by (with_reducible repeat (first | apply Kd.R_alloc | apply Kd.R_drewN | apply Kd.R_drew)); exact HO169.out) hb); have n1_ := Aside0.mk (Kd.R_below (by (with_reducible repeat (first | apply Kd.R_alloc | apply Kd.R_drewN | apply Kd.R_drew)); exact HO173.out) hb); have n2_ := Aside0.mk (below_step (by repeat (first | (with_reducible first | exact HB.out | apply below_alloc | apply pw_below_drewN | apply below_drew1) | exact HB.out)) hb); clear HO169; clear HO173; clear HB; have HO169 := n0_; have HO173 := n1_; have HB := n2_; clear n0_ n1_ n2_; (try clear hb); (try clear hb2); (try clear hk); (try clear hi)) | ((with_reducible refine gate_dst (N := 29) rfl ?_); (try (refine gate_guard (by rfl) ?_; dsimp only)); refine Kd.R_lit k36 _ 36 ?hg (N := 29) ?hd (xs := ([(⟨2, 0, (⟨#[120]⟩ : ByteArray)⟩ : S36), (⟨3, 2, (⟨#[]⟩ : ByteArray)⟩ : S36), (⟨1, 3, (⟨#[]⟩ : ByteArray)⟩ : S36)] : List (S36))) (inner := [.int .i64 2, .int .i64 0, .string (⟨#[120]⟩ : ByteArray), .int .i64 3, .int .i64 2, .string (⟨#[]⟩ : ByteArray), .int .i64 1, .int .i64 3, .string (⟨#[]⟩ : ByteArray)]) (ok := fun _ => True) (okp := fun _ => True) ?hr ?hp (fun _ hk => hk) trivial (Below.refl _ _) (Nat.le_refl _) (by simp) ?_; (case hd => rfl); (case hg => rfl); (case hr => first | (go_simp; done) | (go_simp; rfl)); (case hp => exact (Reps.c3 (show Kd.M k36 _ _ _ (⟨2, 0, (⟨#[120]⟩ : ByteArray)⟩ : S36) [.int .i64 2, .int .i64 0, .string (⟨#[120]⟩ : ByteArray)] from (k36_mkM _ _ _ (⟨2, 0, (⟨#[120]⟩ : ByteArray)⟩ : S36) )) (Reps.c3 (show Kd.M k36 _ _ _ (⟨3, 2, (⟨#[]⟩ : ByteArray)⟩ : S36) [.int .i64 3, .int .i64 2, .string (⟨#[]⟩ : ByteArray)] from (k36_mkM _ _ _ (⟨3, 2, (⟨#[]⟩ : ByteArray)⟩ : S36) )) (Reps.c3 (show Kd.M k36 _ _ _ (⟨1, 3, (⟨#[]⟩ : ByteArray)⟩ : S36) [.int .i64 1, .int .i64 3, .string (⟨#[]⟩ : ByteArray)] from (k36_mkM _ _ _ (⟨1, 3, (⟨#[]⟩ : ByteArray)⟩ : S36) )) (Reps.none _ _))))); intro v177 w21 ho22 hb hg_ hnew_; clear hg_ hnew_; (first | rw [← Ny176.out] at ho22 | (simp only [Int.reduceToNat] at ho22; rw [← Ny176.out] at ho22)); have n0_ := Aside0.mk (Kd.R_elder' (by (with_reducible repeat (first | apply Kd.R_alloc | apply Kd.R_drewN | apply Kd.R_drew)); exact HO169.out) (Kd.R_base ho22) hb); have n1_ := Aside0.mk (Kd.R_elder' (by (with_reducible repeat (first | apply Kd.R_alloc | apply Kd.R_drewN | apply Kd.R_drew)); exact HO173.out) (Kd.R_base ho22) hb); have n2_ := Aside0.mk (Kd.R_lower (Kd.R_new' (Kd.R_new' ho22 (Kd.R_lt (by (with_reducible repeat (first | apply Kd.R_alloc | apply Kd.R_drewN | apply Kd.R_drew)); exact HO169.out))) (Kd.R_lt (by (with_reducible repeat (first | apply Kd.R_alloc | apply Kd.R_drewN | apply Kd.R_drew)); exact HO173.out))) (below_size (by repeat (first | (with_reducible first | exact HB.out | apply below_alloc | apply pw_below_drewN | apply below_drew1) | exact HB.out)))); have n3_ := Aside0.mk (below_step (by repeat (first | (with_reducible first | exact HB.out | apply below_alloc | apply pw_below_drewN | apply below_drew1) | exact HB.out)) hb); clear HO169; clear HO173; clear HB; have HO169 := n0_; have HO173 := n1_; have HO178 := n2_; have HB := n3_; clear n0_ n1_ n2_ n3_; clear hb ho22; obtain ⟨Ao23, co23, eo23⟩ := Kd.R_slice HO173.out; subst eo23; obtain ⟨Ao24, co24, eo24⟩ := Kd.R_slice HO178.out; subst eo24) | (go_at_call 26; (with_reducible refine (oxbowref09_Same.calls k _ _ t170 _ _ y176 true _ ?side1 ?side2 ?side3 ?side4 A4.out).mono ?_); (case side1 => repeat (first | exact (Kd.R_reads' HO173.out).2.2 | (with_reducible refine Kd.C_alloc ?_ _) | (with_reducible refine Kd.C_drewN ?_ _) | (with_reducible refine Kd.C_drew ?_))); (case side2 => exact (Kd.R_reads' HO173.out).2.1); (case side3 => repeat (first | exact (Kd.R_reads' HO178.out).2.2 | (with_reducible refine Kd.C_alloc ?_ _) | (with_reducible refine Kd.C_drewN ?_ _) | (with_reducible refine Kd.C_drew ?_))); (case side4 => exact (Kd.R_reads' HO178.out).2.1); rintro e w' ⟨rfl, ⟨nd, rfl⟩⟩))
        go_ret
        exact ⟨by first | rfl | (simp [errW_none, errW_some] <;> rfl) | (simp [*, errW_none, errW_some] <;> rfl), by repeat (first | (with_reducible first | exact HB.out | apply below_alloc | apply pw_below_drewN | apply below_drew1) | exact HB.out)⟩
    · replace c5 := Bool.eq_false_iff.mpr c5
      subst c5
      have H1 : (some false) = some r := by rw [if_neg (show ¬ (false = true) by decide)] at H; exact H
      clear H
      have H := H1
      clear H1
      obtain rfl := Option.some.inj H
      go_enter Try.func17, Try.ntmps17
      go_wp2_with (first | ((with_reducible refine gate_dst (N := 11) rfl ?_); (try (refine gate_guard (by rfl) ?_; dsimp only)); refine Kd.R_lit k36 _ 36 ?hg (N := 11) ?hd (xs := ([(⟨3, 1, (⟨#[]⟩ : ByteArray)⟩ : S36), (⟨2, 0, (⟨#[120]⟩ : ByteArray)⟩ : S36), (⟨3, 1, (⟨#[]⟩ : ByteArray)⟩ : S36), (⟨1, 1, (⟨#[]⟩ : ByteArray)⟩ : S36), (⟨1, 2, (⟨#[]⟩ : ByteArray)⟩ : S36)] : List (S36))) (inner := [.int .i64 3, .int .i64 1, .string (⟨#[]⟩ : ByteArray), .int .i64 2, .int .i64 0, .string (⟨#[120]⟩ : ByteArray), .int .i64 3, .int .i64 1, .string (⟨#[]⟩ : ByteArray), .int .i64 1, .int .i64 1, .string (⟨#[]⟩ : ByteArray), .int .i64 1, .int .i64 2, .string (⟨#[]⟩ : ByteArray)]) (ok := fun _ => True) (okp := fun _ => True) ?hr ?hp (fun _ hk => hk) trivial (Below.refl _ _) (Nat.le_refl _) (by simp) ?_; (case hd => rfl); (case hg => rfl); (case hr => first | (go_simp; done) | (go_simp; rfl)); (case hp => exact (Reps.c3 (show Kd.M k36 _ _ _ (⟨3, 1, (⟨#[]⟩ : ByteArray)⟩ : S36) [.int .i64 3, .int .i64 1, .string (⟨#[]⟩ : ByteArray)] from (k36_mkM _ _ _ (⟨3, 1, (⟨#[]⟩ : ByteArray)⟩ : S36) )) (Reps.c3 (show Kd.M k36 _ _ _ (⟨2, 0, (⟨#[120]⟩ : ByteArray)⟩ : S36) [.int .i64 2, .int .i64 0, .string (⟨#[120]⟩ : ByteArray)] from (k36_mkM _ _ _ (⟨2, 0, (⟨#[120]⟩ : ByteArray)⟩ : S36) )) (Reps.c3 (show Kd.M k36 _ _ _ (⟨3, 1, (⟨#[]⟩ : ByteArray)⟩ : S36) [.int .i64 3, .int .i64 1, .string (⟨#[]⟩ : ByteArray)] from (k36_mkM _ _ _ (⟨3, 1, (⟨#[]⟩ : ByteArray)⟩ : S36) )) (Reps.c3 (show Kd.M k36 _ _ _ (⟨1, 1, (⟨#[]⟩ : ByteArray)⟩ : S36) [.int .i64 1, .int .i64 1, .string (⟨#[]⟩ : ByteArray)] from (k36_mkM _ _ _ (⟨1, 1, (⟨#[]⟩ : ByteArray)⟩ : S36) )) (Reps.c3 (show Kd.M k36 _ _ _ (⟨1, 2, (⟨#[]⟩ : ByteArray)⟩ : S36) [.int .i64 1, .int .i64 2, .string (⟨#[]⟩ : ByteArray)] from (k36_mkM _ _ _ (⟨1, 2, (⟨#[]⟩ : ByteArray)⟩ : S36) )) (Reps.none _ _))))))); intro v168 w25 ho26 hb hg_ hnew_; clear hg_ hnew_; (first | rw [← Ny167.out] at ho26 | (simp only [Int.reduceToNat] at ho26; rw [← Ny167.out] at ho26)); have n0_ := Aside0.mk (Kd.R_lower ho26 (below_size (by repeat (first | (with_reducible first | exact HB.out | apply below_alloc | apply pw_below_drewN | apply below_drew1) | exact HB.out)))); have n1_ := Aside0.mk (below_step (by repeat (first | (with_reducible first | exact HB.out | apply below_alloc | apply pw_below_drewN | apply below_drew1) | exact HB.out)) hb); clear HB; have HO169 := n0_; have HB := n1_; clear n0_ n1_; clear hb ho26; obtain ⟨Ao27, co27, eo27⟩ := Kd.R_slice HO169.out; subst eo27) | ((with_reducible refine gate_callee (f := 21) rfl ?_); refine goesL_ (some 14) rfl rfl Try.func21 (by kernel_rfl) rfl #[.slice Ao27 y167.length co27] rfl (by (try simp only [List.map_toArray, List.map_cons, List.map_nil]); first | done | rfl | (simp only [List.length_drop, List.length_take]; rfl)) ?_; (with_reducible refine (delta_Normal.calls k _ _ y167 t170 t171 _ ?side1 ?side2 A1.out).mono ?_); (case side1 => repeat (first | exact (Kd.R_reads' HO169.out).2.2 | (with_reducible refine Kd.C_alloc ?_ _) | (with_reducible refine Kd.C_drewN ?_ _) | (with_reducible refine Kd.C_drew ?_))); (case side2 => exact (Kd.R_reads' HO169.out).2.1); rintro e w28 ⟨v172, rfl, ho0, hb⟩; refine ⟨_, rfl, ?_⟩; have n0_ := Aside0.mk (Kd.R_elder' (by (with_reducible repeat (first | apply Kd.R_alloc | apply Kd.R_drewN | apply Kd.R_drew)); exact HO169.out) (Kd.R_base ho0) hb); have n1_ := Aside0.mk (Kd.R_lower (Kd.R_new' ho0 (Kd.R_lt (by (with_reducible repeat (first | apply Kd.R_alloc | apply Kd.R_drewN | apply Kd.R_drew)); exact HO169.out))) (below_size (by repeat (first | (with_reducible first | exact HB.out | apply below_alloc | apply pw_below_drewN | apply below_drew1) | exact HB.out)))); have n2_ := Aside0.mk (below_step (by repeat (first | (with_reducible first | exact HB.out | apply below_alloc | apply pw_below_drewN | apply below_drew1) | exact HB.out)) hb); clear HO169; clear HB; have HO169 := n0_; have HO173 := n1_; have HB := n2_; clear n0_ n1_ n2_; (try clear hb); (try clear hb2); (try clear hk); (try clear hi); (try clear ho0)) | ((with_reducible refine gate_callee (f := 14) rfl ?_); refine goesL_ (some 19) rfl rfl Try.func14 (by kernel_rfl) rfl #[.string (⟨#[97, 98, 99, 100, 101]⟩ : ByteArray), .slice Ao27 y167.length co27] rfl (by (try simp only [List.map_toArray, List.map_cons, List.map_nil]); first | done | rfl | (simp only [List.length_drop, List.length_take]; rfl)) ?_; (with_reducible refine (delta_Apply.calls k (⟨#[97, 98, 99, 100, 101]⟩ : ByteArray) _ _ y167 t174 t175 _ ?side1 ?side2 A2.out).mono ?_); (case side1 => repeat (first | exact (Kd.R_reads' HO169.out).2.2 | (with_reducible refine Kd.C_alloc ?_ _) | (with_reducible refine Kd.C_drewN ?_ _) | (with_reducible refine Kd.C_drew ?_))); (case side2 => exact (Kd.R_reads' HO169.out).2.1); rintro e w29 ⟨rfl, hb⟩; refine ⟨_, rfl, ?_⟩; have n0_ := Aside0.mk (Kd.R_below (by (with_reducible repeat (first | apply Kd.R_alloc | apply Kd.R_drewN | apply Kd.R_drew)); exact HO169.out) hb); have n1_ := Aside0.mk (Kd.R_below (by (with_reducible repeat (first | apply Kd.R_alloc | apply Kd.R_drewN | apply Kd.R_drew)); exact HO173.out) hb); have n2_ := Aside0.mk (below_step (by repeat (first | (with_reducible first | exact HB.out | apply below_alloc | apply pw_below_drewN | apply below_drew1) | exact HB.out)) hb); clear HO169; clear HO173; clear HB; have HO169 := n0_; have HO173 := n1_; have HB := n2_; clear n0_ n1_ n2_; (try clear hb); (try clear hb2); (try clear hk); (try clear hi)) | ((with_reducible refine gate_dst (N := 29) rfl ?_); (try (refine gate_guard (by rfl) ?_; dsimp only)); refine Kd.R_lit k36 _ 36 ?hg (N := 29) ?hd (xs := ([(⟨2, 0, (⟨#[120]⟩ : ByteArray)⟩ : S36), (⟨3, 2, (⟨#[]⟩ : ByteArray)⟩ : S36), (⟨1, 3, (⟨#[]⟩ : ByteArray)⟩ : S36)] : List (S36))) (inner := [.int .i64 2, .int .i64 0, .string (⟨#[120]⟩ : ByteArray), .int .i64 3, .int .i64 2, .string (⟨#[]⟩ : ByteArray), .int .i64 1, .int .i64 3, .string (⟨#[]⟩ : ByteArray)]) (ok := fun _ => True) (okp := fun _ => True) ?hr ?hp (fun _ hk => hk) trivial (Below.refl _ _) (Nat.le_refl _) (by simp) ?_; (case hd => rfl); (case hg => rfl); (case hr => first | (go_simp; done) | (go_simp; rfl)); (case hp => exact (Reps.c3 (show Kd.M k36 _ _ _ (⟨2, 0, (⟨#[120]⟩ : ByteArray)⟩ : S36) [.int .i64 2, .int .i64 0, .string (⟨#[120]⟩ : ByteArray)] from (k36_mkM _ _ _ (⟨2, 0, (⟨#[120]⟩ : ByteArray)⟩ : S36) )) (Reps.c3 (show Kd.M k36 _ _ _ (⟨3, 2, (⟨#[]⟩ : ByteArray)⟩ : S36) [.int .i64 3, .int .i64 2, .string (⟨#[]⟩ : ByteArray)] from (k36_mkM _ _ _ (⟨3, 2, (⟨#[]⟩ : ByteArray)⟩ : S36) )) (Reps.c3 (show Kd.M k36 _ _ _ (⟨1, 3, (⟨#[]⟩ : ByteArray)⟩ : S36) [.int .i64 1, .int .i64 3, .string (⟨#[]⟩ : ByteArray)] from (k36_mkM _ _ _ (⟨1, 3, (⟨#[]⟩ : ByteArray)⟩ : S36) )) (Reps.none _ _))))); intro v177 w30 ho31 hb hg_ hnew_; clear hg_ hnew_; (first | rw [← Ny176.out] at ho31 | (simp only [Int.reduceToNat] at ho31; rw [← Ny176.out] at ho31)); have n0_ := Aside0.mk (Kd.R_elder' (by (with_reducible repeat (first | apply Kd.R_alloc | apply Kd.R_drewN | apply Kd.R_drew)); exact HO169.out) (Kd.R_base ho31) hb); have n1_ := Aside0.mk (Kd.R_elder' (by (with_reducible repeat (first | apply Kd.R_alloc | apply Kd.R_drewN | apply Kd.R_drew)); exact HO173.out) (Kd.R_base ho31) hb); have n2_ := Aside0.mk (Kd.R_lower (Kd.R_new' (Kd.R_new' ho31 (Kd.R_lt (by (with_reducible repeat (first | apply Kd.R_alloc | apply Kd.R_drewN | apply Kd.R_drew)); exact HO169.out))) (Kd.R_lt (by (with_reducible repeat (first | apply Kd.R_alloc | apply Kd.R_drewN | apply Kd.R_drew)); exact HO173.out))) (below_size (by repeat (first | (with_reducible first | exact HB.out | apply below_alloc | apply pw_below_drewN | apply below_drew1) | exact HB.out)))); have n3_ := Aside0.mk (below_step (by repeat (first | (with_reducible first | exact HB.out | apply below_alloc | apply pw_below_drewN | apply below_drew1) | exact HB.out)) hb); clear HO169; clear HO173; clear HB; have HO169 := n0_; have HO173 := n1_; have HO178 := n2_; have HB := n3_; clear n0_ n1_ n2_ n3_; clear hb ho31; obtain ⟨Ao32, co32, eo32⟩ := Kd.R_slice HO173.out; subst eo32; obtain ⟨Ao33, co33, eo33⟩ := Kd.R_slice HO178.out; subst eo33) | (go_at_call 26; (with_reducible refine (oxbowref09_Same.calls k _ _ t170 _ _ y176 false _ ?side1 ?side2 ?side3 ?side4 A4.out).mono ?_); (case side1 => repeat (first | exact (Kd.R_reads' HO173.out).2.2 | (with_reducible refine Kd.C_alloc ?_ _) | (with_reducible refine Kd.C_drewN ?_ _) | (with_reducible refine Kd.C_drew ?_))); (case side2 => exact (Kd.R_reads' HO173.out).2.1); (case side3 => repeat (first | exact (Kd.R_reads' HO178.out).2.2 | (with_reducible refine Kd.C_alloc ?_ _) | (with_reducible refine Kd.C_drewN ?_ _) | (with_reducible refine Kd.C_drew ?_))); (case side4 => exact (Kd.R_reads' HO178.out).2.1); rintro e w' ⟨rfl, ⟨nd, rfl⟩⟩))
      go_ret
      exact ⟨by first | rfl | (simp [errW_none, errW_some] <;> rfl) | (simp [*, errW_none, errW_some] <;> rfl), by repeat (first | (with_reducible first | exact HB.out | apply below_alloc | apply pw_below_drewN | apply below_drew1) | exact HB.out)⟩
  · rw [if_neg c3] at H
    have c3b0 : (t171 == 0) = false := beq_eq_false_iff_ne.mpr c3
    have c3b1 : (t171 != 0) = true := bne_iff_ne.mpr c3
    obtain rfl := Option.some.inj H
    go_enter Try.func17, Try.ntmps17
    go_wp2_with (first | ((with_reducible refine gate_dst (N := 11) rfl ?_); (try (refine gate_guard (by rfl) ?_; dsimp only)); refine Kd.R_lit k36 _ 36 ?hg (N := 11) ?hd (xs := ([(⟨3, 1, (⟨#[]⟩ : ByteArray)⟩ : S36), (⟨2, 0, (⟨#[120]⟩ : ByteArray)⟩ : S36), (⟨3, 1, (⟨#[]⟩ : ByteArray)⟩ : S36), (⟨1, 1, (⟨#[]⟩ : ByteArray)⟩ : S36), (⟨1, 2, (⟨#[]⟩ : ByteArray)⟩ : S36)] : List (S36))) (inner := [.int .i64 3, .int .i64 1, .string (⟨#[]⟩ : ByteArray), .int .i64 2, .int .i64 0, .string (⟨#[120]⟩ : ByteArray), .int .i64 3, .int .i64 1, .string (⟨#[]⟩ : ByteArray), .int .i64 1, .int .i64 1, .string (⟨#[]⟩ : ByteArray), .int .i64 1, .int .i64 2, .string (⟨#[]⟩ : ByteArray)]) (ok := fun _ => True) (okp := fun _ => True) ?hr ?hp (fun _ hk => hk) trivial (Below.refl _ _) (Nat.le_refl _) (by simp) ?_; (case hd => rfl); (case hg => rfl); (case hr => first | (go_simp; done) | (go_simp; rfl)); (case hp => exact (Reps.c3 (show Kd.M k36 _ _ _ (⟨3, 1, (⟨#[]⟩ : ByteArray)⟩ : S36) [.int .i64 3, .int .i64 1, .string (⟨#[]⟩ : ByteArray)] from (k36_mkM _ _ _ (⟨3, 1, (⟨#[]⟩ : ByteArray)⟩ : S36) )) (Reps.c3 (show Kd.M k36 _ _ _ (⟨2, 0, (⟨#[120]⟩ : ByteArray)⟩ : S36) [.int .i64 2, .int .i64 0, .string (⟨#[120]⟩ : ByteArray)] from (k36_mkM _ _ _ (⟨2, 0, (⟨#[120]⟩ : ByteArray)⟩ : S36) )) (Reps.c3 (show Kd.M k36 _ _ _ (⟨3, 1, (⟨#[]⟩ : ByteArray)⟩ : S36) [.int .i64 3, .int .i64 1, .string (⟨#[]⟩ : ByteArray)] from (k36_mkM _ _ _ (⟨3, 1, (⟨#[]⟩ : ByteArray)⟩ : S36) )) (Reps.c3 (show Kd.M k36 _ _ _ (⟨1, 1, (⟨#[]⟩ : ByteArray)⟩ : S36) [.int .i64 1, .int .i64 1, .string (⟨#[]⟩ : ByteArray)] from (k36_mkM _ _ _ (⟨1, 1, (⟨#[]⟩ : ByteArray)⟩ : S36) )) (Reps.c3 (show Kd.M k36 _ _ _ (⟨1, 2, (⟨#[]⟩ : ByteArray)⟩ : S36) [.int .i64 1, .int .i64 2, .string (⟨#[]⟩ : ByteArray)] from (k36_mkM _ _ _ (⟨1, 2, (⟨#[]⟩ : ByteArray)⟩ : S36) )) (Reps.none _ _))))))); intro v168 w34 ho35 hb hg_ hnew_; clear hg_ hnew_; (first | rw [← Ny167.out] at ho35 | (simp only [Int.reduceToNat] at ho35; rw [← Ny167.out] at ho35)); have n0_ := Aside0.mk (Kd.R_lower ho35 (below_size (by repeat (first | (with_reducible first | exact HB.out | apply below_alloc | apply pw_below_drewN | apply below_drew1) | exact HB.out)))); have n1_ := Aside0.mk (below_step (by repeat (first | (with_reducible first | exact HB.out | apply below_alloc | apply pw_below_drewN | apply below_drew1) | exact HB.out)) hb); clear HB; have HO169 := n0_; have HB := n1_; clear n0_ n1_; clear hb ho35; obtain ⟨Ao36, co36, eo36⟩ := Kd.R_slice HO169.out; subst eo36) | ((with_reducible refine gate_callee (f := 21) rfl ?_); refine goesL_ (some 14) rfl rfl Try.func21 (by kernel_rfl) rfl #[.slice Ao36 y167.length co36] rfl (by (try simp only [List.map_toArray, List.map_cons, List.map_nil]); first | done | rfl | (simp only [List.length_drop, List.length_take]; rfl)) ?_; (with_reducible refine (delta_Normal.calls k _ _ y167 t170 t171 _ ?side1 ?side2 A1.out).mono ?_); (case side1 => repeat (first | exact (Kd.R_reads' HO169.out).2.2 | (with_reducible refine Kd.C_alloc ?_ _) | (with_reducible refine Kd.C_drewN ?_ _) | (with_reducible refine Kd.C_drew ?_))); (case side2 => exact (Kd.R_reads' HO169.out).2.1); rintro e w37 ⟨v172, rfl, ho0, hb⟩; refine ⟨_, rfl, ?_⟩; have n0_ := Aside0.mk (Kd.R_elder' (by (with_reducible repeat (first | apply Kd.R_alloc | apply Kd.R_drewN | apply Kd.R_drew)); exact HO169.out) (Kd.R_base ho0) hb); have n1_ := Aside0.mk (Kd.R_lower (Kd.R_new' ho0 (Kd.R_lt (by (with_reducible repeat (first | apply Kd.R_alloc | apply Kd.R_drewN | apply Kd.R_drew)); exact HO169.out))) (below_size (by repeat (first | (with_reducible first | exact HB.out | apply below_alloc | apply pw_below_drewN | apply below_drew1) | exact HB.out)))); have n2_ := Aside0.mk (below_step (by repeat (first | (with_reducible first | exact HB.out | apply below_alloc | apply pw_below_drewN | apply below_drew1) | exact HB.out)) hb); clear HO169; clear HB; have HO169 := n0_; have HO173 := n1_; have HB := n2_; clear n0_ n1_ n2_; (try clear hb); (try clear hb2); (try clear hk); (try clear hi); (try clear ho0)) | ((with_reducible refine gate_callee (f := 14) rfl ?_); refine goesL_ (some 19) rfl rfl Try.func14 (by kernel_rfl) rfl #[.string (⟨#[97, 98, 99, 100, 101]⟩ : ByteArray), .slice Ao36 y167.length co36] rfl (by (try simp only [List.map_toArray, List.map_cons, List.map_nil]); first | done | rfl | (simp only [List.length_drop, List.length_take]; rfl)) ?_; (with_reducible refine (delta_Apply.calls k (⟨#[97, 98, 99, 100, 101]⟩ : ByteArray) _ _ y167 t174 t175 _ ?side1 ?side2 A2.out).mono ?_); (case side1 => repeat (first | exact (Kd.R_reads' HO169.out).2.2 | (with_reducible refine Kd.C_alloc ?_ _) | (with_reducible refine Kd.C_drewN ?_ _) | (with_reducible refine Kd.C_drew ?_))); (case side2 => exact (Kd.R_reads' HO169.out).2.1); rintro e w38 ⟨rfl, hb⟩; refine ⟨_, rfl, ?_⟩; have n0_ := Aside0.mk (Kd.R_below (by (with_reducible repeat (first | apply Kd.R_alloc | apply Kd.R_drewN | apply Kd.R_drew)); exact HO169.out) hb); have n1_ := Aside0.mk (Kd.R_below (by (with_reducible repeat (first | apply Kd.R_alloc | apply Kd.R_drewN | apply Kd.R_drew)); exact HO173.out) hb); have n2_ := Aside0.mk (below_step (by repeat (first | (with_reducible first | exact HB.out | apply below_alloc | apply pw_below_drewN | apply below_drew1) | exact HB.out)) hb); clear HO169; clear HO173; clear HB; have HO169 := n0_; have HO173 := n1_; have HB := n2_; clear n0_ n1_ n2_; (try clear hb); (try clear hb2); (try clear hk); (try clear hi)))
    go_ret
    exact ⟨by first | rfl | (simp [errW_none, errW_some] <;> rfl) | (simp [*, errW_none, errW_some] <;> rfl), by repeat (first | (with_reducible first | exact HB.out | apply below_alloc | apply pw_below_drewN | apply below_drew1) | exact HB.out)⟩

/-! ### oxbowref01_point: function 66 -/
def oxbowref01_point.f (a0 : Int) : Option (Bool) := if a0 ≥ 0 then (if a0 ≤ 1114111 then (if a0 < 55296 then (some true) else (some (decide (a0 > 57343)))) else (some false)) else (some false)
set_option maxHeartbeats 8000000 in
set_option maxRecDepth 100000 in
theorem oxbowref01_point.calls (a0 : Int) (r : Bool) (w : World) (h : oxbowref01_point.f a0 = some r) :
    Calls Try.prog 66 #[.int .i64 a0] w fun e w' => e = .returned (.bool r) ∧ Drawn0 w w' := by
  have H : (if a0 ≥ 0 then (if a0 ≤ 1114111 then (if a0 < 55296 then (some true) else (some (decide (a0 > 57343)))) else (some false)) else (some false)) = some r := h
  clear h
  by_cases c2 : a0 ≥ 0
  · rw [if_pos c2] at H
    have c2b0 : decide (0 ≤ a0) = true := decide_eq_true c2
    clear c2
    by_cases c3 : a0 ≤ 1114111
    · rw [if_pos c3] at H
      have c3b0 : decide (a0 ≤ 1114111) = true := decide_eq_true c3
      clear c3
      by_cases c4 : a0 < 55296
      · rw [if_pos c4] at H
        have c4b0 : decide (a0 < 55296) = true := decide_eq_true c4
        clear c4
        obtain rfl := Option.some.inj H
        go_enter Try.func66, Try.ntmps66
        go_wp2
        go_ret
        exact ⟨by first | rfl | (simp; done) | (simp [*]; done), by repeat (first | exact Drawn0.refl _ | apply Drawn0.step)⟩
      · rw [if_neg c4] at H
        have c4b0 : decide (a0 < 55296) = false := decide_eq_false c4
        clear c4
        obtain rfl := Option.some.inj H
        go_enter Try.func66, Try.ntmps66
        go_wp2
        go_ret
        exact ⟨by first | rfl | (simp; done) | (simp [*]; done), by repeat (first | exact Drawn0.refl _ | apply Drawn0.step)⟩
    · rw [if_neg c3] at H
      have c3b0 : decide (a0 ≤ 1114111) = false := decide_eq_false c3
      clear c3
      obtain rfl := Option.some.inj H
      go_enter Try.func66, Try.ntmps66
      go_wp2
      go_ret
      exact ⟨by first | rfl | (simp; done) | (simp [*]; done), by repeat (first | exact Drawn0.refl _ | apply Drawn0.step)⟩
  · rw [if_neg c2] at H
    have c2b0 : decide (0 ≤ a0) = false := decide_eq_false c2
    clear c2
    obtain rfl := Option.some.inj H
    go_enter Try.func66, Try.ntmps66
    go_wp2
    go_ret
    exact ⟨by first | rfl | (simp; done) | (simp [*]; done), by repeat (first | exact Drawn0.refl _ | apply Drawn0.step)⟩

/-! ### oxbowref01_bytes: function 67 -/
def oxbowref01_bytes.f (a0 : Int) : Option (ByteArray) := if a0 < 128 then (some (strOfNums (([(a0) % 256] : List Int)))) else (if a0 < 2048 then (some (strOfNums (([(wrap64 (192 + (wrap64 (Int.tdiv a0 64)))) % 256, (wrap64 (128 + (Int.tmod a0 64))) % 256] : List Int)))) else (if a0 < 65536 then (some (strOfNums (([(wrap64 (224 + (wrap64 (Int.tdiv a0 4096)))) % 256, (wrap64 (128 + (Int.tmod (wrap64 (Int.tdiv a0 64)) 64))) % 256, (wrap64 (128 + (Int.tmod a0 64))) % 256] : List Int)))) else (some (strOfNums (([(wrap64 (240 + (wrap64 (Int.tdiv a0 262144)))) % 256, (wrap64 (128 + (Int.tmod (wrap64 (Int.tdiv a0 4096)) 64))) % 256, (wrap64 (128 + (Int.tmod (wrap64 (Int.tdiv a0 64)) 64))) % 256, (wrap64 (128 + (Int.tmod a0 64))) % 256] : List Int))))))
set_option maxHeartbeats 8000000 in
set_option maxRecDepth 100000 in
theorem oxbowref01_bytes.calls (a0 : Int) (r : ByteArray) (w : World) (h : oxbowref01_bytes.f a0 = some r) :
    Calls Try.prog 67 #[.int .i64 a0] w fun e w' => e = .returned (.string r) ∧ Below w.heap.size w w' := by
  have HB := Aside0.mk (Below.refl w.heap.size w)
  have H : (if a0 < 128 then (some (strOfNums (([(a0) % 256] : List Int)))) else (if a0 < 2048 then (some (strOfNums (([(wrap64 (192 + (wrap64 (Int.tdiv a0 64)))) % 256, (wrap64 (128 + (Int.tmod a0 64))) % 256] : List Int)))) else (if a0 < 65536 then (some (strOfNums (([(wrap64 (224 + (wrap64 (Int.tdiv a0 4096)))) % 256, (wrap64 (128 + (Int.tmod (wrap64 (Int.tdiv a0 64)) 64))) % 256, (wrap64 (128 + (Int.tmod a0 64))) % 256] : List Int)))) else (some (strOfNums (([(wrap64 (240 + (wrap64 (Int.tdiv a0 262144)))) % 256, (wrap64 (128 + (Int.tmod (wrap64 (Int.tdiv a0 4096)) 64))) % 256, (wrap64 (128 + (Int.tmod (wrap64 (Int.tdiv a0 64)) 64))) % 256, (wrap64 (128 + (Int.tmod a0 64))) % 256] : List Int))))))) = some r := h
  clear h
  by_cases c2 : a0 < 128
  · rw [if_pos c2] at H
    have c2b0 : decide (a0 < 128) = true := decide_eq_true c2
    clear c2
    obtain ⟨y180, hy180⟩ : ∃ y_ : List Int, y_ = (([(a0) % 256] : List Int)) := ⟨_, rfl⟩
    replace H : (some (strOfNums y180)) = some r := by first | (rw [hy180]; with_reducible exact H) | (have H2_ := (Option.bind_some _ _).symm.trans H; rw [hy180]; with_reducible exact H2_) | (have H2_ := (Option.bind_some _ _).symm.trans H; with_reducible exact H2_) | with_reducible exact H | (rw [hy180]; exact H) | exact H
    have Ny180 := Aside0.mk hy180
    clear hy180
    obtain rfl := Option.some.inj H
    go_enter Try.func67, Try.ntmps67
    go_wp2_with (first | ((with_reducible refine gate_dst (N := 8) rfl ?_); refine Kd.R_lit (Kd.int .u8) _ 5 ?hg (N := 8) ?hd (xs := ([(a0) % 256] : List Int)) (inner := [.int .u8 ((a0) % 256)]) (ok := fun _ => True) (okp := fun _ => True) ?hr ?hp (fun _ hk => hk) trivial (Below.refl _ _) (Nat.le_refl _) (by simp) ?_; (case hd => rfl); (case hg => rfl); (case hr => first | (go_simp; done) | (go_simp; rfl)); (case hp => exact (Reps.one (show Kd.M (Kd.int .u8) _ _ _ ((a0) % 256) [.int .u8 ((a0) % 256)] from rfl) (Reps.none _ _))); intro v181 w3 ho4 hb hg_ hnew_; clear hg_ hnew_; (first | rw [← Ny180.out] at ho4 | (simp only [Int.reduceToNat] at ho4; rw [← Ny180.out] at ho4)); have n0_ := Aside0.mk (Kd.R_lower ho4 (below_size (by repeat (first | (with_reducible first | exact HB.out | apply below_alloc | apply pw_below_drewN | apply below_drew1) | exact HB.out)))); have n1_ := Aside0.mk (below_step (by repeat (first | (with_reducible first | exact HB.out | apply below_alloc | apply pw_below_drewN | apply below_drew1) | exact HB.out)) hb); clear HB; have HO182 := n0_; have HB := n1_; clear n0_ n1_; clear hb ho4; have hcv5 := own_string (P := Try.prog) Try.underlying77 Try.underlying5 Try.underlying9 (Kd.own_of_R HO182.out)))
    go_ret
    exact ⟨by first | rfl | (simp [errW_none, errW_some] <;> rfl) | (simp [*, errW_none, errW_some] <;> rfl), by repeat (first | (with_reducible first | exact HB.out | apply below_alloc | apply pw_below_drewN | apply below_drew1) | exact HB.out)⟩
  · rw [if_neg c2] at H
    have c2b0 : decide (a0 < 128) = false := decide_eq_false c2
    clear c2
    by_cases c6 : a0 < 2048
    · rw [if_pos c6] at H
      have c6b0 : decide (a0 < 2048) = true := decide_eq_true c6
      clear c6
      obtain ⟨y183, hy183⟩ : ∃ y_ : List Int, y_ = (([(wrap64 (192 + (wrap64 (Int.tdiv a0 64)))) % 256, (wrap64 (128 + (Int.tmod a0 64))) % 256] : List Int)) := ⟨_, rfl⟩
      replace H : (some (strOfNums y183)) = some r := by first | (rw [hy183]; with_reducible exact H) | (have H2_ := (Option.bind_some _ _).symm.trans H; rw [hy183]; with_reducible exact H2_) | (have H2_ := (Option.bind_some _ _).symm.trans H; with_reducible exact H2_) | with_reducible exact H | (rw [hy183]; exact H) | exact H
      have Ny183 := Aside0.mk hy183
      clear hy183
      obtain rfl := Option.some.inj H
      go_enter Try.func67, Try.ntmps67
      go_wp2_with (first | ((with_reducible refine gate_dst (N := 21) rfl ?_); refine Kd.R_lit (Kd.int .u8) _ 5 ?hg (N := 21) ?hd (xs := ([(wrap64 (192 + (wrap64 (Int.tdiv a0 64)))) % 256, (wrap64 (128 + (Int.tmod a0 64))) % 256] : List Int)) (inner := [.int .u8 ((wrap64 (192 + (wrap64 (Int.tdiv a0 64)))) % 256), .int .u8 ((wrap64 (128 + (Int.tmod a0 64))) % 256)]) (ok := fun _ => True) (okp := fun _ => True) ?hr ?hp (fun _ hk => hk) trivial (Below.refl _ _) (Nat.le_refl _) (by simp) ?_; (case hd => rfl); (case hg => rfl); (case hr => first | (go_simp; done) | (go_simp; rfl)); (case hp => exact (Reps.one (show Kd.M (Kd.int .u8) _ _ _ ((wrap64 (192 + (wrap64 (Int.tdiv a0 64)))) % 256) [.int .u8 ((wrap64 (192 + (wrap64 (Int.tdiv a0 64)))) % 256)] from rfl) (Reps.one (show Kd.M (Kd.int .u8) _ _ _ ((wrap64 (128 + (Int.tmod a0 64))) % 256) [.int .u8 ((wrap64 (128 + (Int.tmod a0 64))) % 256)] from rfl) (Reps.none _ _)))); intro v184 w7 ho8 hb hg_ hnew_; clear hg_ hnew_; (first | rw [← Ny183.out] at ho8 | (simp only [Int.reduceToNat] at ho8; rw [← Ny183.out] at ho8)); have n0_ := Aside0.mk (Kd.R_lower ho8 (below_size (by repeat (first | (with_reducible first | exact HB.out | apply below_alloc | apply pw_below_drewN | apply below_drew1) | exact HB.out)))); have n1_ := Aside0.mk (below_step (by repeat (first | (with_reducible first | exact HB.out | apply below_alloc | apply pw_below_drewN | apply below_drew1) | exact HB.out)) hb); clear HB; have HO185 := n0_; have HB := n1_; clear n0_ n1_; clear hb ho8; have hcv9 := own_string (P := Try.prog) Try.underlying77 Try.underlying5 Try.underlying9 (Kd.own_of_R HO185.out)))
      go_ret
      exact ⟨by first | rfl | (simp [errW_none, errW_some] <;> rfl) | (simp [*, errW_none, errW_some] <;> rfl), by repeat (first | (with_reducible first | exact HB.out | apply below_alloc | apply pw_below_drewN | apply below_drew1) | exact HB.out)⟩
    · rw [if_neg c6] at H
      have c6b0 : decide (a0 < 2048) = false := decide_eq_false c6
      clear c6
      by_cases c10 : a0 < 65536
      · rw [if_pos c10] at H
        have c10b0 : decide (a0 < 65536) = true := decide_eq_true c10
        clear c10
        obtain ⟨y186, hy186⟩ : ∃ y_ : List Int, y_ = (([(wrap64 (224 + (wrap64 (Int.tdiv a0 4096)))) % 256, (wrap64 (128 + (Int.tmod (wrap64 (Int.tdiv a0 64)) 64))) % 256, (wrap64 (128 + (Int.tmod a0 64))) % 256] : List Int)) := ⟨_, rfl⟩
        replace H : (some (strOfNums y186)) = some r := by first | (rw [hy186]; with_reducible exact H) | (have H2_ := (Option.bind_some _ _).symm.trans H; rw [hy186]; with_reducible exact H2_) | (have H2_ := (Option.bind_some _ _).symm.trans H; with_reducible exact H2_) | with_reducible exact H | (rw [hy186]; exact H) | exact H
        have Ny186 := Aside0.mk hy186
        clear hy186
        obtain rfl := Option.some.inj H
        go_enter Try.func67, Try.ntmps67
        go_wp2_with (first | ((with_reducible refine gate_dst (N := 39) rfl ?_); refine Kd.R_lit (Kd.int .u8) _ 5 ?hg (N := 39) ?hd (xs := ([(wrap64 (224 + (wrap64 (Int.tdiv a0 4096)))) % 256, (wrap64 (128 + (Int.tmod (wrap64 (Int.tdiv a0 64)) 64))) % 256, (wrap64 (128 + (Int.tmod a0 64))) % 256] : List Int)) (inner := [.int .u8 ((wrap64 (224 + (wrap64 (Int.tdiv a0 4096)))) % 256), .int .u8 ((wrap64 (128 + (Int.tmod (wrap64 (Int.tdiv a0 64)) 64))) % 256), .int .u8 ((wrap64 (128 + (Int.tmod a0 64))) % 256)]) (ok := fun _ => True) (okp := fun _ => True) ?hr ?hp (fun _ hk => hk) trivial (Below.refl _ _) (Nat.le_refl _) (by simp) ?_; (case hd => rfl); (case hg => rfl); (case hr => first | (go_simp; done) | (go_simp; rfl)); (case hp => exact (Reps.one (show Kd.M (Kd.int .u8) _ _ _ ((wrap64 (224 + (wrap64 (Int.tdiv a0 4096)))) % 256) [.int .u8 ((wrap64 (224 + (wrap64 (Int.tdiv a0 4096)))) % 256)] from rfl) (Reps.one (show Kd.M (Kd.int .u8) _ _ _ ((wrap64 (128 + (Int.tmod (wrap64 (Int.tdiv a0 64)) 64))) % 256) [.int .u8 ((wrap64 (128 + (Int.tmod (wrap64 (Int.tdiv a0 64)) 64))) % 256)] from rfl) (Reps.one (show Kd.M (Kd.int .u8) _ _ _ ((wrap64 (128 + (Int.tmod a0 64))) % 256) [.int .u8 ((wrap64 (128 + (Int.tmod a0 64))) % 256)] from rfl) (Reps.none _ _))))); intro v187 w11 ho12 hb hg_ hnew_; clear hg_ hnew_; (first | rw [← Ny186.out] at ho12 | (simp only [Int.reduceToNat] at ho12; rw [← Ny186.out] at ho12)); have n0_ := Aside0.mk (Kd.R_lower ho12 (below_size (by repeat (first | (with_reducible first | exact HB.out | apply below_alloc | apply pw_below_drewN | apply below_drew1) | exact HB.out)))); have n1_ := Aside0.mk (below_step (by repeat (first | (with_reducible first | exact HB.out | apply below_alloc | apply pw_below_drewN | apply below_drew1) | exact HB.out)) hb); clear HB; have HO188 := n0_; have HB := n1_; clear n0_ n1_; clear hb ho12; have hcv13 := own_string (P := Try.prog) Try.underlying77 Try.underlying5 Try.underlying9 (Kd.own_of_R HO188.out)))
        go_ret
        exact ⟨by first | rfl | (simp [errW_none, errW_some] <;> rfl) | (simp [*, errW_none, errW_some] <;> rfl), by repeat (first | (with_reducible first | exact HB.out | apply below_alloc | apply pw_below_drewN | apply below_drew1) | exact HB.out)⟩
      · rw [if_neg c10] at H
        have c10b0 : decide (a0 < 65536) = false := decide_eq_false c10
        clear c10
        obtain ⟨y189, hy189⟩ : ∃ y_ : List Int, y_ = (([(wrap64 (240 + (wrap64 (Int.tdiv a0 262144)))) % 256, (wrap64 (128 + (Int.tmod (wrap64 (Int.tdiv a0 4096)) 64))) % 256, (wrap64 (128 + (Int.tmod (wrap64 (Int.tdiv a0 64)) 64))) % 256, (wrap64 (128 + (Int.tmod a0 64))) % 256] : List Int)) := ⟨_, rfl⟩
        replace H : (some (strOfNums y189)) = some r := by first | (rw [hy189]; with_reducible exact H) | (have H2_ := (Option.bind_some _ _).symm.trans H; rw [hy189]; with_reducible exact H2_) | (have H2_ := (Option.bind_some _ _).symm.trans H; with_reducible exact H2_) | with_reducible exact H | (rw [hy189]; exact H) | exact H
        have Ny189 := Aside0.mk hy189
        clear hy189
        obtain rfl := Option.some.inj H
        go_enter Try.func67, Try.ntmps67
        go_wp2_with (first | ((with_reducible refine gate_dst (N := 59) rfl ?_); refine Kd.R_lit (Kd.int .u8) _ 5 ?hg (N := 59) ?hd (xs := ([(wrap64 (240 + (wrap64 (Int.tdiv a0 262144)))) % 256, (wrap64 (128 + (Int.tmod (wrap64 (Int.tdiv a0 4096)) 64))) % 256, (wrap64 (128 + (Int.tmod (wrap64 (Int.tdiv a0 64)) 64))) % 256, (wrap64 (128 + (Int.tmod a0 64))) % 256] : List Int)) (inner := [.int .u8 ((wrap64 (240 + (wrap64 (Int.tdiv a0 262144)))) % 256), .int .u8 ((wrap64 (128 + (Int.tmod (wrap64 (Int.tdiv a0 4096)) 64))) % 256), .int .u8 ((wrap64 (128 + (Int.tmod (wrap64 (Int.tdiv a0 64)) 64))) % 256), .int .u8 ((wrap64 (128 + (Int.tmod a0 64))) % 256)]) (ok := fun _ => True) (okp := fun _ => True) ?hr ?hp (fun _ hk => hk) trivial (Below.refl _ _) (Nat.le_refl _) (by simp) ?_; (case hd => rfl); (case hg => rfl); (case hr => first | (go_simp; done) | (go_simp; rfl)); (case hp => exact (Reps.one (show Kd.M (Kd.int .u8) _ _ _ ((wrap64 (240 + (wrap64 (Int.tdiv a0 262144)))) % 256) [.int .u8 ((wrap64 (240 + (wrap64 (Int.tdiv a0 262144)))) % 256)] from rfl) (Reps.one (show Kd.M (Kd.int .u8) _ _ _ ((wrap64 (128 + (Int.tmod (wrap64 (Int.tdiv a0 4096)) 64))) % 256) [.int .u8 ((wrap64 (128 + (Int.tmod (wrap64 (Int.tdiv a0 4096)) 64))) % 256)] from rfl) (Reps.one (show Kd.M (Kd.int .u8) _ _ _ ((wrap64 (128 + (Int.tmod (wrap64 (Int.tdiv a0 64)) 64))) % 256) [.int .u8 ((wrap64 (128 + (Int.tmod (wrap64 (Int.tdiv a0 64)) 64))) % 256)] from rfl) (Reps.one (show Kd.M (Kd.int .u8) _ _ _ ((wrap64 (128 + (Int.tmod a0 64))) % 256) [.int .u8 ((wrap64 (128 + (Int.tmod a0 64))) % 256)] from rfl) (Reps.none _ _)))))); intro v190 w14 ho15 hb hg_ hnew_; clear hg_ hnew_; (first | rw [← Ny189.out] at ho15 | (simp only [Int.reduceToNat] at ho15; rw [← Ny189.out] at ho15)); have n0_ := Aside0.mk (Kd.R_lower ho15 (below_size (by repeat (first | (with_reducible first | exact HB.out | apply below_alloc | apply pw_below_drewN | apply below_drew1) | exact HB.out)))); have n1_ := Aside0.mk (below_step (by repeat (first | (with_reducible first | exact HB.out | apply below_alloc | apply pw_below_drewN | apply below_drew1) | exact HB.out)) hb); clear HB; have HO191 := n0_; have HB := n1_; clear n0_ n1_; clear hb ho15; have hcv16 := own_string (P := Try.prog) Try.underlying77 Try.underlying5 Try.underlying9 (Kd.own_of_R HO191.out)))
        go_ret
        exact ⟨by first | rfl | (simp [errW_none, errW_some] <;> rfl) | (simp [*, errW_none, errW_some] <;> rfl), by repeat (first | (with_reducible first | exact HB.out | apply below_alloc | apply pw_below_drewN | apply below_drew1) | exact HB.out)⟩

end Go.Proofs.Ytdpbkomaiafemaa.HDd
