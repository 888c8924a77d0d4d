-- Written by hprint.py over the kit's print.py; contracts of some functions by hand.
import Derived.Test.YtdpbkomaiafemaaHDex0
import Derived.Test.YtdpbkomaiafemaaHDex1
import Derived.Test.YtdpbkomaiafemaaHDex2
import Derived.Test.YtdpbkomaiafemaaHDex4
import Derived.Test.YtdpbkomaiafemaaHDex6
import Derived.Test.YtdpbkomaiafemaaHDex7
import Derived.Test.YtdpbkomaiafemaaHDex8
namespace Go.Proofs.Ytdpbkomaiafemaa.HDe
open Go.RowKit Go.Proofs.YtdpbkomaiafemaaW.PrintWords Go.Proofs.YtdpbkomaiafemaaW.PrintLast Go.Proofs.YtdpbkomaiafemaaW.PrintMore
attribute [local go_sem] max2_int min2_int max_two min_two max_three min_three max_four min_four   -- for this text's walks alone
set_option linter.unusedVariables false
set_option linter.unusedSimpArgs false

attribute [local go_sem high] eqA36
/-! ### oxbowref09_Same: function 26 -/
def oxbowref09_Same.l0 : Nat → List (S36) → List (S36) → Int → Option (Bool)
  | 0, _, _, _ => none
  | k + 1, x0, x1, x5 => if x5 < (x0.length : Int) then (if 0 ≤ x5 then (if x5 < (x1.length : Int) then (if (!(((rd_T36 x0 x5).f0) == ((rd_T36 x1 x5).f0)) || (!(((rd_T36 x0 x5).f1) == ((rd_T36 x1 x5).f1)) || (!((((rd_T36 x0 x5).f2).toList) == (((rd_T36 x1 x5).f2).toList))))) = true then (some false) else (oxbowref09_Same.l0 k x0 x1 (wrap64 (x5 + 1)))) else (none)) else (none)) else (some true)
def oxbowref09_Same.f (k : Nat) (l0 : List (S36)) (l1 : List (S36)) : Option (Bool) := if (l0.length : Int) = (l1.length : Int) then (oxbowref09_Same.l0 k l0 l1 0) else (some false)
theorem oxbowref09_Same.mono_l : ∀ k, (∀ y0 y1 y2, LeO (oxbowref09_Same.l0 k y0 y1 y2) (oxbowref09_Same.l0 (k + 1) y0 y1 y2))
  | 0 => fun _ _ _ r h => by simp [oxbowref09_Same.l0] at h
  | k + 1 => by
    have ih0 := oxbowref09_Same.mono_l k
    · intro y0 y1 y2
      unfold oxbowref09_Same.l0
      repeat' first
      | (with_reducible exact ih0 _ _ _)
      | (with_reducible exact LeO.refl _)
      | (with_reducible exact LeO.none _)
      | (with_reducible refine LeO.ite ?_ ?_)
      | (with_reducible refine LeO.bind ?_ (fun _ => ?_))
      | exact ih0 _ _ _
      | exact LeO.none _
      | refine LeO.ite ?_ ?_
      | refine LeO.bind ?_ (fun _ => ?_)
theorem oxbowref09_Same.mono : ∀ a0 a1 k, LeO (oxbowref09_Same.f k a0 a1) (oxbowref09_Same.f (k + 1) a0 a1) := by
  intro a0 a1 k
  have ih0 := oxbowref09_Same.mono_l k
  unfold oxbowref09_Same.f
  repeat' first
      | (with_reducible exact ih0 _ _ _)
      | (with_reducible exact LeO.refl _)
      | (with_reducible exact LeO.none _)
      | (with_reducible refine LeO.ite ?_ ?_)
      | (with_reducible refine LeO.bind ?_ (fun _ => ?_))
      | exact ih0 _ _ _
      | exact LeO.none _
      | refine LeO.ite ?_ ?_
      | refine LeO.bind ?_ (fun _ => ?_)
set_option maxHeartbeats 8000000 in
set_option maxRecDepth 100000 in
theorem oxbowref09_Same.calls (k : Nat) (A0 : Option Addr) (c0 : Nat) (l0 : List (S36)) (A1 : Option Addr) (c1 : Nat) (l1 : List (S36)) (r : Bool) (w : World) (hr0 : Kd.C k36 w A0 l0.length l0) (hc0 : l0.length ≤ c0) (hr1 : Kd.C k36 w A1 l1.length l1) (hc1 : l1.length ≤ c1) (h : oxbowref09_Same.f k l0 l1 = some r) :
    Calls Try.prog 26 #[.slice A0 l0.length c0, .slice A1 l1.length c1] w fun e w' => e = .returned (.bool r) ∧ Drawn0 w w' := by
  have hu36 := Try.underlying36
  have HR0 := Aside0.mk hr0
  have HC0 := Aside0.mk hc0
  clear hr0 hc0
  have HR1 := Aside0.mk hr1
  have HC1 := Aside0.mk hc1
  clear hr1 hc1
  have H : (if (l0.length : Int) = (l1.length : Int) then (oxbowref09_Same.l0 k l0 l1 0) else (some false)) = some r := h
  clear h
  by_cases c3 : (l0.length : Int) = (l1.length : Int)
  · rw [if_pos c3] at H
    have c3b0 : ((l0.length : Int) == (l1.length : Int)) = true := beq_iff_eq.mpr c3
    have c3b1 : ((l0.length : Int) != (l1.length : Int)) = false := bne_eq_false_iff_eq.mpr c3
    have c3b2 : (l0.length == l1.length) = true := by first | simpa using c3 | (simp at c3 ⊢; omega)
    clear c3
    have H' := Aside0.mk H
    clear H
    go_enter Try.func26, Try.ntmps26
    go_wp2
    repeat (go_quiet (fail); try go_wp2)
    go_loopg [5] k (fun kq v5 w' => ∃ (x5_1 : Int), v5 = .int .i64 x5_1 ∧ Aside0 (oxbowref09_Same.l0 kq l0 l1 x5_1 = some r) ∧ Aside0 (kq ≤ k) ∧ Drawn0 w w')
    case atStart => exact ⟨(0), (by first | rfl | (simp; done) | (simp [*]; done) | (simp; (generalize ByteArray.toList _ = l_); cases l_ <;> rfl)), H', ⟨Nat.le_refl _⟩, by repeat (first | exact Drawn0.refl _ | apply Drawn0.step)⟩
    case round =>
      clear H'
      try clear c1
      try clear c2
      try clear p2
      try clear c3
      try clear c3b0
      try clear c3b1
      try clear c3b2
      obtain ⟨x5_1, rfl, HA, HK1, ⟨m1, rfl⟩⟩ := hrel
      cases gk with
      | zero => exact absurd HA.out (by simp [oxbowref09_Same.l0])
      | succ k1 =>
        have H := HA.out
        clear HA
        simp only [oxbowref09_Same.l0] at H
        by_cases c4 : x5_1 < (l0.length : Int)
        · rw [if_pos c4] at H
          have c4b0 : decide (x5_1 < (l0.length : Int)) = true := decide_eq_true c4
          clear c4
          by_cases c5 : 0 ≤ x5_1
          · rw [if_pos c5] at H
            have c5b0 : decide (0 ≤ x5_1) = true := decide_eq_true c5
            clear c5
            by_cases c6 : x5_1 < (l1.length : Int)
            · rw [if_pos c6] at H
              have c6b0 : decide (x5_1 < (l1.length : Int)) = true := decide_eq_true c6
              clear c6
              by_cases c7 : (!(((rd_T36 l0 x5_1).f0) == ((rd_T36 l1 x5_1).f0)) || (!(((rd_T36 l0 x5_1).f1) == ((rd_T36 l1 x5_1).f1)) || (!((((rd_T36 l0 x5_1).f2).toList) == (((rd_T36 l1 x5_1).f2).toList))))) = true
              · rw [if_pos c7] at H
                have c7b0 : (!(((rd_T36 l0 x5_1).f0) == ((rd_T36 l1 x5_1).f0)) || (!(((rd_T36 l0 x5_1).f1) == ((rd_T36 l1 x5_1).f1)) || (!((((rd_T36 l0 x5_1).f2).toList) == (((rd_T36 l1 x5_1).f2).toList))))) = true := c7
                clear c7
                obtain rfl := Option.some.inj H
                have p202 : 0 ≤ (x5_1 : Int) := of_decide_eq_true (by first | (with_reducible assumption) | assumption)
                have q202 : x5_1 < (l0.length : Int) := of_decide_eq_true (by first | (with_reducible assumption) | assumption)
                obtain ⟨ad202, e202, hx202_0, hx202_1, hx202_2⟩ := at_T36 HR0.out x5_1 p202 q202
                cases e202
                replace p202 := eq_true p202
                replace q202 := eq_true q202
                have p203 : 0 ≤ (x5_1 : Int) := of_decide_eq_true (by first | (with_reducible assumption) | assumption)
                have q203 : x5_1 < (l1.length : Int) := of_decide_eq_true (by first | (with_reducible assumption) | assumption)
                obtain ⟨ad203, e203, hx203_0, hx203_1, hx203_2⟩ := at_T36 HR1.out x5_1 p203 q203
                cases e203
                replace p203 := eq_true p203
                replace q203 := eq_true q203
                go_wp2
                repeat (go_quiet (fail); try go_wp2)
                go_ret
                exact ⟨by first | rfl | (simp; done) | (simp [*]; done), by repeat (first | exact Drawn0.refl _ | apply Drawn0.step)⟩
              · rw [if_neg c7] at H
                have c7b0 : (!(((rd_T36 l0 x5_1).f0) == ((rd_T36 l1 x5_1).f0)) || (!(((rd_T36 l0 x5_1).f1) == ((rd_T36 l1 x5_1).f1)) || (!((((rd_T36 l0 x5_1).f2).toList) == (((rd_T36 l1 x5_1).f2).toList))))) = false := by simpa using c7
                clear c7
                have H' := Aside0.mk H
                clear H
                have p202 : 0 ≤ (x5_1 : Int) := of_decide_eq_true (by first | (with_reducible assumption) | assumption)
                have q202 : x5_1 < (l0.length : Int) := of_decide_eq_true (by first | (with_reducible assumption) | assumption)
                obtain ⟨ad202, e202, hx202_0, hx202_1, hx202_2⟩ := at_T36 HR0.out x5_1 p202 q202
                cases e202
                replace p202 := eq_true p202
                replace q202 := eq_true q202
                have p203 : 0 ≤ (x5_1 : Int) := of_decide_eq_true (by first | (with_reducible assumption) | assumption)
                have q203 : x5_1 < (l1.length : Int) := of_decide_eq_true (by first | (with_reducible assumption) | assumption)
                obtain ⟨ad203, e203, hx203_0, hx203_1, hx203_2⟩ := at_T36 HR1.out x5_1 p203 q203
                cases e203
                replace p203 := eq_true p203
                replace q203 := eq_true q203
                go_wp2
                repeat (go_quiet (fail); try go_wp2)
                go_roundg k1
                case measure => have := HK1.out; omega
                case rel => exact ⟨(wrap64 (x5_1 + 1)), (by first | rfl | (simp; done) | (simp [*]; done) | (simp; (generalize ByteArray.toList _ = l_); cases l_ <;> rfl)), H', ⟨by have := HK1.out; omega⟩, by repeat (first | exact Drawn0.refl _ | apply Drawn0.step)⟩
            · rw [if_neg c6] at H
              exact absurd H (by simp)
          · rw [if_neg c5] at H
            exact absurd H (by simp)
        · rw [if_neg c4] at H
          have c4b0 : decide (x5_1 < (l0.length : Int)) = false := decide_eq_false c4
          clear c4
          obtain rfl := Option.some.inj H
          go_wp2
          repeat (go_quiet (fail); try go_wp2)
          go_ret
          exact ⟨by first | rfl | (simp; done) | (simp [*]; done), by repeat (first | exact Drawn0.refl _ | apply Drawn0.step)⟩
  · rw [if_neg c3] at H
    have c3b0 : ((l0.length : Int) == (l1.length : Int)) = false := beq_eq_false_iff_ne.mpr c3
    have c3b1 : ((l0.length : Int) != (l1.length : Int)) = true := bne_iff_ne.mpr c3
    have c3b2 : (l0.length == l1.length) = false := by first | simpa using c3 | (simp at c3 ⊢; omega)
    obtain rfl := Option.some.inj H
    go_enter Try.func26, Try.ntmps26
    go_wp2
    repeat (go_quiet (fail); try go_wp2)
    go_ret
    exact ⟨by first | rfl | (simp; done) | (simp [*]; done), by repeat (first | exact Drawn0.refl _ | apply Drawn0.step)⟩

/-! ### oxbowlaw09_live: function 17 -/
def oxbowlaw09_live.f (k : Nat)  : Option (Bool) := (some (([(⟨3, 1, (⟨#[]⟩ : ByteArray)⟩ : S36), (⟨2, 0, (⟨#[120]⟩ : ByteArray)⟩ : S36), (⟨3, 1, (⟨#[]⟩ : ByteArray)⟩ : S36), (⟨1, 1, (⟨#[]⟩ : ByteArray)⟩ : S36), (⟨1, 2, (⟨#[]⟩ : ByteArray)⟩ : S36)] : List (S36)) : List (S36))).bind fun y204 => ((delta_Normal.f k y204).bind fun bt207 => ((delta_Apply.f k (⟨#[97, 98, 99, 100, 101]⟩ : ByteArray) y204).bind fun bt211 => (if bt207.2 = 0 then ((oxbowref09_Same.f k bt207.1 (([(⟨2, 0, (⟨#[120]⟩ : ByteArray)⟩ : S36), (⟨3, 2, (⟨#[]⟩ : ByteArray)⟩ : S36), (⟨1, 3, (⟨#[]⟩ : ByteArray)⟩ : S36)] : List (S36)))).bind fun t216 => (if t216 = true then (if bt211.2 = 0 then (some (bt211.1.toList == ([120, 99, 100, 101] : List UInt8))) else (some false)) else (some false))) else (some false))))
theorem oxbowlaw09_live.mono : ∀ k, LeO (oxbowlaw09_live.f k ) (oxbowlaw09_live.f (k + 1) ) := by
  intro  k
  unfold oxbowlaw09_live.f
  repeat' first
      | (with_reducible exact delta_Apply.mono _ _ _)
      | (with_reducible exact delta_Normal.mono _ _)
      | (with_reducible exact oxbowref09_Same.mono _ _ _)
      | (with_reducible exact LeO.refl _)
      | (with_reducible exact LeO.none _)
      | (with_reducible refine LeO.ite ?_ ?_)
      | (with_reducible refine LeO.bind ?_ (fun _ => ?_))
      | exact delta_Apply.mono _ _ _
      | exact delta_Normal.mono _ _
      | exact oxbowref09_Same.mono _ _ _
      | exact LeO.none _
      | refine LeO.ite ?_ ?_
      | refine LeO.bind ?_ (fun _ => ?_)
set_option maxHeartbeats 8000000 in
set_option maxRecDepth 100000 in
theorem oxbowlaw09_live.calls (k : Nat)  (r : Bool) (w : World) (h : oxbowlaw09_live.f k  = some r) :
    Calls Try.prog 17 #[] w fun e w' => e = .returned (.bool r) ∧ Below w.heap.size w w' := by
  have hu36 := Try.underlying36
  have HB := Aside0.mk (Below.refl w.heap.size w)
  have H : ((some (([(⟨3, 1, (⟨#[]⟩ : ByteArray)⟩ : S36), (⟨2, 0, (⟨#[120]⟩ : ByteArray)⟩ : S36), (⟨3, 1, (⟨#[]⟩ : ByteArray)⟩ : S36), (⟨1, 1, (⟨#[]⟩ : ByteArray)⟩ : S36), (⟨1, 2, (⟨#[]⟩ : ByteArray)⟩ : S36)] : List (S36)) : List (S36))).bind fun y204 => ((delta_Normal.f k y204).bind fun bt207 => ((delta_Apply.f k (⟨#[97, 98, 99, 100, 101]⟩ : ByteArray) y204).bind fun bt211 => (if bt207.2 = 0 then ((oxbowref09_Same.f k bt207.1 (([(⟨2, 0, (⟨#[120]⟩ : ByteArray)⟩ : S36), (⟨3, 2, (⟨#[]⟩ : ByteArray)⟩ : S36), (⟨1, 3, (⟨#[]⟩ : ByteArray)⟩ : S36)] : List (S36)))).bind fun t216 => (if t216 = true then (if bt211.2 = 0 then (some (bt211.1.toList == ([120, 99, 100, 101] : List UInt8))) else (some false)) else (some false))) else (some false))))) = some r := h
  clear h
  obtain ⟨y204, hy204⟩ : ∃ y_ : List (S36), y_ = (([(⟨3, 1, (⟨#[]⟩ : ByteArray)⟩ : S36), (⟨2, 0, (⟨#[120]⟩ : ByteArray)⟩ : S36), (⟨3, 1, (⟨#[]⟩ : ByteArray)⟩ : S36), (⟨1, 1, (⟨#[]⟩ : ByteArray)⟩ : S36), (⟨1, 2, (⟨#[]⟩ : ByteArray)⟩ : S36)] : List (S36))) := ⟨_, rfl⟩
  replace H : ((delta_Normal.f k y204).bind fun bt207 => ((delta_Apply.f k (⟨#[97, 98, 99, 100, 101]⟩ : ByteArray) y204).bind fun bt211 => (if bt207.2 = 0 then ((oxbowref09_Same.f k bt207.1 (([(⟨2, 0, (⟨#[120]⟩ : ByteArray)⟩ : S36), (⟨3, 2, (⟨#[]⟩ : ByteArray)⟩ : S36), (⟨1, 3, (⟨#[]⟩ : ByteArray)⟩ : S36)] : List (S36)))).bind fun t216 => (if t216 = true then (if bt211.2 = 0 then (some (bt211.1.toList == ([120, 99, 100, 101] : List UInt8))) else (some false)) else (some false))) else (some false)))) = some r := by first | (rw [hy204]; with_reducible exact H) | (have H2_ := (Option.bind_some _ _).symm.trans H; rw [hy204]; with_reducible exact H2_) | (have H2_ := (Option.bind_some _ _).symm.trans H; with_reducible exact H2_) | with_reducible exact H | (rw [hy204]; exact H) | exact H
  have Ny204 := Aside0.mk hy204
  clear hy204
  replace H := Option.bind_eq_some_iff.mp H
  obtain ⟨⟨t207, t208⟩, A10, H⟩ := H
  replace H : ((delta_Apply.f k (⟨#[97, 98, 99, 100, 101]⟩ : ByteArray) y204).bind fun bt211 => (if t208 = 0 then ((oxbowref09_Same.f k t207 (([(⟨2, 0, (⟨#[120]⟩ : ByteArray)⟩ : S36), (⟨3, 2, (⟨#[]⟩ : ByteArray)⟩ : S36), (⟨1, 3, (⟨#[]⟩ : ByteArray)⟩ : S36)] : List (S36)))).bind fun t216 => (if t216 = true then (if bt211.2 = 0 then (some (bt211.1.toList == ([120, 99, 100, 101] : List UInt8))) else (some false)) else (some false))) else (some false))) = some r := H
  have A1 := Aside0.mk A10
  clear A10
  replace H := Option.bind_eq_some_iff.mp H
  obtain ⟨⟨t211, t212⟩, A20, H⟩ := H
  replace H : (if t208 = 0 then ((oxbowref09_Same.f k t207 (([(⟨2, 0, (⟨#[120]⟩ : ByteArray)⟩ : S36), (⟨3, 2, (⟨#[]⟩ : ByteArray)⟩ : S36), (⟨1, 3, (⟨#[]⟩ : ByteArray)⟩ : S36)] : List (S36)))).bind fun t216 => (if t216 = true then (if t212 = 0 then (some (t211.toList == ([120, 99, 100, 101] : List UInt8))) else (some false)) else (some false))) else (some false)) = some r := H
  have A2 := Aside0.mk A20
  clear A20
  by_cases c3 : t208 = 0
  · rw [if_pos c3] at H
    have c3b0 : (t208 == 0) = true := beq_iff_eq.mpr c3
    have c3b1 : (t208 != 0) = false := bne_eq_false_iff_eq.mpr c3
    clear c3
    obtain ⟨y213, hy213⟩ : ∃ y_ : List (S36), y_ = (([(⟨2, 0, (⟨#[120]⟩ : ByteArray)⟩ : S36), (⟨3, 2, (⟨#[]⟩ : ByteArray)⟩ : S36), (⟨1, 3, (⟨#[]⟩ : ByteArray)⟩ : S36)] : List (S36))) := ⟨_, rfl⟩
    replace H : ((oxbowref09_Same.f k t207 y213).bind fun t216 => (if t216 = true then (if t212 = 0 then (some (t211.toList == ([120, 99, 100, 101] : List UInt8))) else (some false)) else (some false))) = some r := by first | (rw [hy213]; with_reducible exact H) | (have H2_ := (Option.bind_some _ _).symm.trans H; rw [hy213]; with_reducible exact H2_) | (have H2_ := (Option.bind_some _ _).symm.trans H; with_reducible exact H2_) | with_reducible exact H | (rw [hy213]; exact H) | exact H
    have Ny213 := Aside0.mk hy213
    clear hy213
    replace H := Option.bind_eq_some_iff.mp H
    obtain ⟨t216, A40, H⟩ := H
    replace H : (if t216 = true then (if t212 = 0 then (some (t211.toList == ([120, 99, 100, 101] : List UInt8))) else (some false)) else (some false)) = some r := H
    have A4 := Aside0.mk A40
    clear A40
    by_cases c5 : t216 = true
    · subst c5
      have H1 : (if t212 = 0 then (some (t211.toList == ([120, 99, 100, 101] : List UInt8))) else (some false)) = some r := by rw [if_pos rfl] at H; exact H
      clear H
      have H := H1
      clear H1
      by_cases c6 : t212 = 0
      · rw [if_pos c6] at H
        have c6b0 : (t212 == 0) = true := beq_iff_eq.mpr c6
        have c6b1 : (t212 != 0) = false := bne_eq_false_iff_eq.mpr c6
        clear c6
        obtain rfl := Option.some.inj H
        go_enter Try.func17, Try.ntmps17
        go_wp2_with (first | ((with_reducible refine gate_dst (N := 11) rfl ?_); (try (refine gate_guard (by rfl) ?_; dsimp only)); refine Kd.R_lit k36 _ 36 ?hg (N := 11) ?hd (xs := ([(⟨3, 1, (⟨#[]⟩ : ByteArray)⟩ : S36), (⟨2, 0, (⟨#[120]⟩ : ByteArray)⟩ : S36), (⟨3, 1, (⟨#[]⟩ : ByteArray)⟩ : S36), (⟨1, 1, (⟨#[]⟩ : ByteArray)⟩ : S36), (⟨1, 2, (⟨#[]⟩ : ByteArray)⟩ : S36)] : List (S36))) (inner := [.int .i64 3, .int .i64 1, .string (⟨#[]⟩ : ByteArray), .int .i64 2, .int .i64 0, .string (⟨#[120]⟩ : ByteArray), .int .i64 3, .int .i64 1, .string (⟨#[]⟩ : ByteArray), .int .i64 1, .int .i64 1, .string (⟨#[]⟩ : ByteArray), .int .i64 1, .int .i64 2, .string (⟨#[]⟩ : ByteArray)]) (ok := fun _ => True) (okp := fun _ => True) ?hr ?hp (fun _ hk => hk) trivial (Below.refl _ _) (Nat.le_refl _) (by simp) ?_; (case hd => rfl); (case hg => rfl); (case hr => first | (go_simp; done) | (go_simp; rfl)); (case hp => exact (Reps.c3 (show Kd.M k36 _ _ _ (⟨3, 1, (⟨#[]⟩ : ByteArray)⟩ : S36) [.int .i64 3, .int .i64 1, .string (⟨#[]⟩ : ByteArray)] from (k36_mkM _ _ _ (⟨3, 1, (⟨#[]⟩ : ByteArray)⟩ : S36) )) (Reps.c3 (show Kd.M k36 _ _ _ (⟨2, 0, (⟨#[120]⟩ : ByteArray)⟩ : S36) [.int .i64 2, .int .i64 0, .string (⟨#[120]⟩ : ByteArray)] from (k36_mkM _ _ _ (⟨2, 0, (⟨#[120]⟩ : ByteArray)⟩ : S36) )) (Reps.c3 (show Kd.M k36 _ _ _ (⟨3, 1, (⟨#[]⟩ : ByteArray)⟩ : S36) [.int .i64 3, .int .i64 1, .string (⟨#[]⟩ : ByteArray)] from (k36_mkM _ _ _ (⟨3, 1, (⟨#[]⟩ : ByteArray)⟩ : S36) )) (Reps.c3 (show Kd.M k36 _ _ _ (⟨1, 1, (⟨#[]⟩ : ByteArray)⟩ : S36) [.int .i64 1, .int .i64 1, .string (⟨#[]⟩ : ByteArray)] from (k36_mkM _ _ _ (⟨1, 1, (⟨#[]⟩ : ByteArray)⟩ : S36) )) (Reps.c3 (show Kd.M k36 _ _ _ (⟨1, 2, (⟨#[]⟩ : ByteArray)⟩ : S36) [.int .i64 1, .int .i64 2, .string (⟨#[]⟩ : ByteArray)] from (k36_mkM _ _ _ (⟨1, 2, (⟨#[]⟩ : ByteArray)⟩ : S36) )) (Reps.none _ _))))))); intro v205 w7 ho8 hb hg_ hnew_; clear hg_ hnew_; (first | rw [← Ny204.out] at ho8 | (simp only [Int.reduceToNat] at ho8; rw [← Ny204.out] at ho8)); have n0_ := Aside0.mk (Kd.R_lower ho8 (below_size (by repeat (first | (with_reducible first | exact HB.out | apply below_alloc | apply pw_below_drewN | apply below_drew1) | exact HB.out)))); have n1_ := Aside0.mk (below_step (by repeat (first | (with_reducible first | exact HB.out | apply below_alloc | apply pw_below_drewN | apply below_drew1) | exact HB.out)) hb); clear HB; have HO206 := n0_; have HB := n1_; clear n0_ n1_; clear hb ho8; obtain ⟨Ao9, co9, eo9⟩ := Kd.R_slice HO206.out; subst eo9) | ((with_reducible refine gate_callee (f := 21) rfl ?_); refine goesL_ (some 14) rfl rfl Try.func21 (by kernel_rfl) rfl #[.slice Ao9 y204.length co9] rfl (by (try simp only [List.map_toArray, List.map_cons, List.map_nil]); first | done | rfl | (simp only [List.length_drop, List.length_take]; rfl)) ?_; (with_reducible refine (delta_Normal.calls k _ _ y204 t207 t208 _ ?side1 ?side2 A1.out).mono ?_); (case side1 => repeat (first | exact (Kd.R_reads' HO206.out).2.2 | (with_reducible refine Kd.C_alloc ?_ _) | (with_reducible refine Kd.C_drewN ?_ _) | (with_reducible refine Kd.C_drew ?_))); (case side2 => exact (Kd.R_reads' HO206.out).2.1); rintro e w10 ⟨v209, rfl, ho0, hb⟩; refine ⟨_, rfl, ?_⟩; have n0_ := Aside0.mk (Kd.R_elder' (by (with_reducible repeat (first | apply Kd.R_alloc | apply Kd.R_drewN | apply Kd.R_drew)); exact HO206.out) (Kd.R_base ho0) hb); have n1_ := Aside0.mk (Kd.R_lower (Kd.R_new' ho0 (Kd.R_lt (by (with_reducible repeat (first | apply Kd.R_alloc | apply Kd.R_drewN | apply Kd.R_drew)); exact HO206.out))) (below_size (by repeat (first | (with_reducible first | exact HB.out | apply below_alloc | apply pw_below_drewN | apply below_drew1) | exact HB.out)))); have n2_ := Aside0.mk (below_step (by repeat (first | (with_reducible first | exact HB.out | apply below_alloc | apply pw_below_drewN | apply below_drew1) | exact HB.out)) hb); clear HO206; clear HB; have HO206 := n0_; have HO210 := n1_; have HB := n2_; clear n0_ n1_ n2_; (try clear hb); (try clear hb2); (try clear hk); (try clear hi); (try clear ho0)) | ((with_reducible refine gate_callee (f := 14) rfl ?_); refine goesL_ (some 19) rfl rfl Try.func14 (by kernel_rfl) rfl #[.string (⟨#[97, 98, 99, 100, 101]⟩ : ByteArray), .slice Ao9 y204.length co9] rfl (by (try simp only [List.map_toArray, List.map_cons, List.map_nil]); first | done | rfl | (simp only [List.length_drop, List.length_take]; rfl)) ?_; (with_reducible refine (delta_Apply.calls k (⟨#[97, 98, 99, 100, 101]⟩ : ByteArray) _ _ y204 t211 t212 _ ?side1 ?side2 A2.out).mono ?_); (case side1 => repeat (first | exact (Kd.R_reads' HO206.out).2.2 | (with_reducible refine Kd.C_alloc ?_ _) | (with_reducible refine Kd.C_drewN ?_ _) | (with_reducible refine Kd.C_drew ?_))); (case side2 => exact (Kd.R_reads' HO206.out).2.1); rintro e w11 ⟨rfl, hb⟩; refine ⟨_, rfl, ?_⟩; have n0_ := Aside0.mk (Kd.R_below (by (with_reducible repeat (first | apply Kd.R_alloc | apply Kd.R_drewN | apply Kd.R_drew)); exact HO206.out) hb); have n1_ := Aside0.mk (Kd.R_below (by (with_reducible repeat (first | apply Kd.R_alloc | apply Kd.R_drewN | apply Kd.R_drew)); exact HO210.out) hb); have n2_ := Aside0.mk (below_step (by repeat (first | (with_reducible first | exact HB.out | apply below_alloc | apply pw_below_drewN | apply below_drew1) | exact HB.out)) hb); clear HO206; clear HO210; clear HB; have HO206 := n0_; have HO210 := n1_; have HB := n2_; clear n0_ n1_ n2_; (try clear hb); (try clear hb2); (try clear hk); (try clear hi)) | ((with_reducible refine gate_dst (N := 29) rfl ?_); (try (refine gate_guard (by rfl) ?_; dsimp only)); refine Kd.R_lit k36 _ 36 ?hg (N := 29) ?hd (xs := ([(⟨2, 0, (⟨#[120]⟩ : ByteArray)⟩ : S36), (⟨3, 2, (⟨#[]⟩ : ByteArray)⟩ : S36), (⟨1, 3, (⟨#[]⟩ : ByteArray)⟩ : S36)] : List (S36))) (inner := [.int .i64 2, .int .i64 0, .string (⟨#[120]⟩ : ByteArray), .int .i64 3, .int .i64 2, .string (⟨#[]⟩ : ByteArray), .int .i64 1, .int .i64 3, .string (⟨#[]⟩ : ByteArray)]) (ok := fun _ => True) (okp := fun _ => True) ?hr ?hp (fun _ hk => hk) trivial (Below.refl _ _) (Nat.le_refl _) (by simp) ?_; (case hd => rfl); (case hg => rfl); (case hr => first | (go_simp; done) | (go_simp; rfl)); (case hp => exact (Reps.c3 (show Kd.M k36 _ _ _ (⟨2, 0, (⟨#[120]⟩ : ByteArray)⟩ : S36) [.int .i64 2, .int .i64 0, .string (⟨#[120]⟩ : ByteArray)] from (k36_mkM _ _ _ (⟨2, 0, (⟨#[120]⟩ : ByteArray)⟩ : S36) )) (Reps.c3 (show Kd.M k36 _ _ _ (⟨3, 2, (⟨#[]⟩ : ByteArray)⟩ : S36) [.int .i64 3, .int .i64 2, .string (⟨#[]⟩ : ByteArray)] from (k36_mkM _ _ _ (⟨3, 2, (⟨#[]⟩ : ByteArray)⟩ : S36) )) (Reps.c3 (show Kd.M k36 _ _ _ (⟨1, 3, (⟨#[]⟩ : ByteArray)⟩ : S36) [.int .i64 1, .int .i64 3, .string (⟨#[]⟩ : ByteArray)] from (k36_mkM _ _ _ (⟨1, 3, (⟨#[]⟩ : ByteArray)⟩ : S36) )) (Reps.none _ _))))); intro v214 w12 ho13 hb hg_ hnew_; clear hg_ hnew_; (first | rw [← Ny213.out] at ho13 | (simp only [Int.reduceToNat] at ho13; rw [← Ny213.out] at ho13)); have n0_ := Aside0.mk (Kd.R_elder' (by (with_reducible repeat (first | apply Kd.R_alloc | apply Kd.R_drewN | apply Kd.R_drew)); exact HO206.out) (Kd.R_base ho13) hb); have n1_ := Aside0.mk (Kd.R_elder' (by (with_reducible repeat (first | apply Kd.R_alloc | apply Kd.R_drewN | apply Kd.R_drew)); exact HO210.out) (Kd.R_base ho13) hb); have n2_ := Aside0.mk (Kd.R_lower (Kd.R_new' (Kd.R_new' ho13 (Kd.R_lt (by (with_reducible repeat (first | apply Kd.R_alloc | apply Kd.R_drewN | apply Kd.R_drew)); exact HO206.out))) (Kd.R_lt (by (with_reducible repeat (first | apply Kd.R_alloc | apply Kd.R_drewN | apply Kd.R_drew)); exact HO210.out))) (below_size (by repeat (first | (with_reducible first | exact HB.out | apply below_alloc | apply pw_below_drewN | apply below_drew1) | exact HB.out)))); have n3_ := Aside0.mk (below_step (by repeat (first | (with_reducible first | exact HB.out | apply below_alloc | apply pw_below_drewN | apply below_drew1) | exact HB.out)) hb); clear HO206; clear HO210; clear HB; have HO206 := n0_; have HO210 := n1_; have HO215 := n2_; have HB := n3_; clear n0_ n1_ n2_ n3_; clear hb ho13; obtain ⟨Ao14, co14, eo14⟩ := Kd.R_slice HO210.out; subst eo14; obtain ⟨Ao15, co15, eo15⟩ := Kd.R_slice HO215.out; subst eo15) | (go_at_call 26; (with_reducible refine (oxbowref09_Same.calls k _ _ t207 _ _ y213 true _ ?side1 ?side2 ?side3 ?side4 A4.out).mono ?_); (case side1 => repeat (first | exact (Kd.R_reads' HO210.out).2.2 | (with_reducible refine Kd.C_alloc ?_ _) | (with_reducible refine Kd.C_drewN ?_ _) | (with_reducible refine Kd.C_drew ?_))); (case side2 => exact (Kd.R_reads' HO210.out).2.1); (case side3 => repeat (first | exact (Kd.R_reads' HO215.out).2.2 | (with_reducible refine Kd.C_alloc ?_ _) | (with_reducible refine Kd.C_drewN ?_ _) | (with_reducible refine Kd.C_drew ?_))); (case side4 => exact (Kd.R_reads' HO215.out).2.1); rintro e w' ⟨rfl, ⟨nd, rfl⟩⟩))
        go_ret
        exact ⟨by first | rfl | (simp [errW_none, errW_some] <;> rfl) | (simp [*, errW_none, errW_some] <;> rfl), by repeat (first | (with_reducible first | exact HB.out | apply below_alloc | apply pw_below_drewN | apply below_drew1) | exact HB.out)⟩
      · rw [if_neg c6] at H
        have c6b0 : (t212 == 0) = false := beq_eq_false_iff_ne.mpr c6
        have c6b1 : (t212 != 0) = true := bne_iff_ne.mpr c6
        obtain rfl := Option.some.inj H
        go_enter Try.func17, Try.ntmps17
        go_wp2_with (first | ((with_reducible refine gate_dst (N := 11) rfl ?_); (try (refine gate_guard (by rfl) ?_; dsimp only)); refine Kd.R_lit k36 _ 36 ?hg (N := 11) ?hd (xs := ([(⟨3, 1, (⟨#[]⟩ : ByteArray)⟩ : S36), (⟨2, 0, (⟨#[120]⟩ : ByteArray)⟩ : S36), (⟨3, 1, (⟨#[]⟩ : ByteArray)⟩ : S36), (⟨1, 1, (⟨#[]⟩ : ByteArray)⟩ : S36), (⟨1, 2, (⟨#[]⟩ : ByteArray)⟩ : S36)] : List (S36))) (inner := [.int .i64 3, .int .i64 1, .string (⟨#[]⟩ : ByteArray), .int .i64 2, .int .i64 0, .string (⟨#[120]⟩ : ByteArray), .int .i64 3, .int .i64 1, .string (⟨#[]⟩ : ByteArray), .int .i64 1, .int .i64 1, .string (⟨#[]⟩ : ByteArray), .int .i64 1, .int .i64 2, .string (⟨#[]⟩ : ByteArray)]) (ok := fun _ => True) (okp := fun _ => True) ?hr ?hp (fun _ hk => hk) trivial (Below.refl _ _) (Nat.le_refl _) (by simp) ?_; (case hd => rfl); (case hg => rfl); (case hr => first | (go_simp; done) | (go_simp; rfl)); (case hp => exact (Reps.c3 (show Kd.M k36 _ _ _ (⟨3, 1, (⟨#[]⟩ : ByteArray)⟩ : S36) [.int .i64 3, .int .i64 1, .string (⟨#[]⟩ : ByteArray)] from (k36_mkM _ _ _ (⟨3, 1, (⟨#[]⟩ : ByteArray)⟩ : S36) )) (Reps.c3 (show Kd.M k36 _ _ _ (⟨2, 0, (⟨#[120]⟩ : ByteArray)⟩ : S36) [.int .i64 2, .int .i64 0, .string (⟨#[120]⟩ : ByteArray)] from (k36_mkM _ _ _ (⟨2, 0, (⟨#[120]⟩ : ByteArray)⟩ : S36) )) (Reps.c3 (show Kd.M k36 _ _ _ (⟨3, 1, (⟨#[]⟩ : ByteArray)⟩ : S36) [.int .i64 3, .int .i64 1, .string (⟨#[]⟩ : ByteArray)] from (k36_mkM _ _ _ (⟨3, 1, (⟨#[]⟩ : ByteArray)⟩ : S36) )) (Reps.c3 (show Kd.M k36 _ _ _ (⟨1, 1, (⟨#[]⟩ : ByteArray)⟩ : S36) [.int .i64 1, .int .i64 1, .string (⟨#[]⟩ : ByteArray)] from (k36_mkM _ _ _ (⟨1, 1, (⟨#[]⟩ : ByteArray)⟩ : S36) )) (Reps.c3 (show Kd.M k36 _ _ _ (⟨1, 2, (⟨#[]⟩ : ByteArray)⟩ : S36) [.int .i64 1, .int .i64 2, .string (⟨#[]⟩ : ByteArray)] from (k36_mkM _ _ _ (⟨1, 2, (⟨#[]⟩ : ByteArray)⟩ : S36) )) (Reps.none _ _))))))); intro v205 w16 ho17 hb hg_ hnew_; clear hg_ hnew_; (first | rw [← Ny204.out] at ho17 | (simp only [Int.reduceToNat] at ho17; rw [← Ny204.out] at ho17)); have n0_ := Aside0.mk (Kd.R_lower ho17 (below_size (by repeat (first | (with_reducible first | exact HB.out | apply below_alloc | apply pw_below_drewN | apply below_drew1) | exact HB.out)))); have n1_ := Aside0.mk (below_step (by repeat (first | (with_reducible first | exact HB.out | apply below_alloc | apply pw_below_drewN | apply below_drew1) | exact HB.out)) hb); clear HB; have HO206 := n0_; have HB := n1_; clear n0_ n1_; clear hb ho17; obtain ⟨Ao18, co18, eo18⟩ := Kd.R_slice HO206.out; subst eo18) | ((with_reducible refine gate_callee (f := 21) rfl ?_); refine goesL_ (some 14) rfl rfl Try.func21 (by kernel_rfl) rfl #[.slice Ao18 y204.length co18] rfl (by (try simp only [List.map_toArray, List.map_cons, List.map_nil]); first | done | rfl | (simp only [List.length_drop, List.length_take]; rfl)) ?_; (with_reducible refine (delta_Normal.calls k _ _ y204 t207 t208 _ ?side1 ?side2 A1.out).mono ?_); (case side1 => repeat (first | exact (Kd.R_reads' HO206.out).2.2 | (with_reducible refine Kd.C_alloc ?_ _) | (with_reducible refine Kd.C_drewN ?_ _) | (with_reducible refine Kd.C_drew ?_))); (case side2 => exact (Kd.R_reads' HO206.out).2.1); rintro e w19 ⟨v209, rfl, ho0, hb⟩; refine ⟨_, rfl, ?_⟩; have n0_ := Aside0.mk (Kd.R_elder' (by (with_reducible repeat (first | apply Kd.R_alloc | apply Kd.R_drewN | apply Kd.R_drew)); exact HO206.out) (Kd.R_base ho0) hb); have n1_ := Aside0.mk (Kd.R_lower (Kd.R_new' ho0 (Kd.R_lt (by (with_reducible repeat (first | apply Kd.R_alloc | apply Kd.R_drewN | apply Kd.R_drew)); exact HO206.out))) (below_size (by repeat (first | (with_reducible first | exact HB.out | apply below_alloc | apply pw_below_drewN | apply below_drew1) | exact HB.out)))); have n2_ := Aside0.mk (below_step (by repeat (first | (with_reducible first | exact HB.out | apply below_alloc | apply pw_below_drewN | apply below_drew1) | exact HB.out)) hb); clear HO206; clear HB; have HO206 := n0_; have HO210 := n1_; have HB := n2_; clear n0_ n1_ n2_; (try clear hb); (try clear hb2); (try clear hk); (try clear hi); (try clear ho0)) | ((with_reducible refine gate_callee (f := 14) rfl ?_); refine goesL_ (some 19) rfl rfl Try.func14 (by kernel_rfl) rfl #[.string (⟨#[97, 98, 99, 100, 101]⟩ : ByteArray), .slice Ao18 y204.length co18] rfl (by (try simp only [List.map_toArray, List.map_cons, List.map_nil]); first | done | rfl | (simp only [List.length_drop, List.length_take]; rfl)) ?_; (with_reducible refine (delta_Apply.calls k (⟨#[97, 98, 99, 100, 101]⟩ : ByteArray) _ _ y204 t211 t212 _ ?side1 ?side2 A2.out).mono ?_); (case side1 => repeat (first | exact (Kd.R_reads' HO206.out).2.2 | (with_reducible refine Kd.C_alloc ?_ _) | (with_reducible refine Kd.C_drewN ?_ _) | (with_reducible refine Kd.C_drew ?_))); (case side2 => exact (Kd.R_reads' HO206.out).2.1); rintro e w20 ⟨rfl, hb⟩; refine ⟨_, rfl, ?_⟩; have n0_ := Aside0.mk (Kd.R_below (by (with_reducible repeat (first | apply Kd.R_alloc | apply Kd.R_drewN | apply Kd.R_drew)); exact HO206.out) hb); have n1_ := Aside0.mk (Kd.R_below (by (with_reducible repeat (first | apply Kd.R_alloc | apply Kd.R_drewN | apply Kd.R_drew)); exact HO210.out) hb); have n2_ := Aside0.mk (below_step (by repeat (first | (with_reducible first | exact HB.out | apply below_alloc | apply pw_below_drewN | apply below_drew1) | exact HB.out)) hb); clear HO206; clear HO210; clear HB; have HO206 := n0_; have HO210 := n1_; have HB := n2_; clear n0_ n1_ n2_; (try clear hb); (try clear hb2); (try clear hk); (try clear hi)) | ((with_reducible refine gate_dst (N := 29) rfl ?_); (try (refine gate_guard (by rfl) ?_; dsimp only)); refine Kd.R_lit k36 _ 36 ?hg (N := 29) ?hd (xs := ([(⟨2, 0, (⟨#[120]⟩ : ByteArray)⟩ : S36), (⟨3, 2, (⟨#[]⟩ : ByteArray)⟩ : S36), (⟨1, 3, (⟨#[]⟩ : ByteArray)⟩ : S36)] : List (S36))) (inner := [.int .i64 2, .int .i64 0, .string (⟨#[120]⟩ : ByteArray), .int .i64 3, .int .i64 2, .string (⟨#[]⟩ : ByteArray), .int .i64 1, .int .i64 3, .string (⟨#[]⟩ : ByteArray)]) (ok := fun _ => True) (okp := fun _ => True) ?hr ?hp (fun _ hk => hk) trivial (Below.refl _ _) (Nat.le_refl _) (by simp) ?_; (case hd => rfl); (case hg => rfl); (case hr => first | (go_simp; done) | (go_simp; rfl)); (case hp => exact (Reps.c3 (show Kd.M k36 _ _ _ (⟨2, 0, (⟨#[120]⟩ : ByteArray)⟩ : S36) [.int .i64 2, .int .i64 0, .string (⟨#[120]⟩ : ByteArray)] from (k36_mkM _ _ _ (⟨2, 0, (⟨#[120]⟩ : ByteArray)⟩ : S36) )) (Reps.c3 (show Kd.M k36 _ _ _ (⟨3, 2, (⟨#[]⟩ : ByteArray)⟩ : S36) [.int .i64 3, .int .i64 2, .string (⟨#[]⟩ : ByteArray)] from (k36_mkM _ _ _ (⟨3, 2, (⟨#[]⟩ : ByteArray)⟩ : S36) )) (Reps.c3 (show Kd.M k36 _ _ _ (⟨1, 3, (⟨#[]⟩ : ByteArray)⟩ : S36) [.int .i64 1, .int .i64 3, .string (⟨#[]⟩ : ByteArray)] from (k36_mkM _ _ _ (⟨1, 3, (⟨#[]⟩ : ByteArray)⟩ : S36) )) (Reps.none _ _))))); intro v214 w21 ho22 hb hg_ hnew_; clear hg_ hnew_; (first | rw [← Ny213.out] at ho22 | (simp only [Int.reduceToNat] at ho22; rw [← Ny213.out] at ho22)); have n0_ := Aside0.mk (Kd.R_elder' (by (with_reducible repeat (first | apply Kd.R_alloc | apply Kd.R_drewN | apply Kd.R_drew)); exact HO206.out) (Kd.R_base ho22) hb); have n1_ := Aside0.mk (Kd.R_elder' (by (with_reducible repeat (first | apply Kd.R_alloc | apply Kd.R_drewN | apply Kd.R_drew)); exact HO210.out) (Kd.R_base ho22) hb); have n2_ := Aside0.mk (Kd.R_lower (Kd.R_new' (Kd.R_new' ho22 (Kd.R_lt (by (with_reducible repeat (first | apply Kd.R_alloc | apply Kd.R_drewN | apply Kd.R_drew)); exact HO206.out))) (Kd.R_lt (by (with_reducible repeat (first | apply Kd.R_alloc | apply Kd.R_drewN | apply Kd.R_drew)); exact HO210.out))) (below_size (by repeat (first | (with_reducible first | exact HB.out | apply below_alloc | apply pw_below_drewN | apply below_drew1) | exact HB.out)))); have n3_ := Aside0.mk (below_step (by repeat (first | (with_reducible first | exact HB.out | apply below_alloc | apply pw_below_drewN | apply below_drew1) | exact HB.out)) hb); clear HO206; clear HO210; clear HB; have HO206 := n0_; have HO210 := n1_; have HO215 := n2_; have HB := n3_; clear n0_ n1_ n2_ n3_; clear hb ho22; obtain ⟨Ao23, co23, eo23⟩ := Kd.R_slice HO210.out; subst eo23; obtain ⟨Ao24, co24, eo24⟩ := Kd.R_slice HO215.out; subst eo24) | (go_at_call 26; (with_reducible refine (oxbowref09_Same.calls k _ _ t207 _ _ y213 true _ ?side1 ?side2 ?side3 ?side4 A4.out).mono ?_); (case side1 => repeat (first | exact (Kd.R_reads' HO210.out).2.2 | (with_reducible refine Kd.C_alloc ?_ _) | (with_reducible refine Kd.C_drewN ?_ _) | (with_reducible refine Kd.C_drew ?_))); (case side2 => exact (Kd.R_reads' HO210.out).2.1); (case side3 => repeat (first | exact (Kd.R_reads' HO215.out).2.2 | (with_reducible refine Kd.C_alloc ?_ _) | (with_reducible refine Kd.C_drewN ?_ _) | (with_reducible refine Kd.C_drew ?_))); (case side4 => exact (Kd.R_reads' HO215.out).2.1); rintro e w' ⟨rfl, ⟨nd, rfl⟩⟩))
        go_ret
        exact ⟨by first | rfl | (simp [errW_none, errW_some] <;> rfl) | (simp [*, errW_none, errW_some] <;> rfl), by repeat (first | (with_reducible first | exact HB.out | apply below_alloc | apply pw_below_drewN | apply below_drew1) | exact HB.out)⟩
    · replace c5 := Bool.eq_false_iff.mpr c5
      subst c5
      have H1 : (some false) = some r := by rw [if_neg (show ¬ (false = true) by decide)] at H; exact H
      clear H
      have H := H1
      clear H1
      obtain rfl := Option.some.inj H
      go_enter Try.func17, Try.ntmps17
      go_wp2_with (first | ((with_reducible refine gate_dst (N := 11) rfl ?_); (try (refine gate_guard (by rfl) ?_; dsimp only)); refine Kd.R_lit k36 _ 36 ?hg (N := 11) ?hd (xs := ([(⟨3, 1, (⟨#[]⟩ : ByteArray)⟩ : S36), (⟨2, 0, (⟨#[120]⟩ : ByteArray)⟩ : S36), (⟨3, 1, (⟨#[]⟩ : ByteArray)⟩ : S36), (⟨1, 1, (⟨#[]⟩ : ByteArray)⟩ : S36), (⟨1, 2, (⟨#[]⟩ : ByteArray)⟩ : S36)] : List (S36))) (inner := [.int .i64 3, .int .i64 1, .string (⟨#[]⟩ : ByteArray), .int .i64 2, .int .i64 0, .string (⟨#[120]⟩ : ByteArray), .int .i64 3, .int .i64 1, .string (⟨#[]⟩ : ByteArray), .int .i64 1, .int .i64 1, .string (⟨#[]⟩ : ByteArray), .int .i64 1, .int .i64 2, .string (⟨#[]⟩ : ByteArray)]) (ok := fun _ => True) (okp := fun _ => True) ?hr ?hp (fun _ hk => hk) trivial (Below.refl _ _) (Nat.le_refl _) (by simp) ?_; (case hd => rfl); (case hg => rfl); (case hr => first | (go_simp; done) | (go_simp; rfl)); (case hp => exact (Reps.c3 (show Kd.M k36 _ _ _ (⟨3, 1, (⟨#[]⟩ : ByteArray)⟩ : S36) [.int .i64 3, .int .i64 1, .string (⟨#[]⟩ : ByteArray)] from (k36_mkM _ _ _ (⟨3, 1, (⟨#[]⟩ : ByteArray)⟩ : S36) )) (Reps.c3 (show Kd.M k36 _ _ _ (⟨2, 0, (⟨#[120]⟩ : ByteArray)⟩ : S36) [.int .i64 2, .int .i64 0, .string (⟨#[120]⟩ : ByteArray)] from (k36_mkM _ _ _ (⟨2, 0, (⟨#[120]⟩ : ByteArray)⟩ : S36) )) (Reps.c3 (show Kd.M k36 _ _ _ (⟨3, 1, (⟨#[]⟩ : ByteArray)⟩ : S36) [.int .i64 3, .int .i64 1, .string (⟨#[]⟩ : ByteArray)] from (k36_mkM _ _ _ (⟨3, 1, (⟨#[]⟩ : ByteArray)⟩ : S36) )) (Reps.c3 (show Kd.M k36 _ _ _ (⟨1, 1, (⟨#[]⟩ : ByteArray)⟩ : S36) [.int .i64 1, .int .i64 1, .string (⟨#[]⟩ : ByteArray)] from (k36_mkM _ _ _ (⟨1, 1, (⟨#[]⟩ : ByteArray)⟩ : S36) )) (Reps.c3 (show Kd.M k36 _ _ _ (⟨1, 2, (⟨#[]⟩ : ByteArray)⟩ : S36) [.int .i64 1, .int .i64 2, .string (⟨#[]⟩ : ByteArray)] from (k36_mkM _ _ _ (⟨1, 2, (⟨#[]⟩ : ByteArray)⟩ : S36) )) (Reps.none _ _))))))); intro v205 w25 ho26 hb hg_ hnew_; clear hg_ hnew_; (first | rw [← Ny204.out] at ho26 | (simp only [Int.reduceToNat] at ho26; rw [← Ny204.out] at ho26)); have n0_ := Aside0.mk (Kd.R_lower ho26 (below_size (by repeat (first | (with_reducible first | exact HB.out | apply below_alloc | apply pw_below_drewN | apply below_drew1) | exact HB.out)))); have n1_ := Aside0.mk (below_step (by repeat (first | (with_reducible first | exact HB.out | apply below_alloc | apply pw_below_drewN | apply below_drew1) | exact HB.out)) hb); clear HB; have HO206 := n0_; have HB := n1_; clear n0_ n1_; clear hb ho26; obtain ⟨Ao27, co27, eo27⟩ := Kd.R_slice HO206.out; subst eo27) | ((with_reducible refine gate_callee (f := 21) rfl ?_); refine goesL_ (some 14) rfl rfl Try.func21 (by kernel_rfl) rfl #[.slice Ao27 y204.length co27] rfl (by (try simp only [List.map_toArray, List.map_cons, List.map_nil]); first | done | rfl | (simp only [List.length_drop, List.length_take]; rfl)) ?_; (with_reducible refine (delta_Normal.calls k _ _ y204 t207 t208 _ ?side1 ?side2 A1.out).mono ?_); (case side1 => repeat (first | exact (Kd.R_reads' HO206.out).2.2 | (with_reducible refine Kd.C_alloc ?_ _) | (with_reducible refine Kd.C_drewN ?_ _) | (with_reducible refine Kd.C_drew ?_))); (case side2 => exact (Kd.R_reads' HO206.out).2.1); rintro e w28 ⟨v209, rfl, ho0, hb⟩; refine ⟨_, rfl, ?_⟩; have n0_ := Aside0.mk (Kd.R_elder' (by (with_reducible repeat (first | apply Kd.R_alloc | apply Kd.R_drewN | apply Kd.R_drew)); exact HO206.out) (Kd.R_base ho0) hb); have n1_ := Aside0.mk (Kd.R_lower (Kd.R_new' ho0 (Kd.R_lt (by (with_reducible repeat (first | apply Kd.R_alloc | apply Kd.R_drewN | apply Kd.R_drew)); exact HO206.out))) (below_size (by repeat (first | (with_reducible first | exact HB.out | apply below_alloc | apply pw_below_drewN | apply below_drew1) | exact HB.out)))); have n2_ := Aside0.mk (below_step (by repeat (first | (with_reducible first | exact HB.out | apply below_alloc | apply pw_below_drewN | apply below_drew1) | exact HB.out)) hb); clear HO206; clear HB; have HO206 := n0_; have HO210 := n1_; have HB := n2_; clear n0_ n1_ n2_; (try clear hb); (try clear hb2); (try clear hk); (try clear hi); (try clear ho0)) | ((with_reducible refine gate_callee (f := 14) rfl ?_); refine goesL_ (some 19) rfl rfl Try.func14 (by kernel_rfl) rfl #[.string (⟨#[97, 98, 99, 100, 101]⟩ : ByteArray), .slice Ao27 y204.length co27] rfl (by (try simp only [List.map_toArray, List.map_cons, List.map_nil]); first | done | rfl | (simp only [List.length_drop, List.length_take]; rfl)) ?_; (with_reducible refine (delta_Apply.calls k (⟨#[97, 98, 99, 100, 101]⟩ : ByteArray) _ _ y204 t211 t212 _ ?side1 ?side2 A2.out).mono ?_); (case side1 => repeat (first | exact (Kd.R_reads' HO206.out).2.2 | (with_reducible refine Kd.C_alloc ?_ _) | (with_reducible refine Kd.C_drewN ?_ _) | (with_reducible refine Kd.C_drew ?_))); (case side2 => exact (Kd.R_reads' HO206.out).2.1); rintro e w29 ⟨rfl, hb⟩; refine ⟨_, rfl, ?_⟩; have n0_ := Aside0.mk (Kd.R_below (by (with_reducible repeat (first | apply Kd.R_alloc | apply Kd.R_drewN | apply Kd.R_drew)); exact HO206.out) hb); have n1_ := Aside0.mk (Kd.R_below (by (with_reducible repeat (first | apply Kd.R_alloc | apply Kd.R_drewN | apply Kd.R_drew)); exact HO210.out) hb); have n2_ := Aside0.mk (below_step (by repeat (first | (with_reducible first | exact HB.out | apply below_alloc | apply pw_below_drewN | apply below_drew1) | exact HB.out)) hb); clear HO206; clear HO210; clear HB; have HO206 := n0_; have HO210 := n1_; have HB := n2_; clear n0_ n1_ n2_; (try clear hb); (try clear hb2); (try clear hk); (try clear hi)) | ((with_reducible refine gate_dst (N := 29) rfl ?_); (try (refine gate_guard (by rfl) ?_; dsimp only)); refine Kd.R_lit k36 _ 36 ?hg (N := 29) ?hd (xs := ([(⟨2, 0, (⟨#[120]⟩ : ByteArray)⟩ : S36), (⟨3, 2, (⟨#[]⟩ : ByteArray)⟩ : S36), (⟨1, 3, (⟨#[]⟩ : ByteArray)⟩ : S36)] : List (S36))) (inner := [.int .i64 2, .int .i64 0, .string (⟨#[120]⟩ : ByteArray), .int .i64 3, .int .i64 2, .string (⟨#[]⟩ : ByteArray), .int .i64 1, .int .i64 3, .string (⟨#[]⟩ : ByteArray)]) (ok := fun _ => True) (okp := fun _ => True) ?hr ?hp (fun _ hk => hk) trivial (Below.refl _ _) (Nat.le_refl _) (by simp) ?_; (case hd => rfl); (case hg => rfl); (case hr => first | (go_simp; done) | (go_simp; rfl)); (case hp => exact (Reps.c3 (show Kd.M k36 _ _ _ (⟨2, 0, (⟨#[120]⟩ : ByteArray)⟩ : S36) [.int .i64 2, .int .i64 0, .string (⟨#[120]⟩ : ByteArray)] from (k36_mkM _ _ _ (⟨2, 0, (⟨#[120]⟩ : ByteArray)⟩ : S36) )) (Reps.c3 (show Kd.M k36 _ _ _ (⟨3, 2, (⟨#[]⟩ : ByteArray)⟩ : S36) [.int .i64 3, .int .i64 2, .string (⟨#[]⟩ : ByteArray)] from (k36_mkM _ _ _ (⟨3, 2, (⟨#[]⟩ : ByteArray)⟩ : S36) )) (Reps.c3 (show Kd.M k36 _ _ _ (⟨1, 3, (⟨#[]⟩ : ByteArray)⟩ : S36) [.int .i64 1, .int .i64 3, .string (⟨#[]⟩ : ByteArray)] from (k36_mkM _ _ _ (⟨1, 3, (⟨#[]⟩ : ByteArray)⟩ : S36) )) (Reps.none _ _))))); intro v214 w30 ho31 hb hg_ hnew_; clear hg_ hnew_; (first | rw [← Ny213.out] at ho31 | (simp only [Int.reduceToNat] at ho31; rw [← Ny213.out] at ho31)); have n0_ := Aside0.mk (Kd.R_elder' (by (with_reducible repeat (first | apply Kd.R_alloc | apply Kd.R_drewN | apply Kd.R_drew)); exact HO206.out) (Kd.R_base ho31) hb); have n1_ := Aside0.mk (Kd.R_elder' (by (with_reducible repeat (first | apply Kd.R_alloc | apply Kd.R_drewN | apply Kd.R_drew)); exact HO210.out) (Kd.R_base ho31) hb); have n2_ := Aside0.mk (Kd.R_lower (Kd.R_new' (Kd.R_new' ho31 (Kd.R_lt (by (with_reducible repeat (first | apply Kd.R_alloc | apply Kd.R_drewN | apply Kd.R_drew)); exact HO206.out))) (Kd.R_lt (by (with_reducible repeat (first | apply Kd.R_alloc | apply Kd.R_drewN | apply Kd.R_drew)); exact HO210.out))) (below_size (by repeat (first | (with_reducible first | exact HB.out | apply below_alloc | apply pw_below_drewN | apply below_drew1) | exact HB.out)))); have n3_ := Aside0.mk (below_step (by repeat (first | (with_reducible first | exact HB.out | apply below_alloc | apply pw_below_drewN | apply below_drew1) | exact HB.out)) hb); clear HO206; clear HO210; clear HB; have HO206 := n0_; have HO210 := n1_; have HO215 := n2_; have HB := n3_; clear n0_ n1_ n2_ n3_; clear hb ho31; obtain ⟨Ao32, co32, eo32⟩ := Kd.R_slice HO210.out; subst eo32; obtain ⟨Ao33, co33, eo33⟩ := Kd.R_slice HO215.out; subst eo33) | (go_at_call 26; (with_reducible refine (oxbowref09_Same.calls k _ _ t207 _ _ y213 false _ ?side1 ?side2 ?side3 ?side4 A4.out).mono ?_); (case side1 => repeat (first | exact (Kd.R_reads' HO210.out).2.2 | (with_reducible refine Kd.C_alloc ?_ _) | (with_reducible refine Kd.C_drewN ?_ _) | (with_reducible refine Kd.C_drew ?_))); (case side2 => exact (Kd.R_reads' HO210.out).2.1); (case side3 => repeat (first | exact (Kd.R_reads' HO215.out).2.2 | (with_reducible refine Kd.C_alloc ?_ _) | (with_reducible refine Kd.C_drewN ?_ _) | (with_reducible refine Kd.C_drew ?_))); (case side4 => exact (Kd.R_reads' HO215.out).2.1); rintro e w' ⟨rfl, ⟨nd, rfl⟩⟩))
      go_ret
      exact ⟨by first | rfl | (simp [errW_none, errW_some] <;> rfl) | (simp [*, errW_none, errW_some] <;> rfl), by repeat (first | (with_reducible first | exact HB.out | apply below_alloc | apply pw_below_drewN | apply below_drew1) | exact HB.out)⟩
  · rw [if_neg c3] at H
    have c3b0 : (t208 == 0) = false := beq_eq_false_iff_ne.mpr c3
    have c3b1 : (t208 != 0) = true := bne_iff_ne.mpr c3
    obtain rfl := Option.some.inj H
    go_enter Try.func17, Try.ntmps17
    go_wp2_with (first | ((with_reducible refine gate_dst (N := 11) rfl ?_); (try (refine gate_guard (by rfl) ?_; dsimp only)); refine Kd.R_lit k36 _ 36 ?hg (N := 11) ?hd (xs := ([(⟨3, 1, (⟨#[]⟩ : ByteArray)⟩ : S36), (⟨2, 0, (⟨#[120]⟩ : ByteArray)⟩ : S36), (⟨3, 1, (⟨#[]⟩ : ByteArray)⟩ : S36), (⟨1, 1, (⟨#[]⟩ : ByteArray)⟩ : S36), (⟨1, 2, (⟨#[]⟩ : ByteArray)⟩ : S36)] : List (S36))) (inner := [.int .i64 3, .int .i64 1, .string (⟨#[]⟩ : ByteArray), .int .i64 2, .int .i64 0, .string (⟨#[120]⟩ : ByteArray), .int .i64 3, .int .i64 1, .string (⟨#[]⟩ : ByteArray), .int .i64 1, .int .i64 1, .string (⟨#[]⟩ : ByteArray), .int .i64 1, .int .i64 2, .string (⟨#[]⟩ : ByteArray)]) (ok := fun _ => True) (okp := fun _ => True) ?hr ?hp (fun _ hk => hk) trivial (Below.refl _ _) (Nat.le_refl _) (by simp) ?_; (case hd => rfl); (case hg => rfl); (case hr => first | (go_simp; done) | (go_simp; rfl)); (case hp => exact (Reps.c3 (show Kd.M k36 _ _ _ (⟨3, 1, (⟨#[]⟩ : ByteArray)⟩ : S36) [.int .i64 3, .int .i64 1, .string (⟨#[]⟩ : ByteArray)] from (k36_mkM _ _ _ (⟨3, 1, (⟨#[]⟩ : ByteArray)⟩ : S36) )) (Reps.c3 (show Kd.M k36 _ _ _ (⟨2, 0, (⟨#[120]⟩ : ByteArray)⟩ : S36) [.int .i64 2, .int .i64 0, .string (⟨#[120]⟩ : ByteArray)] from (k36_mkM _ _ _ (⟨2, 0, (⟨#[120]⟩ : ByteArray)⟩ : S36) )) (Reps.c3 (show Kd.M k36 _ _ _ (⟨3, 1, (⟨#[]⟩ : ByteArray)⟩ : S36) [.int .i64 3, .int .i64 1, .string (⟨#[]⟩ : ByteArray)] from (k36_mkM _ _ _ (⟨3, 1, (⟨#[]⟩ : ByteArray)⟩ : S36) )) (Reps.c3 (show Kd.M k36 _ _ _ (⟨1, 1, (⟨#[]⟩ : ByteArray)⟩ : S36) [.int .i64 1, .int .i64 1, .string (⟨#[]⟩ : ByteArray)] from (k36_mkM _ _ _ (⟨1, 1, (⟨#[]⟩ : ByteArray)⟩ : S36) )) (Reps.c3 (show Kd.M k36 _ _ _ (⟨1, 2, (⟨#[]⟩ : ByteArray)⟩ : S36) [.int .i64 1, .int .i64 2, .string (⟨#[]⟩ : ByteArray)] from (k36_mkM _ _ _ (⟨1, 2, (⟨#[]⟩ : ByteArray)⟩ : S36) )) (Reps.none _ _))))))); intro v205 w34 ho35 hb hg_ hnew_; clear hg_ hnew_; (first | rw [← Ny204.out] at ho35 | (simp only [Int.reduceToNat] at ho35; rw [← Ny204.out] at ho35)); have n0_ := Aside0.mk (Kd.R_lower ho35 (below_size (by repeat (first | (with_reducible first | exact HB.out | apply below_alloc | apply pw_below_drewN | apply below_drew1) | exact HB.out)))); have n1_ := Aside0.mk (below_step (by repeat (first | (with_reducible first | exact HB.out | apply below_alloc | apply pw_below_drewN | apply below_drew1) | exact HB.out)) hb); clear HB; have HO206 := n0_; have HB := n1_; clear n0_ n1_; clear hb ho35; obtain ⟨Ao36, co36, eo36⟩ := Kd.R_slice HO206.out; subst eo36) | ((with_reducible refine gate_callee (f := 21) rfl ?_); refine goesL_ (some 14) rfl rfl Try.func21 (by kernel_rfl) rfl #[.slice Ao36 y204.length co36] rfl (by (try simp only [List.map_toArray, List.map_cons, List.map_nil]); first | done | rfl | (simp only [List.length_drop, List.length_take]; rfl)) ?_; (with_reducible refine (delta_Normal.calls k _ _ y204 t207 t208 _ ?side1 ?side2 A1.out).mono ?_); (case side1 => repeat (first | exact (Kd.R_reads' HO206.out).2.2 | (with_reducible refine Kd.C_alloc ?_ _) | (with_reducible refine Kd.C_drewN ?_ _) | (with_reducible refine Kd.C_drew ?_))); (case side2 => exact (Kd.R_reads' HO206.out).2.1); rintro e w37 ⟨v209, rfl, ho0, hb⟩; refine ⟨_, rfl, ?_⟩; have n0_ := Aside0.mk (Kd.R_elder' (by (with_reducible repeat (first | apply Kd.R_alloc | apply Kd.R_drewN | apply Kd.R_drew)); exact HO206.out) (Kd.R_base ho0) hb); have n1_ := Aside0.mk (Kd.R_lower (Kd.R_new' ho0 (Kd.R_lt (by (with_reducible repeat (first | apply Kd.R_alloc | apply Kd.R_drewN | apply Kd.R_drew)); exact HO206.out))) (below_size (by repeat (first | (with_reducible first | exact HB.out | apply below_alloc | apply pw_below_drewN | apply below_drew1) | exact HB.out)))); have n2_ := Aside0.mk (below_step (by repeat (first | (with_reducible first | exact HB.out | apply below_alloc | apply pw_below_drewN | apply below_drew1) | exact HB.out)) hb); clear HO206; clear HB; have HO206 := n0_; have HO210 := n1_; have HB := n2_; clear n0_ n1_ n2_; (try clear hb); (try clear hb2); (try clear hk); (try clear hi); (try clear ho0)) | ((with_reducible refine gate_callee (f := 14) rfl ?_); refine goesL_ (some 19) rfl rfl Try.func14 (by kernel_rfl) rfl #[.string (⟨#[97, 98, 99, 100, 101]⟩ : ByteArray), .slice Ao36 y204.length co36] rfl (by (try simp only [List.map_toArray, List.map_cons, List.map_nil]); first | done | rfl | (simp only [List.length_drop, List.length_take]; rfl)) ?_; (with_reducible refine (delta_Apply.calls k (⟨#[97, 98, 99, 100, 101]⟩ : ByteArray) _ _ y204 t211 t212 _ ?side1 ?side2 A2.out).mono ?_); (case side1 => repeat (first | exact (Kd.R_reads' HO206.out).2.2 | (with_reducible refine Kd.C_alloc ?_ _) | (with_reducible refine Kd.C_drewN ?_ _) | (with_reducible refine Kd.C_drew ?_))); (case side2 => exact (Kd.R_reads' HO206.out).2.1); rintro e w38 ⟨rfl, hb⟩; refine ⟨_, rfl, ?_⟩; have n0_ := Aside0.mk (Kd.R_below (by (with_reducible repeat (first | apply Kd.R_alloc | apply Kd.R_drewN | apply Kd.R_drew)); exact HO206.out) hb); have n1_ := Aside0.mk (Kd.R_below (by (with_reducible repeat (first | apply Kd.R_alloc | apply Kd.R_drewN | apply Kd.R_drew)); exact HO210.out) hb); have n2_ := Aside0.mk (below_step (by repeat (first | (with_reducible first | exact HB.out | apply below_alloc | apply pw_below_drewN | apply below_drew1) | exact HB.out)) hb); clear HO206; clear HO210; clear HB; have HO206 := n0_; have HO210 := n1_; have HB := n2_; clear n0_ n1_ n2_; (try clear hb); (try clear hb2); (try clear hk); (try clear hi)))
    go_ret
    exact ⟨by first | rfl | (simp [errW_none, errW_some] <;> rfl) | (simp [*, errW_none, errW_some] <;> rfl), by repeat (first | (with_reducible first | exact HB.out | apply below_alloc | apply pw_below_drewN | apply below_drew1) | exact HB.out)⟩

/-! ### delta_Encode: function 33 -/
theorem delta_Encode.info : (Try.prog.info? 5).map (fun i => (i.zero, i.size, i.bytes)) = some (some (.int .u8 0), 1, 1) := by kernel_rfl
/-- The bytes behind an operation's kind. -/
def delta_Encode.part (k : Nat) (x : S36) : Option (ByteArray × Int) := if x.f0 = 2 then pack_Text.f k x.f2 else pack_Num.f k x.f1
def delta_Encode.l0 : Nat → List S36 → ByteArray → Int → Option (ByteArray × Int)
  | 0, _, _, _ => none
  | k + 1, l, out, i => if i < (l.length : Int) then (if 0 ≤ i then ((pack_Num.f k (rd_T36 l i).f0).bind fun b => (if out.size + b.1.size ≤ 140737488355328 then ((delta_Encode.part k (rd_T36 l i)).bind fun c => (if (out ++ b.1).size + c.1.size ≤ 140737488355328 then delta_Encode.l0 k l ((out ++ b.1) ++ c.1) (wrap64 (i + 1)) else none)) else none)) else none) else some (out, 0)
def delta_Encode.f (k : Nat) (l0 : List S36) : Option (ByteArray × Int) := (delta_Check.f k l0).bind fun e => if e = 0 then ((pack_Num.f k (l0.length : Int)).bind fun b => (if b.1.size ≤ 140737488355328 then delta_Encode.l0 k l0 b.1 0 else none)) else some ((⟨#[]⟩ : ByteArray), e)
theorem delta_Encode.part_mono (x : S36) (k : Nat) : LeO (delta_Encode.part k x) (delta_Encode.part (k + 1) x) := by
  unfold delta_Encode.part
  exact LeO.ite (pack_Text.mono _ _) (pack_Num.mono _ _)
theorem delta_Encode.mono_l : ∀ k, (∀ y0 y1 y2, LeO (delta_Encode.l0 k y0 y1 y2) (delta_Encode.l0 (k + 1) y0 y1 y2))
  | 0 => fun _ _ _ r h => by simp [delta_Encode.l0] at h
  | k + 1 => by
    have ih := delta_Encode.mono_l k
    intro y0 y1 y2
    unfold delta_Encode.l0
    exact LeO.ite (LeO.ite (LeO.bind (pack_Num.mono _ _) (fun _ => LeO.ite (LeO.bind (delta_Encode.part_mono _ _) (fun _ => LeO.ite (ih _ _ _) (LeO.refl _))) (LeO.refl _))) (LeO.refl _)) (LeO.refl _)
theorem delta_Encode.mono : ∀ a0 k, LeO (delta_Encode.f k a0) (delta_Encode.f (k + 1) a0) := by
  intro a0 k
  unfold delta_Encode.f
  exact LeO.bind (delta_Check.mono _ _) (fun _ => LeO.ite (LeO.bind (pack_Num.mono _ _) (fun _ => LeO.ite (delta_Encode.mono_l k _ _ _) (LeO.refl _))) (LeO.refl _))
theorem delta_Encode.own_lt {w : World} {B : Nat} {v : Value} {xs : List Value} (h : Byt.OwnM w B 5 v xs) : ∀ k, v.ownBlock = some k → k < w.heap.size := by
  obtain ⟨g, cap, cur, m, rfl, _, hh, _⟩ := h
  intro k hk
  have : g = k := by simpa [Value.ownBlock] using hk
  subst this
  exact blk_lt hh
/-- An element has been copied into a block of its own. -/
theorem delta_Encode.boxed {w0 wr w7 : World} {gb : Nat} {v : Value} {xs : List Value} (x : S36) (HB : Below w0.heap.size w0 wr) (HO : Byt.OwnM wr w0.heap.size 5 v xs) (hg : gb = wr.heap.size)
    (hbox : w7.heap[gb]? = some (.cells #[.int .i64 0, .int .i64 0, .string ⟨#[]⟩] 36 (0, 0))) (hb : Below wr.heap.size wr w7) :
    Below w0.heap.size w0 (((w7.setCell ⟨gb, 0, none⟩ (.int .i64 x.f0)).setCell ⟨gb, 1, none⟩ (.int .i64 x.f1)).setCell ⟨gb, 2, none⟩ (.string x.f2)) ∧ Byt.OwnM (((w7.setCell ⟨gb, 0, none⟩ (.int .i64 x.f0)).setCell ⟨gb, 1, none⟩ (.int .i64 x.f1)).setCell ⟨gb, 2, none⟩ (.string x.f2)) w0.heap.size 5 v xs ∧ (((w7.setCell ⟨gb, 0, none⟩ (.int .i64 x.f0)).setCell ⟨gb, 1, none⟩ (.int .i64 x.f1)).setCell ⟨gb, 2, none⟩ (.string x.f2)).heap[gb]? = some (.cells #[.int .i64 x.f0, .int .i64 x.f1, .string x.f2] 36 (0, 0)) ∧ some gb ≠ v.ownBlock := by
  have GE : w0.heap.size ≤ gb := by rw [hg]; exact HB.size
  have GW : wr.heap.size ≤ gb := by omega
  have hlt := delta_Encode.own_lt HO
  refine ⟨below_set (below_set (below_set (below_step HB hb) GE) GE) GE, Byt.OwnM.below HO (below_set (below_set (below_set hb GW) GW) GW), blk_put (blk_put (blk_put hbox 0 (.int .i64 x.f0) rfl) 1 (.int .i64 x.f1) rfl) 2 (.string x.f2) rfl, ?_⟩
  intro he
  have := hlt gb he.symm
  omega
set_option maxHeartbeats 8000000 in
set_option maxRecDepth 100000 in
theorem delta_Encode.calls (k : Nat) (A0 : Option Addr) (c0 : Nat) (l0 : List (S36)) (r1 : ByteArray) (r2 : Int) (w : World) (hr0 : Kd.C k36 w A0 l0.length l0) (hc0 : l0.length ≤ c0) (h : delta_Encode.f k l0 = some (r1, r2)) :
    Calls Try.prog 33 #[.slice A0 l0.length c0] w fun e w' => e = .returned (.tuple #[.string r1, .int .i64 r2]) ∧ Below w.heap.size w w' := by
  have hu36 := Try.underlying36
  have HR0 := Aside0.mk hr0
  have HC0 := Aside0.mk hc0
  unfold delta_Encode.f at h
  have h_ := Option.bind_eq_some_iff.mp h
  clear h
  obtain ⟨e, he, h⟩ := h_
  have HE := Aside0.mk he
  clear he hr0 hc0
  by_cases d : e = 0
  · rw [if_pos d] at h
    subst d
    have h_ := Option.bind_eq_some_iff.mp h
    clear h
    obtain ⟨⟨t, e0⟩, h1, h2⟩ := h_
    simp only at h2
    by_cases c3 : t.size ≤ 140737488355328
    case neg => rw [if_neg c3] at h2; cases h2
    rw [if_pos c3] at h2
    have A3 := Aside0.mk h1
    have H' := Aside0.mk h2
    have LT := Aside0.mk c3
    clear h1 h2 c3
    go_enter Try.func33, Try.ntmps33
    go_wp2_with (first | ((with_reducible refine gate_callee (f := 18) rfl ?_); refine goesL_ (some 13) rfl rfl Try.func18 (by kernel_rfl) rfl #[.slice A0 l0.length c0] rfl (by (try simp only [List.map_toArray, List.map_cons, List.map_nil]); first | done | rfl) ?_; (with_reducible refine (delta_Check.calls k A0 c0 l0 _ w HR0.out HC0.out HE.out).mono ?_); rintro e w1 ⟨rfl, hb⟩; refine ⟨_, rfl, ?_⟩; have HB1 := Aside0.mk hb; clear hb) | ((with_reducible refine gate_callee (f := 53) rfl ?_); refine goesL_ (some 20) rfl rfl Try.func53 (by kernel_rfl) rfl #[.int .i64 (l0.length : Int)] rfl (by (try simp only [List.map_toArray, List.map_cons, List.map_nil]); first | done | rfl) ?_; (with_reducible refine (pack_Num.calls k (l0.length : Int) t e0 _ A3.out).mono ?_); rintro e w4 ⟨rfl, hb⟩; refine ⟨_, rfl, ?_⟩; have HB4 := Aside0.mk (below_step HB1.out hb); clear hb) | ((with_reducible refine gate_dst (N := 24) rfl ?_); refine Byt.wpList_bytes rfl 9 77 (.tmp 23) rfl w.heap.size 5 Try.underlying9 Try.underlying77 Try.underlying5 t rfl ?cL ?cB ?_; (case cL => have := LT.out; unfold maxLen; omega); (case cB => exact HB4.out.size); intro v6 w6 hO _ hb; have HO := Aside0.mk hO; have HB6 := Aside0.mk (below_step HB4.out hb); clear hO hb))
    go_loopg [7, 27] k (fun kq v7 vi w' => ∃ (out : ByteArray) (i : Int), vi = .int .i64 i ∧ Aside0 (delta_Encode.l0 kq l0 out i = some (r1, r2)) ∧ Aside0 (kq ≤ k) ∧ Aside0 (Byt.OwnM w' w.heap.size 5 v7 (Lib.strCells out)) ∧ Aside0 (Below w.heap.size w w'))
    case atStart => exact ⟨t, 0, rfl, H', ⟨Nat.le_refl _⟩, HO, HB6⟩
    case round =>
      clear H' HO HB6 HB4 HB1
      obtain ⟨out, i, rfl, HA, HK, HO, HB⟩ := hrel
      cases gk with
      | zero => exact absurd HA.out (by simp [delta_Encode.l0])
      | succ k1 =>
        have H := HA.out
        clear HA
        simp only [delta_Encode.l0] at H
        by_cases c4 : i < (l0.length : Int)
        · rw [if_pos c4] at H
          have c4b : decide (i < (l0.length : Int)) = true := decide_eq_true c4
          by_cases c5 : 0 ≤ i
          · rw [if_pos c5] at H
            obtain ⟨ad, ead, hx0, hx1, hx2⟩ := at_T36 HR0.out i c5 c4
            cases ead
            obtain ⟨x, Nx_⟩ : ∃ y_ : S36, y_ = rd_T36 l0 i := ⟨_, rfl⟩
            rw [← Nx_] at H hx0 hx1 hx2
            have X0 := Aside0.mk hx0
            have X1 := Aside0.mk hx1
            have X2 := Aside0.mk hx2
            replace hx0 := (HB.out.cell (World.block_lt_of_cell? w _ hx0)).trans hx0
            replace hx1 := (HB.out.cell (World.block_lt_of_cell? w _ hx1)).trans hx1
            replace hx2 := (HB.out.cell (World.block_lt_of_cell? w _ hx2)).trans hx2
            have Nx := Aside0.mk Nx_
            clear Nx_
            have p9 := eq_true c5
            have q9 := eq_true c4
            clear c4 c5
            have H_ := Option.bind_eq_some_iff.mp H
            clear H
            obtain ⟨⟨t1, e1⟩, h4, H⟩ := H_
            simp only at H
            have A4 := Aside0.mk h4
            clear h4
            by_cases c6 : out.size + t1.size ≤ 140737488355328
            case neg => rw [if_neg c6] at H; cases H
            rw [if_pos c6] at H
            have L6 := Aside0.mk c6
            clear c6
            have H_ := Option.bind_eq_some_iff.mp H
            clear H
            obtain ⟨⟨t2, e2⟩, h5, H⟩ := H_
            simp only at H
            by_cases c7 : (out ++ t1).size + t2.size ≤ 140737488355328
            case neg => rw [if_neg c7] at H; cases H
            rw [if_pos c7] at H
            have L7 := Aside0.mk c7
            clear c7
            have H' := Aside0.mk H
            clear H
            unfold delta_Encode.part at h5
            by_cases d2 : x.f0 = 2
            · rw [if_pos d2] at h5
              have A5 := Aside0.mk h5
              have d2b : (x.f0 == 2) = true := beq_iff_eq.mpr d2
              clear h5 d2
              go_wp2_with (first | ((with_reducible refine gate_dst (N := 9) rfl ?_); refine box_event ?hg (N := 9) ?hd (cs := #[.int .i64 0, .int .i64 0, .string (⟨#[]⟩ : ByteArray)]) (t := 36) ?hr ?_; (case hd => rfl); (case hg => rfl); (case hr => first | (go_simp; done) | (go_simp; rfl)); intro gb hg w7 hbox hb; obtain ⟨hBx, hOx, hXx, hnx⟩ := delta_Encode.boxed x HB.out HO.out hg hbox hb; have HBx := Aside0.mk hBx; have HOx := Aside0.mk hOx; have HXx := Aside0.mk hXx; have HNX := Aside0.mk hnx; have BK := Aside0.mk hbox; clear hb hbox hg hBx hOx hXx hnx; have hz0 : w7.cell? ⟨gb, 0, none⟩ = some (.int .i64 0) := (blk_cell BK.out 0).trans rfl; have hz1 : w7.cell? ⟨gb, 1, none⟩ = some (.int .i64 0) := (blk_cell BK.out 1).trans rfl; have hz2 : w7.cell? ⟨gb, 2, none⟩ = some (.string (⟨#[]⟩ : ByteArray)) := (blk_cell BK.out 2).trans rfl; have hf0 := blk_frozen BK.out 0; have hf1 := blk_frozen BK.out 1; have hf2 := blk_frozen BK.out 2) | ((with_reducible refine gate_callee (f := 53) rfl ?_); refine goesL_ (some 34) rfl rfl Try.func53 (by kernel_rfl) rfl #[.int .i64 x.f0] rfl (by (try simp only [List.map_toArray, List.map_cons, List.map_nil]); first | done | rfl) ?_; (with_reducible refine (pack_Num.calls k1 x.f0 t1 e1 _ A4.out).mono ?_); rintro e w9 ⟨rfl, hb⟩; refine ⟨_, rfl, ?_⟩; have HB9 := Aside0.mk (below_step HBx.out hb); have HO9 := Aside0.mk (Byt.OwnM.below HOx.out hb); have HX9 := Aside0.mk (blk_below HXx.out hb); clear hb; have y9_0 := (blk_cell HX9.out 0).trans rfl; have y9_1 := (blk_cell HX9.out 1).trans rfl; have y9_2 := (blk_cell HX9.out 2).trans rfl) | ((with_reducible refine gate_dst (N := 39) rfl ?_); refine Byt.wpList_append_M rfl (.tmp 37) (.tmp 38) 77 9 rfl w.heap.size 5 Try.underlying77 Try.underlying9 delta_Encode.info _ (Lib.strCells (out)) rfl HO9.out t1 rfl ?cLa ?cBa ?_; (case cLa => have := L6.out; rw [Lib.strCells_length]; omega); (case cBa => exact HB9.out.size); intro v10 w10 hO hg; rw [← Byt.strCells_append] at hO; have HB10 := Aside0.mk (pw_below_grown HB9.out _ HB9.out.size hg (fun k_ hk => Byt.OwnM.base_le HO9.out k_ hk)); have HO10 := Aside0.mk hO; have HX10 := Aside0.mk (blk_grown HX9.out hg HNX.out); clear hO hg; have y10_0 := (blk_cell HX10.out 0).trans rfl; have y10_1 := (blk_cell HX10.out 1).trans rfl; have y10_2 := (blk_cell HX10.out 2).trans rfl) | ((with_reducible refine gate_callee (f := 54) rfl ?_); refine goesL_ (some 46) rfl rfl Try.func54 (by kernel_rfl) rfl #[.string x.f2] rfl (by (try simp only [List.map_toArray, List.map_cons, List.map_nil]); first | done | rfl) ?_; (with_reducible refine (pack_Text.calls k1 x.f2 t2 e2 _ A5.out).mono ?_); rintro e w11 ⟨rfl, hb⟩; refine ⟨_, rfl, ?_⟩; have HB11 := Aside0.mk (below_step HB10.out hb); have HO11 := Aside0.mk (Byt.OwnM.below HO10.out hb); clear hb) | ((with_reducible refine gate_dst (N := 57) rfl ?_); refine Byt.wpList_append_M rfl (.tmp 55) (.tmp 56) 77 9 rfl w.heap.size 5 Try.underlying77 Try.underlying9 delta_Encode.info _ (Lib.strCells (out ++ t1)) rfl HO11.out t2 rfl ?cLb ?cBb ?_; (case cLb => have := L7.out; rw [Lib.strCells_length]; omega); (case cBb => exact HB11.out.size); intro v12 w12 hO hg; rw [← Byt.strCells_append] at hO; have HB12 := Aside0.mk (pw_below_grown HB11.out _ HB11.out.size hg (fun k_ hk => Byt.OwnM.base_le HO11.out k_ hk)); have HO12 := Aside0.mk hO; clear hO hg))
              go_roundg k1
              case measure => have := HK.out; omega
              case rel => exact ⟨_, wrap64 (i + 1), rfl, H', ⟨by have := HK.out; omega⟩, HO12, HB12⟩
            · rw [if_neg d2] at h5
              have A5 := Aside0.mk h5
              have d2b : (x.f0 == 2) = false := beq_eq_false_iff_ne.mpr d2
              clear h5 d2
              go_wp2_with (first | ((with_reducible refine gate_dst (N := 9) rfl ?_); refine box_event ?hg (N := 9) ?hd (cs := #[.int .i64 0, .int .i64 0, .string (⟨#[]⟩ : ByteArray)]) (t := 36) ?hr ?_; (case hd => rfl); (case hg => rfl); (case hr => first | (go_simp; done) | (go_simp; rfl)); intro gb hg w7 hbox hb; obtain ⟨hBx, hOx, hXx, hnx⟩ := delta_Encode.boxed x HB.out HO.out hg hbox hb; have HBx := Aside0.mk hBx; have HOx := Aside0.mk hOx; have HXx := Aside0.mk hXx; have HNX := Aside0.mk hnx; have BK := Aside0.mk hbox; clear hb hbox hg hBx hOx hXx hnx; have hz0 : w7.cell? ⟨gb, 0, none⟩ = some (.int .i64 0) := (blk_cell BK.out 0).trans rfl; have hz1 : w7.cell? ⟨gb, 1, none⟩ = some (.int .i64 0) := (blk_cell BK.out 1).trans rfl; have hz2 : w7.cell? ⟨gb, 2, none⟩ = some (.string (⟨#[]⟩ : ByteArray)) := (blk_cell BK.out 2).trans rfl; have hf0 := blk_frozen BK.out 0; have hf1 := blk_frozen BK.out 1; have hf2 := blk_frozen BK.out 2) | ((with_reducible refine gate_callee (f := 53) rfl ?_); refine goesL_ (some 34) rfl rfl Try.func53 (by kernel_rfl) rfl #[.int .i64 x.f0] rfl (by (try simp only [List.map_toArray, List.map_cons, List.map_nil]); first | done | rfl) ?_; (with_reducible refine (pack_Num.calls k1 x.f0 t1 e1 _ A4.out).mono ?_); rintro e w9 ⟨rfl, hb⟩; refine ⟨_, rfl, ?_⟩; have HB9 := Aside0.mk (below_step HBx.out hb); have HO9 := Aside0.mk (Byt.OwnM.below HOx.out hb); have HX9 := Aside0.mk (blk_below HXx.out hb); clear hb; have y9_0 := (blk_cell HX9.out 0).trans rfl; have y9_1 := (blk_cell HX9.out 1).trans rfl; have y9_2 := (blk_cell HX9.out 2).trans rfl) | ((with_reducible refine gate_dst (N := 39) rfl ?_); refine Byt.wpList_append_M rfl (.tmp 37) (.tmp 38) 77 9 rfl w.heap.size 5 Try.underlying77 Try.underlying9 delta_Encode.info _ (Lib.strCells (out)) rfl HO9.out t1 rfl ?cLa ?cBa ?_; (case cLa => have := L6.out; rw [Lib.strCells_length]; omega); (case cBa => exact HB9.out.size); intro v10 w10 hO hg; rw [← Byt.strCells_append] at hO; have HB10 := Aside0.mk (pw_below_grown HB9.out _ HB9.out.size hg (fun k_ hk => Byt.OwnM.base_le HO9.out k_ hk)); have HO10 := Aside0.mk hO; have HX10 := Aside0.mk (blk_grown HX9.out hg HNX.out); clear hO hg; have y10_0 := (blk_cell HX10.out 0).trans rfl; have y10_1 := (blk_cell HX10.out 1).trans rfl; have y10_2 := (blk_cell HX10.out 2).trans rfl) | ((with_reducible refine gate_callee (f := 53) rfl ?_); refine goesL_ (some 52) rfl rfl Try.func53 (by kernel_rfl) rfl #[.int .i64 x.f1] rfl (by (try simp only [List.map_toArray, List.map_cons, List.map_nil]); first | done | rfl) ?_; (with_reducible refine (pack_Num.calls k1 x.f1 t2 e2 _ A5.out).mono ?_); rintro e w11 ⟨rfl, hb⟩; refine ⟨_, rfl, ?_⟩; have HB11 := Aside0.mk (below_step HB10.out hb); have HO11 := Aside0.mk (Byt.OwnM.below HO10.out hb); clear hb) | ((with_reducible refine gate_dst (N := 57) rfl ?_); refine Byt.wpList_append_M rfl (.tmp 55) (.tmp 56) 77 9 rfl w.heap.size 5 Try.underlying77 Try.underlying9 delta_Encode.info _ (Lib.strCells (out ++ t1)) rfl HO11.out t2 rfl ?cLb ?cBb ?_; (case cLb => have := L7.out; rw [Lib.strCells_length]; omega); (case cBb => exact HB11.out.size); intro v12 w12 hO hg; rw [← Byt.strCells_append] at hO; have HB12 := Aside0.mk (pw_below_grown HB11.out _ HB11.out.size hg (fun k_ hk => Byt.OwnM.base_le HO11.out k_ hk)); have HO12 := Aside0.mk hO; clear hO hg))
              go_roundg k1
              case measure => have := HK.out; omega
              case rel => exact ⟨_, wrap64 (i + 1), rfl, H', ⟨by have := HK.out; omega⟩, HO12, HB12⟩
          · rw [if_neg c5] at H
            cases H
        · rw [if_neg c4] at H
          have c4b : decide (i < (l0.length : Int)) = false := decide_eq_false c4
          clear c4
          have H_ := Prod.mk.inj (Option.some.inj H)
          clear H
          obtain ⟨rfl, rfl⟩ := H_
          have hcv := Byt.OwnM.toString (P := Try.prog) Try.underlying77 Try.underlying5 Try.underlying9 HO.out
          go_wp2
          go_ret2
          exact ⟨rfl, HB.out⟩
  · rw [if_neg d] at h
    have h_ := Prod.mk.inj (Option.some.inj h)
    clear h
    obtain ⟨rfl, rfl⟩ := h_
    have db : (e != 0) = true := by rw [bne_iff_ne]; exact d
    have db2 : (e == 0) = false := beq_eq_false_iff_ne.mpr d
    clear d
    go_enter Try.func33, Try.ntmps33
    go_wp2_with (first | ((with_reducible refine gate_callee (f := 18) rfl ?_); refine goesL_ (some 13) rfl rfl Try.func18 (by kernel_rfl) rfl #[.slice A0 l0.length c0] rfl (by (try simp only [List.map_toArray, List.map_cons, List.map_nil]); first | done | rfl) ?_; (with_reducible refine (delta_Check.calls k A0 c0 l0 _ w HR0.out HC0.out HE.out).mono ?_); rintro e w1 ⟨rfl, hb⟩; refine ⟨_, rfl, ?_⟩; have HB1 := Aside0.mk hb; clear hb))
    go_ret2
    exact ⟨rfl, HB1.out⟩


/-! ### oxbowref09_Encode: function 34 -/
theorem oxbowref09_Encode.info : (Try.prog.info? 5).map (fun i => (i.zero, i.size, i.bytes)) = some (some (.int .u8 0), 1, 1) := by kernel_rfl
/-- The bytes behind an operation's kind. -/
def oxbowref09_Encode.part (k : Nat) (x : S36) : Option (ByteArray × Int) := if x.f0 = 2 then oxbowref02_Text.f k x.f2 else oxbowref02_Num.f k x.f1
def oxbowref09_Encode.l0 : Nat → List S36 → ByteArray → Int → Option (ByteArray × Int)
  | 0, _, _, _ => none
  | k + 1, l, out, i => if i < (l.length : Int) then (if 0 ≤ i then ((oxbowref02_Num.f k (rd_T36 l i).f0).bind fun b => (if out.size + b.1.size ≤ 140737488355328 then ((oxbowref09_Encode.part k (rd_T36 l i)).bind fun c => (if (out ++ b.1).size + c.1.size ≤ 140737488355328 then oxbowref09_Encode.l0 k l ((out ++ b.1) ++ c.1) (wrap64 (i + 1)) else none)) else none)) else none) else some (out, 0)
def oxbowref09_Encode.f (k : Nat) (l0 : List S36) : Option (ByteArray × Int) := (oxbowref09_Check.f k l0).bind fun e => if e = 0 then ((oxbowref02_Num.f k (l0.length : Int)).bind fun b => (if b.1.size ≤ 140737488355328 then oxbowref09_Encode.l0 k l0 b.1 0 else none)) else some ((⟨#[]⟩ : ByteArray), e)
theorem oxbowref09_Encode.part_mono (x : S36) (k : Nat) : LeO (oxbowref09_Encode.part k x) (oxbowref09_Encode.part (k + 1) x) := by
  unfold oxbowref09_Encode.part
  exact LeO.ite (oxbowref02_Text.mono _ _) (oxbowref02_Num.mono _ _)
theorem oxbowref09_Encode.mono_l : ∀ k, (∀ y0 y1 y2, LeO (oxbowref09_Encode.l0 k y0 y1 y2) (oxbowref09_Encode.l0 (k + 1) y0 y1 y2))
  | 0 => fun _ _ _ r h => by simp [oxbowref09_Encode.l0] at h
  | k + 1 => by
    have ih := oxbowref09_Encode.mono_l k
    intro y0 y1 y2
    unfold oxbowref09_Encode.l0
    exact LeO.ite (LeO.ite (LeO.bind (oxbowref02_Num.mono _ _) (fun _ => LeO.ite (LeO.bind (oxbowref09_Encode.part_mono _ _) (fun _ => LeO.ite (ih _ _ _) (LeO.refl _))) (LeO.refl _))) (LeO.refl _)) (LeO.refl _)
theorem oxbowref09_Encode.mono : ∀ a0 k, LeO (oxbowref09_Encode.f k a0) (oxbowref09_Encode.f (k + 1) a0) := by
  intro a0 k
  unfold oxbowref09_Encode.f
  exact LeO.bind (oxbowref09_Check.mono _ _) (fun _ => LeO.ite (LeO.bind (oxbowref02_Num.mono _ _) (fun _ => LeO.ite (oxbowref09_Encode.mono_l k _ _ _) (LeO.refl _))) (LeO.refl _))
set_option maxHeartbeats 8000000 in
set_option maxRecDepth 100000 in
theorem oxbowref09_Encode.calls (k : Nat) (A0 : Option Addr) (c0 : Nat) (l0 : List (S36)) (r1 : ByteArray) (r2 : Int) (w : World) (hr0 : Kd.C k36 w A0 l0.length l0) (hc0 : l0.length ≤ c0) (h : oxbowref09_Encode.f k l0 = some (r1, r2)) :
    Calls Try.prog 34 #[.slice A0 l0.length c0] w fun e w' => e = .returned (.tuple #[.string r1, .int .i64 r2]) ∧ Below w.heap.size w w' := by
  have hu36 := Try.underlying36
  have HR0 := Aside0.mk hr0
  have HC0 := Aside0.mk hc0
  unfold oxbowref09_Encode.f at h
  have h_ := Option.bind_eq_some_iff.mp h
  clear h
  obtain ⟨e, he, h⟩ := h_
  have HE := Aside0.mk he
  clear he hr0 hc0
  by_cases d : e = 0
  · rw [if_pos d] at h
    subst d
    have h_ := Option.bind_eq_some_iff.mp h
    clear h
    obtain ⟨⟨t, e0⟩, h1, h2⟩ := h_
    simp only at h2
    by_cases c3 : t.size ≤ 140737488355328
    case neg => rw [if_neg c3] at h2; cases h2
    rw [if_pos c3] at h2
    have A3 := Aside0.mk h1
    have H' := Aside0.mk h2
    have LT := Aside0.mk c3
    clear h1 h2 c3
    go_enter Try.func34, Try.ntmps34
    go_wp2_with (first | ((with_reducible refine gate_callee (f := 25) rfl ?_); refine goesL_ (some 16) rfl rfl Try.func25 (by kernel_rfl) rfl #[.slice A0 l0.length c0] rfl (by (try simp only [List.map_toArray, List.map_cons, List.map_nil]); first | done | rfl) ?_; (with_reducible refine (oxbowref09_Check.calls k A0 c0 l0 _ w HR0.out HC0.out HE.out).mono ?_); rintro e w1 ⟨rfl, hb⟩; refine ⟨_, rfl, ?_⟩; have HB1 := Aside0.mk hb; clear hb) | ((with_reducible refine gate_callee (f := 55) rfl ?_); refine goesL_ (some 23) rfl rfl Try.func55 (by kernel_rfl) rfl #[.int .i64 (l0.length : Int)] rfl (by (try simp only [List.map_toArray, List.map_cons, List.map_nil]); first | done | rfl) ?_; (with_reducible refine (oxbowref02_Num.calls k (l0.length : Int) t e0 _ A3.out).mono ?_); rintro e w4 ⟨rfl, hb⟩; refine ⟨_, rfl, ?_⟩; have HB4 := Aside0.mk (below_step HB1.out hb); clear hb) | ((with_reducible refine gate_dst (N := 27) rfl ?_); refine Byt.wpList_bytes rfl 9 77 (.tmp 26) rfl w.heap.size 5 Try.underlying9 Try.underlying77 Try.underlying5 t rfl ?cL ?cB ?_; (case cL => have := LT.out; unfold maxLen; omega); (case cB => exact HB4.out.size); intro v6 w6 hO _ hb; have HO := Aside0.mk hO; have HB6 := Aside0.mk (below_step HB4.out hb); clear hO hb))
    go_loopg [7, 8] k (fun kq v7 vi w' => ∃ (out : ByteArray) (i : Int), vi = .int .i64 i ∧ Aside0 (oxbowref09_Encode.l0 kq l0 out i = some (r1, r2)) ∧ Aside0 (kq ≤ k) ∧ Aside0 (Byt.OwnM w' w.heap.size 5 v7 (Lib.strCells out)) ∧ Aside0 (Below w.heap.size w w'))
    case atStart => exact ⟨t, 0, rfl, H', ⟨Nat.le_refl _⟩, HO, HB6⟩
    case round =>
      clear H' HO HB6 HB4 HB1
      obtain ⟨out, i, rfl, HA, HK, HO, HB⟩ := hrel
      cases gk with
      | zero => exact absurd HA.out (by simp [oxbowref09_Encode.l0])
      | succ k1 =>
        have H := HA.out
        clear HA
        simp only [oxbowref09_Encode.l0] at H
        by_cases c4 : i < (l0.length : Int)
        · rw [if_pos c4] at H
          have c4b : decide (i < (l0.length : Int)) = true := decide_eq_true c4
          by_cases c5 : 0 ≤ i
          · rw [if_pos c5] at H
            obtain ⟨ad, ead, hx0, hx1, hx2⟩ := at_T36 HR0.out i c5 c4
            cases ead
            obtain ⟨x, Nx_⟩ : ∃ y_ : S36, y_ = rd_T36 l0 i := ⟨_, rfl⟩
            rw [← Nx_] at H hx0 hx1 hx2
            have X0 := Aside0.mk hx0
            have X1 := Aside0.mk hx1
            have X2 := Aside0.mk hx2
            replace hx0 := (HB.out.cell (World.block_lt_of_cell? w _ hx0)).trans hx0
            replace hx1 := (HB.out.cell (World.block_lt_of_cell? w _ hx1)).trans hx1
            replace hx2 := (HB.out.cell (World.block_lt_of_cell? w _ hx2)).trans hx2
            have Nx := Aside0.mk Nx_
            clear Nx_
            have p9 := eq_true c5
            have q9 := eq_true c4
            clear c4 c5
            have H_ := Option.bind_eq_some_iff.mp H
            clear H
            obtain ⟨⟨t1, e1⟩, h4, H⟩ := H_
            simp only at H
            have A4 := Aside0.mk h4
            clear h4
            by_cases c6 : out.size + t1.size ≤ 140737488355328
            case neg => rw [if_neg c6] at H; cases H
            rw [if_pos c6] at H
            have L6 := Aside0.mk c6
            clear c6
            have H_ := Option.bind_eq_some_iff.mp H
            clear H
            obtain ⟨⟨t2, e2⟩, h5, H⟩ := H_
            simp only at H
            by_cases c7 : (out ++ t1).size + t2.size ≤ 140737488355328
            case neg => rw [if_neg c7] at H; cases H
            rw [if_pos c7] at H
            have L7 := Aside0.mk c7
            clear c7
            have H' := Aside0.mk H
            clear H
            unfold oxbowref09_Encode.part at h5
            by_cases d2 : x.f0 = 2
            · rw [if_pos d2] at h5
              have A5 := Aside0.mk h5
              have d2b : (x.f0 == 2) = true := beq_iff_eq.mpr d2
              clear h5 d2
              go_wp2_with (first | ((with_reducible refine gate_callee (f := 55) rfl ?_); refine goesL_ (some 40) rfl rfl Try.func55 (by kernel_rfl) rfl #[.int .i64 x.f0] rfl (by (try simp only [List.map_toArray, List.map_cons, List.map_nil]); first | done | rfl) ?_; (with_reducible refine (oxbowref02_Num.calls k1 x.f0 t1 e1 _ A4.out).mono ?_); rintro e w9 ⟨rfl, hb⟩; refine ⟨_, rfl, ?_⟩; have HB9 := Aside0.mk (below_step HB.out hb); have HO9 := Aside0.mk (Byt.OwnM.below HO.out hb); clear hb; have y9_0 := (HB9.out.cell (World.block_lt_of_cell? w _ X0.out)).trans X0.out; have y9_1 := (HB9.out.cell (World.block_lt_of_cell? w _ X1.out)).trans X1.out; have y9_2 := (HB9.out.cell (World.block_lt_of_cell? w _ X2.out)).trans X2.out) | ((with_reducible refine gate_dst (N := 45) rfl ?_); refine Byt.wpList_append_M rfl (.tmp 43) (.tmp 44) 77 9 rfl w.heap.size 5 Try.underlying77 Try.underlying9 oxbowref09_Encode.info _ (Lib.strCells (out)) rfl HO9.out t1 rfl ?cLa ?cBa ?_; (case cLa => have := L6.out; rw [Lib.strCells_length]; omega); (case cBa => exact HB9.out.size); intro v10 w10 hO hg; rw [← Byt.strCells_append] at hO; have HB10 := Aside0.mk (pw_below_grown HB9.out _ HB9.out.size hg (fun k_ hk => Byt.OwnM.base_le HO9.out k_ hk)); have HO10 := Aside0.mk hO; clear hO hg; have y10_0 := (HB10.out.cell (World.block_lt_of_cell? w _ X0.out)).trans X0.out; have y10_1 := (HB10.out.cell (World.block_lt_of_cell? w _ X1.out)).trans X1.out; have y10_2 := (HB10.out.cell (World.block_lt_of_cell? w _ X2.out)).trans X2.out) | ((with_reducible refine gate_callee (f := 56) rfl ?_); refine goesL_ (some 58) rfl rfl Try.func56 (by kernel_rfl) rfl #[.string x.f2] rfl (by (try simp only [List.map_toArray, List.map_cons, List.map_nil]); first | done | rfl) ?_; (with_reducible refine (oxbowref02_Text.calls k1 x.f2 t2 e2 _ A5.out).mono ?_); rintro e w11 ⟨rfl, hb⟩; refine ⟨_, rfl, ?_⟩; have HB11 := Aside0.mk (below_step HB10.out hb); have HO11 := Aside0.mk (Byt.OwnM.below HO10.out hb); clear hb) | ((with_reducible refine gate_dst (N := 63) rfl ?_); refine Byt.wpList_append_M rfl (.tmp 61) (.tmp 62) 77 9 rfl w.heap.size 5 Try.underlying77 Try.underlying9 oxbowref09_Encode.info _ (Lib.strCells (out ++ t1)) rfl HO11.out t2 rfl ?cLb ?cBb ?_; (case cLb => have := L7.out; rw [Lib.strCells_length]; omega); (case cBb => exact HB11.out.size); intro v12 w12 hO hg; rw [← Byt.strCells_append] at hO; have HB12 := Aside0.mk (pw_below_grown HB11.out _ HB11.out.size hg (fun k_ hk => Byt.OwnM.base_le HO11.out k_ hk)); have HO12 := Aside0.mk hO; clear hO hg))
              go_roundg k1
              case measure => have := HK.out; omega
              case rel => exact ⟨_, wrap64 (i + 1), rfl, H', ⟨by have := HK.out; omega⟩, HO12, HB12⟩
            · rw [if_neg d2] at h5
              have A5 := Aside0.mk h5
              have d2b : (x.f0 == 2) = false := beq_eq_false_iff_ne.mpr d2
              clear h5 d2
              go_wp2_with (first | ((with_reducible refine gate_callee (f := 55) rfl ?_); refine goesL_ (some 40) rfl rfl Try.func55 (by kernel_rfl) rfl #[.int .i64 x.f0] rfl (by (try simp only [List.map_toArray, List.map_cons, List.map_nil]); first | done | rfl) ?_; (with_reducible refine (oxbowref02_Num.calls k1 x.f0 t1 e1 _ A4.out).mono ?_); rintro e w9 ⟨rfl, hb⟩; refine ⟨_, rfl, ?_⟩; have HB9 := Aside0.mk (below_step HB.out hb); have HO9 := Aside0.mk (Byt.OwnM.below HO.out hb); clear hb; have y9_0 := (HB9.out.cell (World.block_lt_of_cell? w _ X0.out)).trans X0.out; have y9_1 := (HB9.out.cell (World.block_lt_of_cell? w _ X1.out)).trans X1.out; have y9_2 := (HB9.out.cell (World.block_lt_of_cell? w _ X2.out)).trans X2.out) | ((with_reducible refine gate_dst (N := 45) rfl ?_); refine Byt.wpList_append_M rfl (.tmp 43) (.tmp 44) 77 9 rfl w.heap.size 5 Try.underlying77 Try.underlying9 oxbowref09_Encode.info _ (Lib.strCells (out)) rfl HO9.out t1 rfl ?cLa ?cBa ?_; (case cLa => have := L6.out; rw [Lib.strCells_length]; omega); (case cBa => exact HB9.out.size); intro v10 w10 hO hg; rw [← Byt.strCells_append] at hO; have HB10 := Aside0.mk (pw_below_grown HB9.out _ HB9.out.size hg (fun k_ hk => Byt.OwnM.base_le HO9.out k_ hk)); have HO10 := Aside0.mk hO; clear hO hg; have y10_0 := (HB10.out.cell (World.block_lt_of_cell? w _ X0.out)).trans X0.out; have y10_1 := (HB10.out.cell (World.block_lt_of_cell? w _ X1.out)).trans X1.out; have y10_2 := (HB10.out.cell (World.block_lt_of_cell? w _ X2.out)).trans X2.out) | ((with_reducible refine gate_callee (f := 55) rfl ?_); refine goesL_ (some 70) rfl rfl Try.func55 (by kernel_rfl) rfl #[.int .i64 x.f1] rfl (by (try simp only [List.map_toArray, List.map_cons, List.map_nil]); first | done | rfl) ?_; (with_reducible refine (oxbowref02_Num.calls k1 x.f1 t2 e2 _ A5.out).mono ?_); rintro e w11 ⟨rfl, hb⟩; refine ⟨_, rfl, ?_⟩; have HB11 := Aside0.mk (below_step HB10.out hb); have HO11 := Aside0.mk (Byt.OwnM.below HO10.out hb); clear hb) | ((with_reducible refine gate_dst (N := 75) rfl ?_); refine Byt.wpList_append_M rfl (.tmp 73) (.tmp 74) 77 9 rfl w.heap.size 5 Try.underlying77 Try.underlying9 oxbowref09_Encode.info _ (Lib.strCells (out ++ t1)) rfl HO11.out t2 rfl ?cLb ?cBb ?_; (case cLb => have := L7.out; rw [Lib.strCells_length]; omega); (case cBb => exact HB11.out.size); intro v12 w12 hO hg; rw [← Byt.strCells_append] at hO; have HB12 := Aside0.mk (pw_below_grown HB11.out _ HB11.out.size hg (fun k_ hk => Byt.OwnM.base_le HO11.out k_ hk)); have HO12 := Aside0.mk hO; clear hO hg))
              go_roundg k1
              case measure => have := HK.out; omega
              case rel => exact ⟨_, wrap64 (i + 1), rfl, H', ⟨by have := HK.out; omega⟩, HO12, HB12⟩
          · rw [if_neg c5] at H
            cases H
        · rw [if_neg c4] at H
          have c4b : decide (i < (l0.length : Int)) = false := decide_eq_false c4
          clear c4
          have H_ := Prod.mk.inj (Option.some.inj H)
          clear H
          obtain ⟨rfl, rfl⟩ := H_
          have hcv := Byt.OwnM.toString (P := Try.prog) Try.underlying77 Try.underlying5 Try.underlying9 HO.out
          go_wp2
          go_ret2
          exact ⟨rfl, HB.out⟩
  · rw [if_neg d] at h
    have h_ := Prod.mk.inj (Option.some.inj h)
    clear h
    obtain ⟨rfl, rfl⟩ := h_
    have db : (e != 0) = true := by rw [bne_iff_ne]; exact d
    have db2 : (e == 0) = false := beq_eq_false_iff_ne.mpr d
    clear d
    go_enter Try.func34, Try.ntmps34
    go_wp2_with (first | ((with_reducible refine gate_callee (f := 25) rfl ?_); refine goesL_ (some 16) rfl rfl Try.func25 (by kernel_rfl) rfl #[.slice A0 l0.length c0] rfl (by (try simp only [List.map_toArray, List.map_cons, List.map_nil]); first | done | rfl) ?_; (with_reducible refine (oxbowref09_Check.calls k A0 c0 l0 _ w HR0.out HC0.out HE.out).mono ?_); rintro e w1 ⟨rfl, hb⟩; refine ⟨_, rfl, ?_⟩; have HB1 := Aside0.mk hb; clear hb))
    go_ret2
    exact ⟨rfl, HB1.out⟩


/-! ### oxbowlaw09_DeltaWrites: function 9 -/
def oxbowlaw09_DeltaWrites.f (k : Nat) (l0 : List (S36)) : Option (Bool) := (oxbowlaw09_Copied.f l0).bind fun t217 => ((delta_Encode.f k t217).bind fun bt220 => ((oxbowref09_Encode.f k l0).bind fun bt222 => (if bt220.1.toList = bt222.1.toList then (if bt220.2 = bt222.2 then ((oxbowlaw09_live.f k).bind fun t224 => (some t224)) else (some false)) else (some false))))
theorem oxbowlaw09_DeltaWrites.mono : ∀ a0 k, LeO (oxbowlaw09_DeltaWrites.f k a0) (oxbowlaw09_DeltaWrites.f (k + 1) a0) := by
  intro a0 k
  unfold oxbowlaw09_DeltaWrites.f
  repeat' first
      | (with_reducible exact delta_Encode.mono _ _)
      | (with_reducible exact oxbowlaw09_live.mono _)
      | (with_reducible exact oxbowref09_Encode.mono _ _)
      | (with_reducible exact LeO.refl _)
      | (with_reducible exact LeO.none _)
      | (with_reducible refine LeO.ite ?_ ?_)
      | (with_reducible refine LeO.bind ?_ (fun _ => ?_))
      | exact delta_Encode.mono _ _
      | exact oxbowlaw09_live.mono _
      | exact oxbowref09_Encode.mono _ _
      | exact LeO.none _
      | refine LeO.ite ?_ ?_
      | refine LeO.bind ?_ (fun _ => ?_)
set_option maxHeartbeats 8000000 in
set_option maxRecDepth 100000 in
theorem oxbowlaw09_DeltaWrites.calls (k : Nat) (A0 : Option Addr) (c0 : Nat) (l0 : List (S36)) (r : Bool) (w : World) (hr0 : Kd.C k36 w A0 l0.length l0) (hc0 : l0.length ≤ c0) (h : oxbowlaw09_DeltaWrites.f k l0 = some r) :
    Calls Try.prog 9 #[.slice A0 l0.length c0] w fun e w' => e = .returned (.bool r) ∧ Below w.heap.size w w' := by
  have HR0 := Aside0.mk hr0
  have HC0 := Aside0.mk hc0
  clear hr0 hc0
  have HB := Aside0.mk (Below.refl w.heap.size w)
  have H : ((oxbowlaw09_Copied.f l0).bind fun t217 => ((delta_Encode.f k t217).bind fun bt220 => ((oxbowref09_Encode.f k l0).bind fun bt222 => (if bt220.1.toList = bt222.1.toList then (if bt220.2 = bt222.2 then ((oxbowlaw09_live.f k).bind fun t224 => (some t224)) else (some false)) else (some false))))) = some r := h
  clear h
  replace H := Option.bind_eq_some_iff.mp H
  obtain ⟨t217, A20, H⟩ := H
  replace H : ((delta_Encode.f k t217).bind fun bt220 => ((oxbowref09_Encode.f k l0).bind fun bt222 => (if bt220.1.toList = bt222.1.toList then (if bt220.2 = bt222.2 then ((oxbowlaw09_live.f k).bind fun t224 => (some t224)) else (some false)) else (some false)))) = some r := H
  have A2 := Aside0.mk A20
  clear A20
  replace H := Option.bind_eq_some_iff.mp H
  obtain ⟨⟨t220, t221⟩, A30, H⟩ := H
  replace H : ((oxbowref09_Encode.f k l0).bind fun bt222 => (if t220.toList = bt222.1.toList then (if t221 = bt222.2 then ((oxbowlaw09_live.f k).bind fun t224 => (some t224)) else (some false)) else (some false))) = some r := H
  have A3 := Aside0.mk A30
  clear A30
  replace H := Option.bind_eq_some_iff.mp H
  obtain ⟨⟨t222, t223⟩, A40, H⟩ := H
  replace H : (if t220.toList = t222.toList then (if t221 = t223 then ((oxbowlaw09_live.f k).bind fun t224 => (some t224)) else (some false)) else (some false)) = some r := H
  have A4 := Aside0.mk A40
  clear A40
  by_cases c5 : t220.toList = t222.toList
  · rw [if_pos c5] at H
    have c5b0 : (t220.toList == t222.toList) = true := beq_iff_eq.mpr c5
    have c5b1 : (t220.toList != t222.toList) = false := bne_eq_false_iff_eq.mpr c5
    clear c5
    by_cases c6 : t221 = t223
    · rw [if_pos c6] at H
      have c6b0 : (t221 == t223) = true := beq_iff_eq.mpr c6
      have c6b1 : (t221 != t223) = false := bne_eq_false_iff_eq.mpr c6
      clear c6
      replace H := Option.bind_eq_some_iff.mp H
      obtain ⟨t224, A70, H⟩ := H
      replace H : (some t224) = some r := H
      have A7 := Aside0.mk A70
      clear A70
      obtain rfl := Option.some.inj H
      go_enter Try.func9, Try.ntmps9
      go_wp2_with (first | ((with_reducible refine gate_callee (f := 15) rfl ?_); refine goesL_ (some 9) rfl rfl Try.func15 (by kernel_rfl) rfl #[.slice A0 l0.length c0] rfl (by (try simp only [List.map_toArray, List.map_cons, List.map_nil]); first | done | rfl | (simp only [List.length_drop, List.length_take]; rfl)) ?_; (with_reducible refine (oxbowlaw09_Copied.calls _ _ l0 t217 _ ?side1 ?side2 A2.out).mono ?_); (case side1 => repeat (first | exact HR0.out | (with_reducible refine Kd.C_alloc ?_ _) | (with_reducible refine Kd.C_drewN ?_ _) | (with_reducible refine Kd.C_drew ?_))); (case side2 => exact HC0.out); rintro e w8 ⟨v218, rfl, ho0, hb⟩; refine ⟨_, rfl, ?_⟩; have n0_ := Aside0.mk (Kd.R_lower ho0 (below_size (by repeat (first | (with_reducible first | exact HB.out | apply below_alloc | apply pw_below_drewN | apply below_drew1) | exact HB.out)))); have n1_ := Aside0.mk (below_step (by repeat (first | (with_reducible first | exact HB.out | apply below_alloc | apply pw_below_drewN | apply below_drew1) | exact HB.out)) hb); clear HB; have HO219 := n0_; have HB := n1_; clear n0_ n1_; (try clear hb); (try clear hb2); (try clear hk); (try clear hi); (try clear ho0); obtain ⟨Ao9, co9, eo9⟩ := Kd.R_slice HO219.out; subst eo9) | ((with_reducible refine gate_callee (f := 33) rfl ?_); refine goesL_ (some 10) rfl rfl Try.func33 (by kernel_rfl) rfl #[.slice Ao9 t217.length co9] rfl (by (try simp only [List.map_toArray, List.map_cons, List.map_nil]); first | done | rfl | (simp only [List.length_drop, List.length_take]; rfl)) ?_; (with_reducible refine (delta_Encode.calls k _ _ t217 t220 t221 _ ?side1 ?side2 A3.out).mono ?_); (case side1 => repeat (first | exact (Kd.R_reads' HO219.out).2.2 | (with_reducible refine Kd.C_alloc ?_ _) | (with_reducible refine Kd.C_drewN ?_ _) | (with_reducible refine Kd.C_drew ?_))); (case side2 => exact (Kd.R_reads' HO219.out).2.1); rintro e w10 ⟨rfl, hb⟩; refine ⟨_, rfl, ?_⟩; have n0_ := Aside0.mk (Kd.R_below (by (with_reducible repeat (first | apply Kd.R_alloc | apply Kd.R_drewN | apply Kd.R_drew)); exact HO219.out) hb); have n1_ := Aside0.mk (below_step (by repeat (first | (with_reducible first | exact HB.out | apply below_alloc | apply pw_below_drewN | apply below_drew1) | exact HB.out)) hb); clear HO219; clear HB; have HO219 := n0_; have HB := n1_; clear n0_ n1_; (try clear hb); (try clear hb2); (try clear hk); (try clear hi)) | ((with_reducible refine gate_callee (f := 34) rfl ?_); refine goesL_ (some 15) rfl rfl Try.func34 (by kernel_rfl) rfl #[.slice A0 l0.length c0] rfl (by (try simp only [List.map_toArray, List.map_cons, List.map_nil]); first | done | rfl | (simp only [List.length_drop, List.length_take]; rfl)) ?_; (with_reducible refine (oxbowref09_Encode.calls k _ _ l0 t222 t223 _ ?side1 ?side2 A4.out).mono ?_); (case side1 => repeat (first | exact (Kd.C_below HR0.out HB.out) | (with_reducible refine Kd.C_alloc ?_ _) | (with_reducible refine Kd.C_drewN ?_ _) | (with_reducible refine Kd.C_drew ?_))); (case side2 => exact HC0.out); rintro e w11 ⟨rfl, hb⟩; refine ⟨_, rfl, ?_⟩; have n0_ := Aside0.mk (Kd.R_below (by (with_reducible repeat (first | apply Kd.R_alloc | apply Kd.R_drewN | apply Kd.R_drew)); exact HO219.out) hb); have n1_ := Aside0.mk (below_step (by repeat (first | (with_reducible first | exact HB.out | apply below_alloc | apply pw_below_drewN | apply below_drew1) | exact HB.out)) hb); clear HO219; clear HB; have HO219 := n0_; have HB := n1_; clear n0_ n1_; (try clear hb); (try clear hb2); (try clear hk); (try clear hi)) | (go_at_call 17; (with_reducible refine (oxbowlaw09_live.calls k  t224 _ A7.out).mono ?_); rintro e w12 ⟨rfl, hb⟩; have n0_ := Aside0.mk (Kd.R_below (by (with_reducible repeat (first | apply Kd.R_alloc | apply Kd.R_drewN | apply Kd.R_drew)); exact HO219.out) hb); have n1_ := Aside0.mk (below_step (by repeat (first | (with_reducible first | exact HB.out | apply below_alloc | apply pw_below_drewN | apply below_drew1) | exact HB.out)) hb); clear HO219; clear HB; have HO219 := n0_; have HB := n1_; clear n0_ n1_; (try clear hb); (try clear hb2); (try clear hk); (try clear hi)))
      go_ret
      exact ⟨by first | rfl | (simp [errW_none, errW_some] <;> rfl) | (simp [*, errW_none, errW_some] <;> rfl), by repeat (first | (with_reducible first | exact HB.out | apply below_alloc | apply pw_below_drewN | apply below_drew1) | exact HB.out)⟩
    · rw [if_neg c6] at H
      have c6b0 : (t221 == t223) = false := beq_eq_false_iff_ne.mpr c6
      have c6b1 : (t221 != t223) = true := bne_iff_ne.mpr c6
      obtain rfl := Option.some.inj H
      go_enter Try.func9, Try.ntmps9
      go_wp2_with (first | ((with_reducible refine gate_callee (f := 15) rfl ?_); refine goesL_ (some 9) rfl rfl Try.func15 (by kernel_rfl) rfl #[.slice A0 l0.length c0] rfl (by (try simp only [List.map_toArray, List.map_cons, List.map_nil]); first | done | rfl | (simp only [List.length_drop, List.length_take]; rfl)) ?_; (with_reducible refine (oxbowlaw09_Copied.calls _ _ l0 t217 _ ?side1 ?side2 A2.out).mono ?_); (case side1 => repeat (first | exact HR0.out | (with_reducible refine Kd.C_alloc ?_ _) | (with_reducible refine Kd.C_drewN ?_ _) | (with_reducible refine Kd.C_drew ?_))); (case side2 => exact HC0.out); rintro e w13 ⟨v218, rfl, ho0, hb⟩; refine ⟨_, rfl, ?_⟩; have n0_ := Aside0.mk (Kd.R_lower ho0 (below_size (by repeat (first | (with_reducible first | exact HB.out | apply below_alloc | apply pw_below_drewN | apply below_drew1) | exact HB.out)))); have n1_ := Aside0.mk (below_step (by repeat (first | (with_reducible first | exact HB.out | apply below_alloc | apply pw_below_drewN | apply below_drew1) | exact HB.out)) hb); clear HB; have HO219 := n0_; have HB := n1_; clear n0_ n1_; (try clear hb); (try clear hb2); (try clear hk); (try clear hi); (try clear ho0); obtain ⟨Ao14, co14, eo14⟩ := Kd.R_slice HO219.out; subst eo14) | ((with_reducible refine gate_callee (f := 33) rfl ?_); refine goesL_ (some 10) rfl rfl Try.func33 (by kernel_rfl) rfl #[.slice Ao14 t217.length co14] rfl (by (try simp only [List.map_toArray, List.map_cons, List.map_nil]); first | done | rfl | (simp only [List.length_drop, List.length_take]; rfl)) ?_; (with_reducible refine (delta_Encode.calls k _ _ t217 t220 t221 _ ?side1 ?side2 A3.out).mono ?_); (case side1 => repeat (first | exact (Kd.R_reads' HO219.out).2.2 | (with_reducible refine Kd.C_alloc ?_ _) | (with_reducible refine Kd.C_drewN ?_ _) | (with_reducible refine Kd.C_drew ?_))); (case side2 => exact (Kd.R_reads' HO219.out).2.1); rintro e w15 ⟨rfl, hb⟩; refine ⟨_, rfl, ?_⟩; have n0_ := Aside0.mk (Kd.R_below (by (with_reducible repeat (first | apply Kd.R_alloc | apply Kd.R_drewN | apply Kd.R_drew)); exact HO219.out) hb); have n1_ := Aside0.mk (below_step (by repeat (first | (with_reducible first | exact HB.out | apply below_alloc | apply pw_below_drewN | apply below_drew1) | exact HB.out)) hb); clear HO219; clear HB; have HO219 := n0_; have HB := n1_; clear n0_ n1_; (try clear hb); (try clear hb2); (try clear hk); (try clear hi)) | ((with_reducible refine gate_callee (f := 34) rfl ?_); refine goesL_ (some 15) rfl rfl Try.func34 (by kernel_rfl) rfl #[.slice A0 l0.length c0] rfl (by (try simp only [List.map_toArray, List.map_cons, List.map_nil]); first | done | rfl | (simp only [List.length_drop, List.length_take]; rfl)) ?_; (with_reducible refine (oxbowref09_Encode.calls k _ _ l0 t222 t223 _ ?side1 ?side2 A4.out).mono ?_); (case side1 => repeat (first | exact (Kd.C_below HR0.out HB.out) | (with_reducible refine Kd.C_alloc ?_ _) | (with_reducible refine Kd.C_drewN ?_ _) | (with_reducible refine Kd.C_drew ?_))); (case side2 => exact HC0.out); rintro e w16 ⟨rfl, hb⟩; refine ⟨_, rfl, ?_⟩; have n0_ := Aside0.mk (Kd.R_below (by (with_reducible repeat (first | apply Kd.R_alloc | apply Kd.R_drewN | apply Kd.R_drew)); exact HO219.out) hb); have n1_ := Aside0.mk (below_step (by repeat (first | (with_reducible first | exact HB.out | apply below_alloc | apply pw_below_drewN | apply below_drew1) | exact HB.out)) hb); clear HO219; clear HB; have HO219 := n0_; have HB := n1_; clear n0_ n1_; (try clear hb); (try clear hb2); (try clear hk); (try clear hi)))
      go_ret
      exact ⟨by first | rfl | (simp [errW_none, errW_some] <;> rfl) | (simp [*, errW_none, errW_some] <;> rfl), by repeat (first | (with_reducible first | exact HB.out | apply below_alloc | apply pw_below_drewN | apply below_drew1) | exact HB.out)⟩
  · rw [if_neg c5] at H
    have c5b0 : (t220.toList == t222.toList) = false := beq_eq_false_iff_ne.mpr c5
    have c5b1 : (t220.toList != t222.toList) = true := bne_iff_ne.mpr c5
    obtain rfl := Option.some.inj H
    go_enter Try.func9, Try.ntmps9
    go_wp2_with (first | ((with_reducible refine gate_callee (f := 15) rfl ?_); refine goesL_ (some 9) rfl rfl Try.func15 (by kernel_rfl) rfl #[.slice A0 l0.length c0] rfl (by (try simp only [List.map_toArray, List.map_cons, List.map_nil]); first | done | rfl | (simp only [List.length_drop, List.length_take]; rfl)) ?_; (with_reducible refine (oxbowlaw09_Copied.calls _ _ l0 t217 _ ?side1 ?side2 A2.out).mono ?_); (case side1 => repeat (first | exact HR0.out | (with_reducible refine Kd.C_alloc ?_ _) | (with_reducible refine Kd.C_drewN ?_ _) | (with_reducible refine Kd.C_drew ?_))); (case side2 => exact HC0.out); rintro e w17 ⟨v218, rfl, ho0, hb⟩; refine ⟨_, rfl, ?_⟩; have n0_ := Aside0.mk (Kd.R_lower ho0 (below_size (by repeat (first | (with_reducible first | exact HB.out | apply below_alloc | apply pw_below_drewN | apply below_drew1) | exact HB.out)))); have n1_ := Aside0.mk (below_step (by repeat (first | (with_reducible first | exact HB.out | apply below_alloc | apply pw_below_drewN | apply below_drew1) | exact HB.out)) hb); clear HB; have HO219 := n0_; have HB := n1_; clear n0_ n1_; (try clear hb); (try clear hb2); (try clear hk); (try clear hi); (try clear ho0); obtain ⟨Ao18, co18, eo18⟩ := Kd.R_slice HO219.out; subst eo18) | ((with_reducible refine gate_callee (f := 33) rfl ?_); refine goesL_ (some 10) rfl rfl Try.func33 (by kernel_rfl) rfl #[.slice Ao18 t217.length co18] rfl (by (try simp only [List.map_toArray, List.map_cons, List.map_nil]); first | done | rfl | (simp only [List.length_drop, List.length_take]; rfl)) ?_; (with_reducible refine (delta_Encode.calls k _ _ t217 t220 t221 _ ?side1 ?side2 A3.out).mono ?_); (case side1 => repeat (first | exact (Kd.R_reads' HO219.out).2.2 | (with_reducible refine Kd.C_alloc ?_ _) | (with_reducible refine Kd.C_drewN ?_ _) | (with_reducible refine Kd.C_drew ?_))); (case side2 => exact (Kd.R_reads' HO219.out).2.1); rintro e w19 ⟨rfl, hb⟩; refine ⟨_, rfl, ?_⟩; have n0_ := Aside0.mk (Kd.R_below (by (with_reducible repeat (first | apply Kd.R_alloc | apply Kd.R_drewN | apply Kd.R_drew)); exact HO219.out) hb); have n1_ := Aside0.mk (below_step (by repeat (first | (with_reducible first | exact HB.out | apply below_alloc | apply pw_below_drewN | apply below_drew1) | exact HB.out)) hb); clear HO219; clear HB; have HO219 := n0_; have HB := n1_; clear n0_ n1_; (try clear hb); (try clear hb2); (try clear hk); (try clear hi)) | ((with_reducible refine gate_callee (f := 34) rfl ?_); refine goesL_ (some 15) rfl rfl Try.func34 (by kernel_rfl) rfl #[.slice A0 l0.length c0] rfl (by (try simp only [List.map_toArray, List.map_cons, List.map_nil]); first | done | rfl | (simp only [List.length_drop, List.length_take]; rfl)) ?_; (with_reducible refine (oxbowref09_Encode.calls k _ _ l0 t222 t223 _ ?side1 ?side2 A4.out).mono ?_); (case side1 => repeat (first | exact (Kd.C_below HR0.out HB.out) | (with_reducible refine Kd.C_alloc ?_ _) | (with_reducible refine Kd.C_drewN ?_ _) | (with_reducible refine Kd.C_drew ?_))); (case side2 => exact HC0.out); rintro e w20 ⟨rfl, hb⟩; refine ⟨_, rfl, ?_⟩; have n0_ := Aside0.mk (Kd.R_below (by (with_reducible repeat (first | apply Kd.R_alloc | apply Kd.R_drewN | apply Kd.R_drew)); exact HO219.out) hb); have n1_ := Aside0.mk (below_step (by repeat (first | (with_reducible first | exact HB.out | apply below_alloc | apply pw_below_drewN | apply below_drew1) | exact HB.out)) hb); clear HO219; clear HB; have HO219 := n0_; have HB := n1_; clear n0_ n1_; (try clear hb); (try clear hb2); (try clear hk); (try clear hi)))
    go_ret
    exact ⟨by first | rfl | (simp [errW_none, errW_some] <;> rfl) | (simp [*, errW_none, errW_some] <;> rfl), by repeat (first | (with_reducible first | exact HB.out | apply below_alloc | apply pw_below_drewN | apply below_drew1) | exact HB.out)⟩

/-- The one pure statement of oxbowlaw09_DeltaWrites. -/
def oxbowlaw09_DeltaWrites.Pure : Prop := ∀ (l0 : List (S36)), (l0.length * 32 ≤ 140737488351232 ∧ l0.length ≤ maxLen ∧ ∀ y225 ∈ l0, ((Lit.int .i64 y225.f0).wf = true ∧ (Lit.int .i64 y225.f1).wf = true ∧ y225.f2.size ≤ 140737488351232)) → ((l0.map fun y226 => ((1 + (1 + (y226.f2.size + 1))) + 1)).sum + 1) ≤ 1048576 → ∃ k, oxbowlaw09_DeltaWrites.f k l0 = some true

end Go.Proofs.Ytdpbkomaiafemaa.HDe
