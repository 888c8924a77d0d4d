-- Written by hprint.py over the kit's print.py; contracts of some functions by hand.
import Derived.Test.YtdpbkomaiafemaaHDdx0
import Derived.Test.YtdpbkomaiafemaaHDdx3
import Derived.Test.YtdpbkomaiafemaaHDdx6
import Derived.Test.YtdpbkomaiafemaaHDdx9
namespace Go.Proofs.Ytdpbkomaiafemaa.HDd
open Go.RowKit Go.Proofs.YtdpbkomaiafemaaW.PrintWords Go.Proofs.YtdpbkomaiafemaaW.PrintLast Go.Proofs.YtdpbkomaiafemaaW.PrintMore
attribute [local go_sem] max2_int min2_int max_two min_two max_three min_three max_four min_four   -- for this text's walks alone
set_option linter.unusedVariables false
set_option linter.unusedSimpArgs false

/-! ### pack_take: function 72 -/
mutual
def pack_take.j0 : Nat → ByteArray → Int → Int → Bool → Option (Int × Int × Int)
  | 0, _, _, _, _ => none
  | k + 1, x0, x1, x2, x19 => if x19 = true then (some (0, 0, 1)) else (pack_take.l0 k x0 x1 x2 0 0)
def pack_take.l0 : Nat → ByteArray → Int → Int → Int → Int → Option (Int × Int × Int)
  | 0, _, _, _, _, _ => none
  | k + 1, x0, x1, x2, x9, x20 => if x20 < 8 then (if (wrap64 (x1 + x20)) = (x0.size : Int) then (some (0, 0, 21)) else (if 0 ≤ (wrap64 (x1 + x20)) then (if (wrap64 (x1 + x20)) < (x0.size : Int) then (if 0 ≤ (wrap64 (7 * x20)) then (if ((bt x0 (wrap64 (x1 + x20))) / 128) = 1 then (pack_take.l0 k x0 x1 x2 (Go.bits .or .u64 x9 (shl .u64 (IntKind.u64.wrap (Go.bits .and .u8 (bt x0 (wrap64 (x1 + x20))) 127)) (wrap64 (7 * x20)))) (wrap64 (x20 + 1))) else (if (bt x0 (wrap64 (x1 + x20))) = 0 then (if x20 > 0 then (some (0, 0, 22)) else (if (Go.bits .or .u64 x9 (shl .u64 (IntKind.u64.wrap (Go.bits .and .u8 (bt x0 (wrap64 (x1 + x20))) 127)) (wrap64 (7 * x20)))) > (IntKind.u64.wrap (x2)) then (some (0, 0, 22)) else (some (wrap64 (Go.bits .or .u64 x9 (shl .u64 (IntKind.u64.wrap (Go.bits .and .u8 (bt x0 (wrap64 (x1 + x20))) 127)) (wrap64 (7 * x20)))), wrap64 ((wrap64 (x1 + x20)) + 1), 0)))) else (if (Go.bits .or .u64 x9 (shl .u64 (IntKind.u64.wrap (Go.bits .and .u8 (bt x0 (wrap64 (x1 + x20))) 127)) (wrap64 (7 * x20)))) > (IntKind.u64.wrap (x2)) then (some (0, 0, 22)) else (some (wrap64 (Go.bits .or .u64 x9 (shl .u64 (IntKind.u64.wrap (Go.bits .and .u8 (bt x0 (wrap64 (x1 + x20))) 127)) (wrap64 (7 * x20)))), wrap64 ((wrap64 (x1 + x20)) + 1), 0))))) else (none)) else (none)) else (none))) else (some (0, 0, 22))
end
def pack_take.f (k : Nat) (a0 : ByteArray) (a1 : Int) (a2 : Int) : Option (Int × Int × Int) := if a1 < 0 then (pack_take.j0 k a0 a1 a2 true) else (pack_take.j0 k a0 a1 a2 (decide (a1 > (a0.size : Int))))
theorem pack_take.mono_l : ∀ k, (∀ y0 y1 y2 y3, LeO (pack_take.j0 k y0 y1 y2 y3) (pack_take.j0 (k + 1) y0 y1 y2 y3)) ∧ (∀ y0 y1 y2 y3 y4, LeO (pack_take.l0 k y0 y1 y2 y3 y4) (pack_take.l0 (k + 1) y0 y1 y2 y3 y4))
  | 0 => ⟨fun _ _ _ _ r h => by simp [pack_take.j0] at h, fun _ _ _ _ _ r h => by simp [pack_take.l0] at h⟩
  | k + 1 => by
    obtain ⟨ih0, ih1⟩ := pack_take.mono_l k
    refine ⟨?_, ?_⟩
    · intro y0 y1 y2 y3
      unfold pack_take.j0
      repeat' first
      | (with_reducible exact ih0 _ _ _ _)
      | (with_reducible exact ih1 _ _ _ _ _)
      | (with_reducible exact LeO.refl _)
      | (with_reducible exact LeO.none _)
      | (with_reducible refine LeO.ite ?_ ?_)
      | (with_reducible refine LeO.bind ?_ (fun _ => ?_))
      | exact ih0 _ _ _ _
      | exact ih1 _ _ _ _ _
      | exact LeO.none _
      | refine LeO.ite ?_ ?_
      | refine LeO.bind ?_ (fun _ => ?_)
    · intro y0 y1 y2 y3 y4
      unfold pack_take.l0
      repeat' first
      | (with_reducible exact ih0 _ _ _ _)
      | (with_reducible exact ih1 _ _ _ _ _)
      | (with_reducible exact LeO.refl _)
      | (with_reducible exact LeO.none _)
      | (with_reducible refine LeO.ite ?_ ?_)
      | (with_reducible refine LeO.bind ?_ (fun _ => ?_))
      | exact ih0 _ _ _ _
      | exact ih1 _ _ _ _ _
      | exact LeO.none _
      | refine LeO.ite ?_ ?_
      | refine LeO.bind ?_ (fun _ => ?_)
theorem pack_take.mono : ∀ a0 a1 a2 k, LeO (pack_take.f k a0 a1 a2) (pack_take.f (k + 1) a0 a1 a2) := by
  intro a0 a1 a2 k
  obtain ⟨ih0, ih1⟩ := pack_take.mono_l k
  unfold pack_take.f
  repeat' first
      | (with_reducible exact ih0 _ _ _ _)
      | (with_reducible exact ih1 _ _ _ _ _)
      | (with_reducible exact LeO.refl _)
      | (with_reducible exact LeO.none _)
      | (with_reducible refine LeO.ite ?_ ?_)
      | (with_reducible refine LeO.bind ?_ (fun _ => ?_))
      | exact ih0 _ _ _ _
      | exact ih1 _ _ _ _ _
      | exact LeO.none _
      | refine LeO.ite ?_ ?_
      | refine LeO.bind ?_ (fun _ => ?_)
set_option maxHeartbeats 8000000 in
set_option maxRecDepth 100000 in
theorem pack_take.calls (k : Nat) (a0 : ByteArray) (a1 : Int) (a2 : Int) (r1 : Int) (r2 : Int) (r3 : Int) (w : World) (h : pack_take.f k a0 a1 a2 = some (r1, r2, r3)) :
    Calls Try.prog 72 #[.string a0, .int .i64 a1, .int .i64 a2] w fun e w' => e = .returned (.tuple #[.int .i64 r1, .int .i64 r2, .int .i64 r3]) ∧ Drawn0 w w' := by
  have H : (if a1 < 0 then (pack_take.j0 k a0 a1 a2 true) else (pack_take.j0 k a0 a1 a2 (decide (a1 > (a0.size : Int))))) = some (r1, r2, r3) := h
  clear h
  have HC4 := Aside0.mk H
  clear H
  go_enter Try.func72, Try.ntmps72
  go_upto_region 1 with (fail)
  go_cut [19] (fun v19 wc => ∃ (kq : Nat) (x19_3 : Bool), v19 = .bool x19_3 ∧ Aside0 (pack_take.j0 kq a0 a1 a2 x19_3 = some (r1, r2, r3)) ∧ Aside0 (kq ≤ k) ∧ Drawn0 w wc)
  case first =>
    have H := HC4.out
    clear HC4
    by_cases c5 : a1 < 0
    · rw [if_pos c5] at H
      have c5b0 : decide (a1 < 0) = true := decide_eq_true c5
      clear c5
      (first | rw [c5b0] | (simp only [i64_w, i32_w]; rw [c5b0]) | skip)
      have H' := Aside0.mk H
      clear H
      go_wp2
      go_meet
      case rel => exact ⟨_, (true), (by first | rfl | (simp; done) | (simp [*]; done) | (simp; (generalize ByteArray.toList _ = l_); cases l_ <;> rfl)), H', ⟨by first | omega | exact Nat.le_refl _⟩, by repeat (first | exact Drawn0.refl _ | apply Drawn0.step)⟩
    · rw [if_neg c5] at H
      have c5b0 : decide (a1 < 0) = false := decide_eq_false c5
      clear c5
      (first | rw [c5b0] | (simp only [i64_w, i32_w]; rw [c5b0]) | skip)
      have H' := Aside0.mk H
      clear H
      go_wp2
      go_meet
      case rel => exact ⟨_, (decide (a1 > (a0.size : Int))), (by first | rfl | (simp; done) | (simp [*]; done) | (simp; (generalize ByteArray.toList _ = l_); cases l_ <;> rfl)), H', ⟨by first | omega | exact Nat.le_refl _⟩, by repeat (first | exact Drawn0.refl _ | apply Drawn0.step)⟩
  case rest =>
    clear HC4
    try clear p2
    try clear c5
    try clear c5b0
    obtain ⟨kq, x19_3, rfl, HA, HJ3, ⟨mc3, rfl⟩⟩ := hcut
    cases kq with
    | zero => exact absurd HA.out (by simp [pack_take.j0])
    | succ kj3 =>
      have H := HA.out
      clear HA
      simp only [pack_take.j0] at H
      by_cases c6 : x19_3 = true
      · subst c6
        have H1 : (some (0, 0, 1)) = some (r1, r2, r3) := by rw [if_pos rfl] at H; exact H
        clear H
        have H := H1
        clear H1
        simp only [Option.some.injEq, Prod.mk.injEq] at H
        obtain ⟨rfl, rfl, rfl⟩ := H
        go_wp2
        go_ret3
        exact ⟨by first | rfl | (simp; done) | (simp [*]; done), by repeat (first | exact Drawn0.refl _ | apply Drawn0.step)⟩
      · replace c6 := Bool.eq_false_iff.mpr c6
        subst c6
        have H1 : (pack_take.l0 kj3 a0 a1 a2 0 0) = some (r1, r2, r3) := by rw [if_neg (show ¬ (false = true) by decide)] at H; exact H
        clear H
        have H := H1
        clear H1
        have H' := Aside0.mk H
        clear H
        go_wp2
        go_loopg [9, 20] kj3 (fun kq v9 v20 w' => ∃ (x9_2 : Int) (x20_2 : Int), v9 = .int .u64 x9_2 ∧ v20 = .int .i64 x20_2 ∧ Aside0 (pack_take.l0 kq a0 a1 a2 x9_2 x20_2 = some (r1, r2, r3)) ∧ Aside0 (kq ≤ kj3) ∧ Drawn0 w w')
        case atStart => exact ⟨(0), (0), (by first | rfl | (simp; done) | (simp [*]; done) | (simp; (generalize ByteArray.toList _ = l_); cases l_ <;> rfl)), (by first | rfl | (simp; done) | (simp [*]; done) | (simp; (generalize ByteArray.toList _ = l_); cases l_ <;> rfl)), H', ⟨Nat.le_refl _⟩, by repeat (first | exact Drawn0.refl _ | apply Drawn0.step)⟩
        case round =>
          clear H'
          try clear p2
          try clear c3
          try clear c5
          try clear c5b0
          try clear c6
          try clear p2
          obtain ⟨x9_2, x20_2, rfl, rfl, HA, HK2, ⟨m2, rfl⟩⟩ := hrel
          cases gk with
          | zero => exact absurd HA.out (by simp [pack_take.l0])
          | succ k2 =>
            have H := HA.out
            clear HA
            simp only [pack_take.l0] at H
            by_cases c7 : x20_2 < 8
            · rw [if_pos c7] at H
              have c7b0 : decide (x20_2 < 8) = true := decide_eq_true c7
              clear c7
              by_cases c8 : (wrap64 (a1 + x20_2)) = (a0.size : Int)
              · rw [if_pos c8] at H
                have c8b0 : ((wrap64 (a1 + x20_2)) == (a0.size : Int)) = true := beq_iff_eq.mpr c8
                have c8b1 : ((wrap64 (a1 + x20_2)) != (a0.size : Int)) = false := bne_eq_false_iff_eq.mpr c8
                clear c8
                simp only [Option.some.injEq, Prod.mk.injEq] at H
                obtain ⟨rfl, rfl, rfl⟩ := H
                go_wp2
                go_ret3
                exact ⟨by first | rfl | (simp; done) | (simp [*]; done), by repeat (first | exact Drawn0.refl _ | apply Drawn0.step)⟩
              · rw [if_neg c8] at H
                have c8b0 : ((wrap64 (a1 + x20_2)) == (a0.size : Int)) = false := beq_eq_false_iff_ne.mpr c8
                have c8b1 : ((wrap64 (a1 + x20_2)) != (a0.size : Int)) = true := bne_iff_ne.mpr c8
                obtain ⟨ji9, hji9⟩ : ∃ j_ : Int, (wrap64 (a1 + x20_2)) = j_ := ⟨_, rfl⟩
                replace H : (if 0 ≤ (ji9) then (if (ji9) < (a0.size : Int) then (if 0 ≤ (wrap64 (7 * x20_2)) then (if ((bt a0 (ji9)) / 128) = 1 then (pack_take.l0 k2 a0 a1 a2 (Go.bits .or .u64 x9_2 (shl .u64 (IntKind.u64.wrap (Go.bits .and .u8 (bt a0 (ji9)) 127)) (wrap64 (7 * x20_2)))) (wrap64 (x20_2 + 1))) else (if (bt a0 (ji9)) = 0 then (if x20_2 > 0 then (some (0, 0, 22)) else (if (Go.bits .or .u64 x9_2 (shl .u64 (IntKind.u64.wrap (Go.bits .and .u8 (bt a0 (ji9)) 127)) (wrap64 (7 * x20_2)))) > (IntKind.u64.wrap (a2)) then (some (0, 0, 22)) else (some (wrap64 (Go.bits .or .u64 x9_2 (shl .u64 (IntKind.u64.wrap (Go.bits .and .u8 (bt a0 (ji9)) 127)) (wrap64 (7 * x20_2)))), wrap64 ((ji9) + 1), 0)))) else (if (Go.bits .or .u64 x9_2 (shl .u64 (IntKind.u64.wrap (Go.bits .and .u8 (bt a0 (ji9)) 127)) (wrap64 (7 * x20_2)))) > (IntKind.u64.wrap (a2)) then (some (0, 0, 22)) else (some (wrap64 (Go.bits .or .u64 x9_2 (shl .u64 (IntKind.u64.wrap (Go.bits .and .u8 (bt a0 (ji9)) 127)) (wrap64 (7 * x20_2)))), wrap64 ((ji9) + 1), 0))))) else (none)) else (none)) else (none)) = some (r1, r2, r3) := by first | (rw [hji9] at H; exact H) | (simp only [hji9] at H ⊢; exact H)
                (try rw [hji9] at c8b0)
                (try rw [hji9] at c8b1)
                have hji9w : (IntKind.i64.wrap (a1 + x20_2)) = ji9 := (i64_w _).trans hji9
                by_cases c10 : 0 ≤ (ji9)
                · rw [if_pos c10] at H
                  have c10b0 : decide (0 ≤ (ji9)) = true := decide_eq_true c10
                  clear c10
                  by_cases c11 : (ji9) < (a0.size : Int)
                  · rw [if_pos c11] at H
                    have c11b0 : decide ((ji9) < (a0.size : Int)) = true := decide_eq_true c11
                    clear c11
                    obtain ⟨ji13, hji13⟩ : ∃ j_ : Int, (wrap64 (7 * x20_2)) = j_ := ⟨_, rfl⟩
                    replace H : (if 0 ≤ (ji13) then (if ((bt a0 (ji9)) / 128) = 1 then (pack_take.l0 k2 a0 a1 a2 (Go.bits .or .u64 x9_2 (shl .u64 (IntKind.u64.wrap (Go.bits .and .u8 (bt a0 (ji9)) 127)) (ji13))) (wrap64 (x20_2 + 1))) else (if (bt a0 (ji9)) = 0 then (if x20_2 > 0 then (some (0, 0, 22)) else (if (Go.bits .or .u64 x9_2 (shl .u64 (IntKind.u64.wrap (Go.bits .and .u8 (bt a0 (ji9)) 127)) (ji13))) > (IntKind.u64.wrap (a2)) then (some (0, 0, 22)) else (some (wrap64 (Go.bits .or .u64 x9_2 (shl .u64 (IntKind.u64.wrap (Go.bits .and .u8 (bt a0 (ji9)) 127)) (ji13))), wrap64 ((ji9) + 1), 0)))) else (if (Go.bits .or .u64 x9_2 (shl .u64 (IntKind.u64.wrap (Go.bits .and .u8 (bt a0 (ji9)) 127)) (ji13))) > (IntKind.u64.wrap (a2)) then (some (0, 0, 22)) else (some (wrap64 (Go.bits .or .u64 x9_2 (shl .u64 (IntKind.u64.wrap (Go.bits .and .u8 (bt a0 (ji9)) 127)) (ji13))), wrap64 ((ji9) + 1), 0))))) else (none)) = some (r1, r2, r3) := by first | (rw [hji13] at H; exact H) | (simp only [hji13] at H ⊢; exact H)
                    have hji13w : (IntKind.i64.wrap (7 * x20_2)) = ji13 := (i64_w _).trans hji13
                    by_cases c14 : 0 ≤ (ji13)
                    · rw [if_pos c14] at H
                      have c14b0 := eq_true c14
                      have c14b1 : decide (0 ≤ (ji13)) = true := decide_eq_true c14
                      clear c14
                      obtain ⟨ji15, hji15⟩ : ∃ j_ : Int, (shl .u64 (IntKind.u64.wrap (Go.bits .and .u8 (bt a0 (ji9)) 127)) (ji13)) = j_ := ⟨_, rfl⟩
                      replace H : (if ((bt a0 (ji9)) / 128) = 1 then (pack_take.l0 k2 a0 a1 a2 (Go.bits .or .u64 x9_2 (ji15)) (wrap64 (x20_2 + 1))) else (if (bt a0 (ji9)) = 0 then (if x20_2 > 0 then (some (0, 0, 22)) else (if (Go.bits .or .u64 x9_2 (ji15)) > (IntKind.u64.wrap (a2)) then (some (0, 0, 22)) else (some (wrap64 (Go.bits .or .u64 x9_2 (ji15)), wrap64 ((ji9) + 1), 0)))) else (if (Go.bits .or .u64 x9_2 (ji15)) > (IntKind.u64.wrap (a2)) then (some (0, 0, 22)) else (some (wrap64 (Go.bits .or .u64 x9_2 (ji15)), wrap64 ((ji9) + 1), 0))))) = some (r1, r2, r3) := by first | (rw [hji15] at H; exact H) | (simp only [hji15] at H ⊢; exact H)
                      have hji15_ : (IntKind.u64.wrap ((IntKind.u64.wrap (Go.bits .and .u8 (bt a0 (ji9)) 127)) * 2 ^ min (ji13).toNat 64)) = ji15 := hji15
                      have hji15z : (ji13) ≤ 64 → (IntKind.u64.wrap ((IntKind.u64.wrap (Go.bits .and .u8 (bt a0 (ji9)) 127)) * 2 ^ (ji13).toNat)) = ji15 := shl_small hji15
                      by_cases c16 : ((bt a0 (ji9)) / 128) = 1
                      · rw [if_pos c16] at H
                        have c16b0 : (((bt a0 (ji9)) / 128) == 1) = true := beq_iff_eq.mpr c16
                        have c16b1 : (((bt a0 (ji9)) / 128) != 1) = false := bne_eq_false_iff_eq.mpr c16
                        clear c16
                        have H' := Aside0.mk H
                        clear H
                        have p12 : 0 ≤ ((ji9) : Int) := of_decide_eq_true (by first | (with_reducible assumption) | assumption)
                        have q12 : (ji9) < (a0.size : Int) := of_decide_eq_true (by first | (with_reducible assumption) | assumption)
                        have hx12 := bt_at a0 (ji9)
                        replace p12 := eq_true p12
                        replace q12 := eq_true q12
                        go_wp2
                        go_roundg k2
                        case measure => have := HJ3.out; have := HK2.out; omega
                        case rel => exact ⟨(Go.bits .or .u64 x9_2 (ji15)), (wrap64 (x20_2 + 1)), (by first | rfl | (simp; done) | (simp only [← hji15] <;> (first | rfl | simp)) | (simp [*]; done)), (by first | rfl | (simp; done) | (simp [*]; done) | (simp; (generalize ByteArray.toList _ = l_); cases l_ <;> rfl)), H', ⟨by have := HJ3.out; have := HK2.out; omega⟩, by repeat (first | exact Drawn0.refl _ | apply Drawn0.step)⟩
                      · rw [if_neg c16] at H
                        have c16b0 : (((bt a0 (ji9)) / 128) == 1) = false := beq_eq_false_iff_ne.mpr c16
                        have c16b1 : (((bt a0 (ji9)) / 128) != 1) = true := bne_iff_ne.mpr c16
                        by_cases c17 : (bt a0 (ji9)) = 0
                        · rw [if_pos c17] at H
                          have c17b0 : ((bt a0 (ji9)) == 0) = true := beq_iff_eq.mpr c17
                          have c17b1 : ((bt a0 (ji9)) != 0) = false := bne_eq_false_iff_eq.mpr c17
                          clear c17
                          by_cases c18 : x20_2 > 0
                          · rw [if_pos c18] at H
                            have c18b0 : decide (0 < x20_2) = true := decide_eq_true c18
                            clear c18
                            simp only [Option.some.injEq, Prod.mk.injEq] at H
                            obtain ⟨rfl, rfl, rfl⟩ := H
                            have p12 : 0 ≤ ((ji9) : Int) := of_decide_eq_true (by first | (with_reducible assumption) | assumption)
                            have q12 : (ji9) < (a0.size : Int) := of_decide_eq_true (by first | (with_reducible assumption) | assumption)
                            have hx12 := bt_at a0 (ji9)
                            replace p12 := eq_true p12
                            replace q12 := eq_true q12
                            go_wp2
                            go_ret3
                            exact ⟨by first | rfl | (simp; done) | (simp only [← hji9, ← hji13, ← hji15] <;> (first | rfl | simp)) | (simp [*]; done), by repeat (first | exact Drawn0.refl _ | apply Drawn0.step)⟩
                          · rw [if_neg c18] at H
                            have c18b0 : decide (0 < x20_2) = false := decide_eq_false c18
                            clear c18
                            by_cases c19 : (Go.bits .or .u64 x9_2 (ji15)) > (IntKind.u64.wrap (a2))
                            · rw [if_pos c19] at H
                              have c19b0 : decide ((IntKind.u64.wrap (a2)) < (Go.bits .or .u64 x9_2 (ji15))) = true := decide_eq_true c19
                              clear c19
                              simp only [Option.some.injEq, Prod.mk.injEq] at H
                              obtain ⟨rfl, rfl, rfl⟩ := H
                              have p12 : 0 ≤ ((ji9) : Int) := of_decide_eq_true (by first | (with_reducible assumption) | assumption)
                              have q12 : (ji9) < (a0.size : Int) := of_decide_eq_true (by first | (with_reducible assumption) | assumption)
                              have hx12 := bt_at a0 (ji9)
                              replace p12 := eq_true p12
                              replace q12 := eq_true q12
                              go_wp2
                              go_ret3
                              exact ⟨by first | rfl | (simp; done) | (simp only [← hji9, ← hji13, ← hji15] <;> (first | rfl | simp)) | (simp [*]; done), by repeat (first | exact Drawn0.refl _ | apply Drawn0.step)⟩
                            · rw [if_neg c19] at H
                              have c19b0 : decide ((IntKind.u64.wrap (a2)) < (Go.bits .or .u64 x9_2 (ji15))) = false := decide_eq_false c19
                              clear c19
                              simp only [Option.some.injEq, Prod.mk.injEq] at H
                              obtain ⟨rfl, rfl, rfl⟩ := H
                              have p12 : 0 ≤ ((ji9) : Int) := of_decide_eq_true (by first | (with_reducible assumption) | assumption)
                              have q12 : (ji9) < (a0.size : Int) := of_decide_eq_true (by first | (with_reducible assumption) | assumption)
                              have hx12 := bt_at a0 (ji9)
                              replace p12 := eq_true p12
                              replace q12 := eq_true q12
                              go_wp2
                              go_ret3
                              exact ⟨by first | rfl | (simp; done) | (simp only [← hji9, ← hji13, ← hji15] <;> (first | rfl | simp)) | (simp [*]; done), by repeat (first | exact Drawn0.refl _ | apply Drawn0.step)⟩
                        · rw [if_neg c17] at H
                          have c17b0 : ((bt a0 (ji9)) == 0) = false := beq_eq_false_iff_ne.mpr c17
                          have c17b1 : ((bt a0 (ji9)) != 0) = true := bne_iff_ne.mpr c17
                          by_cases c20 : (Go.bits .or .u64 x9_2 (ji15)) > (IntKind.u64.wrap (a2))
                          · rw [if_pos c20] at H
                            have c20b0 : decide ((IntKind.u64.wrap (a2)) < (Go.bits .or .u64 x9_2 (ji15))) = true := decide_eq_true c20
                            clear c20
                            simp only [Option.some.injEq, Prod.mk.injEq] at H
                            obtain ⟨rfl, rfl, rfl⟩ := H
                            have p12 : 0 ≤ ((ji9) : Int) := of_decide_eq_true (by first | (with_reducible assumption) | assumption)
                            have q12 : (ji9) < (a0.size : Int) := of_decide_eq_true (by first | (with_reducible assumption) | assumption)
                            have hx12 := bt_at a0 (ji9)
                            replace p12 := eq_true p12
                            replace q12 := eq_true q12
                            go_wp2
                            go_ret3
                            exact ⟨by first | rfl | (simp; done) | (simp only [← hji9, ← hji13, ← hji15] <;> (first | rfl | simp)) | (simp [*]; done), by repeat (first | exact Drawn0.refl _ | apply Drawn0.step)⟩
                          · rw [if_neg c20] at H
                            have c20b0 : decide ((IntKind.u64.wrap (a2)) < (Go.bits .or .u64 x9_2 (ji15))) = false := decide_eq_false c20
                            clear c20
                            simp only [Option.some.injEq, Prod.mk.injEq] at H
                            obtain ⟨rfl, rfl, rfl⟩ := H
                            have p12 : 0 ≤ ((ji9) : Int) := of_decide_eq_true (by first | (with_reducible assumption) | assumption)
                            have q12 : (ji9) < (a0.size : Int) := of_decide_eq_true (by first | (with_reducible assumption) | assumption)
                            have hx12 := bt_at a0 (ji9)
                            replace p12 := eq_true p12
                            replace q12 := eq_true q12
                            go_wp2
                            go_ret3
                            exact ⟨by first | rfl | (simp; done) | (simp only [← hji9, ← hji13, ← hji15] <;> (first | rfl | simp)) | (simp [*]; done), by repeat (first | exact Drawn0.refl _ | apply Drawn0.step)⟩
                    · rw [if_neg c14] at H
                      exact absurd H (by simp)
                  · rw [if_neg c11] at H
                    exact absurd H (by simp)
                · rw [if_neg c10] at H
                  exact absurd H (by simp)
            · rw [if_neg c7] at H
              have c7b0 : decide (x20_2 < 8) = false := decide_eq_false c7
              clear c7
              simp only [Option.some.injEq, Prod.mk.injEq] at H
              obtain ⟨rfl, rfl, rfl⟩ := H
              go_wp2
              go_ret3
              exact ⟨by first | rfl | (simp; done) | (simp [*]; done), by repeat (first | exact Drawn0.refl _ | apply Drawn0.step)⟩

/-! ### pack_TakeNum: function 57 -/
def pack_TakeNum.f (k : Nat) (a0 : ByteArray) (a1 : Int) : Option (Int × Int × Int) := (pack_take.f k a0 a1 1125899906842624).bind fun bt217 => (some (bt217.1, bt217.2.1, bt217.2.2))
theorem pack_TakeNum.mono : ∀ a0 a1 k, LeO (pack_TakeNum.f k a0 a1) (pack_TakeNum.f (k + 1) a0 a1) := by
  intro a0 a1 k
  unfold pack_TakeNum.f
  repeat' first
      | (with_reducible exact pack_take.mono _ _ _ _)
      | (with_reducible exact LeO.refl _)
      | (with_reducible exact LeO.none _)
      | (with_reducible refine LeO.ite ?_ ?_)
      | (with_reducible refine LeO.bind ?_ (fun _ => ?_))
      | exact pack_take.mono _ _ _ _
      | exact LeO.none _
      | refine LeO.ite ?_ ?_
      | refine LeO.bind ?_ (fun _ => ?_)
set_option maxHeartbeats 8000000 in
set_option maxRecDepth 100000 in
theorem pack_TakeNum.calls (k : Nat) (a0 : ByteArray) (a1 : Int) (r1 : Int) (r2 : Int) (r3 : Int) (w : World) (h : pack_TakeNum.f k a0 a1 = some (r1, r2, r3)) :
    Calls Try.prog 57 #[.string a0, .int .i64 a1] w fun e w' => e = .returned (.tuple #[.int .i64 r1, .int .i64 r2, .int .i64 r3]) ∧ Drawn0 w w' := by
  have H : ((pack_take.f k a0 a1 1125899906842624).bind fun bt217 => (some (bt217.1, bt217.2.1, bt217.2.2))) = some (r1, r2, r3) := h
  clear h
  replace H := Option.bind_eq_some_iff.mp H
  obtain ⟨⟨t217, t218, t219⟩, A30, H⟩ := H
  replace H : (some (t217, t218, t219)) = some (r1, r2, r3) := H
  have A3 := Aside0.mk A30
  clear A30
  simp only [Option.some.injEq, Prod.mk.injEq] at H
  obtain ⟨rfl, rfl, rfl⟩ := H
  go_enter Try.func57, Try.ntmps57
  go_wp2_with (first | ((with_reducible refine gate_callee (f := 72) rfl ?_); refine goesL_ (some 9) rfl rfl Try.func72 (by kernel_rfl) rfl #[.string a0, .int .i64 a1, .int .i64 1125899906842624] rfl (by (try simp only [List.map_toArray, List.map_cons, List.map_nil]); first | done | rfl | (simp only [List.length_drop, List.length_take]; rfl)) ?_; (with_reducible refine (pack_take.calls k a0 a1 1125899906842624 t217 t218 t219 _ A3.out).mono ?_); rintro e w' ⟨rfl, ⟨nd, rfl⟩⟩; refine ⟨_, rfl, ?_⟩))
  go_ret3
  exact ⟨by first | rfl | (simp; done) | (simp [*]; done), by repeat (first | exact Drawn0.refl _ | apply Drawn0.step)⟩

/-! ### pack_TakeText: function 58 -/
def pack_TakeText.f (k : Nat) (a0 : ByteArray) (a1 : Int) : Option (ByteArray × Int × Int) := (pack_take.f k a0 a1 20000).bind fun bt220 => (if bt220.2.2 = 0 then (if bt220.1 > (wrap64 ((a0.size : Int) - bt220.2.1)) then (some ((⟨#[]⟩ : ByteArray), 0, 21)) else (if 0 ≤ bt220.2.1 then (if bt220.2.1 ≤ (wrap64 (bt220.2.1 + bt220.1)) then (if (wrap64 (bt220.2.1 + bt220.1)) ≤ (a0.size : Int) then (some (a0.extract (bt220.2.1 : Int).toNat ((wrap64 (bt220.2.1 + bt220.1)) : Int).toNat, wrap64 (bt220.2.1 + bt220.1), 0)) else (none)) else (none)) else (none))) else (some ((⟨#[]⟩ : ByteArray), 0, bt220.2.2)))
theorem pack_TakeText.mono : ∀ a0 a1 k, LeO (pack_TakeText.f k a0 a1) (pack_TakeText.f (k + 1) a0 a1) := by
  intro a0 a1 k
  unfold pack_TakeText.f
  repeat' first
      | (with_reducible exact pack_take.mono _ _ _ _)
      | (with_reducible exact LeO.refl _)
      | (with_reducible exact LeO.none _)
      | (with_reducible refine LeO.ite ?_ ?_)
      | (with_reducible refine LeO.bind ?_ (fun _ => ?_))
      | exact pack_take.mono _ _ _ _
      | exact LeO.none _
      | refine LeO.ite ?_ ?_
      | refine LeO.bind ?_ (fun _ => ?_)
set_option maxHeartbeats 8000000 in
set_option maxRecDepth 100000 in
theorem pack_TakeText.calls (k : Nat) (a0 : ByteArray) (a1 : Int) (r1 : ByteArray) (r2 : Int) (r3 : Int) (w : World) (h : pack_TakeText.f k a0 a1 = some (r1, r2, r3)) :
    Calls Try.prog 58 #[.string a0, .int .i64 a1] w fun e w' => e = .returned (.tuple #[.string r1, .int .i64 r2, .int .i64 r3]) ∧ Drawn0 w w' := by
  have H : ((pack_take.f k a0 a1 20000).bind fun bt220 => (if bt220.2.2 = 0 then (if bt220.1 > (wrap64 ((a0.size : Int) - bt220.2.1)) then (some ((⟨#[]⟩ : ByteArray), 0, 21)) else (if 0 ≤ bt220.2.1 then (if bt220.2.1 ≤ (wrap64 (bt220.2.1 + bt220.1)) then (if (wrap64 (bt220.2.1 + bt220.1)) ≤ (a0.size : Int) then (some (a0.extract (bt220.2.1 : Int).toNat ((wrap64 (bt220.2.1 + bt220.1)) : Int).toNat, wrap64 (bt220.2.1 + bt220.1), 0)) else (none)) else (none)) else (none))) else (some ((⟨#[]⟩ : ByteArray), 0, bt220.2.2)))) = some (r1, r2, r3) := h
  clear h
  replace H := Option.bind_eq_some_iff.mp H
  obtain ⟨⟨t220, t221, t222⟩, A30, H⟩ := H
  replace H : (if t222 = 0 then (if t220 > (wrap64 ((a0.size : Int) - t221)) then (some ((⟨#[]⟩ : ByteArray), 0, 21)) else (if 0 ≤ t221 then (if t221 ≤ (wrap64 (t221 + t220)) then (if (wrap64 (t221 + t220)) ≤ (a0.size : Int) then (some (a0.extract (t221 : Int).toNat ((wrap64 (t221 + t220)) : Int).toNat, wrap64 (t221 + t220), 0)) else (none)) else (none)) else (none))) else (some ((⟨#[]⟩ : ByteArray), 0, t222))) = some (r1, r2, r3) := H
  have A3 := Aside0.mk A30
  clear A30
  by_cases c4 : t222 = 0
  · rw [if_pos c4] at H
    have c4b0 : (t222 == 0) = true := beq_iff_eq.mpr c4
    have c4b1 : (t222 != 0) = false := bne_eq_false_iff_eq.mpr c4
    clear c4
    by_cases c5 : t220 > (wrap64 ((a0.size : Int) - t221))
    · rw [if_pos c5] at H
      have c5b0 : decide ((wrap64 ((a0.size : Int) - t221)) < t220) = true := decide_eq_true c5
      clear c5
      simp only [Option.some.injEq, Prod.mk.injEq] at H
      obtain ⟨rfl, rfl, rfl⟩ := H
      go_enter Try.func58, Try.ntmps58
      go_wp2_with (first | ((with_reducible refine gate_callee (f := 72) rfl ?_); refine goesL_ (some 13) rfl rfl Try.func72 (by kernel_rfl) rfl #[.string a0, .int .i64 a1, .int .i64 20000] rfl (by (try simp only [List.map_toArray, List.map_cons, List.map_nil]); first | done | rfl | (simp only [List.length_drop, List.length_take]; rfl)) ?_; (with_reducible refine (pack_take.calls k a0 a1 20000 t220 t221 t222 _ A3.out).mono ?_); rintro e w' ⟨rfl, ⟨nd, rfl⟩⟩; refine ⟨_, rfl, ?_⟩))
      go_ret3
      exact ⟨by first | rfl | (simp; done) | (simp [*]; done), by repeat (first | exact Drawn0.refl _ | apply Drawn0.step)⟩
    · rw [if_neg c5] at H
      have c5b0 : decide ((wrap64 ((a0.size : Int) - t221)) < t220) = false := decide_eq_false c5
      clear c5
      by_cases c6 : 0 ≤ t221
      · rw [if_pos c6] at H
        have c6b0 := eq_true c6
        have c6b1 : decide (0 ≤ t221) = true := decide_eq_true c6
        clear c6
        by_cases c7 : t221 ≤ (wrap64 (t221 + t220))
        · rw [if_pos c7] at H
          have c7b0 := eq_true c7
          have c7b1 : decide (t221 ≤ (wrap64 (t221 + t220))) = true := decide_eq_true c7
          by_cases c8 : (wrap64 (t221 + t220)) ≤ (a0.size : Int)
          · rw [if_pos c8] at H
            have c8b0 := eq_true c8
            have c8b1 : decide ((wrap64 (t221 + t220)) ≤ (a0.size : Int)) = true := decide_eq_true c8
            simp only [Option.some.injEq, Prod.mk.injEq] at H
            obtain ⟨rfl, rfl, rfl⟩ := H
            go_enter Try.func58, Try.ntmps58
            go_wp2_with (first | ((with_reducible refine gate_callee (f := 72) rfl ?_); refine goesL_ (some 13) rfl rfl Try.func72 (by kernel_rfl) rfl #[.string a0, .int .i64 a1, .int .i64 20000] rfl (by (try simp only [List.map_toArray, List.map_cons, List.map_nil]); first | done | rfl | (simp only [List.length_drop, List.length_take]; rfl)) ?_; (with_reducible refine (pack_take.calls k a0 a1 20000 t220 t221 t222 _ A3.out).mono ?_); rintro e w' ⟨rfl, ⟨nd, rfl⟩⟩; refine ⟨_, rfl, ?_⟩))
            go_ret3
            exact ⟨by first | rfl | (simp; done) | (simp [*]; done), by repeat (first | exact Drawn0.refl _ | apply Drawn0.step)⟩
          · rw [if_neg c8] at H
            exact absurd H (by simp)
        · rw [if_neg c7] at H
          exact absurd H (by simp)
      · rw [if_neg c6] at H
        exact absurd H (by simp)
  · rw [if_neg c4] at H
    have c4b0 : (t222 == 0) = false := beq_eq_false_iff_ne.mpr c4
    have c4b1 : (t222 != 0) = true := bne_iff_ne.mpr c4
    simp only [Option.some.injEq, Prod.mk.injEq] at H
    obtain ⟨rfl, rfl, rfl⟩ := H
    go_enter Try.func58, Try.ntmps58
    go_wp2_with (first | ((with_reducible refine gate_callee (f := 72) rfl ?_); refine goesL_ (some 13) rfl rfl Try.func72 (by kernel_rfl) rfl #[.string a0, .int .i64 a1, .int .i64 20000] rfl (by (try simp only [List.map_toArray, List.map_cons, List.map_nil]); first | done | rfl | (simp only [List.length_drop, List.length_take]; rfl)) ?_; (with_reducible refine (pack_take.calls k a0 a1 20000 t220 t221 t222 _ A3.out).mono ?_); rintro e w' ⟨rfl, ⟨nd, rfl⟩⟩; refine ⟨_, rfl, ?_⟩))
    go_ret3
    exact ⟨by first | rfl | (simp; done) | (simp [*]; done), by repeat (first | exact Drawn0.refl _ | apply Drawn0.step)⟩

-- NOT PRINTED: function 59 (api_Op)

/-! ### delta_Decode: function 36 -/
theorem delta_Decode.info : (Try.prog.info? 36).map (fun i => (i.zero, i.size, i.bytes)) = some (some (.agg #[(.int .i64 0), (.int .i64 0), (.string ⟨#[]⟩)]), 3, 32) := by kernel_rfl
theorem slices_Clip.calls (A : Option Addr) (n c : Nat) (w : World) (hc : n ≤ c) (hm : n ≤ 9223372036854775807) : Calls Try.prog 59 #[.slice A n c] w fun e w' => e = .returned (.slice A n n) ∧ w = w' := by
  have h1 : (0 : Int) ≤ (n : Int) := by omega
  have h2 : (n : Int) ≤ (c : Int) := by omega
  go_enter Try.func59, Try.ntmps59
  go_wp2
  go_ret
  exact ⟨rfl, rfl⟩
/-- What stands behind an operation's kind, read. -/
def delta_Decode.part (k : Nat) (s : ByteArray) (kind at_ : Int) : Option (S36 × Int × Int) := if kind = 2 then (pack_TakeText.f k s at_).bind fun b => some (⟨kind, 0, b.1⟩, b.2.1, b.2.2) else (pack_TakeNum.f k s at_).bind fun b => some (⟨kind, b.1, ⟨#[]⟩⟩, b.2.1, b.2.2)
def delta_Decode.l0 : Nat → ByteArray → Int → List S36 → Int → Int → Option (List S36 × Int)
  | 0, _, _, _, _, _ => none
  | k + 1, s, n, d, at_, i => if (d.length + 1) * 32 ≤ 140737488355328 then (if i < n then ((pack_TakeNum.f k s at_).bind fun a => if a.2.2 = 0 then ((delta_Decode.part k s a.1 a.2.1).bind fun b => if b.2.2 = 0 then delta_Decode.l0 k s n (d ++ [b.1]) b.2.1 (wrap64 (i + 1)) else some ([], 90)) else some ([], 90)) else (if at_ = (s.size : Int) then ((delta_Check.f k d).bind fun e => if e = 0 then some (d, 0) else some ([], 90)) else some ([], 90))) else none
def delta_Decode.f (k : Nat) (a0 : ByteArray) : Option (List S36 × Int) := (pack_TakeNum.f k a0 0).bind fun a => if a.2.2 = 0 then (if a.1 > 3000 then some ([], 90) else delta_Decode.l0 k a0 a.1 [] a.2.1 0) else some ([], 90)
theorem delta_Decode.part_mono (s : ByteArray) (x y : Int) (k : Nat) : LeO (delta_Decode.part k s x y) (delta_Decode.part (k + 1) s x y) := by
  unfold delta_Decode.part
  exact LeO.ite (LeO.bind (pack_TakeText.mono _ _ _) (fun _ => LeO.refl _)) (LeO.bind (pack_TakeNum.mono _ _ _) (fun _ => LeO.refl _))
theorem delta_Decode.mono_l : ∀ k, (∀ y0 y1 y2 y3 y4, LeO (delta_Decode.l0 k y0 y1 y2 y3 y4) (delta_Decode.l0 (k + 1) y0 y1 y2 y3 y4))
  | 0 => fun _ _ _ _ _ r h => by simp [delta_Decode.l0] at h
  | k + 1 => by
    have ih := delta_Decode.mono_l k
    intro y0 y1 y2 y3 y4
    unfold delta_Decode.l0
    exact LeO.ite (LeO.ite (LeO.bind (pack_TakeNum.mono _ _ _) (fun _ => LeO.ite (LeO.bind (delta_Decode.part_mono _ _ _ _) (fun _ => LeO.ite (ih _ _ _ _ _) (LeO.refl _))) (LeO.refl _))) (LeO.ite (LeO.bind (delta_Check.mono _ _) (fun _ => LeO.refl _)) (LeO.refl _))) (LeO.refl _)
theorem delta_Decode.mono : ∀ a0 k, LeO (delta_Decode.f k a0) (delta_Decode.f (k + 1) a0) := by
  intro a0 k
  unfold delta_Decode.f
  exact LeO.bind (pack_TakeNum.mono _ _ _) (fun _ => LeO.ite (LeO.ite (LeO.refl _) (delta_Decode.mono_l k _ _ _ _ _)) (LeO.refl _))
/-- A new operation lies in a block of its own. -/
theorem delta_Decode.boxed {w0 wr w7 : World} {gb : Nat} {v : Value} {d : List S36} (HB : Below w0.heap.size w0 wr) (HO : Kd.R k36 36 wr w0.heap.size (fun _ => True) v d) (hg : gb = wr.heap.size)
    (hbox : w7.heap[gb]? = some (.cells #[.int .i64 0, .int .i64 0, .string ⟨#[]⟩] 36 (0, 0))) (hb : Below wr.heap.size wr w7) :
    w0.heap.size ≤ gb ∧ Below w0.heap.size w0 (((w7.setCell ⟨gb, 0, none⟩ (.int .i64 0)).setCell ⟨gb, 1, none⟩ (.int .i64 0)).setCell ⟨gb, 2, none⟩ (.string ⟨#[]⟩)) ∧ Kd.R k36 36 (((w7.setCell ⟨gb, 0, none⟩ (.int .i64 0)).setCell ⟨gb, 1, none⟩ (.int .i64 0)).setCell ⟨gb, 2, none⟩ (.string ⟨#[]⟩)) w0.heap.size (fun k_ => k_ ≠ gb) v d ∧ (((w7.setCell ⟨gb, 0, none⟩ (.int .i64 0)).setCell ⟨gb, 1, none⟩ (.int .i64 0)).setCell ⟨gb, 2, none⟩ (.string ⟨#[]⟩)).heap[gb]? = some (.cells #[.int .i64 0, .int .i64 0, .string ⟨#[]⟩] 36 (0, 0)) := by
  have GE : w0.heap.size ≤ gb := by rw [hg]; exact HB.size
  have hr := Kd.R_below (Kd.R_bound HO) hb
  refine ⟨GE, below_set (below_set (below_set (below_step HB hb) GE) GE) GE, ?_, blk_put (blk_put (blk_put hbox 0 (.int .i64 0) rfl) 1 (.int .i64 0) rfl) 2 (.string ⟨#[]⟩) rfl⟩
  exact Kd.R_mono (Kd.R_far (Kd.R_far (Kd.R_far hr (fun k hk => by show k ≠ gb; omega) _) (fun k hk => by show k ≠ gb; omega) _) (fun k hk => by show k ≠ gb; omega) _) (fun k hk => by omega)
set_option maxHeartbeats 16000000 in
set_option maxRecDepth 100000 in
theorem delta_Decode.calls (k : Nat) (a0 : ByteArray) (r1 : List S36) (r2 : Int) (w : World) (h : delta_Decode.f k a0 = some (r1, r2)) :
    Calls Try.prog 36 #[.string a0] w fun e w' => ∃ A c, e = .returned (.tuple #[.slice A r1.length r1.length, .int .i64 r2]) ∧ Kd.R k36 36 w' w.heap.size (fun _ => True) (.slice A r1.length c) r1 ∧ Below w.heap.size w w' := by
  have hu36 := Try.underlying36
  unfold delta_Decode.f at h
  have h_ := Option.bind_eq_some_iff.mp h
  clear h
  obtain ⟨⟨n, at0, e0⟩, h1, h⟩ := h_
  simp only at h
  have A1 := Aside0.mk h1
  clear h1
  have HB0 := Aside0.mk (Below.refl w.heap.size w)
  by_cases d0 : e0 = 0
  · rw [if_pos d0] at h
    subst d0
    by_cases d1 : n > 3000
    · rw [if_pos d1] at h
      have h_ := Prod.mk.inj (Option.some.inj h)
      clear h
      obtain ⟨rfl, rfl⟩ := h_
      have d1b : decide (3000 < n) = true := decide_eq_true d1
      clear d1
      go_enter Try.func36, Try.ntmps36
      go_wp2_with (first | ((with_reducible refine gate_callee (f := 57) rfl ?_); refine goesL_ (some 11) rfl rfl Try.func57 (by kernel_rfl) rfl #[.string a0, .int .i64 0] rfl (by (try simp only [List.map_toArray, List.map_cons, List.map_nil]); first | done | rfl) ?_; (with_reducible refine (pack_TakeNum.calls k a0 0 _ _ _ _ A1.out).mono ?_); rintro e w1 ⟨rfl, hb⟩; refine ⟨_, rfl, ?_⟩; have HB1 := Aside0.mk (below_step HB0.out hb.below); clear hb))
      go_ret2
      exact ⟨none, 0, rfl, Kd.R_nil _ _ _ _ _, HB1.out⟩
    · rw [if_neg d1] at h
      have d1b : decide (3000 < n) = false := decide_eq_false d1
      have H0 := Aside0.mk h
      clear d1 h
      go_enter Try.func36, Try.ntmps36
      go_wp2_with (first | ((with_reducible refine gate_callee (f := 57) rfl ?_); refine goesL_ (some 11) rfl rfl Try.func57 (by kernel_rfl) rfl #[.string a0, .int .i64 0] rfl (by (try simp only [List.map_toArray, List.map_cons, List.map_nil]); first | done | rfl) ?_; (with_reducible refine (pack_TakeNum.calls k a0 0 _ _ _ _ A1.out).mono ?_); rintro e w1 ⟨rfl, hb⟩; refine ⟨_, rfl, ?_⟩; have HB1 := Aside0.mk (below_step HB0.out hb.below); clear hb))
      go_loopg [5, 7, 22] k (fun kq v5 v7 v22 w' => ∃ (d : List S36) (at_ i : Int), v5 = .int .i64 at_ ∧ v22 = .int .i64 i ∧ Aside0 (delta_Decode.l0 kq a0 n d at_ i = some (r1, r2)) ∧ Aside0 (kq ≤ k) ∧ Aside0 (Kd.R k36 36 w' w.heap.size (fun _ => True) v7 d) ∧ Aside0 (Below w.heap.size w w'))
      case atStart => exact ⟨[], at0, 0, rfl, rfl, H0, ⟨Nat.le_refl _⟩, ⟨Kd.R_nil _ _ _ _ _⟩, HB1⟩
      case round =>
        clear H0 HB0 HB1 A1 d1b
        obtain ⟨d, at_, i, rfl, rfl, HA, HK, HO, HB⟩ := hrel
        obtain ⟨A, c, rfl⟩ := Kd.R_slice HO.out
        cases gk with
        | zero => exact absurd HA.out (by simp [delta_Decode.l0])
        | succ k1 =>
          have H := HA.out
          clear HA
          simp only [delta_Decode.l0] at H
          by_cases c3 : (d.length + 1) * 32 ≤ 140737488355328
          case neg => rw [if_neg c3] at H; cases H
          rw [if_pos c3] at H
          have LD := Aside0.mk c3
          clear c3
          by_cases c4 : i < n
          · rw [if_pos c4] at H
            have c4b : decide (i < n) = true := decide_eq_true c4
            clear c4
            have H_ := Option.bind_eq_some_iff.mp H
            clear H
            obtain ⟨⟨t1, at1, e1⟩, h4, H⟩ := H_
            simp only at H
            have A4 := Aside0.mk h4
            clear h4
            by_cases c5 : e1 = 0
            · rw [if_pos c5] at H
              subst c5
              have H_ := Option.bind_eq_some_iff.mp H
              clear H
              obtain ⟨⟨x, at2, e2⟩, h5, H⟩ := H_
              simp only at H
              unfold delta_Decode.part at h5
              by_cases c6 : t1 = 2
              · rw [if_pos c6] at h5
                have c6b : (t1 == 2) = true := beq_iff_eq.mpr c6
                have h_ := Option.bind_eq_some_iff.mp h5
                clear h5 c6
                obtain ⟨⟨t2, at2', e2'⟩, h5, h6⟩ := h_
                have A5 := Aside0.mk h5
                have h_ := Prod.mk.inj (Option.some.inj h6)
                clear h5 h6
                obtain ⟨rfl, h_⟩ := h_
                obtain ⟨rfl, rfl⟩ := Prod.mk.inj h_
                clear h_
                simp only at H A5
                by_cases c7 : e2' = 0
                · rw [if_pos c7] at H
                  subst c7
                  have H' := Aside0.mk H
                  clear H
                  go_wp2_with (first | ((with_reducible refine gate_dst (N := 8) rfl ?_); refine box_event ?hg (N := 8) ?hd (cs := #[.int .i64 0, .int .i64 0, .string (⟨#[]⟩ : ByteArray)]) (t := 36) ?hr ?_; (case hd => rfl); (case hg => rfl); (case hr => first | (go_simp; done) | (go_simp; rfl)); intro gb hg w7 hbox hb; obtain ⟨hGx, hBx, hOx, hXx⟩ := delta_Decode.boxed HB.out HO.out hg hbox hb; have HBx := Aside0.mk hBx; have HOx := Aside0.mk hOx; have HXx := Aside0.mk hXx; have GX := Aside0.mk hGx; have BK := Aside0.mk hbox; clear hb hbox hg hBx hOx hXx hGx; have hz0 : w7.cell? ⟨gb, 0, none⟩ = some (.int .i64 0) := (blk_cell BK.out 0).trans rfl; have hz1 : w7.cell? ⟨gb, 1, none⟩ = some (.int .i64 0) := (blk_cell BK.out 1).trans rfl; have hz2 : w7.cell? ⟨gb, 2, none⟩ = some (.string (⟨#[]⟩ : ByteArray)) := (blk_cell BK.out 2).trans rfl; have hf0 := blk_frozen BK.out 0; have hf1 := blk_frozen BK.out 1; have hf2 := blk_frozen BK.out 2) | ((with_reducible refine gate_callee (f := 57) rfl ?_); refine goesL_ (some 28) rfl rfl Try.func57 (by kernel_rfl) rfl #[.string a0, .int .i64 at_] rfl (by (try simp only [List.map_toArray, List.map_cons, List.map_nil]); first | done | rfl) ?_; (with_reducible refine (pack_TakeNum.calls k1 a0 at_ t1 at1 _ _ A4.out).mono ?_); rintro e w9 ⟨rfl, hb⟩; refine ⟨_, rfl, ?_⟩; have HB9 := Aside0.mk (below_step HBx.out hb.below); have HO9 := Aside0.mk (Kd.R_below HOx.out hb.below); have HX9 := Aside0.mk (blk_below HXx.out hb.below); clear hb; have y9_0 := (blk_cell HX9.out 0).trans rfl; have y9_1 := (blk_cell HX9.out 1).trans rfl; have y9_2 := (blk_cell HX9.out 2).trans rfl; have f9_0 := blk_frozen HX9.out 0; have f9_1 := blk_frozen HX9.out 1; have f9_2 := blk_frozen HX9.out 2) | ((with_reducible refine gate_callee (f := 58) rfl ?_); refine goesL_ (some 41) rfl rfl Try.func58 (by kernel_rfl) rfl #[.string a0, .int .i64 at1] rfl (by (try simp only [List.map_toArray, List.map_cons, List.map_nil]); first | done | rfl) ?_; (with_reducible refine (pack_TakeText.calls k1 a0 at1 t2 at2' _ _ A5.out).mono ?_); rintro e w11 ⟨rfl, hb⟩; refine ⟨_, rfl, ?_⟩; have HB11 := Aside0.mk (below_step (below_set HB9.out GX.out (j := 0) (v := .int .i64 t1)) hb.below); have HO11 := Aside0.mk (Kd.R_below (Kd.R_far HO9.out (p := ⟨gb, 0, none⟩) (fun k hk => hk) (.int .i64 t1)) hb.below); have HX11 := Aside0.mk (blk_below (blk_put (cs' := #[.int .i64 t1, .int .i64 0, .string ⟨#[]⟩]) HX9.out 0 (.int .i64 t1) rfl) hb.below); clear hb; have y11_0 := (blk_cell HX11.out 0).trans rfl; have y11_1 := (blk_cell HX11.out 1).trans rfl; have y11_2 := (blk_cell HX11.out 2).trans rfl; have f11_0 := blk_frozen HX11.out 0; have f11_1 := blk_frozen HX11.out 1; have f11_2 := blk_frozen HX11.out 2) | ((with_reducible refine gate_builtin (b := .append) (xs := #[.tmp 56, .tmp 58]) rfl ?_); at_builtin; refine Kd.R_append k36 (w0 := w) (W := (w11.setCell ⟨gb, 2, none⟩ (.string t2))) w.heap.size rfl (.tmp 56) (.tmp 58) 22 36 (.agg #[(.int .i64 0), (.int .i64 0), (.string ⟨#[]⟩)]) 32 rfl Try.underlying22 delta_Decode.info rfl (by decide) (by decide) (.slice A d.length c) d (⟨t1, 0, t2⟩ : S36) [.int .i64 t1, .int .i64 0, .string t2] (fun k_ => k_ ≠ gb) (fun _ => False) rfl (by first | (go_simp; done) | (go_simp; rfl)) (k36_mkM _ _ _ (⟨t1, 0, t2⟩ : S36)) (fun _ hk => hk.elim) (fun k_ hk => Kd.freshB (g := gb) (blk_put HX11.out 2 (.string t2) rfl) k_ hk) (Kd.R_far HO11.out (p := ⟨gb, 2, none⟩) (fun k hk => hk) (.string t2)) (below_set HB11.out GX.out) (below_set HB11.out GX.out).size LD.out ?_; intro v14 w14 ho hb hg hat; have HO14 := Aside0.mk (Kd.R_mono ho (fun _ _ => trivial)); have HB14 := Aside0.mk hb; clear ho hb hg hat))
                  go_roundg k1
                  case measure => have := HK.out; omega
                  case rel => exact ⟨_, _, wrap64 (i + 1), rfl, rfl, H', ⟨by have := HK.out; omega⟩, HO14, HB14⟩
                · rw [if_neg c7] at H
                  have H_ := Prod.mk.inj (Option.some.inj H)
                  clear H
                  obtain ⟨rfl, rfl⟩ := H_
                  have c7b : (e2' != 0) = true := by rw [bne_iff_ne]; exact c7
                  clear c7
                  go_wp2_with (first | ((with_reducible refine gate_dst (N := 8) rfl ?_); refine box_event ?hg (N := 8) ?hd (cs := #[.int .i64 0, .int .i64 0, .string (⟨#[]⟩ : ByteArray)]) (t := 36) ?hr ?_; (case hd => rfl); (case hg => rfl); (case hr => first | (go_simp; done) | (go_simp; rfl)); intro gb hg w7 hbox hb; obtain ⟨hGx, hBx, hOx, hXx⟩ := delta_Decode.boxed HB.out HO.out hg hbox hb; have HBx := Aside0.mk hBx; have HOx := Aside0.mk hOx; have HXx := Aside0.mk hXx; have GX := Aside0.mk hGx; have BK := Aside0.mk hbox; clear hb hbox hg hBx hOx hXx hGx; have hz0 : w7.cell? ⟨gb, 0, none⟩ = some (.int .i64 0) := (blk_cell BK.out 0).trans rfl; have hz1 : w7.cell? ⟨gb, 1, none⟩ = some (.int .i64 0) := (blk_cell BK.out 1).trans rfl; have hz2 : w7.cell? ⟨gb, 2, none⟩ = some (.string (⟨#[]⟩ : ByteArray)) := (blk_cell BK.out 2).trans rfl; have hf0 := blk_frozen BK.out 0; have hf1 := blk_frozen BK.out 1; have hf2 := blk_frozen BK.out 2) | ((with_reducible refine gate_callee (f := 57) rfl ?_); refine goesL_ (some 28) rfl rfl Try.func57 (by kernel_rfl) rfl #[.string a0, .int .i64 at_] rfl (by (try simp only [List.map_toArray, List.map_cons, List.map_nil]); first | done | rfl) ?_; (with_reducible refine (pack_TakeNum.calls k1 a0 at_ t1 at1 _ _ A4.out).mono ?_); rintro e w9 ⟨rfl, hb⟩; refine ⟨_, rfl, ?_⟩; have HB9 := Aside0.mk (below_step HBx.out hb.below); have HO9 := Aside0.mk (Kd.R_below HOx.out hb.below); have HX9 := Aside0.mk (blk_below HXx.out hb.below); clear hb; have y9_0 := (blk_cell HX9.out 0).trans rfl; have y9_1 := (blk_cell HX9.out 1).trans rfl; have y9_2 := (blk_cell HX9.out 2).trans rfl; have f9_0 := blk_frozen HX9.out 0; have f9_1 := blk_frozen HX9.out 1; have f9_2 := blk_frozen HX9.out 2) | ((with_reducible refine gate_callee (f := 58) rfl ?_); refine goesL_ (some 41) rfl rfl Try.func58 (by kernel_rfl) rfl #[.string a0, .int .i64 at1] rfl (by (try simp only [List.map_toArray, List.map_cons, List.map_nil]); first | done | rfl) ?_; (with_reducible refine (pack_TakeText.calls k1 a0 at1 t2 at2' _ _ A5.out).mono ?_); rintro e w11 ⟨rfl, hb⟩; refine ⟨_, rfl, ?_⟩; have HB11 := Aside0.mk (below_step (below_set HB9.out GX.out (j := 0) (v := .int .i64 t1)) hb.below); have HO11 := Aside0.mk (Kd.R_below (Kd.R_far HO9.out (p := ⟨gb, 0, none⟩) (fun k hk => hk) (.int .i64 t1)) hb.below); have HX11 := Aside0.mk (blk_below (blk_put (cs' := #[.int .i64 t1, .int .i64 0, .string ⟨#[]⟩]) HX9.out 0 (.int .i64 t1) rfl) hb.below); clear hb; have y11_0 := (blk_cell HX11.out 0).trans rfl; have y11_1 := (blk_cell HX11.out 1).trans rfl; have y11_2 := (blk_cell HX11.out 2).trans rfl; have f11_0 := blk_frozen HX11.out 0; have f11_1 := blk_frozen HX11.out 1; have f11_2 := blk_frozen HX11.out 2))
                  go_ret2
                  exact ⟨none, 0, rfl, Kd.R_nil _ _ _ _ _, below_set HB11.out GX.out⟩
              · rw [if_neg c6] at h5
                have c6b : (t1 == 2) = false := beq_eq_false_iff_ne.mpr c6
                have h_ := Option.bind_eq_some_iff.mp h5
                clear h5 c6
                obtain ⟨⟨t2, at2', e2'⟩, h5, h6⟩ := h_
                have A5 := Aside0.mk h5
                have h_ := Prod.mk.inj (Option.some.inj h6)
                clear h5 h6
                obtain ⟨rfl, h_⟩ := h_
                obtain ⟨rfl, rfl⟩ := Prod.mk.inj h_
                clear h_
                simp only at H A5
                by_cases c7 : e2' = 0
                · rw [if_pos c7] at H
                  subst c7
                  have H' := Aside0.mk H
                  clear H
                  go_wp2_with (first | ((with_reducible refine gate_dst (N := 8) rfl ?_); refine box_event ?hg (N := 8) ?hd (cs := #[.int .i64 0, .int .i64 0, .string (⟨#[]⟩ : ByteArray)]) (t := 36) ?hr ?_; (case hd => rfl); (case hg => rfl); (case hr => first | (go_simp; done) | (go_simp; rfl)); intro gb hg w7 hbox hb; obtain ⟨hGx, hBx, hOx, hXx⟩ := delta_Decode.boxed HB.out HO.out hg hbox hb; have HBx := Aside0.mk hBx; have HOx := Aside0.mk hOx; have HXx := Aside0.mk hXx; have GX := Aside0.mk hGx; have BK := Aside0.mk hbox; clear hb hbox hg hBx hOx hXx hGx; have hz0 : w7.cell? ⟨gb, 0, none⟩ = some (.int .i64 0) := (blk_cell BK.out 0).trans rfl; have hz1 : w7.cell? ⟨gb, 1, none⟩ = some (.int .i64 0) := (blk_cell BK.out 1).trans rfl; have hz2 : w7.cell? ⟨gb, 2, none⟩ = some (.string (⟨#[]⟩ : ByteArray)) := (blk_cell BK.out 2).trans rfl; have hf0 := blk_frozen BK.out 0; have hf1 := blk_frozen BK.out 1; have hf2 := blk_frozen BK.out 2) | ((with_reducible refine gate_callee (f := 57) rfl ?_); refine goesL_ (some 28) rfl rfl Try.func57 (by kernel_rfl) rfl #[.string a0, .int .i64 at_] rfl (by (try simp only [List.map_toArray, List.map_cons, List.map_nil]); first | done | rfl) ?_; (with_reducible refine (pack_TakeNum.calls k1 a0 at_ t1 at1 _ _ A4.out).mono ?_); rintro e w9 ⟨rfl, hb⟩; refine ⟨_, rfl, ?_⟩; have HB9 := Aside0.mk (below_step HBx.out hb.below); have HO9 := Aside0.mk (Kd.R_below HOx.out hb.below); have HX9 := Aside0.mk (blk_below HXx.out hb.below); clear hb; have y9_0 := (blk_cell HX9.out 0).trans rfl; have y9_1 := (blk_cell HX9.out 1).trans rfl; have y9_2 := (blk_cell HX9.out 2).trans rfl; have f9_0 := blk_frozen HX9.out 0; have f9_1 := blk_frozen HX9.out 1; have f9_2 := blk_frozen HX9.out 2) | ((with_reducible refine gate_callee (f := 57) rfl ?_); refine goesL_ (some 49) rfl rfl Try.func57 (by kernel_rfl) rfl #[.string a0, .int .i64 at1] rfl (by (try simp only [List.map_toArray, List.map_cons, List.map_nil]); first | done | rfl) ?_; (with_reducible refine (pack_TakeNum.calls k1 a0 at1 t2 at2' _ _ A5.out).mono ?_); rintro e w11 ⟨rfl, hb⟩; refine ⟨_, rfl, ?_⟩; have HB11 := Aside0.mk (below_step (below_set HB9.out GX.out (j := 0) (v := .int .i64 t1)) hb.below); have HO11 := Aside0.mk (Kd.R_below (Kd.R_far HO9.out (p := ⟨gb, 0, none⟩) (fun k hk => hk) (.int .i64 t1)) hb.below); have HX11 := Aside0.mk (blk_below (blk_put (cs' := #[.int .i64 t1, .int .i64 0, .string ⟨#[]⟩]) HX9.out 0 (.int .i64 t1) rfl) hb.below); clear hb; have y11_0 := (blk_cell HX11.out 0).trans rfl; have y11_1 := (blk_cell HX11.out 1).trans rfl; have y11_2 := (blk_cell HX11.out 2).trans rfl; have f11_0 := blk_frozen HX11.out 0; have f11_1 := blk_frozen HX11.out 1; have f11_2 := blk_frozen HX11.out 2) | ((with_reducible refine gate_builtin (b := .append) (xs := #[.tmp 56, .tmp 58]) rfl ?_); at_builtin; refine Kd.R_append k36 (w0 := w) (W := (w11.setCell ⟨gb, 1, none⟩ (.int .i64 t2))) w.heap.size rfl (.tmp 56) (.tmp 58) 22 36 (.agg #[(.int .i64 0), (.int .i64 0), (.string ⟨#[]⟩)]) 32 rfl Try.underlying22 delta_Decode.info rfl (by decide) (by decide) (.slice A d.length c) d (⟨t1, t2, ⟨#[]⟩⟩ : S36) [.int .i64 t1, .int .i64 t2, .string ⟨#[]⟩] (fun k_ => k_ ≠ gb) (fun _ => False) rfl (by first | (go_simp; done) | (go_simp; rfl)) (k36_mkM _ _ _ (⟨t1, t2, ⟨#[]⟩⟩ : S36)) (fun _ hk => hk.elim) (fun k_ hk => Kd.freshB (g := gb) (blk_put HX11.out 1 (.int .i64 t2) rfl) k_ hk) (Kd.R_far HO11.out (p := ⟨gb, 1, none⟩) (fun k hk => hk) (.int .i64 t2)) (below_set HB11.out GX.out) (below_set HB11.out GX.out).size LD.out ?_; intro v14 w14 ho hb hg hat; have HO14 := Aside0.mk (Kd.R_mono ho (fun _ _ => trivial)); have HB14 := Aside0.mk hb; clear ho hb hg hat))
                  go_roundg k1
                  case measure => have := HK.out; omega
                  case rel => exact ⟨_, _, wrap64 (i + 1), rfl, rfl, H', ⟨by have := HK.out; omega⟩, HO14, HB14⟩
                · rw [if_neg c7] at H
                  have H_ := Prod.mk.inj (Option.some.inj H)
                  clear H
                  obtain ⟨rfl, rfl⟩ := H_
                  have c7b : (e2' != 0) = true := by rw [bne_iff_ne]; exact c7
                  clear c7
                  go_wp2_with (first | ((with_reducible refine gate_dst (N := 8) rfl ?_); refine box_event ?hg (N := 8) ?hd (cs := #[.int .i64 0, .int .i64 0, .string (⟨#[]⟩ : ByteArray)]) (t := 36) ?hr ?_; (case hd => rfl); (case hg => rfl); (case hr => first | (go_simp; done) | (go_simp; rfl)); intro gb hg w7 hbox hb; obtain ⟨hGx, hBx, hOx, hXx⟩ := delta_Decode.boxed HB.out HO.out hg hbox hb; have HBx := Aside0.mk hBx; have HOx := Aside0.mk hOx; have HXx := Aside0.mk hXx; have GX := Aside0.mk hGx; have BK := Aside0.mk hbox; clear hb hbox hg hBx hOx hXx hGx; have hz0 : w7.cell? ⟨gb, 0, none⟩ = some (.int .i64 0) := (blk_cell BK.out 0).trans rfl; have hz1 : w7.cell? ⟨gb, 1, none⟩ = some (.int .i64 0) := (blk_cell BK.out 1).trans rfl; have hz2 : w7.cell? ⟨gb, 2, none⟩ = some (.string (⟨#[]⟩ : ByteArray)) := (blk_cell BK.out 2).trans rfl; have hf0 := blk_frozen BK.out 0; have hf1 := blk_frozen BK.out 1; have hf2 := blk_frozen BK.out 2) | ((with_reducible refine gate_callee (f := 57) rfl ?_); refine goesL_ (some 28) rfl rfl Try.func57 (by kernel_rfl) rfl #[.string a0, .int .i64 at_] rfl (by (try simp only [List.map_toArray, List.map_cons, List.map_nil]); first | done | rfl) ?_; (with_reducible refine (pack_TakeNum.calls k1 a0 at_ t1 at1 _ _ A4.out).mono ?_); rintro e w9 ⟨rfl, hb⟩; refine ⟨_, rfl, ?_⟩; have HB9 := Aside0.mk (below_step HBx.out hb.below); have HO9 := Aside0.mk (Kd.R_below HOx.out hb.below); have HX9 := Aside0.mk (blk_below HXx.out hb.below); clear hb; have y9_0 := (blk_cell HX9.out 0).trans rfl; have y9_1 := (blk_cell HX9.out 1).trans rfl; have y9_2 := (blk_cell HX9.out 2).trans rfl; have f9_0 := blk_frozen HX9.out 0; have f9_1 := blk_frozen HX9.out 1; have f9_2 := blk_frozen HX9.out 2) | ((with_reducible refine gate_callee (f := 57) rfl ?_); refine goesL_ (some 49) rfl rfl Try.func57 (by kernel_rfl) rfl #[.string a0, .int .i64 at1] rfl (by (try simp only [List.map_toArray, List.map_cons, List.map_nil]); first | done | rfl) ?_; (with_reducible refine (pack_TakeNum.calls k1 a0 at1 t2 at2' _ _ A5.out).mono ?_); rintro e w11 ⟨rfl, hb⟩; refine ⟨_, rfl, ?_⟩; have HB11 := Aside0.mk (below_step (below_set HB9.out GX.out (j := 0) (v := .int .i64 t1)) hb.below); have HO11 := Aside0.mk (Kd.R_below (Kd.R_far HO9.out (p := ⟨gb, 0, none⟩) (fun k hk => hk) (.int .i64 t1)) hb.below); have HX11 := Aside0.mk (blk_below (blk_put (cs' := #[.int .i64 t1, .int .i64 0, .string ⟨#[]⟩]) HX9.out 0 (.int .i64 t1) rfl) hb.below); clear hb; have y11_0 := (blk_cell HX11.out 0).trans rfl; have y11_1 := (blk_cell HX11.out 1).trans rfl; have y11_2 := (blk_cell HX11.out 2).trans rfl; have f11_0 := blk_frozen HX11.out 0; have f11_1 := blk_frozen HX11.out 1; have f11_2 := blk_frozen HX11.out 2))
                  go_ret2
                  exact ⟨none, 0, rfl, Kd.R_nil _ _ _ _ _, below_set HB11.out GX.out⟩
            · rw [if_neg c5] at H
              have H_ := Prod.mk.inj (Option.some.inj H)
              clear H
              obtain ⟨rfl, rfl⟩ := H_
              have c5b : (e1 != 0) = true := by rw [bne_iff_ne]; exact c5
              clear c5
              go_wp2_with (first | ((with_reducible refine gate_dst (N := 8) rfl ?_); refine box_event ?hg (N := 8) ?hd (cs := #[.int .i64 0, .int .i64 0, .string (⟨#[]⟩ : ByteArray)]) (t := 36) ?hr ?_; (case hd => rfl); (case hg => rfl); (case hr => first | (go_simp; done) | (go_simp; rfl)); intro gb hg w7 hbox hb; obtain ⟨hGx, hBx, hOx, hXx⟩ := delta_Decode.boxed HB.out HO.out hg hbox hb; have HBx := Aside0.mk hBx; have HOx := Aside0.mk hOx; have HXx := Aside0.mk hXx; have GX := Aside0.mk hGx; have BK := Aside0.mk hbox; clear hb hbox hg hBx hOx hXx hGx; have hz0 : w7.cell? ⟨gb, 0, none⟩ = some (.int .i64 0) := (blk_cell BK.out 0).trans rfl; have hz1 : w7.cell? ⟨gb, 1, none⟩ = some (.int .i64 0) := (blk_cell BK.out 1).trans rfl; have hz2 : w7.cell? ⟨gb, 2, none⟩ = some (.string (⟨#[]⟩ : ByteArray)) := (blk_cell BK.out 2).trans rfl; have hf0 := blk_frozen BK.out 0; have hf1 := blk_frozen BK.out 1; have hf2 := blk_frozen BK.out 2) | ((with_reducible refine gate_callee (f := 57) rfl ?_); refine goesL_ (some 28) rfl rfl Try.func57 (by kernel_rfl) rfl #[.string a0, .int .i64 at_] rfl (by (try simp only [List.map_toArray, List.map_cons, List.map_nil]); first | done | rfl) ?_; (with_reducible refine (pack_TakeNum.calls k1 a0 at_ t1 at1 _ _ A4.out).mono ?_); rintro e w9 ⟨rfl, hb⟩; refine ⟨_, rfl, ?_⟩; have HB9 := Aside0.mk (below_step HBx.out hb.below); have HO9 := Aside0.mk (Kd.R_below HOx.out hb.below); have HX9 := Aside0.mk (blk_below HXx.out hb.below); clear hb; have y9_0 := (blk_cell HX9.out 0).trans rfl; have y9_1 := (blk_cell HX9.out 1).trans rfl; have y9_2 := (blk_cell HX9.out 2).trans rfl; have f9_0 := blk_frozen HX9.out 0; have f9_1 := blk_frozen HX9.out 1; have f9_2 := blk_frozen HX9.out 2))
              go_ret2
              exact ⟨none, 0, rfl, Kd.R_nil _ _ _ _ _, below_set HB9.out GX.out⟩
          · rw [if_neg c4] at H
            have c4b : decide (i < n) = false := decide_eq_false c4
            clear c4
            by_cases c5 : at_ = (a0.size : Int)
            · rw [if_pos c5] at H
              have c5b : (at_ != (a0.size : Int)) = false := by rw [bne_eq_false_iff_eq]; exact c5
              clear c5
              have H_ := Option.bind_eq_some_iff.mp H
              clear H
              obtain ⟨e3, h4, H⟩ := H_
              have A4 := Aside0.mk h4
              clear h4
              have HC := Aside0.mk (Kd.R_reads' HO.out).2.2
              have HL := Aside0.mk (Kd.R_reads' HO.out).2.1
              by_cases c6 : e3 = 0
              · rw [if_pos c6] at H
                subst c6
                have H_ := Prod.mk.inj (Option.some.inj H)
                clear H
                obtain ⟨rfl, rfl⟩ := H_
                go_wp2_with (first | ((with_reducible refine gate_callee (f := 18) rfl ?_); (try (refine gate_guard (by rfl) ?_; dsimp only)); refine goesL_ (some 67) rfl rfl Try.func18 (by kernel_rfl) rfl #[.slice A d.length c] rfl (by (try simp only [List.map_toArray, List.map_cons, List.map_nil]); first | done | rfl) ?_; (with_reducible refine (delta_Check.calls k1 A c d _ _ HC.out HL.out A4.out).mono ?_); rintro e w15 ⟨rfl, hb⟩; refine ⟨_, rfl, ?_⟩; have HB15 := Aside0.mk (below_step HB.out hb); have HO15 := Aside0.mk (Kd.R_below HO.out hb); clear hb) | ((with_reducible refine gate_callee (f := 59) rfl ?_); refine goesL_ (some 71) rfl rfl Try.func59 (by kernel_rfl) rfl #[.slice A d.length c] rfl (by (try simp only [List.map_toArray, List.map_cons, List.map_nil]); first | done | rfl) ?_; (with_reducible refine (slices_Clip.calls A d.length c w15 HL.out (by have := LD.out; omega)).mono ?_); rintro e w16 ⟨rfl, rfl⟩; refine ⟨_, rfl, ?_⟩))
                go_ret2
                exact ⟨A, c, rfl, HO15.out, HB15.out⟩
              · rw [if_neg c6] at H
                have H_ := Prod.mk.inj (Option.some.inj H)
                clear H
                obtain ⟨rfl, rfl⟩ := H_
                have c6b : (e3 != 0) = true := by rw [bne_iff_ne]; exact c6
                clear c6
                go_wp2_with (first | ((with_reducible refine gate_callee (f := 18) rfl ?_); (try (refine gate_guard (by rfl) ?_; dsimp only)); refine goesL_ (some 67) rfl rfl Try.func18 (by kernel_rfl) rfl #[.slice A d.length c] rfl (by (try simp only [List.map_toArray, List.map_cons, List.map_nil]); first | done | rfl) ?_; (with_reducible refine (delta_Check.calls k1 A c d _ _ HC.out HL.out A4.out).mono ?_); rintro e w15 ⟨rfl, hb⟩; refine ⟨_, rfl, ?_⟩; have HB15 := Aside0.mk (below_step HB.out hb); have HO15 := Aside0.mk (Kd.R_below HO.out hb); clear hb))
                go_ret2
                exact ⟨none, 0, rfl, Kd.R_nil _ _ _ _ _, HB15.out⟩
            · rw [if_neg c5] at H
              have H_ := Prod.mk.inj (Option.some.inj H)
              clear H
              obtain ⟨rfl, rfl⟩ := H_
              have c5b : (at_ != (a0.size : Int)) = true := by rw [bne_iff_ne]; exact c5
              clear c5
              go_wp2
              go_ret2
              exact ⟨none, 0, rfl, Kd.R_nil _ _ _ _ _, HB.out⟩
  · rw [if_neg d0] at h
    have h_ := Prod.mk.inj (Option.some.inj h)
    clear h
    obtain ⟨rfl, rfl⟩ := h_
    have d0b : (e0 != 0) = true := by rw [bne_iff_ne]; exact d0
    clear d0
    go_enter Try.func36, Try.ntmps36
    go_wp2_with (first | ((with_reducible refine gate_callee (f := 57) rfl ?_); refine goesL_ (some 11) rfl rfl Try.func57 (by kernel_rfl) rfl #[.string a0, .int .i64 0] rfl (by (try simp only [List.map_toArray, List.map_cons, List.map_nil]); first | done | rfl) ?_; (with_reducible refine (pack_TakeNum.calls k a0 0 _ _ _ _ A1.out).mono ?_); rintro e w1 ⟨rfl, hb⟩; refine ⟨_, rfl, ?_⟩; have HB1 := Aside0.mk (below_step HB0.out hb.below); clear hb))
    go_ret2
    exact ⟨none, 0, rfl, Kd.R_nil _ _ _ _ _, HB1.out⟩


/-! ### oxbowlaw09_DeltaReads: function 11 -/
def oxbowlaw09_DeltaReads.f (k : Nat) (a0 : ByteArray) : Option Bool := (delta_Decode.f k a0).bind fun a => (oxbowref09_Decode.f k a0).bind fun b => (oxbowref09_Same.f k a.1 b.1).bind fun t => if t = true then (if a.2 = b.2 then oxbowlaw09_live.f k else none) else none
theorem oxbowlaw09_DeltaReads.mono : ∀ a0 k, LeO (oxbowlaw09_DeltaReads.f k a0) (oxbowlaw09_DeltaReads.f (k + 1) a0) := by
  intro a0 k
  unfold oxbowlaw09_DeltaReads.f
  exact LeO.bind (delta_Decode.mono _ _) (fun _ => LeO.bind (oxbowref09_Decode.mono _ _) (fun _ => LeO.bind (oxbowref09_Same.mono _ _ _) (fun _ => LeO.ite (LeO.ite (oxbowlaw09_live.mono _) (LeO.refl _)) (LeO.refl _))))
set_option maxHeartbeats 8000000 in
set_option maxRecDepth 100000 in
theorem oxbowlaw09_DeltaReads.calls (k : Nat) (a0 : ByteArray) (r : Bool) (w : World) (h : oxbowlaw09_DeltaReads.f k a0 = some r) :
    Calls Try.prog 11 #[.string a0] w fun e w' => e = .returned (.bool r) ∧ Below w.heap.size w w' := by
  have HB0 := Aside0.mk (Below.refl w.heap.size w)
  unfold oxbowlaw09_DeltaReads.f at h
  have h_ := Option.bind_eq_some_iff.mp h
  clear h
  obtain ⟨⟨x1, x2⟩, h1, h⟩ := h_
  have A1 := Aside0.mk h1
  clear h1
  have h_ := Option.bind_eq_some_iff.mp h
  clear h
  obtain ⟨⟨y1, y2⟩, h1, h⟩ := h_
  have A2 := Aside0.mk h1
  clear h1
  have h_ := Option.bind_eq_some_iff.mp h
  clear h
  obtain ⟨t, h1, h⟩ := h_
  simp only at h h1
  have A3 := Aside0.mk h1
  clear h1
  by_cases d1 : t = true
  case neg => rw [if_neg d1] at h; cases h
  rw [if_pos d1] at h
  subst d1
  by_cases d2 : x2 = y2
  case neg => rw [if_neg d2] at h; cases h
  rw [if_pos d2] at h
  subst d2
  have A4 := Aside0.mk h
  clear h
  go_enter Try.func11, Try.ntmps11
  go_wp2_with (first | ((with_reducible refine gate_callee (f := 36) rfl ?_); refine goesL_ (some 9) rfl rfl Try.func36 (by kernel_rfl) rfl #[.string a0] rfl (by (try simp only [List.map_toArray, List.map_cons, List.map_nil]); first | done | rfl) ?_; (with_reducible refine (delta_Decode.calls k a0 x1 x2 _ A1.out).mono ?_); rintro e w1 ⟨A, c, rfl, hR, hb⟩; refine ⟨_, rfl, ?_⟩; have HR1 := Aside0.mk hR; have HB1 := Aside0.mk (below_step HB0.out hb); clear hR hb) | ((with_reducible refine gate_callee (f := 37) rfl ?_); refine goesL_ (some 14) rfl rfl Try.func37 (by kernel_rfl) rfl #[.string a0] rfl (by (try simp only [List.map_toArray, List.map_cons, List.map_nil]); first | done | rfl) ?_; (with_reducible refine (oxbowref09_Decode.calls k a0 y1 x2 _ A2.out).mono ?_); rintro e w2 ⟨v2, rfl, hR, hb⟩; refine ⟨_, rfl, ?_⟩; have HR1b := Aside0.mk (Kd.R_below HR1.out hb); have HB2 := Aside0.mk (below_step HB1.out hb); obtain ⟨A2_, c2_, rfl⟩ := Kd.R_slice hR; have HR2 := Aside0.mk hR; clear hR hb) | ((with_reducible refine gate_callee (f := 26) rfl ?_); refine goesL_ (some 19) rfl rfl Try.func26 (by kernel_rfl) rfl #[.slice A x1.length x1.length, .slice A2_ y1.length c2_] rfl (by (try simp only [List.map_toArray, List.map_cons, List.map_nil]); first | done | rfl) ?_; (with_reducible refine (oxbowref09_Same.calls k A x1.length x1 A2_ c2_ y1 _ _ (Kd.R_reads' HR1b.out).2.2 (Nat.le_refl _) (Kd.R_reads' HR2.out).2.2 (Kd.R_reads' HR2.out).2.1 A3.out).mono ?_); rintro e w3 ⟨rfl, hb⟩; refine ⟨_, rfl, ?_⟩; have HB3 := Aside0.mk (below_step HB2.out hb.below); clear hb) | ((with_reducible refine gate_callee (f := 17) rfl ?_); (try (refine gate_guard (by rfl) ?_; dsimp only)); refine goesL_ (some 26) rfl rfl Try.func17 (by kernel_rfl) rfl #[] rfl (by (try simp only [List.map_toArray, List.map_cons, List.map_nil]); first | done | rfl) ?_; (with_reducible refine (oxbowlaw09_live.calls k _ _ A4.out).mono ?_); rintro e w4 ⟨rfl, hb⟩; refine ⟨_, rfl, ?_⟩; have HBz := Aside0.mk (below_step HB3.out hb); clear hb))
  go_ret
  exact ⟨by first | rfl | simp, HBz.out⟩



/-- The one pure statement of oxbowlaw09_DeltaReads. -/
def oxbowlaw09_DeltaReads.Pure : Prop := ∀ (a0 : ByteArray), a0.size ≤ 140737488351232 → ∃ k, oxbowlaw09_DeltaReads.f k a0 = some true

/-! ### oxbowlaw09_DeltaBack: function 13 -/
def oxbowlaw09_DeltaBack.f (k : Nat) (l0 : List S36) (a1 : ByteArray) : Option Bool := (delta_Encode.f k l0).bind fun a => if a.2 = 0 then ((delta_Decode.f k a.1).bind fun b => (oxbowref09_Same.f k b.1 l0).bind fun t => if t = true then (if b.2 = 0 then (if a1.size = 0 then oxbowlaw09_live.f k else if a.1.size + a1.size ≤ 9223372036854775807 then ((delta_Decode.f k (a.1 ++ a1)).bind fun c => if c.2 = 90 then oxbowlaw09_live.f k else none) else none) else none) else none) else (if a.1.size = 0 then oxbowlaw09_live.f k else none)
theorem oxbowlaw09_DeltaBack.mono : ∀ a0 a1 k, LeO (oxbowlaw09_DeltaBack.f k a0 a1) (oxbowlaw09_DeltaBack.f (k + 1) a0 a1) := by
  intro a0 a1 k
  unfold oxbowlaw09_DeltaBack.f
  exact LeO.bind (delta_Encode.mono _ _) (fun _ => LeO.ite (LeO.bind (delta_Decode.mono _ _) (fun _ => LeO.bind (oxbowref09_Same.mono _ _ _) (fun _ => LeO.ite (LeO.ite (LeO.ite (oxbowlaw09_live.mono _) (LeO.ite (LeO.bind (delta_Decode.mono _ _) (fun _ => LeO.ite (oxbowlaw09_live.mono _) (LeO.refl _))) (LeO.refl _))) (LeO.refl _)) (LeO.refl _)))) (LeO.ite (oxbowlaw09_live.mono _) (LeO.refl _)))
theorem oxbowlaw09_DeltaBack.nil_beq (s : ByteArray) : (s.toList == ([] : List UInt8)) = decide (s.size = 0) := by
  rw [Bool.eq_iff_iff, beq_iff_eq, decide_eq_true_eq, Ev.toList_data, ← Ev.len_data]
  exact List.length_eq_zero_iff.symm
set_option maxHeartbeats 8000000 in
set_option maxRecDepth 100000 in
theorem oxbowlaw09_DeltaBack.calls (k : Nat) (A0 : Option Addr) (c0 : Nat) (l0 : List S36) (a1 : ByteArray) (r : Bool) (w : World) (hr0 : Kd.C k36 w A0 l0.length l0) (hc0 : l0.length ≤ c0) (h : oxbowlaw09_DeltaBack.f k l0 a1 = some r) :
    Calls Try.prog 13 #[.slice A0 l0.length c0, .string a1] w fun e w' => e = .returned (.bool r) ∧ Below w.heap.size w w' := by
  have HB0 := Aside0.mk (Below.refl w.heap.size w)
  have HC0 := Aside0.mk hr0
  have HL0 := Aside0.mk hc0
  clear hr0 hc0
  unfold oxbowlaw09_DeltaBack.f at h
  have h_ := Option.bind_eq_some_iff.mp h
  clear h
  obtain ⟨⟨s, e0⟩, h1, h⟩ := h_
  have A1 := Aside0.mk h1
  clear h1
  simp only at h
  by_cases d0 : e0 = 0
  · rw [if_pos d0] at h
    subst d0
    have h_ := Option.bind_eq_some_iff.mp h
    clear h
    obtain ⟨⟨x1, x2⟩, h1, h⟩ := h_
    have A2 := Aside0.mk h1
    clear h1
    have h_ := Option.bind_eq_some_iff.mp h
    clear h
    obtain ⟨t, h1, h⟩ := h_
    simp only at h h1
    have A3 := Aside0.mk h1
    clear h1
    by_cases d1 : t = true
    case neg => rw [if_neg d1] at h; cases h
    rw [if_pos d1] at h
    subst d1
    by_cases d2 : x2 = 0
    case neg => rw [if_neg d2] at h; cases h
    rw [if_pos d2] at h
    subst d2
    have hz := oxbowlaw09_DeltaBack.nil_beq a1
    by_cases d3 : a1.size = 0
    · rw [if_pos d3] at h
      have A4 := Aside0.mk h
      have b0 : (a1.toList == ([] : List UInt8)) = true := by rw [hz]; simpa using d3
      have b1 : (a1.toList != ([] : List UInt8)) = false := by unfold bne; rw [b0]; rfl
      have b2 : a1.toList.isEmpty = true := by rw [List.isEmpty_iff]; exact beq_iff_eq.mp b0
      clear h d3 hz
      go_enter Try.func13, Try.ntmps13
      go_wp2_with (first | ((with_reducible refine gate_callee (f := 33) rfl ?_); refine goesL_ (some 11) rfl rfl Try.func33 (by kernel_rfl) rfl #[.slice A0 l0.length c0] rfl (by (try simp only [List.map_toArray, List.map_cons, List.map_nil]); first | done | rfl) ?_; (with_reducible refine (delta_Encode.calls k A0 c0 l0 s _ w HC0.out HL0.out A1.out).mono ?_); rintro e w1 ⟨rfl, hb⟩; refine ⟨_, rfl, ?_⟩; have HB1 := Aside0.mk (below_step HB0.out hb); clear hb) | ((with_reducible refine gate_callee (f := 36) rfl ?_); refine goesL_ (some 23) rfl rfl Try.func36 (by kernel_rfl) rfl #[.string s] rfl (by (try simp only [List.map_toArray, List.map_cons, List.map_nil]); first | done | rfl) ?_; (with_reducible refine (delta_Decode.calls k s x1 0 _ A2.out).mono ?_); rintro e w2 ⟨A, c, rfl, hR, hb⟩; refine ⟨_, rfl, ?_⟩; have HR2 := Aside0.mk hR; have HB2 := Aside0.mk (below_step HB1.out hb); clear hR hb) | ((with_reducible refine gate_callee (f := 26) rfl ?_); refine goesL_ (some 28) rfl rfl Try.func26 (by kernel_rfl) rfl #[.slice A x1.length x1.length, .slice A0 l0.length c0] rfl (by (try simp only [List.map_toArray, List.map_cons, List.map_nil]); first | done | rfl) ?_; (with_reducible refine (oxbowref09_Same.calls k A x1.length x1 A0 c0 l0 _ _ (Kd.R_reads' HR2.out).2.2 (Nat.le_refl _) (Kd.C_below HC0.out HB2.out) HL0.out A3.out).mono ?_); rintro e w3 ⟨rfl, hb⟩; refine ⟨_, rfl, ?_⟩; have HB3 := Aside0.mk (below_step HB2.out hb.below); clear hb) | ((with_reducible refine gate_callee (f := 17) rfl ?_); (try (refine gate_guard (by rfl) ?_; dsimp only)); refine goesL_ (some 45) rfl rfl Try.func17 (by kernel_rfl) rfl #[] rfl (by (try simp only [List.map_toArray, List.map_cons, List.map_nil]); first | done | rfl) ?_; (with_reducible refine (oxbowlaw09_live.calls k _ _ A4.out).mono ?_); rintro e w9 ⟨rfl, hb⟩; refine ⟨_, rfl, ?_⟩; have HBz := Aside0.mk (below_step HB3.out hb); clear hb))
      go_ret
      exact ⟨rfl, HBz.out⟩
    · rw [if_neg d3] at h
      by_cases d4 : s.size + a1.size ≤ 9223372036854775807
      case neg => rw [if_neg d4] at h; cases h
      rw [if_pos d4] at h
      have h_ := Option.bind_eq_some_iff.mp h
      clear h
      obtain ⟨⟨z1, z2⟩, h1, h⟩ := h_
      have A5 := Aside0.mk h1
      clear h1
      simp only at h
      by_cases d5 : z2 = 90
      case neg => rw [if_neg d5] at h; cases h
      rw [if_pos d5] at h
      subst d5
      have A4 := Aside0.mk h
      have b0 : (a1.toList == ([] : List UInt8)) = false := by rw [hz]; simpa using d3
      have b1 : (a1.toList != ([] : List UInt8)) = true := by unfold bne; rw [b0]; rfl
      have b2 : a1.toList.isEmpty = false := by rw [List.isEmpty_eq_false_iff]; exact beq_eq_false_iff_ne.mp b0
      have d4f : (9223372036854775807 < s.size + a1.size) = False := eq_false (Nat.not_lt.2 d4)
      clear h d3 hz d4
      go_enter Try.func13, Try.ntmps13
      go_wp2_with (first | ((with_reducible refine gate_callee (f := 33) rfl ?_); refine goesL_ (some 11) rfl rfl Try.func33 (by kernel_rfl) rfl #[.slice A0 l0.length c0] rfl (by (try simp only [List.map_toArray, List.map_cons, List.map_nil]); first | done | rfl) ?_; (with_reducible refine (delta_Encode.calls k A0 c0 l0 s _ w HC0.out HL0.out A1.out).mono ?_); rintro e w1 ⟨rfl, hb⟩; refine ⟨_, rfl, ?_⟩; have HB1 := Aside0.mk (below_step HB0.out hb); clear hb) | ((with_reducible refine gate_callee (f := 36) rfl ?_); refine goesL_ (some 23) rfl rfl Try.func36 (by kernel_rfl) rfl #[.string s] rfl (by (try simp only [List.map_toArray, List.map_cons, List.map_nil]); first | done | rfl) ?_; (with_reducible refine (delta_Decode.calls k s x1 0 _ A2.out).mono ?_); rintro e w2 ⟨A, c, rfl, hR, hb⟩; refine ⟨_, rfl, ?_⟩; have HR2 := Aside0.mk hR; have HB2 := Aside0.mk (below_step HB1.out hb); clear hR hb) | ((with_reducible refine gate_callee (f := 26) rfl ?_); refine goesL_ (some 28) rfl rfl Try.func26 (by kernel_rfl) rfl #[.slice A x1.length x1.length, .slice A0 l0.length c0] rfl (by (try simp only [List.map_toArray, List.map_cons, List.map_nil]); first | done | rfl) ?_; (with_reducible refine (oxbowref09_Same.calls k A x1.length x1 A0 c0 l0 _ _ (Kd.R_reads' HR2.out).2.2 (Nat.le_refl _) (Kd.C_below HC0.out HB2.out) HL0.out A3.out).mono ?_); rintro e w3 ⟨rfl, hb⟩; refine ⟨_, rfl, ?_⟩; have HB3 := Aside0.mk (below_step HB2.out hb.below); clear hb) | ((with_reducible refine gate_callee (f := 36) rfl ?_); refine goesL_ (some 40) rfl rfl Try.func36 (by kernel_rfl) rfl #[.string (s ++ a1)] rfl (by (try simp only [List.map_toArray, List.map_cons, List.map_nil]); first | done | rfl) ?_; (with_reducible refine (delta_Decode.calls k (s ++ a1) z1 90 _ A5.out).mono ?_); rintro e w4 ⟨A_, c_, rfl, _, hb⟩; refine ⟨_, rfl, ?_⟩; have HB4 := Aside0.mk (below_step HB3.out hb); clear hb) | ((with_reducible refine gate_callee (f := 17) rfl ?_); (try (refine gate_guard (by rfl) ?_; dsimp only)); refine goesL_ (some 45) rfl rfl Try.func17 (by kernel_rfl) rfl #[] rfl (by (try simp only [List.map_toArray, List.map_cons, List.map_nil]); first | done | rfl) ?_; (with_reducible refine (oxbowlaw09_live.calls k _ _ A4.out).mono ?_); rintro e w9 ⟨rfl, hb⟩; refine ⟨_, rfl, ?_⟩; have HBz := Aside0.mk (below_step HB4.out hb); clear hb))
      go_ret
      exact ⟨rfl, HBz.out⟩
  · rw [if_neg d0] at h
    have hz := oxbowlaw09_DeltaBack.nil_beq s
    by_cases d3 : s.size = 0
    case neg => rw [if_neg d3] at h; cases h
    rw [if_pos d3] at h
    have A4 := Aside0.mk h
    have b0 : (s.toList == ([] : List UInt8)) = true := by rw [hz]; simpa using d3
    have b2 : s.toList.isEmpty = true := by rw [List.isEmpty_iff]; exact beq_iff_eq.mp b0
    have d0b : (e0 != 0) = true := by rw [bne_iff_ne]; exact d0
    clear h d3 hz d0
    go_enter Try.func13, Try.ntmps13
    go_wp2_with (first | ((with_reducible refine gate_callee (f := 33) rfl ?_); refine goesL_ (some 11) rfl rfl Try.func33 (by kernel_rfl) rfl #[.slice A0 l0.length c0] rfl (by (try simp only [List.map_toArray, List.map_cons, List.map_nil]); first | done | rfl) ?_; (with_reducible refine (delta_Encode.calls k A0 c0 l0 s _ w HC0.out HL0.out A1.out).mono ?_); rintro e w1 ⟨rfl, hb⟩; refine ⟨_, rfl, ?_⟩; have HB1 := Aside0.mk (below_step HB0.out hb); clear hb) | ((with_reducible refine gate_callee (f := 17) rfl ?_); (try (refine gate_guard (by rfl) ?_; dsimp only)); refine goesL_ (some 19) rfl rfl Try.func17 (by kernel_rfl) rfl #[] rfl (by (try simp only [List.map_toArray, List.map_cons, List.map_nil]); first | done | rfl) ?_; (with_reducible refine (oxbowlaw09_live.calls k _ _ A4.out).mono ?_); rintro e w9 ⟨rfl, hb⟩; refine ⟨_, rfl, ?_⟩; have HBz := Aside0.mk (below_step HB1.out hb); clear hb))
    go_ret
    exact ⟨by first | rfl | simp, HBz.out⟩



/-- The one pure statement of oxbowlaw09_DeltaBack. -/
def oxbowlaw09_DeltaBack.Pure : Prop := ∀ (l0 : List (S36)) (a1 : ByteArray), (l0.length * 32 ≤ 140737488351232 ∧ l0.length ≤ maxLen ∧ ∀ y223 ∈ l0, ((Lit.int .i64 y223.f0).wf = true ∧ (Lit.int .i64 y223.f1).wf = true ∧ y223.f2.size ≤ 140737488351232)) → a1.size ≤ 140737488351232 → ((l0.map fun y224 => ((1 + (1 + (y224.f2.size + 1))) + 1)).sum + 1) + (a1.size + 1) ≤ 1048576 → ∃ k, oxbowlaw09_DeltaBack.f k l0 a1 = some true

end Go.Proofs.Ytdpbkomaiafemaa.HDd
