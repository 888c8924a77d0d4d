-- Written by hprint.py over the kit's print.py; contracts of some functions by hand.
import Derived.Test.YtdpbkomaiafemaaHDex0
import Derived.Test.YtdpbkomaiafemaaHDex5
import Derived.Test.YtdpbkomaiafemaaHDex6
namespace Go.Proofs.Ytdpbkomaiafemaa.HDe
open Go.RowKit Go.Proofs.YtdpbkomaiafemaaW.PrintWords Go.Proofs.YtdpbkomaiafemaaW.PrintLast Go.Proofs.YtdpbkomaiafemaaW.PrintMore
attribute [local go_sem] max2_int min2_int max_two min_two max_three min_three max_four min_four   -- for this text's walks alone
set_option linter.unusedVariables false
set_option linter.unusedSimpArgs false

/-! ### text_Text: function 39 -/
def text_Text.l0 : Nat → List Int → List Int → Int → Int → Option (ByteArray × Bool)
  | 0, _, _, _, _ => none
  | k + 1, x4, x7, x8, x9 => if x9 < x8 then (if 0 ≤ x9 then (if x9 < (x7.length : Int) then ((text_isPoint.f (rd x7 x9)).bind fun t178 => (if t178 = true then ((text_put.f k x4 (rd x7 x9)).bind fun t179 => (text_Text.l0 k t179 x7 x8 (wrap64 (x9 + 1)))) else (some ((⟨#[]⟩ : ByteArray), false)))) else (none)) else (none)) else (some (strOfNums x4, true))
def text_Text.f (k : Nat) (l0 : List Int) : Option (ByteArray × Bool) := text_Text.l0 k ([] : List Int) l0 (l0.length : Int) 0
theorem text_Text.mono_l : ∀ k, (∀ y0 y1 y2 y3, LeO (text_Text.l0 k y0 y1 y2 y3) (text_Text.l0 (k + 1) y0 y1 y2 y3))
  | 0 => fun _ _ _ _ r h => by simp [text_Text.l0] at h
  | k + 1 => by
    have ih0 := text_Text.mono_l k
    · intro y0 y1 y2 y3
      unfold text_Text.l0
      repeat' first
      | (with_reducible exact ih0 _ _ _ _)
      | (with_reducible exact text_put.mono _ _ _)
      | (with_reducible exact LeO.refl _)
      | (with_reducible exact LeO.none _)
      | (with_reducible refine LeO.ite ?_ ?_)
      | (with_reducible refine LeO.bind ?_ (fun _ => ?_))
      | exact ih0 _ _ _ _
      | exact text_put.mono _ _ _
      | exact LeO.none _
      | refine LeO.ite ?_ ?_
      | refine LeO.bind ?_ (fun _ => ?_)
theorem text_Text.mono : ∀ a0 k, LeO (text_Text.f k a0) (text_Text.f (k + 1) a0) := by
  intro a0 k
  have ih0 := text_Text.mono_l k
  unfold text_Text.f
  repeat' first
      | (with_reducible exact ih0 _ _ _ _)
      | (with_reducible exact text_put.mono _ _ _)
      | (with_reducible exact LeO.refl _)
      | (with_reducible exact LeO.none _)
      | (with_reducible refine LeO.ite ?_ ?_)
      | (with_reducible refine LeO.bind ?_ (fun _ => ?_))
      | exact ih0 _ _ _ _
      | exact text_put.mono _ _ _
      | exact LeO.none _
      | refine LeO.ite ?_ ?_
      | refine LeO.bind ?_ (fun _ => ?_)
set_option maxHeartbeats 8000000 in
set_option maxRecDepth 100000 in
theorem text_Text.calls (k : Nat) (A0 : Option Addr) (c0 : Nat) (l0 : List Int) (r1 : ByteArray) (r2 : Bool) (w : World) (hr0 : Kd.C (Kd.int .i64) w A0 l0.length l0) (hc0 : l0.length ≤ c0) (h : text_Text.f k l0 = some (r1, r2)) :
    Calls Try.prog 39 #[.slice A0 l0.length c0] w fun e w' => e = .returned (.tuple #[.string r1, .bool r2]) ∧ Below w.heap.size w w' := by
  have HR0 := Aside0.mk hr0
  have HC0 := Aside0.mk hc0
  clear hr0 hc0
  have HB := Aside0.mk (Below.refl w.heap.size w)
  have H : (text_Text.l0 k ([] : List Int) l0 (l0.length : Int) 0) = some (r1, r2) := h
  clear h
  have H' := Aside0.mk H
  clear H
  go_enter Try.func39, Try.ntmps39
  go_wp2
  go_loopg [4, 9] k (fun kq v4 v9 w' => ∃ (x4_1 : List Int) (x9_1 : Int), v9 = .int .i64 x9_1 ∧ Aside0 (text_Text.l0 kq x4_1 l0 (l0.length : Int) x9_1 = some (r1, r2)) ∧ Aside0 (kq ≤ k) ∧ Aside0 (Kd.R (Kd.int .u8) 5 w' w.heap.size (fun _ => True) v4 x4_1) ∧ Aside0 (Below w.heap.size w w'))
  case atStart => exact ⟨(([] : List Int)), (0), (by first | rfl | (simp; done) | (simp [*]; done) | (simp; (generalize ByteArray.toList _ = l_); cases l_ <;> rfl)), H', ⟨Nat.le_refl _⟩, ⟨by first | exact Kd.R_nil _ _ _ _ _ | exact Kd.N_nil _ _ _ _ _ | exact Kd.V_nil _ _ _ _ _ | exact Kd.Q_nil _ _ _ _ _ | exact Kd.S_nil _ _ _ _ _⟩, ⟨by repeat (first | (with_reducible first | exact HB.out | apply below_alloc | apply pw_below_drewN | apply below_drew1) | exact HB.out)⟩⟩
  case round =>
    clear H'
    obtain ⟨x4_1, x9_1, rfl, HA, HK1, HO_4, HB⟩ := hrel
    cases gk with
    | zero => exact absurd HA.out (by simp [text_Text.l0])
    | succ k1 =>
      have H := HA.out
      clear HA
      simp only [text_Text.l0] at H
      by_cases c2 : x9_1 < (l0.length : Int)
      · rw [if_pos c2] at H
        have c2b0 : decide (x9_1 < (l0.length : Int)) = true := decide_eq_true c2
        clear c2
        by_cases c3 : 0 ≤ x9_1
        · rw [if_pos c3] at H
          have c3b0 : decide (0 ≤ x9_1) = true := decide_eq_true c3
          clear c3
          by_cases c4 : x9_1 < (l0.length : Int)
          · rw [if_pos c4] at H
            have c4b0 : decide (x9_1 < (l0.length : Int)) = true := decide_eq_true c4
            clear c4
            replace H := Option.bind_eq_some_iff.mp H
            obtain ⟨t178, A50, H⟩ := H
            replace H : (if t178 = true then ((text_put.f k1 x4_1 (rd l0 x9_1)).bind fun t179 => (text_Text.l0 k1 t179 l0 (l0.length : Int) (wrap64 (x9_1 + 1)))) else (some ((⟨#[]⟩ : ByteArray), false))) = some (r1, r2) := H
            have A5 := Aside0.mk A50
            clear A50
            by_cases c6 : t178 = true
            · subst c6
              have H1 : ((text_put.f k1 x4_1 (rd l0 x9_1)).bind fun t179 => (text_Text.l0 k1 t179 l0 (l0.length : Int) (wrap64 (x9_1 + 1)))) = some (r1, r2) := by rw [if_pos rfl] at H; exact H
              clear H
              have H := H1
              clear H1
              replace H := Option.bind_eq_some_iff.mp H
              obtain ⟨t179, A70, H⟩ := H
              replace H : (text_Text.l0 k1 t179 l0 (l0.length : Int) (wrap64 (x9_1 + 1))) = some (r1, r2) := H
              have A7 := Aside0.mk A70
              clear A70
              have H' := Aside0.mk H
              clear H
              have p177 : 0 ≤ (x9_1 : Int) := of_decide_eq_true (by first | (with_reducible assumption) | assumption)
              have q177 : x9_1 < (l0.length : Int) := of_decide_eq_true (by first | (with_reducible assumption) | assumption)
              obtain ⟨ad177, e177, hx177_0⟩ := Kd.at_int HR0.out x9_1 p177 q177
              cases e177
              replace hx177_0 := (HB.out.cell (World.block_lt_of_cell? w _ hx177_0)).trans hx177_0
              replace p177 := eq_true p177
              replace q177 := eq_true q177
              go_wp2_with (first | ((with_reducible refine gate_callee (f := 63) rfl ?_); refine goesL_ (some 14) rfl rfl Try.func63 (by kernel_rfl) rfl #[.int .i64 (rd l0 x9_1)] rfl (by (try simp only [List.map_toArray, List.map_cons, List.map_nil]); first | done | rfl | (simp only [List.length_drop, List.length_take]; rfl)) ?_; (with_reducible refine (text_isPoint.calls (rd l0 x9_1) true _ A5.out).mono ?_); rintro e w' ⟨rfl, ⟨nd, rfl⟩⟩; refine ⟨_, rfl, ?_⟩; obtain ⟨Ao8, co8, eo8⟩ := Kd.R_slice HO_4.out; subst eo8) | ((with_reducible refine gate_callee (f := 64) rfl ?_); refine goesL_ (some 18) rfl rfl Try.func64 (by kernel_rfl) rfl #[.slice Ao8 x4_1.length co8, .int .i64 (rd l0 x9_1)] rfl (by (try simp only [List.map_toArray, List.map_cons, List.map_nil]); first | done | rfl | (simp only [List.length_drop, List.length_take]; rfl)) ?_; (with_reducible refine (text_put.calls k1 (fun k_ => some k_ = (.slice Ao8 x4_1.length co8 : Value).ownBlock) (.slice Ao8 x4_1.length co8) x4_1 (rd l0 x9_1) t179 w _ ?side1 ?side2 A7.out).mono ?_); (case side1 => repeat (first | (with_reducible first | exact HB.out | apply below_alloc | apply pw_below_drewN | apply below_drew1) | exact HB.out)); (case side2 => exact Kd.R_tight rfl HO_4.out); rintro e w9 ⟨v180, rfl, ho0, hb, hkp⟩; refine ⟨_, rfl, ?_⟩; have n0_ := Aside0.mk (Kd.R_mono (ok' := fun k_ => True) ho0 (fun k_ hk_ => trivial)); have n1_ := Aside0.mk (hb); clear HB; clear HO_4; have HO181 := n0_; have HB := n1_; clear n0_ n1_; (try clear hb); (try clear hkp); (try clear ho0)))
              go_roundg k1
              case measure => have := HK1.out; omega
              case rel => exact ⟨(t179), (wrap64 (x9_1 + 1)), (by first | rfl | (simp; done) | (simp [*]; done) | (simp; (generalize ByteArray.toList _ = l_); cases l_ <;> rfl)), H', ⟨by have := HK1.out; omega⟩, ⟨by (with_reducible repeat (first | apply Kd.R_alloc | apply Kd.R_drewN | apply Kd.R_drew)); exact HO181.out⟩, ⟨by repeat (first | (with_reducible first | exact HB.out | apply below_alloc | apply pw_below_drewN | apply below_drew1) | exact HB.out)⟩⟩
            · replace c6 := Bool.eq_false_iff.mpr c6
              subst c6
              have H1 : (some ((⟨#[]⟩ : ByteArray), false)) = some (r1, r2) := by rw [if_neg (show ¬ (false = true) by decide)] at H; exact H
              clear H
              have H := H1
              clear H1
              simp only [Option.some.injEq, Prod.mk.injEq] at H
              obtain ⟨rfl, rfl⟩ := H
              have p177 : 0 ≤ (x9_1 : Int) := of_decide_eq_true (by first | (with_reducible assumption) | assumption)
              have q177 : x9_1 < (l0.length : Int) := of_decide_eq_true (by first | (with_reducible assumption) | assumption)
              obtain ⟨ad177, e177, hx177_0⟩ := Kd.at_int HR0.out x9_1 p177 q177
              cases e177
              replace hx177_0 := (HB.out.cell (World.block_lt_of_cell? w _ hx177_0)).trans hx177_0
              replace p177 := eq_true p177
              replace q177 := eq_true q177
              go_wp2_with (first | ((with_reducible refine gate_callee (f := 63) rfl ?_); refine goesL_ (some 14) rfl rfl Try.func63 (by kernel_rfl) rfl #[.int .i64 (rd l0 x9_1)] rfl (by (try simp only [List.map_toArray, List.map_cons, List.map_nil]); first | done | rfl | (simp only [List.length_drop, List.length_take]; rfl)) ?_; (with_reducible refine (text_isPoint.calls (rd l0 x9_1) false _ A5.out).mono ?_); rintro e w' ⟨rfl, ⟨nd, rfl⟩⟩; refine ⟨_, rfl, ?_⟩))
              go_ret2
              exact ⟨by first | rfl | (simp [errW_none, errW_some] <;> rfl) | (simp [*, errW_none, errW_some] <;> rfl), by repeat (first | (with_reducible first | exact HB.out | apply below_alloc | apply pw_below_drewN | apply below_drew1) | exact HB.out)⟩
          · rw [if_neg c4] at H
            exact absurd H (by simp)
        · rw [if_neg c3] at H
          exact absurd H (by simp)
      · rw [if_neg c2] at H
        have c2b0 : decide (x9_1 < (l0.length : Int)) = false := decide_eq_false c2
        clear c2
        simp only [Option.some.injEq, Prod.mk.injEq] at H
        obtain ⟨rfl, rfl⟩ := H
        have hcv10 := own_string (P := Try.prog) Try.underlying77 Try.underlying5 Try.underlying9 (Kd.own_of_R HO_4.out)
        go_wp2
        go_ret2
        exact ⟨by first | rfl | (simp [errW_none, errW_some] <;> rfl) | (simp [*, errW_none, errW_some] <;> rfl), by repeat (first | (with_reducible first | exact HB.out | apply below_alloc | apply pw_below_drewN | apply below_drew1) | exact HB.out)⟩

/-! ### delta_Apply: function 14 -/
def delta_Apply.l0 : Nat → List Int → ByteArray → List (S36) → Int → Int → Option (ByteArray × Int)
  | 0, _, _, _, _, _ => none
  | k + 1, x6, x10, x37, x38, x39 => if x39 < x38 then (if 0 ≤ x39 then (if x39 < (x37.length : Int) then (if ((rd_T36 x37 x39).f0) = 1 then (if 0 ≤ ((rd_T36 x37 x39).f1) then (if ((rd_T36 x37 x39).f1) ≤ (x6.length : Int) then ((text_Text.f k (x6.take (((rd_T36 x37 x39).f1) : Int).toNat)).bind fun bt194 => (if x10.size + bt194.1.size ≤ 9223372036854775807 then (if (x10 ++ bt194.1).size + ((rd_T36 x37 x39).f2).size ≤ 9223372036854775807 then (delta_Apply.l0 k (x6.drop (((rd_T36 x37 x39).f1) : Int).toNat) ((x10 ++ bt194.1) ++ ((rd_T36 x37 x39).f2)) x37 x38 (wrap64 (x39 + 1))) else (none)) else (none))) else (none)) else (none)) else (if 0 ≤ ((rd_T36 x37 x39).f1) then (if ((rd_T36 x37 x39).f1) ≤ (x6.length : Int) then (if x10.size + ((rd_T36 x37 x39).f2).size ≤ 9223372036854775807 then (delta_Apply.l0 k (x6.drop (((rd_T36 x37 x39).f1) : Int).toNat) (x10 ++ ((rd_T36 x37 x39).f2)) x37 x38 (wrap64 (x39 + 1))) else (none)) else (none)) else (none))) else (none)) else (none)) else (some (x10, 0))
def delta_Apply.f (k : Nat) (a0 : ByteArray) (l1 : List (S36)) : Option (ByteArray × Int) := (text_Points.f k a0).bind fun bt182 => ((delta_Base.f k l1).bind fun bt186 => (if bt182.2 = true then (if bt186.2 = 0 then (if bt186.1 = (bt182.1.length : Int) then (delta_Apply.l0 k bt182.1 (⟨#[]⟩ : ByteArray) l1 (l1.length : Int) 0) else (some ((⟨#[]⟩ : ByteArray), 91))) else (some ((⟨#[]⟩ : ByteArray), bt186.2))) else (some ((⟨#[]⟩ : ByteArray), 10))))
theorem delta_Apply.mono_l : ∀ k, (∀ y0 y1 y2 y3 y4, LeO (delta_Apply.l0 k y0 y1 y2 y3 y4) (delta_Apply.l0 (k + 1) y0 y1 y2 y3 y4))
  | 0 => fun _ _ _ _ _ r h => by simp [delta_Apply.l0] at h
  | k + 1 => by
    have ih0 := delta_Apply.mono_l k
    · intro y0 y1 y2 y3 y4
      unfold delta_Apply.l0
      repeat' first
      | (with_reducible exact ih0 _ _ _ _ _)
      | (with_reducible exact delta_Base.mono _ _)
      | (with_reducible exact text_Points.mono _ _)
      | (with_reducible exact text_Text.mono _ _)
      | (with_reducible exact LeO.refl _)
      | (with_reducible exact LeO.none _)
      | (with_reducible refine LeO.ite ?_ ?_)
      | (with_reducible refine LeO.bind ?_ (fun _ => ?_))
      | exact ih0 _ _ _ _ _
      | exact delta_Base.mono _ _
      | exact text_Points.mono _ _
      | exact text_Text.mono _ _
      | exact LeO.none _
      | refine LeO.ite ?_ ?_
      | refine LeO.bind ?_ (fun _ => ?_)
theorem delta_Apply.mono : ∀ a0 a1 k, LeO (delta_Apply.f k a0 a1) (delta_Apply.f (k + 1) a0 a1) := by
  intro a0 a1 k
  have ih0 := delta_Apply.mono_l k
  unfold delta_Apply.f
  repeat' first
      | (with_reducible exact ih0 _ _ _ _ _)
      | (with_reducible exact delta_Base.mono _ _)
      | (with_reducible exact text_Points.mono _ _)
      | (with_reducible exact text_Text.mono _ _)
      | (with_reducible exact LeO.refl _)
      | (with_reducible exact LeO.none _)
      | (with_reducible refine LeO.ite ?_ ?_)
      | (with_reducible refine LeO.bind ?_ (fun _ => ?_))
      | exact ih0 _ _ _ _ _
      | exact delta_Base.mono _ _
      | exact text_Points.mono _ _
      | exact text_Text.mono _ _
      | exact LeO.none _
      | refine LeO.ite ?_ ?_
      | refine LeO.bind ?_ (fun _ => ?_)
set_option maxHeartbeats 8000000 in
set_option maxRecDepth 100000 in
theorem delta_Apply.calls (k : Nat) (a0 : ByteArray) (A1 : Option Addr) (c1 : Nat) (l1 : List (S36)) (r1 : ByteArray) (r2 : Int) (w : World) (hr1 : Kd.C k36 w A1 l1.length l1) (hc1 : l1.length ≤ c1) (h : delta_Apply.f k a0 l1 = some (r1, r2)) :
    Calls Try.prog 14 #[.string a0, .slice A1 l1.length c1] w fun e w' => e = .returned (.tuple #[.string r1, .int .i64 r2]) ∧ Below w.heap.size w w' := by
  have hu36 := Try.underlying36
  have HR1 := Aside0.mk hr1
  have HC1 := Aside0.mk hc1
  clear hr1 hc1
  have HB := Aside0.mk (Below.refl w.heap.size w)
  have H : ((text_Points.f k a0).bind fun bt182 => ((delta_Base.f k l1).bind fun bt186 => (if bt182.2 = true then (if bt186.2 = 0 then (if bt186.1 = (bt182.1.length : Int) then (delta_Apply.l0 k bt182.1 (⟨#[]⟩ : ByteArray) l1 (l1.length : Int) 0) else (some ((⟨#[]⟩ : ByteArray), 91))) else (some ((⟨#[]⟩ : ByteArray), bt186.2))) else (some ((⟨#[]⟩ : ByteArray), 10))))) = some (r1, r2) := h
  clear h
  replace H := Option.bind_eq_some_iff.mp H
  obtain ⟨⟨t182, t183⟩, A30, H⟩ := H
  replace H : ((delta_Base.f k l1).bind fun bt186 => (if t183 = true then (if bt186.2 = 0 then (if bt186.1 = (t182.length : Int) then (delta_Apply.l0 k t182 (⟨#[]⟩ : ByteArray) l1 (l1.length : Int) 0) else (some ((⟨#[]⟩ : ByteArray), 91))) else (some ((⟨#[]⟩ : ByteArray), bt186.2))) else (some ((⟨#[]⟩ : ByteArray), 10)))) = some (r1, r2) := H
  have A3 := Aside0.mk A30
  clear A30
  replace H := Option.bind_eq_some_iff.mp H
  obtain ⟨⟨t186, t187⟩, A40, H⟩ := H
  replace H : (if t183 = true then (if t187 = 0 then (if t186 = (t182.length : Int) then (delta_Apply.l0 k t182 (⟨#[]⟩ : ByteArray) l1 (l1.length : Int) 0) else (some ((⟨#[]⟩ : ByteArray), 91))) else (some ((⟨#[]⟩ : ByteArray), t187))) else (some ((⟨#[]⟩ : ByteArray), 10))) = some (r1, r2) := H
  have A4 := Aside0.mk A40
  clear A40
  by_cases c5 : t183 = true
  · subst c5
    have H1 : (if t187 = 0 then (if t186 = (t182.length : Int) then (delta_Apply.l0 k t182 (⟨#[]⟩ : ByteArray) l1 (l1.length : Int) 0) else (some ((⟨#[]⟩ : ByteArray), 91))) else (some ((⟨#[]⟩ : ByteArray), t187))) = some (r1, r2) := by rw [if_pos rfl] at H; exact H
    clear H
    have H := H1
    clear H1
    by_cases c6 : t187 = 0
    · rw [if_pos c6] at H
      have c6b0 : (t187 == 0) = true := beq_iff_eq.mpr c6
      have c6b1 : (t187 != 0) = false := bne_eq_false_iff_eq.mpr c6
      clear c6
      by_cases c7 : t186 = (t182.length : Int)
      · rw [if_pos c7] at H
        have c7b0 : (t186 == (t182.length : Int)) = true := beq_iff_eq.mpr c7
        have c7b1 : (t186 != (t182.length : Int)) = false := bne_eq_false_iff_eq.mpr c7
        clear c7
        have H' := Aside0.mk H
        clear H
        go_enter Try.func14, Try.ntmps14
        go_wp2_with (first | ((with_reducible refine gate_callee (f := 38) rfl ?_); refine goesL_ (some 17) rfl rfl Try.func38 (by kernel_rfl) rfl #[.string a0] rfl (by (try simp only [List.map_toArray, List.map_cons, List.map_nil]); first | done | rfl | (simp only [List.length_drop, List.length_take]; rfl)) ?_; (with_reducible refine (text_Points.calls k a0 t182 true _ A3.out).mono ?_); rintro e w8 ⟨v184, rfl, ho0, hb⟩; refine ⟨_, rfl, ?_⟩; have n0_ := Aside0.mk (Kd.R_lower ho0 (below_size (by repeat (first | (with_reducible first | exact HB.out | apply below_alloc | apply pw_below_drewN | apply below_drew1) | exact HB.out)))); have n1_ := Aside0.mk (below_step (by repeat (first | (with_reducible first | exact HB.out | apply below_alloc | apply pw_below_drewN | apply below_drew1) | exact HB.out)) hb); clear HB; have HO185 := n0_; have HB := n1_; clear n0_ n1_; (try clear hb); (try clear hb2); (try clear hk); (try clear hi); (try clear ho0)) | ((with_reducible refine gate_callee (f := 19) rfl ?_); refine goesL_ (some 22) rfl rfl Try.func19 (by kernel_rfl) rfl #[.slice A1 l1.length c1] rfl (by (try simp only [List.map_toArray, List.map_cons, List.map_nil]); first | done | rfl | (simp only [List.length_drop, List.length_take]; rfl)) ?_; (with_reducible refine (delta_Base.calls k _ _ l1 t186 t187 _ ?side1 ?side2 A4.out).mono ?_); (case side1 => repeat (first | exact (Kd.C_below HR1.out HB.out) | (with_reducible refine Kd.C_alloc ?_ _) | (with_reducible refine Kd.C_drewN ?_ _) | (with_reducible refine Kd.C_drew ?_))); (case side2 => exact HC1.out); rintro e w9 ⟨rfl, hb⟩; refine ⟨_, rfl, ?_⟩; have n0_ := Aside0.mk (Kd.R_below (by (with_reducible repeat (first | apply Kd.R_alloc | apply Kd.R_drewN | apply Kd.R_drew)); exact HO185.out) hb); have n1_ := Aside0.mk (below_step (by repeat (first | (with_reducible first | exact HB.out | apply below_alloc | apply pw_below_drewN | apply below_drew1) | exact HB.out)) hb); clear HO185; clear HB; have HO185 := n0_; have HB := n1_; clear n0_ n1_; (try clear hb); (try clear hb2); (try clear hk); (try clear hi); obtain ⟨Ao10, co10, eo10⟩ := Kd.R_slice HO185.out; subst eo10))
        go_loopg [6, 10, 39] k (fun kq v6 v10 v39 w' => ∃ (x6_1 : List Int) (x10_1 : ByteArray) (x39_1 : Int), v10 = .string x10_1 ∧ v39 = .int .i64 x39_1 ∧ Aside0 (delta_Apply.l0 kq x6_1 x10_1 l1 (l1.length : Int) x39_1 = some (r1, r2)) ∧ Aside0 (kq ≤ k) ∧ Aside0 (Kd.Q (Kd.int .i64) 3 w' w.heap.size (fun _ => True) v6 x6_1) ∧ Aside0 (Below w.heap.size w w'))
        case atStart => exact ⟨(t182), ((⟨#[]⟩ : ByteArray)), (0), (by first | rfl | (simp; done) | (simp [*]; done) | (simp; (generalize ByteArray.toList _ = l_); cases l_ <;> rfl)), (by first | rfl | (simp; done) | (simp [*]; done) | (simp; (generalize ByteArray.toList _ = l_); cases l_ <;> rfl)), H', ⟨Nat.le_refl _⟩, ⟨Kd.Q_of_R (by (with_reducible repeat (first | apply Kd.R_alloc | apply Kd.R_drewN | apply Kd.R_drew)); exact HO185.out)⟩, ⟨by repeat (first | (with_reducible first | exact HB.out | apply below_alloc | apply pw_below_drewN | apply below_drew1) | exact HB.out)⟩⟩
        case round =>
          clear H'
          try clear c1
          try clear p2
          try clear c3
          try clear c5
          try clear c6
          try clear c6b0
          try clear c6b1
          try clear c7
          try clear c7b0
          try clear c7b1
          obtain ⟨x6_1, x10_1, x39_1, rfl, rfl, HA, HK1, HO_6, HB⟩ := hrel
          cases gk with
          | zero => exact absurd HA.out (by simp [delta_Apply.l0])
          | succ k1 =>
            have H := HA.out
            clear HA
            simp only [delta_Apply.l0] at H
            by_cases c11 : x39_1 < (l1.length : Int)
            · rw [if_pos c11] at H
              have c11b0 : decide (x39_1 < (l1.length : Int)) = true := decide_eq_true c11
              clear c11
              by_cases c12 : 0 ≤ x39_1
              · rw [if_pos c12] at H
                have c12b0 : decide (0 ≤ x39_1) = true := decide_eq_true c12
                clear c12
                by_cases c13 : x39_1 < (l1.length : Int)
                · rw [if_pos c13] at H
                  have c13b0 : decide (x39_1 < (l1.length : Int)) = true := decide_eq_true c13
                  clear c13
                  by_cases c14 : ((rd_T36 l1 x39_1).f0) = 1
                  · rw [if_pos c14] at H
                    have c14b0 : (((rd_T36 l1 x39_1).f0) == 1) = true := beq_iff_eq.mpr c14
                    have c14b1 : (((rd_T36 l1 x39_1).f0) != 1) = false := bne_eq_false_iff_eq.mpr c14
                    clear c14
                    by_cases c15 : 0 ≤ ((rd_T36 l1 x39_1).f1)
                    · rw [if_pos c15] at H
                      have c15b0 := eq_true c15
                      have c15b1 : decide (0 ≤ ((rd_T36 l1 x39_1).f1)) = true := decide_eq_true c15
                      clear c15
                      by_cases c16 : ((rd_T36 l1 x39_1).f1) ≤ (x6_1.length : Int)
                      · rw [if_pos c16] at H
                        have c16b0 := eq_true c16
                        have c16b1 : decide (((rd_T36 l1 x39_1).f1) ≤ (x6_1.length : Int)) = true := decide_eq_true c16
                        clear c16
                        obtain ⟨y190, hy190⟩ : ∃ y_ : List Int, y_ = (x6_1.take (((rd_T36 l1 x39_1).f1) : Int).toNat) := ⟨_, rfl⟩
                        replace H : ((text_Text.f k1 y190).bind fun bt194 => (if x10_1.size + bt194.1.size ≤ 9223372036854775807 then (if (x10_1 ++ bt194.1).size + ((rd_T36 l1 x39_1).f2).size ≤ 9223372036854775807 then (delta_Apply.l0 k1 (x6_1.drop (((rd_T36 l1 x39_1).f1) : Int).toNat) ((x10_1 ++ bt194.1) ++ ((rd_T36 l1 x39_1).f2)) l1 (l1.length : Int) (wrap64 (x39_1 + 1))) else (none)) else (none))) = some (r1, r2) := by first | (rw [hy190]; with_reducible exact H) | (have H2_ := (Option.bind_some _ _).symm.trans H; rw [hy190]; with_reducible exact H2_) | (have H2_ := (Option.bind_some _ _).symm.trans H; with_reducible exact H2_) | with_reducible exact H | (rw [hy190]; exact H) | exact H
                        have Ny190 := Aside0.mk hy190
                        clear hy190
                        replace H := Option.bind_eq_some_iff.mp H
                        obtain ⟨⟨t194, t195⟩, A170, H⟩ := H
                        replace H : (if x10_1.size + t194.size ≤ 9223372036854775807 then (if (x10_1 ++ t194).size + ((rd_T36 l1 x39_1).f2).size ≤ 9223372036854775807 then (delta_Apply.l0 k1 (x6_1.drop (((rd_T36 l1 x39_1).f1) : Int).toNat) ((x10_1 ++ t194) ++ ((rd_T36 l1 x39_1).f2)) l1 (l1.length : Int) (wrap64 (x39_1 + 1))) else (none)) else (none)) = some (r1, r2) := H
                        have A17 := Aside0.mk A170
                        clear A170
                        by_cases c18 : x10_1.size + t194.size ≤ 9223372036854775807
                        · rw [if_pos c18] at H
                          have c18b0 := eq_true c18
                          have c18b1 : decide (x10_1.size + t194.size ≤ 9223372036854775807) = true := decide_eq_true c18
                          try have c18b2 : (9223372036854775807 < x10_1.size + t194.size) = False := eq_false (Nat.not_lt.2 c18)
                          have c19b0 := eq_true (of_decide_eq_true (by first | (with_reducible assumption) | assumption) : ((rd_T36 l1 x39_1).f1) ≤ (x6_1.length : Int))
                          obtain ⟨y196, hy196⟩ : ∃ y_ : List Int, y_ = (x6_1.drop (((rd_T36 l1 x39_1).f1) : Int).toNat) := ⟨_, rfl⟩
                          replace H : (if (x10_1 ++ t194).size + ((rd_T36 l1 x39_1).f2).size ≤ 9223372036854775807 then (delta_Apply.l0 k1 y196 ((x10_1 ++ t194) ++ ((rd_T36 l1 x39_1).f2)) l1 (l1.length : Int) (wrap64 (x39_1 + 1))) else (none)) = some (r1, r2) := by first | (rw [hy196]; with_reducible exact H) | (have H2_ := (Option.bind_some _ _).symm.trans H; rw [hy196]; with_reducible exact H2_) | (have H2_ := (Option.bind_some _ _).symm.trans H; with_reducible exact H2_) | with_reducible exact H | (rw [hy196]; exact H) | exact H
                          have Ny196 := Aside0.mk hy196
                          clear hy196
                          by_cases c20 : (x10_1 ++ t194).size + ((rd_T36 l1 x39_1).f2).size ≤ 9223372036854775807
                          · rw [if_pos c20] at H
                            have c20b0 := eq_true c20
                            have c20b1 : decide ((x10_1 ++ t194).size + ((rd_T36 l1 x39_1).f2).size ≤ 9223372036854775807) = true := decide_eq_true c20
                            try have c20b2 : (9223372036854775807 < (x10_1 ++ t194).size + ((rd_T36 l1 x39_1).f2).size) = False := eq_false (Nat.not_lt.2 c20)
                            try (have c20b3 := c20b2; rw [ByteArray.size_append] at c20b3)
                            have H' := Aside0.mk H
                            clear H
                            have p188 : 0 ≤ (x39_1 : Int) := of_decide_eq_true (by first | (with_reducible assumption) | assumption)
                            have q188 : x39_1 < (l1.length : Int) := of_decide_eq_true (by first | (with_reducible assumption) | assumption)
                            obtain ⟨ad188, e188, hx188_0, hx188_1, hx188_2⟩ := at_T36 HR1.out x39_1 p188 q188
                            cases e188
                            replace hx188_0 := (HB.out.cell (World.block_lt_of_cell? w _ hx188_0)).trans hx188_0
                            replace hx188_1 := (HB.out.cell (World.block_lt_of_cell? w _ hx188_1)).trans hx188_1
                            replace hx188_2 := (HB.out.cell (World.block_lt_of_cell? w _ hx188_2)).trans hx188_2
                            replace p188 := eq_true p188
                            replace q188 := eq_true q188
                            go_wp2_with (first | ((with_reducible refine gate_dst (N := 12) rfl ?_); refine box_event ?hg (N := 12) ?hd (cs := #[.int .i64 0, .int .i64 0, .string (⟨#[]⟩ : ByteArray)]) (t := 36) ?hr ?_; (case hd => rfl); (case hg => rfl); (case hr => first | (go_simp; done) | (go_simp; rfl)); intro gb189 hg w21 hbox hb; have n0_ := Aside0.mk (Kd.Q_below (by (with_reducible repeat (first | apply Kd.Q_alloc | apply Kd.Q_drewN | apply Kd.Q_drew)); exact HO_6.out) hb); have n1_ := Aside0.mk (below_step (by repeat (first | (with_reducible first | exact HB.out | apply below_alloc | apply pw_below_drewN | apply below_drew1) | exact HB.out)) hb); have n2_ := Aside0.mk (hbox); have n3_ := Aside0.mk ((by rw [hg]; exact (below_size (by repeat (first | (with_reducible first | exact HB.out | apply below_alloc | apply pw_below_drewN | apply below_drew1) | exact HB.out))) : w.heap.size ≤ gb189)); have n4_ := Aside0.mk ((by rw [hg]; exact (below_size (by repeat (first | (with_reducible first | exact HB.out | apply below_alloc | apply pw_below_drewN | apply below_drew1) | exact HB.out))) : w.heap.size ≤ gb189)); clear HO_6; clear HB; have HO_6 := n0_; have HB := n1_; have BK189 := n2_; have GW189 := n3_; have GE189 := n4_; clear n0_ n1_ n2_ n3_ n4_; clear hb hbox hg; have hcz22_0 : w21.cell? ⟨gb189, 0, none⟩ = some (.int .i64 0) := (blk_cell BK189.out 0).trans rfl; have hcz22_1 : w21.cell? ⟨gb189, 1, none⟩ = some (.int .i64 0) := (blk_cell BK189.out 1).trans rfl; have hcz22_2 : w21.cell? ⟨gb189, 2, none⟩ = some (.string (⟨#[]⟩ : ByteArray)) := (blk_cell BK189.out 2).trans rfl; have hfz22_0 := blk_frozen BK189.out 0; have hfz22_1 := blk_frozen BK189.out 1; have hfz22_2 := blk_frozen BK189.out 2) | ((with_reducible refine gate_store (t := 36) (p := 12) rfl ?_); refine store_event (t := 36) (p := 12) (v := ?vo_w23) (w1 := (((w21.setCell ⟨gb189, 0, none⟩ (.int .i64 ((rd_T36 l1 x39_1).f0))).setCell ⟨gb189, 1, none⟩ (.int .i64 ((rd_T36 l1 x39_1).f1))).setCell ⟨gb189, 2, none⟩ (.string ((rd_T36 l1 x39_1).f2)))) ?hg ?ho ?hn ?hr ?_; (case ho => rfl); (case hg => rfl); (case hn => rfl); (case hr => first | (go_simp; done) | (go_simp; rfl)); intro w23 hw; have n0_ : Aside0 (Kd.Q (Kd.int .i64) 3 w23 w.heap.size (fun _ => True) u6 x6_1) := ⟨(by rw [hw]; exact (by (with_reducible repeat (first | apply Kd.Q_alloc | apply Kd.Q_drewN | apply Kd.Q_drew)); exact Kd.Q_mono (Kd.Q_far (p := ⟨gb189, 2, none⟩) (Kd.Q_far (p := ⟨gb189, 1, none⟩) (Kd.Q_far (p := ⟨gb189, 0, none⟩) (Kd.Q_types HO_6.out BK189.out (by decide)) (fun _ hk => hk.2) (.int .i64 ((rd_T36 l1 x39_1).f0))) (fun _ hk => hk.2) (.int .i64 ((rd_T36 l1 x39_1).f1))) (fun _ hk => hk.2) (.string ((rd_T36 l1 x39_1).f2))) (fun _ hk => trivial)))⟩; have n1_ : Aside0 (w23.heap[gb189]? = some (.cells #[.int .i64 ((rd_T36 l1 x39_1).f0), .int .i64 ((rd_T36 l1 x39_1).f1), .string ((rd_T36 l1 x39_1).f2)] 36 (0, 0))) := ⟨(by rw [hw]; exact (by (with_reducible repeat (first | refine blk_drewN ?_ _ | refine blk_drew ?_ | refine blk_alloc ?_ _)); refine blk_put (cs := #[.int .i64 ((rd_T36 l1 x39_1).f0), .int .i64 ((rd_T36 l1 x39_1).f1), .string (⟨#[]⟩ : ByteArray)]) ?_ 2 _ rfl; (with_reducible repeat (first | refine blk_drewN ?_ _ | refine blk_drew ?_ | refine blk_alloc ?_ _)); refine blk_put (cs := #[.int .i64 ((rd_T36 l1 x39_1).f0), .int .i64 0, .string (⟨#[]⟩ : ByteArray)]) ?_ 1 _ rfl; (with_reducible repeat (first | refine blk_drewN ?_ _ | refine blk_drew ?_ | refine blk_alloc ?_ _)); refine blk_put (cs := #[.int .i64 0, .int .i64 0, .string (⟨#[]⟩ : ByteArray)]) ?_ 0 _ rfl; (with_reducible repeat (first | refine blk_drewN ?_ _ | refine blk_drew ?_ | refine blk_alloc ?_ _)); exact BK189.out))⟩; have n2_ : Aside0 (Below w.heap.size w w23) := ⟨(by rw [hw]; exact (by repeat (first | (with_reducible first | exact HB.out | apply below_alloc | apply pw_below_drewN | apply below_drew1 | refine below_set ?_ GE189.out) | exact HB.out)))⟩; clear hw; clear HO_6; clear BK189; clear HB; have HO_6 := n0_; have BK189 := n1_; have HB := n2_; clear n0_ n1_ n2_; have hcz24_0 : w23.cell? ⟨gb189, 0, none⟩ = some (.int .i64 ((rd_T36 l1 x39_1).f0)) := (blk_cell BK189.out 0).trans rfl; have hcz24_1 : w23.cell? ⟨gb189, 1, none⟩ = some (.int .i64 ((rd_T36 l1 x39_1).f1)) := (blk_cell BK189.out 1).trans rfl; have hcz24_2 : w23.cell? ⟨gb189, 2, none⟩ = some (.string ((rd_T36 l1 x39_1).f2)) := (blk_cell BK189.out 2).trans rfl; have hfz24_0 := blk_frozen BK189.out 0; have hfz24_1 := blk_frozen BK189.out 1; have hfz24_2 := blk_frozen BK189.out 2; obtain ⟨Ao26, co26, eo26, _⟩ := Kd.Q_slice HO_6.out; subst eo26; have q25 : (((rd_T36 l1 x39_1).f1) : Int) ≤ ((x6_1.length : Int) : Int) := of_decide_eq_true (by first | (with_reducible assumption) | assumption); obtain ⟨i025, hi025, _, hsz25, _⟩ := info_parts info3; have hroom25 : x6_1.length ≤ co26 := (Kd.Q_reads' HO_6.out).2.1; have hC25 : Kd.C (Kd.int .i64) _ Ao26 x6_1.length x6_1 := (Kd.Q_reads' HO_6.out).2.2; have hcut25 := cut_to (P := Try.prog) 48 3 .i64 Try.underlying48 hi025 Ao26 x6_1.length co26 ((rd_T36 l1 x39_1).f1) (of_decide_eq_true (by first | (with_reducible assumption) | assumption)) q25 hroom25; have hr25 := Kd.C_take (m := (((rd_T36 l1 x39_1).f1) : Int).toNat) hC25 (by omega); have hy25 : y190.length = (((rd_T36 l1 x39_1).f1) : Int).toNat := (by rw [Ny190.out, List.length_take]; omega); rw [← Ny190.out] at hr25; rw [← hy25] at hcut25; have HR193 := Aside0.mk hr25; have HC193 := Aside0.mk (show y190.length ≤ co26 from by omega); clear hr25 hC25 hroom25 hi025 hsz25; have KY25 := Aside0.mk hy25; clear hy25; have KL25 := Aside0.mk (show (((rd_T36 l1 x39_1).f1) : Int).toNat ≤ x6_1.length from by omega); replace q25 := eq_true q25) | ((with_reducible refine gate_callee (f := 39) rfl ?_); refine goesL_ (some 51) rfl rfl Try.func39 (by kernel_rfl) rfl #[.slice Ao26 y190.length co26] rfl (by (try simp only [List.map_toArray, List.map_cons, List.map_nil]); first | done | rfl | (simp only [List.length_drop, List.length_take]; rfl)) ?_; (with_reducible refine (text_Text.calls k1 _ _ y190 t194 t195 _ ?side1 ?side2 A17.out).mono ?_); (case side1 => repeat (first | exact (by repeat (first | (with_reducible exact HR193.out) | (with_reducible refine Kd.C_alloc ?_ _) | (with_reducible refine Kd.C_drewN ?_ _) | (with_reducible refine Kd.C_drew ?_) | exact HR193.out)) | (with_reducible refine Kd.C_alloc ?_ _) | (with_reducible refine Kd.C_drewN ?_ _) | (with_reducible refine Kd.C_drew ?_))); (case side2 => exact HC193.out); rintro e w27 ⟨rfl, hb⟩; refine ⟨_, rfl, ?_⟩; have n0_ := Aside0.mk (Kd.Q_below (by (with_reducible repeat (first | apply Kd.Q_alloc | apply Kd.Q_drewN | apply Kd.Q_drew)); exact HO_6.out) hb); have n1_ := Aside0.mk (blk_below (g := gb189) (o := .cells #[.int .i64 ((rd_T36 l1 x39_1).f0), .int .i64 ((rd_T36 l1 x39_1).f1), .string ((rd_T36 l1 x39_1).f2)] 36 (0, 0)) (by (with_reducible repeat (first | refine blk_drewN ?_ _ | refine blk_drew ?_ | refine blk_alloc ?_ _)); exact BK189.out) hb); have n2_ := Aside0.mk (Kd.C_below (by repeat (first | (with_reducible exact HR193.out) | (with_reducible refine Kd.C_alloc ?_ _) | (with_reducible refine Kd.C_drewN ?_ _) | (with_reducible refine Kd.C_drew ?_) | exact HR193.out)) hb); have n3_ := Aside0.mk (below_step (by repeat (first | (with_reducible first | exact HB.out | apply below_alloc | apply pw_below_drewN | apply below_drew1 | refine below_set ?_ GE189.out) | exact HB.out)) hb); clear HO_6; clear BK189; clear HR193; clear HB; have HO_6 := n0_; have BK189 := n1_; have HR193 := n2_; have HB := n3_; clear n0_ n1_ n2_ n3_; (try clear hb); (try clear hb2); (try clear hk); (try clear hi); have hcz28_0 : w27.cell? ⟨gb189, 0, none⟩ = some (.int .i64 ((rd_T36 l1 x39_1).f0)) := (blk_cell BK189.out 0).trans rfl; have hcz28_1 : w27.cell? ⟨gb189, 1, none⟩ = some (.int .i64 ((rd_T36 l1 x39_1).f1)) := (blk_cell BK189.out 1).trans rfl; have hcz28_2 : w27.cell? ⟨gb189, 2, none⟩ = some (.string ((rd_T36 l1 x39_1).f2)) := (blk_cell BK189.out 2).trans rfl; have hfz28_0 := blk_frozen BK189.out 0; have hfz28_1 := blk_frozen BK189.out 1; have hfz28_2 := blk_frozen BK189.out 2; have q29 : (((rd_T36 l1 x39_1).f1) : Int) ≤ ((x6_1.length : Int) : Int) := of_decide_eq_true (by first | (with_reducible assumption) | assumption); obtain ⟨i029, hi029, _, hsz29, _⟩ := info_parts info3; have hcut29 := cut_from (P := Try.prog) 48 3 .i64 Try.underlying48 hi029 1 hsz29 Ao26 x6_1.length co26 ((rd_T36 l1 x39_1).f1) (of_decide_eq_true (by first | (with_reducible assumption) | assumption)) q29; have hr29 := Kd.Q_drop (k := (((rd_T36 l1 x39_1).f1) : Int).toNat) HO_6.out (by omega); obtain ⟨A29, hA29⟩ : ∃ A1, A1 = (if co26 = (((rd_T36 l1 x39_1).f1) : Int).toNat then Ao26 else (Ao26 : Option Addr).map (·.add ((((rd_T36 l1 x39_1).f1) : Int).toNat * 1))) := ⟨_, rfl⟩; obtain ⟨c29, hc29⟩ : ∃ c1, c1 = co26 - (((rd_T36 l1 x39_1).f1) : Int).toNat := ⟨_, rfl⟩; have hy29 : y196.length = x6_1.length - (((rd_T36 l1 x39_1).f1) : Int).toNat := (by rw [Ny196.out, List.length_drop]); rw [← Ny196.out] at hr29; rw [← hy29, ← hA29, ← hc29] at hcut29; replace hr29 : Kd.Q (Kd.int .i64) 3 w27 w.heap.size (fun _ => True) (.slice A29 y196.length c29) y196 := (by rw [hA29, hc29, hy29]; exact hr29); have HE29 : Aside0 ((Value.slice A29 y196.length c29).ownBlock = (.slice Ao26 x6_1.length co26 : Value).ownBlock) := ⟨by rw [hA29]; split <;> (cases (Ao26 : Option Addr) <;> first | rfl | (simp only [Option.map, Value.ownBlock]; first | rfl | (unfold Addr.add; split <;> rfl) | simp [Addr.add]))⟩; clear hy29 hi029 hsz29 HO_6 hA29 hc29; have HO198 := Aside0.mk hr29; clear hr29; replace q29 := eq_true q29))
                            go_roundg k1
                            case measure => have := HK1.out; omega
                            case rel => exact ⟨(y196), ((x10_1 ++ t194) ++ ((rd_T36 l1 x39_1).f2)), (wrap64 (x39_1 + 1)), (by first | rfl | (simp; done) | (simp [*]; done) | (simp; (generalize ByteArray.toList _ = l_); cases l_ <;> rfl)), (by first | rfl | (simp; done) | (simp [*]; done) | (simp; (generalize ByteArray.toList _ = l_); cases l_ <;> rfl)), H', ⟨by have := HK1.out; omega⟩, ⟨by (with_reducible repeat (first | apply Kd.Q_alloc | apply Kd.Q_drewN | apply Kd.Q_drew)); exact HO198.out⟩, ⟨by repeat (first | (with_reducible first | exact HB.out | apply below_alloc | apply pw_below_drewN | apply below_drew1 | refine below_set ?_ GE189.out) | exact HB.out)⟩⟩
                          · rw [if_neg c20] at H
                            exact absurd H (by simp)
                        · rw [if_neg c18] at H
                          exact absurd H (by simp)
                      · rw [if_neg c16] at H
                        exact absurd H (by simp)
                    · rw [if_neg c15] at H
                      exact absurd H (by simp)
                  · rw [if_neg c14] at H
                    have c14b0 : (((rd_T36 l1 x39_1).f0) == 1) = false := beq_eq_false_iff_ne.mpr c14
                    have c14b1 : (((rd_T36 l1 x39_1).f0) != 1) = true := bne_iff_ne.mpr c14
                    by_cases c30 : 0 ≤ ((rd_T36 l1 x39_1).f1)
                    · rw [if_pos c30] at H
                      have c30b0 := eq_true c30
                      have c30b1 : decide (0 ≤ ((rd_T36 l1 x39_1).f1)) = true := decide_eq_true c30
                      clear c30
                      by_cases c31 : ((rd_T36 l1 x39_1).f1) ≤ (x6_1.length : Int)
                      · rw [if_pos c31] at H
                        have c31b0 := eq_true c31
                        have c31b1 : decide (((rd_T36 l1 x39_1).f1) ≤ (x6_1.length : Int)) = true := decide_eq_true c31
                        clear c31
                        obtain ⟨y199, hy199⟩ : ∃ y_ : List Int, y_ = (x6_1.drop (((rd_T36 l1 x39_1).f1) : Int).toNat) := ⟨_, rfl⟩
                        replace H : (if x10_1.size + ((rd_T36 l1 x39_1).f2).size ≤ 9223372036854775807 then (delta_Apply.l0 k1 y199 (x10_1 ++ ((rd_T36 l1 x39_1).f2)) l1 (l1.length : Int) (wrap64 (x39_1 + 1))) else (none)) = some (r1, r2) := by first | (rw [hy199]; with_reducible exact H) | (have H2_ := (Option.bind_some _ _).symm.trans H; rw [hy199]; with_reducible exact H2_) | (have H2_ := (Option.bind_some _ _).symm.trans H; with_reducible exact H2_) | with_reducible exact H | (rw [hy199]; exact H) | exact H
                        have Ny199 := Aside0.mk hy199
                        clear hy199
                        by_cases c32 : x10_1.size + ((rd_T36 l1 x39_1).f2).size ≤ 9223372036854775807
                        · rw [if_pos c32] at H
                          have c32b0 := eq_true c32
                          have c32b1 : decide (x10_1.size + ((rd_T36 l1 x39_1).f2).size ≤ 9223372036854775807) = true := decide_eq_true c32
                          try have c32b2 : (9223372036854775807 < x10_1.size + ((rd_T36 l1 x39_1).f2).size) = False := eq_false (Nat.not_lt.2 c32)
                          have H' := Aside0.mk H
                          clear H
                          have p188 : 0 ≤ (x39_1 : Int) := of_decide_eq_true (by first | (with_reducible assumption) | assumption)
                          have q188 : x39_1 < (l1.length : Int) := of_decide_eq_true (by first | (with_reducible assumption) | assumption)
                          obtain ⟨ad188, e188, hx188_0, hx188_1, hx188_2⟩ := at_T36 HR1.out x39_1 p188 q188
                          cases e188
                          replace hx188_0 := (HB.out.cell (World.block_lt_of_cell? w _ hx188_0)).trans hx188_0
                          replace hx188_1 := (HB.out.cell (World.block_lt_of_cell? w _ hx188_1)).trans hx188_1
                          replace hx188_2 := (HB.out.cell (World.block_lt_of_cell? w _ hx188_2)).trans hx188_2
                          replace p188 := eq_true p188
                          replace q188 := eq_true q188
                          go_wp2_with (first | ((with_reducible refine gate_dst (N := 12) rfl ?_); refine box_event ?hg (N := 12) ?hd (cs := #[.int .i64 0, .int .i64 0, .string (⟨#[]⟩ : ByteArray)]) (t := 36) ?hr ?_; (case hd => rfl); (case hg => rfl); (case hr => first | (go_simp; done) | (go_simp; rfl)); intro gb189 hg w33 hbox hb; have n0_ := Aside0.mk (Kd.Q_below (by (with_reducible repeat (first | apply Kd.Q_alloc | apply Kd.Q_drewN | apply Kd.Q_drew)); exact HO_6.out) hb); have n1_ := Aside0.mk (below_step (by repeat (first | (with_reducible first | exact HB.out | apply below_alloc | apply pw_below_drewN | apply below_drew1) | exact HB.out)) hb); have n2_ := Aside0.mk (hbox); have n3_ := Aside0.mk ((by rw [hg]; exact (below_size (by repeat (first | (with_reducible first | exact HB.out | apply below_alloc | apply pw_below_drewN | apply below_drew1) | exact HB.out))) : w.heap.size ≤ gb189)); have n4_ := Aside0.mk ((by rw [hg]; exact (below_size (by repeat (first | (with_reducible first | exact HB.out | apply below_alloc | apply pw_below_drewN | apply below_drew1) | exact HB.out))) : w.heap.size ≤ gb189)); clear HO_6; clear HB; have HO_6 := n0_; have HB := n1_; have BK189 := n2_; have GW189 := n3_; have GE189 := n4_; clear n0_ n1_ n2_ n3_ n4_; clear hb hbox hg; have hcz34_0 : w33.cell? ⟨gb189, 0, none⟩ = some (.int .i64 0) := (blk_cell BK189.out 0).trans rfl; have hcz34_1 : w33.cell? ⟨gb189, 1, none⟩ = some (.int .i64 0) := (blk_cell BK189.out 1).trans rfl; have hcz34_2 : w33.cell? ⟨gb189, 2, none⟩ = some (.string (⟨#[]⟩ : ByteArray)) := (blk_cell BK189.out 2).trans rfl; have hfz34_0 := blk_frozen BK189.out 0; have hfz34_1 := blk_frozen BK189.out 1; have hfz34_2 := blk_frozen BK189.out 2) | ((with_reducible refine gate_store (t := 36) (p := 12) rfl ?_); refine store_event (t := 36) (p := 12) (v := ?vo_w35) (w1 := (((w33.setCell ⟨gb189, 0, none⟩ (.int .i64 ((rd_T36 l1 x39_1).f0))).setCell ⟨gb189, 1, none⟩ (.int .i64 ((rd_T36 l1 x39_1).f1))).setCell ⟨gb189, 2, none⟩ (.string ((rd_T36 l1 x39_1).f2)))) ?hg ?ho ?hn ?hr ?_; (case ho => rfl); (case hg => rfl); (case hn => rfl); (case hr => first | (go_simp; done) | (go_simp; rfl)); intro w35 hw; have n0_ : Aside0 (Kd.Q (Kd.int .i64) 3 w35 w.heap.size (fun _ => True) u6 x6_1) := ⟨(by rw [hw]; exact (by (with_reducible repeat (first | apply Kd.Q_alloc | apply Kd.Q_drewN | apply Kd.Q_drew)); exact Kd.Q_mono (Kd.Q_far (p := ⟨gb189, 2, none⟩) (Kd.Q_far (p := ⟨gb189, 1, none⟩) (Kd.Q_far (p := ⟨gb189, 0, none⟩) (Kd.Q_types HO_6.out BK189.out (by decide)) (fun _ hk => hk.2) (.int .i64 ((rd_T36 l1 x39_1).f0))) (fun _ hk => hk.2) (.int .i64 ((rd_T36 l1 x39_1).f1))) (fun _ hk => hk.2) (.string ((rd_T36 l1 x39_1).f2))) (fun _ hk => trivial)))⟩; have n1_ : Aside0 (w35.heap[gb189]? = some (.cells #[.int .i64 ((rd_T36 l1 x39_1).f0), .int .i64 ((rd_T36 l1 x39_1).f1), .string ((rd_T36 l1 x39_1).f2)] 36 (0, 0))) := ⟨(by rw [hw]; exact (by (with_reducible repeat (first | refine blk_drewN ?_ _ | refine blk_drew ?_ | refine blk_alloc ?_ _)); refine blk_put (cs := #[.int .i64 ((rd_T36 l1 x39_1).f0), .int .i64 ((rd_T36 l1 x39_1).f1), .string (⟨#[]⟩ : ByteArray)]) ?_ 2 _ rfl; (with_reducible repeat (first | refine blk_drewN ?_ _ | refine blk_drew ?_ | refine blk_alloc ?_ _)); refine blk_put (cs := #[.int .i64 ((rd_T36 l1 x39_1).f0), .int .i64 0, .string (⟨#[]⟩ : ByteArray)]) ?_ 1 _ rfl; (with_reducible repeat (first | refine blk_drewN ?_ _ | refine blk_drew ?_ | refine blk_alloc ?_ _)); refine blk_put (cs := #[.int .i64 0, .int .i64 0, .string (⟨#[]⟩ : ByteArray)]) ?_ 0 _ rfl; (with_reducible repeat (first | refine blk_drewN ?_ _ | refine blk_drew ?_ | refine blk_alloc ?_ _)); exact BK189.out))⟩; have n2_ : Aside0 (Below w.heap.size w w35) := ⟨(by rw [hw]; exact (by repeat (first | (with_reducible first | exact HB.out | apply below_alloc | apply pw_below_drewN | apply below_drew1 | refine below_set ?_ GE189.out) | exact HB.out)))⟩; clear hw; clear HO_6; clear BK189; clear HB; have HO_6 := n0_; have BK189 := n1_; have HB := n2_; clear n0_ n1_ n2_; have hcz36_0 : w35.cell? ⟨gb189, 0, none⟩ = some (.int .i64 ((rd_T36 l1 x39_1).f0)) := (blk_cell BK189.out 0).trans rfl; have hcz36_1 : w35.cell? ⟨gb189, 1, none⟩ = some (.int .i64 ((rd_T36 l1 x39_1).f1)) := (blk_cell BK189.out 1).trans rfl; have hcz36_2 : w35.cell? ⟨gb189, 2, none⟩ = some (.string ((rd_T36 l1 x39_1).f2)) := (blk_cell BK189.out 2).trans rfl; have hfz36_0 := blk_frozen BK189.out 0; have hfz36_1 := blk_frozen BK189.out 1; have hfz36_2 := blk_frozen BK189.out 2; obtain ⟨Ao37, co37, eo37, _⟩ := Kd.Q_slice HO_6.out; subst eo37; have q38 : (((rd_T36 l1 x39_1).f1) : Int) ≤ ((x6_1.length : Int) : Int) := of_decide_eq_true (by first | (with_reducible assumption) | assumption); obtain ⟨i038, hi038, _, hsz38, _⟩ := info_parts info3; have hcut38 := cut_from (P := Try.prog) 48 3 .i64 Try.underlying48 hi038 1 hsz38 Ao37 x6_1.length co37 ((rd_T36 l1 x39_1).f1) (of_decide_eq_true (by first | (with_reducible assumption) | assumption)) q38; have hr38 := Kd.Q_drop (k := (((rd_T36 l1 x39_1).f1) : Int).toNat) HO_6.out (by omega); obtain ⟨A38, hA38⟩ : ∃ A1, A1 = (if co37 = (((rd_T36 l1 x39_1).f1) : Int).toNat then Ao37 else (Ao37 : Option Addr).map (·.add ((((rd_T36 l1 x39_1).f1) : Int).toNat * 1))) := ⟨_, rfl⟩; obtain ⟨c38, hc38⟩ : ∃ c1, c1 = co37 - (((rd_T36 l1 x39_1).f1) : Int).toNat := ⟨_, rfl⟩; have hy38 : y199.length = x6_1.length - (((rd_T36 l1 x39_1).f1) : Int).toNat := (by rw [Ny199.out, List.length_drop]); rw [← Ny199.out] at hr38; rw [← hy38, ← hA38, ← hc38] at hcut38; replace hr38 : Kd.Q (Kd.int .i64) 3 w35 w.heap.size (fun _ => True) (.slice A38 y199.length c38) y199 := (by rw [hA38, hc38, hy38]; exact hr38); have HE38 : Aside0 ((Value.slice A38 y199.length c38).ownBlock = (.slice Ao37 x6_1.length co37 : Value).ownBlock) := ⟨by rw [hA38]; split <;> (cases (Ao37 : Option Addr) <;> first | rfl | (simp only [Option.map, Value.ownBlock]; first | rfl | (unfold Addr.add; split <;> rfl) | simp [Addr.add]))⟩; clear hy38 hi038 hsz38 HO_6 hA38 hc38; have HO201 := Aside0.mk hr38; clear hr38; replace q38 := eq_true q38))
                          go_roundg k1
                          case measure => have := HK1.out; omega
                          case rel => exact ⟨(y199), (x10_1 ++ ((rd_T36 l1 x39_1).f2)), (wrap64 (x39_1 + 1)), (by first | rfl | (simp; done) | (simp [*]; done) | (simp; (generalize ByteArray.toList _ = l_); cases l_ <;> rfl)), (by first | rfl | (simp; done) | (simp [*]; done) | (simp; (generalize ByteArray.toList _ = l_); cases l_ <;> rfl)), H', ⟨by have := HK1.out; omega⟩, ⟨by (with_reducible repeat (first | apply Kd.Q_alloc | apply Kd.Q_drewN | apply Kd.Q_drew)); exact HO201.out⟩, ⟨by repeat (first | (with_reducible first | exact HB.out | apply below_alloc | apply pw_below_drewN | apply below_drew1 | refine below_set ?_ GE189.out) | exact HB.out)⟩⟩
                        · rw [if_neg c32] at H
                          exact absurd H (by simp)
                      · rw [if_neg c31] at H
                        exact absurd H (by simp)
                    · rw [if_neg c30] at H
                      exact absurd H (by simp)
                · rw [if_neg c13] at H
                  exact absurd H (by simp)
              · rw [if_neg c12] at H
                exact absurd H (by simp)
            · rw [if_neg c11] at H
              have c11b0 : decide (x39_1 < (l1.length : Int)) = false := decide_eq_false c11
              clear c11
              simp only [Option.some.injEq, Prod.mk.injEq] at H
              obtain ⟨rfl, rfl⟩ := H
              go_wp2
              go_ret2
              exact ⟨by first | rfl | (simp [errW_none, errW_some] <;> rfl) | (simp [*, errW_none, errW_some] <;> rfl), by repeat (first | (with_reducible first | exact HB.out | apply below_alloc | apply pw_below_drewN | apply below_drew1) | exact HB.out)⟩
      · rw [if_neg c7] at H
        have c7b0 : (t186 == (t182.length : Int)) = false := beq_eq_false_iff_ne.mpr c7
        have c7b1 : (t186 != (t182.length : Int)) = true := bne_iff_ne.mpr c7
        simp only [Option.some.injEq, Prod.mk.injEq] at H
        obtain ⟨rfl, rfl⟩ := H
        go_enter Try.func14, Try.ntmps14
        go_wp2_with (first | ((with_reducible refine gate_callee (f := 38) rfl ?_); refine goesL_ (some 17) rfl rfl Try.func38 (by kernel_rfl) rfl #[.string a0] rfl (by (try simp only [List.map_toArray, List.map_cons, List.map_nil]); first | done | rfl | (simp only [List.length_drop, List.length_take]; rfl)) ?_; (with_reducible refine (text_Points.calls k a0 t182 true _ A3.out).mono ?_); rintro e w39 ⟨v184, rfl, ho0, hb⟩; refine ⟨_, rfl, ?_⟩; have n0_ := Aside0.mk (Kd.R_lower ho0 (below_size (by repeat (first | (with_reducible first | exact HB.out | apply below_alloc | apply pw_below_drewN | apply below_drew1) | exact HB.out)))); have n1_ := Aside0.mk (below_step (by repeat (first | (with_reducible first | exact HB.out | apply below_alloc | apply pw_below_drewN | apply below_drew1) | exact HB.out)) hb); clear HB; have HO185 := n0_; have HB := n1_; clear n0_ n1_; (try clear hb); (try clear hb2); (try clear hk); (try clear hi); (try clear ho0)) | ((with_reducible refine gate_callee (f := 19) rfl ?_); refine goesL_ (some 22) rfl rfl Try.func19 (by kernel_rfl) rfl #[.slice A1 l1.length c1] rfl (by (try simp only [List.map_toArray, List.map_cons, List.map_nil]); first | done | rfl | (simp only [List.length_drop, List.length_take]; rfl)) ?_; (with_reducible refine (delta_Base.calls k _ _ l1 t186 t187 _ ?side1 ?side2 A4.out).mono ?_); (case side1 => repeat (first | exact (Kd.C_below HR1.out HB.out) | (with_reducible refine Kd.C_alloc ?_ _) | (with_reducible refine Kd.C_drewN ?_ _) | (with_reducible refine Kd.C_drew ?_))); (case side2 => exact HC1.out); rintro e w40 ⟨rfl, hb⟩; refine ⟨_, rfl, ?_⟩; have n0_ := Aside0.mk (Kd.R_below (by (with_reducible repeat (first | apply Kd.R_alloc | apply Kd.R_drewN | apply Kd.R_drew)); exact HO185.out) hb); have n1_ := Aside0.mk (below_step (by repeat (first | (with_reducible first | exact HB.out | apply below_alloc | apply pw_below_drewN | apply below_drew1) | exact HB.out)) hb); clear HO185; clear HB; have HO185 := n0_; have HB := n1_; clear n0_ n1_; (try clear hb); (try clear hb2); (try clear hk); (try clear hi); obtain ⟨Ao41, co41, eo41⟩ := Kd.R_slice HO185.out; subst eo41))
        go_ret2
        exact ⟨by first | rfl | (simp [errW_none, errW_some] <;> rfl) | (simp [*, errW_none, errW_some] <;> rfl), by repeat (first | (with_reducible first | exact HB.out | apply below_alloc | apply pw_below_drewN | apply below_drew1) | exact HB.out)⟩
    · rw [if_neg c6] at H
      have c6b0 : (t187 == 0) = false := beq_eq_false_iff_ne.mpr c6
      have c6b1 : (t187 != 0) = true := bne_iff_ne.mpr c6
      simp only [Option.some.injEq, Prod.mk.injEq] at H
      obtain ⟨rfl, rfl⟩ := H
      go_enter Try.func14, Try.ntmps14
      go_wp2_with (first | ((with_reducible refine gate_callee (f := 38) rfl ?_); refine goesL_ (some 17) rfl rfl Try.func38 (by kernel_rfl) rfl #[.string a0] rfl (by (try simp only [List.map_toArray, List.map_cons, List.map_nil]); first | done | rfl | (simp only [List.length_drop, List.length_take]; rfl)) ?_; (with_reducible refine (text_Points.calls k a0 t182 true _ A3.out).mono ?_); rintro e w42 ⟨v184, rfl, ho0, hb⟩; refine ⟨_, rfl, ?_⟩; have n0_ := Aside0.mk (Kd.R_lower ho0 (below_size (by repeat (first | (with_reducible first | exact HB.out | apply below_alloc | apply pw_below_drewN | apply below_drew1) | exact HB.out)))); have n1_ := Aside0.mk (below_step (by repeat (first | (with_reducible first | exact HB.out | apply below_alloc | apply pw_below_drewN | apply below_drew1) | exact HB.out)) hb); clear HB; have HO185 := n0_; have HB := n1_; clear n0_ n1_; (try clear hb); (try clear hb2); (try clear hk); (try clear hi); (try clear ho0)) | ((with_reducible refine gate_callee (f := 19) rfl ?_); refine goesL_ (some 22) rfl rfl Try.func19 (by kernel_rfl) rfl #[.slice A1 l1.length c1] rfl (by (try simp only [List.map_toArray, List.map_cons, List.map_nil]); first | done | rfl | (simp only [List.length_drop, List.length_take]; rfl)) ?_; (with_reducible refine (delta_Base.calls k _ _ l1 t186 t187 _ ?side1 ?side2 A4.out).mono ?_); (case side1 => repeat (first | exact (Kd.C_below HR1.out HB.out) | (with_reducible refine Kd.C_alloc ?_ _) | (with_reducible refine Kd.C_drewN ?_ _) | (with_reducible refine Kd.C_drew ?_))); (case side2 => exact HC1.out); rintro e w43 ⟨rfl, hb⟩; refine ⟨_, rfl, ?_⟩; have n0_ := Aside0.mk (Kd.R_below (by (with_reducible repeat (first | apply Kd.R_alloc | apply Kd.R_drewN | apply Kd.R_drew)); exact HO185.out) hb); have n1_ := Aside0.mk (below_step (by repeat (first | (with_reducible first | exact HB.out | apply below_alloc | apply pw_below_drewN | apply below_drew1) | exact HB.out)) hb); clear HO185; clear HB; have HO185 := n0_; have HB := n1_; clear n0_ n1_; (try clear hb); (try clear hb2); (try clear hk); (try clear hi)))
      go_ret2
      exact ⟨by first | rfl | (simp [errW_none, errW_some] <;> rfl) | (simp [*, errW_none, errW_some] <;> rfl), by repeat (first | (with_reducible first | exact HB.out | apply below_alloc | apply pw_below_drewN | apply below_drew1) | exact HB.out)⟩
  · replace c5 := Bool.eq_false_iff.mpr c5
    subst c5
    have H1 : (some ((⟨#[]⟩ : ByteArray), 10)) = some (r1, r2) := by rw [if_neg (show ¬ (false = true) by decide)] at H; exact H
    clear H
    have H := H1
    clear H1
    simp only [Option.some.injEq, Prod.mk.injEq] at H
    obtain ⟨rfl, rfl⟩ := H
    go_enter Try.func14, Try.ntmps14
    go_wp2_with (first | ((with_reducible refine gate_callee (f := 38) rfl ?_); refine goesL_ (some 17) rfl rfl Try.func38 (by kernel_rfl) rfl #[.string a0] rfl (by (try simp only [List.map_toArray, List.map_cons, List.map_nil]); first | done | rfl | (simp only [List.length_drop, List.length_take]; rfl)) ?_; (with_reducible refine (text_Points.calls k a0 t182 false _ A3.out).mono ?_); rintro e w44 ⟨v184, rfl, ho0, hb⟩; refine ⟨_, rfl, ?_⟩; have n0_ := Aside0.mk (Kd.R_lower ho0 (below_size (by repeat (first | (with_reducible first | exact HB.out | apply below_alloc | apply pw_below_drewN | apply below_drew1) | exact HB.out)))); have n1_ := Aside0.mk (below_step (by repeat (first | (with_reducible first | exact HB.out | apply below_alloc | apply pw_below_drewN | apply below_drew1) | exact HB.out)) hb); clear HB; have HO185 := n0_; have HB := n1_; clear n0_ n1_; (try clear hb); (try clear hb2); (try clear hk); (try clear hi); (try clear ho0)) | ((with_reducible refine gate_callee (f := 19) rfl ?_); refine goesL_ (some 22) rfl rfl Try.func19 (by kernel_rfl) rfl #[.slice A1 l1.length c1] rfl (by (try simp only [List.map_toArray, List.map_cons, List.map_nil]); first | done | rfl | (simp only [List.length_drop, List.length_take]; rfl)) ?_; (with_reducible refine (delta_Base.calls k _ _ l1 t186 t187 _ ?side1 ?side2 A4.out).mono ?_); (case side1 => repeat (first | exact (Kd.C_below HR1.out HB.out) | (with_reducible refine Kd.C_alloc ?_ _) | (with_reducible refine Kd.C_drewN ?_ _) | (with_reducible refine Kd.C_drew ?_))); (case side2 => exact HC1.out); rintro e w45 ⟨rfl, hb⟩; refine ⟨_, rfl, ?_⟩; have n0_ := Aside0.mk (Kd.R_below (by (with_reducible repeat (first | apply Kd.R_alloc | apply Kd.R_drewN | apply Kd.R_drew)); exact HO185.out) hb); have n1_ := Aside0.mk (below_step (by repeat (first | (with_reducible first | exact HB.out | apply below_alloc | apply pw_below_drewN | apply below_drew1) | exact HB.out)) hb); clear HO185; clear HB; have HO185 := n0_; have HB := n1_; clear n0_ n1_; (try clear hb); (try clear hb2); (try clear hk); (try clear hi)))
    go_ret2
    exact ⟨by first | rfl | (simp [errW_none, errW_some] <;> rfl) | (simp [*, errW_none, errW_some] <;> rfl), by repeat (first | (with_reducible first | exact HB.out | apply below_alloc | apply pw_below_drewN | apply below_drew1) | exact HB.out)⟩

-- NOT PRINTED: function 44 (delta_joiner_keeps)

-- NOT PRINTED: function 43 (delta_joiner_gap)

end Go.Proofs.Ytdpbkomaiafemaa.HDe
