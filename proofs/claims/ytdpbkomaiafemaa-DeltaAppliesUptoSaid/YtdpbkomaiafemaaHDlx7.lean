-- Written by hprint.py over the kit's print.py; contracts of some functions by hand.
import Derived.Test.YtdpbkomaiafemaaHDlx0
import Derived.Test.YtdpbkomaiafemaaHDlx4
import Derived.Test.YtdpbkomaiafemaaHDlx6
namespace Go.Proofs.Ytdpbkomaiafemaa.HDl
open Go.RowKit Go.Proofs.YtdpbkomaiafemaaW.PrintWords Go.Proofs.YtdpbkomaiafemaaW.PrintLast Go.Proofs.YtdpbkomaiafemaaW.PrintMore
attribute [local go_sem] max2_int min2_int max_two min_two max_three min_three max_four min_four   -- for this text's walks alone
set_option linter.unusedVariables false
set_option linter.unusedSimpArgs false

/-! ### oxbowref01_Text: function 41 -/
def oxbowref01_Text.l0 : Nat → List Int → List Int → Int → Option (ByteArray × Bool)
  | 0, _, _, _ => none
  | k + 1, x0, x4, x5 => if x5 < (x0.length : Int) then (if 0 ≤ x5 then ((oxbowref01_point.f (rd x0 x5)).bind fun t185 => (if t185 = true then ((oxbowref01_bytes.f (rd x0 x5)).bind fun t187 => (if x4.length + t187.size < 140737488355328 then (oxbowref01_Text.l0 k x0 (x4 ++ bytesOf t187) (wrap64 (x5 + 1))) else (none))) else (some ((⟨#[]⟩ : ByteArray), false)))) else (none)) else (some (strOfNums x4, true))
def oxbowref01_Text.f (k : Nat) (l0 : List Int) : Option (ByteArray × Bool) := oxbowref01_Text.l0 k l0 ([] : List Int) 0
theorem oxbowref01_Text.mono_l : ∀ k, (∀ y0 y1 y2, LeO (oxbowref01_Text.l0 k y0 y1 y2) (oxbowref01_Text.l0 (k + 1) y0 y1 y2))
  | 0 => fun _ _ _ r h => by simp [oxbowref01_Text.l0] at h
  | k + 1 => by
    have ih0 := oxbowref01_Text.mono_l k
    · intro y0 y1 y2
      unfold oxbowref01_Text.l0
      repeat' first
      | (with_reducible exact ih0 _ _ _)
      | (with_reducible exact LeO.refl _)
      | (with_reducible exact LeO.none _)
      | (with_reducible refine LeO.ite ?_ ?_)
      | (with_reducible refine LeO.bind ?_ (fun _ => ?_))
      | exact ih0 _ _ _
      | exact LeO.none _
      | refine LeO.ite ?_ ?_
      | refine LeO.bind ?_ (fun _ => ?_)
theorem oxbowref01_Text.mono : ∀ a0 k, LeO (oxbowref01_Text.f k a0) (oxbowref01_Text.f (k + 1) a0) := by
  intro a0 k
  have ih0 := oxbowref01_Text.mono_l k
  unfold oxbowref01_Text.f
  repeat' first
      | (with_reducible exact ih0 _ _ _)
      | (with_reducible exact LeO.refl _)
      | (with_reducible exact LeO.none _)
      | (with_reducible refine LeO.ite ?_ ?_)
      | (with_reducible refine LeO.bind ?_ (fun _ => ?_))
      | exact ih0 _ _ _
      | exact LeO.none _
      | refine LeO.ite ?_ ?_
      | refine LeO.bind ?_ (fun _ => ?_)
set_option maxHeartbeats 8000000 in
set_option maxRecDepth 100000 in
theorem oxbowref01_Text.calls (k : Nat) (A0 : Option Addr) (c0 : Nat) (l0 : List Int) (r1 : ByteArray) (r2 : Bool) (w : World) (hr0 : Kd.C (Kd.int .i64) w A0 l0.length l0) (hc0 : l0.length ≤ c0) (h : oxbowref01_Text.f k l0 = some (r1, r2)) :
    Calls Try.prog 41 #[.slice A0 l0.length c0] w fun e w' => e = .returned (.tuple #[.string r1, .bool r2]) ∧ Below w.heap.size w w' := by
  have HR0 := Aside0.mk hr0
  have HC0 := Aside0.mk hc0
  clear hr0 hc0
  have HB := Aside0.mk (Below.refl w.heap.size w)
  have H : (oxbowref01_Text.l0 k l0 ([] : List Int) 0) = some (r1, r2) := h
  clear h
  have H' := Aside0.mk H
  clear H
  go_enter Try.func41, Try.ntmps41
  go_wp2
  go_loopg [4, 5] k (fun kq v4 v5 w' => ∃ (x4_1 : List Int) (x5_1 : Int), v5 = .int .i64 x5_1 ∧ Aside0 (oxbowref01_Text.l0 kq l0 x4_1 x5_1 = some (r1, r2)) ∧ Aside0 (kq ≤ k) ∧ Aside0 (Kd.R (Kd.int .u8) 5 w' w.heap.size (fun _ => True) v4 x4_1) ∧ Aside0 (Below w.heap.size w w'))
  case atStart => exact ⟨(([] : List Int)), (0), (by first | rfl | (simp; done) | (simp [*]; done) | (simp; (generalize ByteArray.toList _ = l_); cases l_ <;> rfl)), H', ⟨Nat.le_refl _⟩, ⟨by first | exact Kd.R_nil _ _ _ _ _ | exact Kd.N_nil _ _ _ _ _ | exact Kd.V_nil _ _ _ _ _ | exact Kd.Q_nil _ _ _ _ _ | exact Kd.S_nil _ _ _ _ _⟩, ⟨by repeat (first | (with_reducible first | exact HB.out | apply below_alloc | apply pw_below_drewN | apply below_drew1) | exact HB.out)⟩⟩
  case round =>
    clear H'
    obtain ⟨x4_1, x5_1, rfl, HA, HK1, HO_4, HB⟩ := hrel
    cases gk with
    | zero => exact absurd HA.out (by simp [oxbowref01_Text.l0])
    | succ k1 =>
      have H := HA.out
      clear HA
      simp only [oxbowref01_Text.l0] at H
      by_cases c2 : x5_1 < (l0.length : Int)
      · rw [if_pos c2] at H
        have c2b0 : decide (x5_1 < (l0.length : Int)) = true := decide_eq_true c2
        clear c2
        by_cases c3 : 0 ≤ x5_1
        · rw [if_pos c3] at H
          have c3b0 : decide (0 ≤ x5_1) = true := decide_eq_true c3
          clear c3
          replace H := Option.bind_eq_some_iff.mp H
          obtain ⟨t185, A40, H⟩ := H
          replace H : (if t185 = true then ((oxbowref01_bytes.f (rd l0 x5_1)).bind fun t187 => (if x4_1.length + t187.size < 140737488355328 then (oxbowref01_Text.l0 k1 l0 (x4_1 ++ bytesOf t187) (wrap64 (x5_1 + 1))) else (none))) else (some ((⟨#[]⟩ : ByteArray), false))) = some (r1, r2) := H
          have A4 := Aside0.mk A40
          clear A40
          by_cases c5 : t185 = true
          · subst c5
            have H1 : ((oxbowref01_bytes.f (rd l0 x5_1)).bind fun t187 => (if x4_1.length + t187.size < 140737488355328 then (oxbowref01_Text.l0 k1 l0 (x4_1 ++ bytesOf t187) (wrap64 (x5_1 + 1))) else (none))) = some (r1, r2) := by rw [if_pos rfl] at H; exact H
            clear H
            have H := H1
            clear H1
            replace H := Option.bind_eq_some_iff.mp H
            obtain ⟨t187, A60, H⟩ := H
            replace H : (if x4_1.length + t187.size < 140737488355328 then (oxbowref01_Text.l0 k1 l0 (x4_1 ++ bytesOf t187) (wrap64 (x5_1 + 1))) else (none)) = some (r1, r2) := H
            have A6 := Aside0.mk A60
            clear A60
            by_cases c7 : x4_1.length + t187.size < 140737488355328
            · rw [if_pos c7] at H
              have LMc7 := Aside0.mk c7
              clear c7
              obtain ⟨y188, hy188⟩ : ∃ y_ : List Int, y_ = (x4_1 ++ bytesOf t187) := ⟨_, rfl⟩
              replace H : (oxbowref01_Text.l0 k1 l0 y188 (wrap64 (x5_1 + 1))) = some (r1, r2) := by first | (rw [hy188]; with_reducible exact H) | (have H2_ := (Option.bind_some _ _).symm.trans H; rw [hy188]; with_reducible exact H2_) | (have H2_ := (Option.bind_some _ _).symm.trans H; with_reducible exact H2_) | with_reducible exact H | (rw [hy188]; exact H) | exact H
              have Ny188 := Aside0.mk hy188
              clear hy188
              have H' := Aside0.mk H
              clear H
              have p184 : 0 ≤ (x5_1 : Int) := of_decide_eq_true (by first | (with_reducible assumption) | assumption)
              have q184 : x5_1 < (l0.length : Int) := of_decide_eq_true (by first | (with_reducible assumption) | assumption)
              obtain ⟨ad184, e184, hx184_0⟩ := Kd.at_int HR0.out x5_1 p184 q184
              cases e184
              replace hx184_0 := (HB.out.cell (World.block_lt_of_cell? w _ hx184_0)).trans hx184_0
              replace p184 := eq_true p184
              replace q184 := eq_true q184
              go_wp2_with (first | ((with_reducible refine gate_callee (f := 66) rfl ?_); refine goesL_ (some 16) rfl rfl Try.func66 (by kernel_rfl) rfl #[.int .i64 (rd l0 x5_1)] rfl (by (try simp only [List.map_toArray, List.map_cons, List.map_nil]); first | done | rfl | (simp only [List.length_drop, List.length_take]; rfl)) ?_; (with_reducible refine (oxbowref01_point.calls (rd l0 x5_1) true _ A4.out).mono ?_); rintro e w' ⟨rfl, ⟨nd, rfl⟩⟩; refine ⟨_, rfl, ?_⟩; have p186 : 0 ≤ (x5_1 : Int) := of_decide_eq_true (by first | (with_reducible assumption) | assumption); have q186 : x5_1 < (l0.length : Int) := of_decide_eq_true (by first | (with_reducible assumption) | assumption); obtain ⟨ad186, e186, hx186_0⟩ := Kd.at_int HR0.out x5_1 p186 q186; obtain rfl : ad184 = ad186 := (by injection e186); replace hx186_0 := (HB.out.cell (World.block_lt_of_cell? w _ hx186_0)).trans hx186_0; replace p186 := eq_true p186; replace q186 := eq_true q186) | ((with_reducible refine gate_callee (f := 67) rfl ?_); refine goesL_ (some 23) rfl rfl Try.func67 (by kernel_rfl) rfl #[.int .i64 (rd l0 x5_1)] rfl (by (try simp only [List.map_toArray, List.map_cons, List.map_nil]); first | done | rfl | (simp only [List.length_drop, List.length_take]; rfl)) ?_; (with_reducible refine (oxbowref01_bytes.calls (rd l0 x5_1) t187 _ A6.out).mono ?_); rintro e w8 ⟨rfl, hb⟩; refine ⟨_, rfl, ?_⟩; have n0_ := Aside0.mk (Kd.R_below (by (with_reducible repeat (first | apply Kd.R_alloc | apply Kd.R_drewN | apply Kd.R_drew)); exact HO_4.out) hb); have n1_ := Aside0.mk (below_step (by repeat (first | (with_reducible first | exact HB.out | apply below_alloc | apply pw_below_drewN | apply below_drew1) | exact HB.out)) hb); clear HO_4; clear HB; have HO_4 := n0_; have HB := n1_; clear n0_ n1_; (try clear hb); (try clear hb2); (try clear hk); (try clear hi)) | (at_builtin; refine print_append_str (w0 := w) w.heap.size rfl (.tmp 18) _ 77 9 5 rfl Try.underlying77 Try.underlying9 info5 u4 x4_1 t187 rfl rfl ?aO ?aB ?aS ?aL ?_; (case aB => exact (by repeat (first | (with_reducible first | exact HB.out | apply below_alloc | apply pw_below_drewN | apply below_drew1) | exact HB.out))); (case aO => exact (Kd.own_of_R (by (with_reducible repeat (first | apply Kd.R_alloc | apply Kd.R_drewN | apply Kd.R_drew)); exact HO_4.out))); (case aS => exact (below_size (by repeat (first | (with_reducible first | exact HB.out | apply below_alloc | apply pw_below_drewN | apply below_drew1) | exact HB.out)))); (case aL => have := LMc7.out; omega); intro v189 w9 ho0 hb hg; have ho := Kd.R_of_own (h1 := fun _ => rfl) (ok := fun _ => True) ho0 (fun _ _ => trivial); clear ho0; have hat := True.intro; rw [← Ny188.out] at ho; change Kd.R (Kd.int .u8) 5 w9 w.heap.size (fun _ => True) v189 y188 at ho; have n0_ := Aside0.mk (hb); have n1_ := Aside0.mk (ho); clear HB; clear HO_4; have HB := n0_; have HO190 := n1_; clear n0_ n1_; clear ho hb hg hat))
              go_roundg k1
              case measure => have := HK1.out; omega
              case rel => exact ⟨(y188), (wrap64 (x5_1 + 1)), (by first | rfl | (simp; done) | (simp [*]; done) | (simp; (generalize ByteArray.toList _ = l_); cases l_ <;> rfl)), H', ⟨by have := HK1.out; omega⟩, ⟨by (with_reducible repeat (first | apply Kd.R_alloc | apply Kd.R_drewN | apply Kd.R_drew)); exact HO190.out⟩, ⟨by repeat (first | (with_reducible first | exact HB.out | apply below_alloc | apply pw_below_drewN | apply below_drew1) | exact HB.out)⟩⟩
            · rw [if_neg c7] at H
              exact absurd H (by simp)
          · replace c5 := Bool.eq_false_iff.mpr c5
            subst c5
            have H1 : (some ((⟨#[]⟩ : ByteArray), false)) = some (r1, r2) := by rw [if_neg (show ¬ (false = true) by decide)] at H; exact H
            clear H
            have H := H1
            clear H1
            simp only [Option.some.injEq, Prod.mk.injEq] at H
            obtain ⟨rfl, rfl⟩ := H
            have p184 : 0 ≤ (x5_1 : Int) := of_decide_eq_true (by first | (with_reducible assumption) | assumption)
            have q184 : x5_1 < (l0.length : Int) := of_decide_eq_true (by first | (with_reducible assumption) | assumption)
            obtain ⟨ad184, e184, hx184_0⟩ := Kd.at_int HR0.out x5_1 p184 q184
            cases e184
            replace hx184_0 := (HB.out.cell (World.block_lt_of_cell? w _ hx184_0)).trans hx184_0
            replace p184 := eq_true p184
            replace q184 := eq_true q184
            go_wp2_with (first | ((with_reducible refine gate_callee (f := 66) rfl ?_); refine goesL_ (some 16) rfl rfl Try.func66 (by kernel_rfl) rfl #[.int .i64 (rd l0 x5_1)] rfl (by (try simp only [List.map_toArray, List.map_cons, List.map_nil]); first | done | rfl | (simp only [List.length_drop, List.length_take]; rfl)) ?_; (with_reducible refine (oxbowref01_point.calls (rd l0 x5_1) false _ A4.out).mono ?_); rintro e w' ⟨rfl, ⟨nd, rfl⟩⟩; refine ⟨_, rfl, ?_⟩))
            go_ret2
            exact ⟨by first | rfl | (simp [errW_none, errW_some] <;> rfl) | (simp [*, errW_none, errW_some] <;> rfl), by repeat (first | (with_reducible first | exact HB.out | apply below_alloc | apply pw_below_drewN | apply below_drew1) | exact HB.out)⟩
        · rw [if_neg c3] at H
          exact absurd H (by simp)
      · rw [if_neg c2] at H
        have c2b0 : decide (x5_1 < (l0.length : Int)) = false := decide_eq_false c2
        clear c2
        simp only [Option.some.injEq, Prod.mk.injEq] at H
        obtain ⟨rfl, rfl⟩ := H
        have hcv10 := own_string (P := Try.prog) Try.underlying77 Try.underlying5 Try.underlying9 (Kd.own_of_R HO_4.out)
        go_wp2
        go_ret2
        exact ⟨by first | rfl | (simp [errW_none, errW_some] <;> rfl) | (simp [*, errW_none, errW_some] <;> rfl), by repeat (first | (with_reducible first | exact HB.out | apply below_alloc | apply pw_below_drewN | apply below_drew1) | exact HB.out)⟩

/-! ### oxbowref09_Apply: function 16 -/
def oxbowref09_Apply.l0 : Nat → List (S36) → List Int → ByteArray → Int → Int → Option (ByteArray × Int)
  | 0, _, _, _, _, _ => none
  | k + 1, x1, x6, x10, x11, x12 => if x12 < (x1.length : Int) then (if 0 ≤ x12 then (if ((rd_T36 x1 x12).f0) = 1 then (if 0 ≤ x11 then (if x11 ≤ (wrap64 (x11 + ((rd_T36 x1 x12).f1))) then (if (wrap64 (x11 + ((rd_T36 x1 x12).f1))) ≤ (x6.length : Int) then ((oxbowref01_Text.f k ((x6.take ((wrap64 (x11 + ((rd_T36 x1 x12).f1))) : Int).toNat).drop (x11 : Int).toNat)).bind fun bt203 => (if x10.size + bt203.1.size ≤ 9223372036854775807 then (if (x10 ++ bt203.1).size + ((rd_T36 x1 x12).f2).size ≤ 9223372036854775807 then (oxbowref09_Apply.l0 k x1 x6 ((x10 ++ bt203.1) ++ ((rd_T36 x1 x12).f2)) (wrap64 (x11 + ((rd_T36 x1 x12).f1))) (wrap64 (x12 + 1))) else (none)) else (none))) else (none)) else (none)) else (none)) else (if x10.size + ((rd_T36 x1 x12).f2).size ≤ 9223372036854775807 then (oxbowref09_Apply.l0 k x1 x6 (x10 ++ ((rd_T36 x1 x12).f2)) (wrap64 (x11 + ((rd_T36 x1 x12).f1))) (wrap64 (x12 + 1))) else (none))) else (none)) else (some (x10, 0))
def oxbowref09_Apply.f (k : Nat) (a0 : ByteArray) (l1 : List (S36)) : Option (ByteArray × Int) := (oxbowref01_Points.f k a0).bind fun bt191 => (if bt191.2 = true then ((oxbowref09_Base.f k l1).bind fun bt195 => (if bt195.2 = 0 then (if bt195.1 = (bt191.1.length : Int) then (oxbowref09_Apply.l0 k l1 bt191.1 (⟨#[]⟩ : ByteArray) 0 0) else (some ((⟨#[]⟩ : ByteArray), 91))) else (some ((⟨#[]⟩ : ByteArray), bt195.2)))) else (some ((⟨#[]⟩ : ByteArray), 10)))
theorem oxbowref09_Apply.mono_l : ∀ k, (∀ y0 y1 y2 y3 y4, LeO (oxbowref09_Apply.l0 k y0 y1 y2 y3 y4) (oxbowref09_Apply.l0 (k + 1) y0 y1 y2 y3 y4))
  | 0 => fun _ _ _ _ _ r h => by simp [oxbowref09_Apply.l0] at h
  | k + 1 => by
    have ih0 := oxbowref09_Apply.mono_l k
    · intro y0 y1 y2 y3 y4
      unfold oxbowref09_Apply.l0
      repeat' first
      | (with_reducible exact ih0 _ _ _ _ _)
      | (with_reducible exact oxbowref01_Points.mono _ _)
      | (with_reducible exact oxbowref01_Text.mono _ _)
      | (with_reducible exact oxbowref09_Base.mono _ _)
      | (with_reducible exact LeO.refl _)
      | (with_reducible exact LeO.none _)
      | (with_reducible refine LeO.ite ?_ ?_)
      | (with_reducible refine LeO.bind ?_ (fun _ => ?_))
      | exact ih0 _ _ _ _ _
      | exact oxbowref01_Points.mono _ _
      | exact oxbowref01_Text.mono _ _
      | exact oxbowref09_Base.mono _ _
      | exact LeO.none _
      | refine LeO.ite ?_ ?_
      | refine LeO.bind ?_ (fun _ => ?_)
theorem oxbowref09_Apply.mono : ∀ a0 a1 k, LeO (oxbowref09_Apply.f k a0 a1) (oxbowref09_Apply.f (k + 1) a0 a1) := by
  intro a0 a1 k
  have ih0 := oxbowref09_Apply.mono_l k
  unfold oxbowref09_Apply.f
  repeat' first
      | (with_reducible exact ih0 _ _ _ _ _)
      | (with_reducible exact oxbowref01_Points.mono _ _)
      | (with_reducible exact oxbowref01_Text.mono _ _)
      | (with_reducible exact oxbowref09_Base.mono _ _)
      | (with_reducible exact LeO.refl _)
      | (with_reducible exact LeO.none _)
      | (with_reducible refine LeO.ite ?_ ?_)
      | (with_reducible refine LeO.bind ?_ (fun _ => ?_))
      | exact ih0 _ _ _ _ _
      | exact oxbowref01_Points.mono _ _
      | exact oxbowref01_Text.mono _ _
      | exact oxbowref09_Base.mono _ _
      | exact LeO.none _
      | refine LeO.ite ?_ ?_
      | refine LeO.bind ?_ (fun _ => ?_)
set_option maxHeartbeats 8000000 in
set_option maxRecDepth 100000 in
theorem oxbowref09_Apply.calls (k : Nat) (a0 : ByteArray) (A1 : Option Addr) (c1 : Nat) (l1 : List (S36)) (r1 : ByteArray) (r2 : Int) (w : World) (hr1 : Kd.C k36 w A1 l1.length l1) (hc1 : l1.length ≤ c1) (h : oxbowref09_Apply.f k a0 l1 = some (r1, r2)) :
    Calls Try.prog 16 #[.string a0, .slice A1 l1.length c1] w fun e w' => e = .returned (.tuple #[.string r1, .int .i64 r2]) ∧ Below w.heap.size w w' := by
  have HR1 := Aside0.mk hr1
  have HC1 := Aside0.mk hc1
  clear hr1 hc1
  have HB := Aside0.mk (Below.refl w.heap.size w)
  have H : ((oxbowref01_Points.f k a0).bind fun bt191 => (if bt191.2 = true then ((oxbowref09_Base.f k l1).bind fun bt195 => (if bt195.2 = 0 then (if bt195.1 = (bt191.1.length : Int) then (oxbowref09_Apply.l0 k l1 bt191.1 (⟨#[]⟩ : ByteArray) 0 0) else (some ((⟨#[]⟩ : ByteArray), 91))) else (some ((⟨#[]⟩ : ByteArray), bt195.2)))) else (some ((⟨#[]⟩ : ByteArray), 10)))) = some (r1, r2) := h
  clear h
  replace H := Option.bind_eq_some_iff.mp H
  obtain ⟨⟨t191, t192⟩, A30, H⟩ := H
  replace H : (if t192 = true then ((oxbowref09_Base.f k l1).bind fun bt195 => (if bt195.2 = 0 then (if bt195.1 = (t191.length : Int) then (oxbowref09_Apply.l0 k l1 t191 (⟨#[]⟩ : ByteArray) 0 0) else (some ((⟨#[]⟩ : ByteArray), 91))) else (some ((⟨#[]⟩ : ByteArray), bt195.2)))) else (some ((⟨#[]⟩ : ByteArray), 10))) = some (r1, r2) := H
  have A3 := Aside0.mk A30
  clear A30
  by_cases c4 : t192 = true
  · subst c4
    have H1 : ((oxbowref09_Base.f k l1).bind fun bt195 => (if bt195.2 = 0 then (if bt195.1 = (t191.length : Int) then (oxbowref09_Apply.l0 k l1 t191 (⟨#[]⟩ : ByteArray) 0 0) else (some ((⟨#[]⟩ : ByteArray), 91))) else (some ((⟨#[]⟩ : ByteArray), bt195.2)))) = some (r1, r2) := by rw [if_pos rfl] at H; exact H
    clear H
    have H := H1
    clear H1
    replace H := Option.bind_eq_some_iff.mp H
    obtain ⟨⟨t195, t196⟩, A50, H⟩ := H
    replace H : (if t196 = 0 then (if t195 = (t191.length : Int) then (oxbowref09_Apply.l0 k l1 t191 (⟨#[]⟩ : ByteArray) 0 0) else (some ((⟨#[]⟩ : ByteArray), 91))) else (some ((⟨#[]⟩ : ByteArray), t196))) = some (r1, r2) := H
    have A5 := Aside0.mk A50
    clear A50
    by_cases c6 : t196 = 0
    · rw [if_pos c6] at H
      have c6b0 : (t196 == 0) = true := beq_iff_eq.mpr c6
      have c6b1 : (t196 != 0) = false := bne_eq_false_iff_eq.mpr c6
      clear c6
      by_cases c7 : t195 = (t191.length : Int)
      · rw [if_pos c7] at H
        have c7b0 : (t195 == (t191.length : Int)) = true := beq_iff_eq.mpr c7
        have c7b1 : (t195 != (t191.length : Int)) = false := bne_eq_false_iff_eq.mpr c7
        clear c7
        have H' := Aside0.mk H
        clear H
        go_enter Try.func16, Try.ntmps16
        go_wp2_with (first | ((with_reducible refine gate_callee (f := 40) rfl ?_); refine goesL_ (some 17) rfl rfl Try.func40 (by kernel_rfl) rfl #[.string a0] rfl (by (try simp only [List.map_toArray, List.map_cons, List.map_nil]); first | done | rfl | (simp only [List.length_drop, List.length_take]; rfl)) ?_; (with_reducible refine (oxbowref01_Points.calls k a0 t191 true _ A3.out).mono ?_); rintro e w8 ⟨v193, rfl, ho0, hb⟩; refine ⟨_, rfl, ?_⟩; have n0_ := Aside0.mk (Kd.R_lower ho0 (below_size (by repeat (first | (with_reducible first | exact HB.out | apply below_alloc | apply pw_below_drewN | apply below_drew1) | exact HB.out)))); have n1_ := Aside0.mk (below_step (by repeat (first | (with_reducible first | exact HB.out | apply below_alloc | apply pw_below_drewN | apply below_drew1) | exact HB.out)) hb); clear HB; have HO194 := n0_; have HB := n1_; clear n0_ n1_; (try clear hb); (try clear hb2); (try clear hk); (try clear hi); (try clear ho0)) | ((with_reducible refine gate_callee (f := 22) rfl ?_); refine goesL_ (some 24) rfl rfl Try.func22 (by kernel_rfl) rfl #[.slice A1 l1.length c1] rfl (by (try simp only [List.map_toArray, List.map_cons, List.map_nil]); first | done | rfl | (simp only [List.length_drop, List.length_take]; rfl)) ?_; (with_reducible refine (oxbowref09_Base.calls k _ _ l1 t195 t196 _ ?side1 ?side2 A5.out).mono ?_); (case side1 => repeat (first | exact (Kd.C_below HR1.out HB.out) | (with_reducible refine Kd.C_alloc ?_ _) | (with_reducible refine Kd.C_drewN ?_ _) | (with_reducible refine Kd.C_drew ?_))); (case side2 => exact HC1.out); rintro e w9 ⟨rfl, hb⟩; refine ⟨_, rfl, ?_⟩; have n0_ := Aside0.mk (Kd.R_below (by (with_reducible repeat (first | apply Kd.R_alloc | apply Kd.R_drewN | apply Kd.R_drew)); exact HO194.out) hb); have n1_ := Aside0.mk (below_step (by repeat (first | (with_reducible first | exact HB.out | apply below_alloc | apply pw_below_drewN | apply below_drew1) | exact HB.out)) hb); clear HO194; clear HB; have HO194 := n0_; have HB := n1_; clear n0_ n1_; (try clear hb); (try clear hb2); (try clear hk); (try clear hi); obtain ⟨Ao10, co10, eo10⟩ := Kd.R_slice HO194.out; subst eo10))
        go_loopg [10, 11, 12] k (fun kq v10 v11 v12 w' => ∃ (x10_1 : ByteArray) (x11_1 : Int) (x12_1 : Int), v10 = .string x10_1 ∧ v11 = .int .i64 x11_1 ∧ v12 = .int .i64 x12_1 ∧ Aside0 (oxbowref09_Apply.l0 kq l1 t191 x10_1 x11_1 x12_1 = some (r1, r2)) ∧ Aside0 (kq ≤ k) ∧ Aside0 (Kd.R (Kd.int .i64) 3 w' w.heap.size (fun _ => True) (.slice Ao10 t191.length co10) t191) ∧ Aside0 (Below w.heap.size w w'))
        case atStart => exact ⟨((⟨#[]⟩ : ByteArray)), (0), (0), (by first | rfl | (simp; done) | (simp [*]; done) | (simp; (generalize ByteArray.toList _ = l_); cases l_ <;> rfl)), (by first | rfl | (simp; done) | (simp [*]; done) | (simp; (generalize ByteArray.toList _ = l_); cases l_ <;> rfl)), (by first | rfl | (simp; done) | (simp [*]; done) | (simp; (generalize ByteArray.toList _ = l_); cases l_ <;> rfl)), H', ⟨Nat.le_refl _⟩, ⟨by (with_reducible repeat (first | apply Kd.R_alloc | apply Kd.R_drewN | apply Kd.R_drew)); exact HO194.out⟩, ⟨by repeat (first | (with_reducible first | exact HB.out | apply below_alloc | apply pw_below_drewN | apply below_drew1) | exact HB.out)⟩⟩
        case round =>
          clear H'
          try clear c1
          try clear c2
          try clear p2
          try clear c4
          try clear c6
          try clear c6b0
          try clear c6b1
          try clear c7
          try clear c7b0
          try clear c7b1
          obtain ⟨x10_1, x11_1, x12_1, rfl, rfl, rfl, HA, HK1, HO_6, HB⟩ := hrel
          cases gk with
          | zero => exact absurd HA.out (by simp [oxbowref09_Apply.l0])
          | succ k1 =>
            have H := HA.out
            clear HA
            simp only [oxbowref09_Apply.l0] at H
            by_cases c11 : x12_1 < (l1.length : Int)
            · rw [if_pos c11] at H
              have c11b0 : decide (x12_1 < (l1.length : Int)) = true := decide_eq_true c11
              clear c11
              by_cases c12 : 0 ≤ x12_1
              · rw [if_pos c12] at H
                have c12b0 : decide (0 ≤ x12_1) = true := decide_eq_true c12
                clear c12
                by_cases c13 : ((rd_T36 l1 x12_1).f0) = 1
                · rw [if_pos c13] at H
                  have c13b0 : (((rd_T36 l1 x12_1).f0) == 1) = true := beq_iff_eq.mpr c13
                  have c13b1 : (((rd_T36 l1 x12_1).f0) != 1) = false := bne_eq_false_iff_eq.mpr c13
                  clear c13
                  by_cases c14 : 0 ≤ x11_1
                  · rw [if_pos c14] at H
                    have c14b0 := eq_true c14
                    have c14b1 : decide (0 ≤ x11_1) = true := decide_eq_true c14
                    clear c14
                    by_cases c15 : x11_1 ≤ (wrap64 (x11_1 + ((rd_T36 l1 x12_1).f1)))
                    · rw [if_pos c15] at H
                      have c15b0 := eq_true c15
                      have c15b1 : decide (x11_1 ≤ (wrap64 (x11_1 + ((rd_T36 l1 x12_1).f1)))) = true := decide_eq_true c15
                      by_cases c16 : (wrap64 (x11_1 + ((rd_T36 l1 x12_1).f1))) ≤ (t191.length : Int)
                      · rw [if_pos c16] at H
                        have c16b0 := eq_true c16
                        have c16b1 : decide ((wrap64 (x11_1 + ((rd_T36 l1 x12_1).f1))) ≤ (t191.length : Int)) = true := decide_eq_true c16
                        obtain ⟨y199, hy199⟩ : ∃ y_ : List Int, y_ = ((t191.take ((wrap64 (x11_1 + ((rd_T36 l1 x12_1).f1))) : Int).toNat).drop (x11_1 : Int).toNat) := ⟨_, rfl⟩
                        replace H : ((oxbowref01_Text.f k1 y199).bind fun bt203 => (if x10_1.size + bt203.1.size ≤ 9223372036854775807 then (if (x10_1 ++ bt203.1).size + ((rd_T36 l1 x12_1).f2).size ≤ 9223372036854775807 then (oxbowref09_Apply.l0 k1 l1 t191 ((x10_1 ++ bt203.1) ++ ((rd_T36 l1 x12_1).f2)) (wrap64 (x11_1 + ((rd_T36 l1 x12_1).f1))) (wrap64 (x12_1 + 1))) else (none)) else (none))) = some (r1, r2) := by first | (rw [hy199]; with_reducible exact H) | (have H2_ := (Option.bind_some _ _).symm.trans H; rw [hy199]; with_reducible exact H2_) | (have H2_ := (Option.bind_some _ _).symm.trans H; with_reducible exact H2_) | with_reducible exact H | (rw [hy199]; exact H) | exact H
                        have Ny199 := Aside0.mk hy199
                        clear hy199
                        replace H := Option.bind_eq_some_iff.mp H
                        obtain ⟨⟨t203, t204⟩, A170, H⟩ := H
                        replace H : (if x10_1.size + t203.size ≤ 9223372036854775807 then (if (x10_1 ++ t203).size + ((rd_T36 l1 x12_1).f2).size ≤ 9223372036854775807 then (oxbowref09_Apply.l0 k1 l1 t191 ((x10_1 ++ t203) ++ ((rd_T36 l1 x12_1).f2)) (wrap64 (x11_1 + ((rd_T36 l1 x12_1).f1))) (wrap64 (x12_1 + 1))) else (none)) else (none)) = some (r1, r2) := H
                        have A17 := Aside0.mk A170
                        clear A170
                        by_cases c18 : x10_1.size + t203.size ≤ 9223372036854775807
                        · rw [if_pos c18] at H
                          have c18b0 := eq_true c18
                          have c18b1 : decide (x10_1.size + t203.size ≤ 9223372036854775807) = true := decide_eq_true c18
                          try have c18b2 : (9223372036854775807 < x10_1.size + t203.size) = False := eq_false (Nat.not_lt.2 c18)
                          by_cases c19 : (x10_1 ++ t203).size + ((rd_T36 l1 x12_1).f2).size ≤ 9223372036854775807
                          · rw [if_pos c19] at H
                            have c19b0 := eq_true c19
                            have c19b1 : decide ((x10_1 ++ t203).size + ((rd_T36 l1 x12_1).f2).size ≤ 9223372036854775807) = true := decide_eq_true c19
                            try have c19b2 : (9223372036854775807 < (x10_1 ++ t203).size + ((rd_T36 l1 x12_1).f2).size) = False := eq_false (Nat.not_lt.2 c19)
                            try (have c19b3 := c19b2; rw [ByteArray.size_append] at c19b3)
                            have H' := Aside0.mk H
                            clear H
                            have p197 : 0 ≤ (x12_1 : Int) := of_decide_eq_true (by first | (with_reducible assumption) | assumption)
                            have q197 : x12_1 < (l1.length : Int) := of_decide_eq_true (by first | (with_reducible assumption) | assumption)
                            obtain ⟨ad197, e197, hx197_0, hx197_1, hx197_2⟩ := at_T36 HR1.out x12_1 p197 q197
                            cases e197
                            replace hx197_0 := (HB.out.cell (World.block_lt_of_cell? w _ hx197_0)).trans hx197_0
                            replace hx197_1 := (HB.out.cell (World.block_lt_of_cell? w _ hx197_1)).trans hx197_1
                            replace hx197_2 := (HB.out.cell (World.block_lt_of_cell? w _ hx197_2)).trans hx197_2
                            replace p197 := eq_true p197
                            replace q197 := eq_true q197
                            have p198 : 0 ≤ (x12_1 : Int) := of_decide_eq_true (by first | (with_reducible assumption) | assumption)
                            have q198 : x12_1 < (l1.length : Int) := of_decide_eq_true (by first | (with_reducible assumption) | assumption)
                            obtain ⟨ad198, e198, hx198_0, hx198_1, hx198_2⟩ := at_T36 HR1.out x12_1 p198 q198
                            obtain rfl : ad197 = ad198 := (by injection e198)
                            replace hx198_0 := (HB.out.cell (World.block_lt_of_cell? w _ hx198_0)).trans hx198_0
                            replace hx198_1 := (HB.out.cell (World.block_lt_of_cell? w _ hx198_1)).trans hx198_1
                            replace hx198_2 := (HB.out.cell (World.block_lt_of_cell? w _ hx198_2)).trans hx198_2
                            replace p198 := eq_true p198
                            replace q198 := eq_true q198
                            have q20 : ((wrap64 (x11_1 + ((rd_T36 l1 x12_1).f1))) : Int) ≤ ((t191.length : Int) : Int) := of_decide_eq_true (by first | (with_reducible assumption) | assumption)
                            obtain ⟨i020, hi020, _, hsz20, _⟩ := info_parts info3
                            have hroom20 : t191.length ≤ co10 := (Kd.R_reads' HO_6.out).2.1
                            have hC20 : Kd.C (Kd.int .i64) _ Ao10 t191.length t191 := (Kd.R_reads' HO_6.out).2.2
                            have ql20 : (x11_1 : Int) ≤ ((wrap64 (x11_1 + ((rd_T36 l1 x12_1).f1))) : Int) := of_decide_eq_true (by first | (with_reducible assumption) | assumption)
                            have q020 : (0 : Int) ≤ (x11_1 : Int) := of_decide_eq_true (by first | (with_reducible assumption) | assumption)
                            have hcut20 := cut_mid (P := Try.prog) 48 3 .i64 .i64 Try.underlying48 hi020 1 hsz20 Ao10 t191.length co10 x11_1 (wrap64 (x11_1 + ((rd_T36 l1 x12_1).f1))) q020 ql20 q20 hroom20
                            have hr20 := Kd.C_mid (lo := (x11_1 : Int).toNat) (hi := ((wrap64 (x11_1 + ((rd_T36 l1 x12_1).f1))) : Int).toNat) (c := co10) hC20 (by omega) (by omega) hroom20
                            obtain ⟨A20, hA20⟩ : ∃ A1, A1 = (if co10 = (x11_1 : Int).toNat then Ao10 else (Ao10 : Option Addr).map (·.add ((x11_1 : Int).toNat * 1))) := ⟨_, rfl⟩
                            obtain ⟨c20, hc20⟩ : ∃ c1, c1 = co10 - (x11_1 : Int).toNat := ⟨_, rfl⟩
                            have hy20 : y199.length = ((wrap64 (x11_1 + ((rd_T36 l1 x12_1).f1))) : Int).toNat - (x11_1 : Int).toNat := (by rw [Ny199.out, List.length_drop, List.length_take] <;> omega)
                            rw [show ((t191).take ((wrap64 (x11_1 + ((rd_T36 l1 x12_1).f1))) : Int).toNat).drop (x11_1 : Int).toNat = y199 from Ny199.out.symm] at hr20
                            replace hr20 : Kd.C (Kd.int .i64) _ A20 y199.length y199 := (by rw [hA20]; exact hr20)
                            rw [← hy20, ← hA20, ← hc20] at hcut20
                            have HR202 := Aside0.mk hr20
                            have HC202 := Aside0.mk (show y199.length ≤ c20 from by rw [hy20, hc20]; exact Nat.sub_le_sub_right (Nat.le_trans (by omega) hroom20) _)
                            clear hr20 hC20 hroom20 hi020 hsz20 hc20
                            have KY20 := Aside0.mk hy20
                            have KA20 := Aside0.mk hA20
                            clear hy20 hA20
                            have KL20 := Aside0.mk (show ((wrap64 (x11_1 + ((rd_T36 l1 x12_1).f1))) : Int).toNat ≤ t191.length from by omega)
                            have KM20 := Aside0.mk (show (x11_1 : Int).toNat ≤ ((wrap64 (x11_1 + ((rd_T36 l1 x12_1).f1))) : Int).toNat from by omega)
                            replace q20 := eq_true q20
                            go_wp2_with (first | ((with_reducible refine gate_callee (f := 41) rfl ?_); refine goesL_ (some 57) rfl rfl Try.func41 (by kernel_rfl) rfl #[.slice A20 y199.length c20] rfl (by (try simp only [List.map_toArray, List.map_cons, List.map_nil]); first | done | rfl | (simp only [List.length_drop, List.length_take]; rfl)) ?_; (with_reducible refine (oxbowref01_Text.calls k1 _ _ y199 t203 t204 _ ?side1 ?side2 A17.out).mono ?_); (case side1 => repeat (first | exact (by repeat (first | (with_reducible exact HR202.out) | (with_reducible refine Kd.C_alloc ?_ _) | (with_reducible refine Kd.C_drewN ?_ _) | (with_reducible refine Kd.C_drew ?_) | exact HR202.out)) | (with_reducible refine Kd.C_alloc ?_ _) | (with_reducible refine Kd.C_drewN ?_ _) | (with_reducible refine Kd.C_drew ?_))); (case side2 => exact HC202.out); rintro e w21 ⟨rfl, hb⟩; refine ⟨_, rfl, ?_⟩; have n0_ := Aside0.mk (Kd.R_below (by (with_reducible repeat (first | apply Kd.R_alloc | apply Kd.R_drewN | apply Kd.R_drew)); exact HO_6.out) hb); have n1_ := Aside0.mk (Kd.C_below (by repeat (first | (with_reducible exact HR202.out) | (with_reducible refine Kd.C_alloc ?_ _) | (with_reducible refine Kd.C_drewN ?_ _) | (with_reducible refine Kd.C_drew ?_) | exact HR202.out)) hb); have n2_ := Aside0.mk (below_step (by repeat (first | (with_reducible first | exact HB.out | apply below_alloc | apply pw_below_drewN | apply below_drew1) | exact HB.out)) hb); clear HO_6; clear HR202; clear HB; have HO_6 := n0_; have HR202 := n1_; have HB := n2_; clear n0_ n1_ n2_; (try clear hb); (try clear hb2); (try clear hk); (try clear hi); have p205 : 0 ≤ (x12_1 : Int) := of_decide_eq_true (by first | (with_reducible assumption) | assumption); have q205 : x12_1 < (l1.length : Int) := of_decide_eq_true (by first | (with_reducible assumption) | assumption); obtain ⟨ad205, e205, hx205_0, hx205_1, hx205_2⟩ := at_T36 HR1.out x12_1 p205 q205; obtain rfl : ad197 = ad205 := (by injection e205); replace hx205_0 := (HB.out.cell (World.block_lt_of_cell? w _ hx205_0)).trans hx205_0; replace hx205_1 := (HB.out.cell (World.block_lt_of_cell? w _ hx205_1)).trans hx205_1; replace hx205_2 := (HB.out.cell (World.block_lt_of_cell? w _ hx205_2)).trans hx205_2; replace p205 := eq_true p205; replace q205 := eq_true q205; have p206 : 0 ≤ (x12_1 : Int) := of_decide_eq_true (by first | (with_reducible assumption) | assumption); have q206 : x12_1 < (l1.length : Int) := of_decide_eq_true (by first | (with_reducible assumption) | assumption); obtain ⟨ad206, e206, hx206_0, hx206_1, hx206_2⟩ := at_T36 HR1.out x12_1 p206 q206; obtain rfl : ad197 = ad206 := (by injection e206); replace hx206_0 := (HB.out.cell (World.block_lt_of_cell? w _ hx206_0)).trans hx206_0; replace hx206_1 := (HB.out.cell (World.block_lt_of_cell? w _ hx206_1)).trans hx206_1; replace hx206_2 := (HB.out.cell (World.block_lt_of_cell? w _ hx206_2)).trans hx206_2; replace p206 := eq_true p206; replace q206 := eq_true q206))
                            go_roundg k1
                            case measure => have := HK1.out; omega
                            case rel => exact ⟨((x10_1 ++ t203) ++ ((rd_T36 l1 x12_1).f2)), (wrap64 (x11_1 + ((rd_T36 l1 x12_1).f1))), (wrap64 (x12_1 + 1)), (by first | rfl | (simp; done) | (simp [*]; done) | (simp; (generalize ByteArray.toList _ = l_); cases l_ <;> rfl)), (by first | rfl | (simp; done) | (simp [*]; done) | (simp; (generalize ByteArray.toList _ = l_); cases l_ <;> rfl)), (by first | rfl | (simp; done) | (simp [*]; done) | (simp; (generalize ByteArray.toList _ = l_); cases l_ <;> rfl)), H', ⟨by have := HK1.out; omega⟩, ⟨by (with_reducible repeat (first | apply Kd.R_alloc | apply Kd.R_drewN | apply Kd.R_drew)); exact HO_6.out⟩, ⟨by repeat (first | (with_reducible first | exact HB.out | apply below_alloc | apply pw_below_drewN | apply below_drew1) | exact HB.out)⟩⟩
                          · rw [if_neg c19] at H
                            exact absurd H (by simp)
                        · rw [if_neg c18] at H
                          exact absurd H (by simp)
                      · rw [if_neg c16] at H
                        exact absurd H (by simp)
                    · rw [if_neg c15] at H
                      exact absurd H (by simp)
                  · rw [if_neg c14] at H
                    exact absurd H (by simp)
                · rw [if_neg c13] at H
                  have c13b0 : (((rd_T36 l1 x12_1).f0) == 1) = false := beq_eq_false_iff_ne.mpr c13
                  have c13b1 : (((rd_T36 l1 x12_1).f0) != 1) = true := bne_iff_ne.mpr c13
                  by_cases c22 : x10_1.size + ((rd_T36 l1 x12_1).f2).size ≤ 9223372036854775807
                  · rw [if_pos c22] at H
                    have c22b0 := eq_true c22
                    have c22b1 : decide (x10_1.size + ((rd_T36 l1 x12_1).f2).size ≤ 9223372036854775807) = true := decide_eq_true c22
                    try have c22b2 : (9223372036854775807 < x10_1.size + ((rd_T36 l1 x12_1).f2).size) = False := eq_false (Nat.not_lt.2 c22)
                    have H' := Aside0.mk H
                    clear H
                    have p197 : 0 ≤ (x12_1 : Int) := of_decide_eq_true (by first | (with_reducible assumption) | assumption)
                    have q197 : x12_1 < (l1.length : Int) := of_decide_eq_true (by first | (with_reducible assumption) | assumption)
                    obtain ⟨ad197, e197, hx197_0, hx197_1, hx197_2⟩ := at_T36 HR1.out x12_1 p197 q197
                    cases e197
                    replace hx197_0 := (HB.out.cell (World.block_lt_of_cell? w _ hx197_0)).trans hx197_0
                    replace hx197_1 := (HB.out.cell (World.block_lt_of_cell? w _ hx197_1)).trans hx197_1
                    replace hx197_2 := (HB.out.cell (World.block_lt_of_cell? w _ hx197_2)).trans hx197_2
                    replace p197 := eq_true p197
                    replace q197 := eq_true q197
                    have p207 : 0 ≤ (x12_1 : Int) := of_decide_eq_true (by first | (with_reducible assumption) | assumption)
                    have q207 : x12_1 < (l1.length : Int) := of_decide_eq_true (by first | (with_reducible assumption) | assumption)
                    obtain ⟨ad207, e207, hx207_0, hx207_1, hx207_2⟩ := at_T36 HR1.out x12_1 p207 q207
                    obtain rfl : ad197 = ad207 := (by injection e207)
                    replace hx207_0 := (HB.out.cell (World.block_lt_of_cell? w _ hx207_0)).trans hx207_0
                    replace hx207_1 := (HB.out.cell (World.block_lt_of_cell? w _ hx207_1)).trans hx207_1
                    replace hx207_2 := (HB.out.cell (World.block_lt_of_cell? w _ hx207_2)).trans hx207_2
                    replace p207 := eq_true p207
                    replace q207 := eq_true q207
                    have p208 : 0 ≤ (x12_1 : Int) := of_decide_eq_true (by first | (with_reducible assumption) | assumption)
                    have q208 : x12_1 < (l1.length : Int) := of_decide_eq_true (by first | (with_reducible assumption) | assumption)
                    obtain ⟨ad208, e208, hx208_0, hx208_1, hx208_2⟩ := at_T36 HR1.out x12_1 p208 q208
                    obtain rfl : ad197 = ad208 := (by injection e208)
                    replace hx208_0 := (HB.out.cell (World.block_lt_of_cell? w _ hx208_0)).trans hx208_0
                    replace hx208_1 := (HB.out.cell (World.block_lt_of_cell? w _ hx208_1)).trans hx208_1
                    replace hx208_2 := (HB.out.cell (World.block_lt_of_cell? w _ hx208_2)).trans hx208_2
                    replace p208 := eq_true p208
                    replace q208 := eq_true q208
                    go_wp2
                    go_roundg k1
                    case measure => have := HK1.out; omega
                    case rel => exact ⟨(x10_1 ++ ((rd_T36 l1 x12_1).f2)), (wrap64 (x11_1 + ((rd_T36 l1 x12_1).f1))), (wrap64 (x12_1 + 1)), (by first | rfl | (simp; done) | (simp [*]; done) | (simp; (generalize ByteArray.toList _ = l_); cases l_ <;> rfl)), (by first | rfl | (simp; done) | (simp [*]; done) | (simp; (generalize ByteArray.toList _ = l_); cases l_ <;> rfl)), (by first | rfl | (simp; done) | (simp [*]; done) | (simp; (generalize ByteArray.toList _ = l_); cases l_ <;> rfl)), H', ⟨by have := HK1.out; omega⟩, ⟨by (with_reducible repeat (first | apply Kd.R_alloc | apply Kd.R_drewN | apply Kd.R_drew)); exact HO_6.out⟩, ⟨by repeat (first | (with_reducible first | exact HB.out | apply below_alloc | apply pw_below_drewN | apply below_drew1) | exact HB.out)⟩⟩
                  · rw [if_neg c22] at H
                    exact absurd H (by simp)
              · rw [if_neg c12] at H
                exact absurd H (by simp)
            · rw [if_neg c11] at H
              have c11b0 : decide (x12_1 < (l1.length : Int)) = false := decide_eq_false c11
              clear c11
              simp only [Option.some.injEq, Prod.mk.injEq] at H
              obtain ⟨rfl, rfl⟩ := H
              go_wp2
              go_ret2
              exact ⟨by first | rfl | (simp [errW_none, errW_some] <;> rfl) | (simp [*, errW_none, errW_some] <;> rfl), by repeat (first | (with_reducible first | exact HB.out | apply below_alloc | apply pw_below_drewN | apply below_drew1) | exact HB.out)⟩
      · rw [if_neg c7] at H
        have c7b0 : (t195 == (t191.length : Int)) = false := beq_eq_false_iff_ne.mpr c7
        have c7b1 : (t195 != (t191.length : Int)) = true := bne_iff_ne.mpr c7
        simp only [Option.some.injEq, Prod.mk.injEq] at H
        obtain ⟨rfl, rfl⟩ := H
        go_enter Try.func16, Try.ntmps16
        go_wp2_with (first | ((with_reducible refine gate_callee (f := 40) rfl ?_); refine goesL_ (some 17) rfl rfl Try.func40 (by kernel_rfl) rfl #[.string a0] rfl (by (try simp only [List.map_toArray, List.map_cons, List.map_nil]); first | done | rfl | (simp only [List.length_drop, List.length_take]; rfl)) ?_; (with_reducible refine (oxbowref01_Points.calls k a0 t191 true _ A3.out).mono ?_); rintro e w23 ⟨v193, rfl, ho0, hb⟩; refine ⟨_, rfl, ?_⟩; have n0_ := Aside0.mk (Kd.R_lower ho0 (below_size (by repeat (first | (with_reducible first | exact HB.out | apply below_alloc | apply pw_below_drewN | apply below_drew1) | exact HB.out)))); have n1_ := Aside0.mk (below_step (by repeat (first | (with_reducible first | exact HB.out | apply below_alloc | apply pw_below_drewN | apply below_drew1) | exact HB.out)) hb); clear HB; have HO194 := n0_; have HB := n1_; clear n0_ n1_; (try clear hb); (try clear hb2); (try clear hk); (try clear hi); (try clear ho0)) | ((with_reducible refine gate_callee (f := 22) rfl ?_); refine goesL_ (some 24) rfl rfl Try.func22 (by kernel_rfl) rfl #[.slice A1 l1.length c1] rfl (by (try simp only [List.map_toArray, List.map_cons, List.map_nil]); first | done | rfl | (simp only [List.length_drop, List.length_take]; rfl)) ?_; (with_reducible refine (oxbowref09_Base.calls k _ _ l1 t195 t196 _ ?side1 ?side2 A5.out).mono ?_); (case side1 => repeat (first | exact (Kd.C_below HR1.out HB.out) | (with_reducible refine Kd.C_alloc ?_ _) | (with_reducible refine Kd.C_drewN ?_ _) | (with_reducible refine Kd.C_drew ?_))); (case side2 => exact HC1.out); rintro e w24 ⟨rfl, hb⟩; refine ⟨_, rfl, ?_⟩; have n0_ := Aside0.mk (Kd.R_below (by (with_reducible repeat (first | apply Kd.R_alloc | apply Kd.R_drewN | apply Kd.R_drew)); exact HO194.out) hb); have n1_ := Aside0.mk (below_step (by repeat (first | (with_reducible first | exact HB.out | apply below_alloc | apply pw_below_drewN | apply below_drew1) | exact HB.out)) hb); clear HO194; clear HB; have HO194 := n0_; have HB := n1_; clear n0_ n1_; (try clear hb); (try clear hb2); (try clear hk); (try clear hi); obtain ⟨Ao25, co25, eo25⟩ := Kd.R_slice HO194.out; subst eo25))
        go_ret2
        exact ⟨by first | rfl | (simp [errW_none, errW_some] <;> rfl) | (simp [*, errW_none, errW_some] <;> rfl), by repeat (first | (with_reducible first | exact HB.out | apply below_alloc | apply pw_below_drewN | apply below_drew1) | exact HB.out)⟩
    · rw [if_neg c6] at H
      have c6b0 : (t196 == 0) = false := beq_eq_false_iff_ne.mpr c6
      have c6b1 : (t196 != 0) = true := bne_iff_ne.mpr c6
      simp only [Option.some.injEq, Prod.mk.injEq] at H
      obtain ⟨rfl, rfl⟩ := H
      go_enter Try.func16, Try.ntmps16
      go_wp2_with (first | ((with_reducible refine gate_callee (f := 40) rfl ?_); refine goesL_ (some 17) rfl rfl Try.func40 (by kernel_rfl) rfl #[.string a0] rfl (by (try simp only [List.map_toArray, List.map_cons, List.map_nil]); first | done | rfl | (simp only [List.length_drop, List.length_take]; rfl)) ?_; (with_reducible refine (oxbowref01_Points.calls k a0 t191 true _ A3.out).mono ?_); rintro e w26 ⟨v193, rfl, ho0, hb⟩; refine ⟨_, rfl, ?_⟩; have n0_ := Aside0.mk (Kd.R_lower ho0 (below_size (by repeat (first | (with_reducible first | exact HB.out | apply below_alloc | apply pw_below_drewN | apply below_drew1) | exact HB.out)))); have n1_ := Aside0.mk (below_step (by repeat (first | (with_reducible first | exact HB.out | apply below_alloc | apply pw_below_drewN | apply below_drew1) | exact HB.out)) hb); clear HB; have HO194 := n0_; have HB := n1_; clear n0_ n1_; (try clear hb); (try clear hb2); (try clear hk); (try clear hi); (try clear ho0)) | ((with_reducible refine gate_callee (f := 22) rfl ?_); refine goesL_ (some 24) rfl rfl Try.func22 (by kernel_rfl) rfl #[.slice A1 l1.length c1] rfl (by (try simp only [List.map_toArray, List.map_cons, List.map_nil]); first | done | rfl | (simp only [List.length_drop, List.length_take]; rfl)) ?_; (with_reducible refine (oxbowref09_Base.calls k _ _ l1 t195 t196 _ ?side1 ?side2 A5.out).mono ?_); (case side1 => repeat (first | exact (Kd.C_below HR1.out HB.out) | (with_reducible refine Kd.C_alloc ?_ _) | (with_reducible refine Kd.C_drewN ?_ _) | (with_reducible refine Kd.C_drew ?_))); (case side2 => exact HC1.out); rintro e w27 ⟨rfl, hb⟩; refine ⟨_, rfl, ?_⟩; have n0_ := Aside0.mk (Kd.R_below (by (with_reducible repeat (first | apply Kd.R_alloc | apply Kd.R_drewN | apply Kd.R_drew)); exact HO194.out) hb); have n1_ := Aside0.mk (below_step (by repeat (first | (with_reducible first | exact HB.out | apply below_alloc | apply pw_below_drewN | apply below_drew1) | exact HB.out)) hb); clear HO194; clear HB; have HO194 := n0_; have HB := n1_; clear n0_ n1_; (try clear hb); (try clear hb2); (try clear hk); (try clear hi)))
      go_ret2
      exact ⟨by first | rfl | (simp [errW_none, errW_some] <;> rfl) | (simp [*, errW_none, errW_some] <;> rfl), by repeat (first | (with_reducible first | exact HB.out | apply below_alloc | apply pw_below_drewN | apply below_drew1) | exact HB.out)⟩
  · replace c4 := Bool.eq_false_iff.mpr c4
    subst c4
    have H1 : (some ((⟨#[]⟩ : ByteArray), 10)) = some (r1, r2) := by rw [if_neg (show ¬ (false = true) by decide)] at H; exact H
    clear H
    have H := H1
    clear H1
    simp only [Option.some.injEq, Prod.mk.injEq] at H
    obtain ⟨rfl, rfl⟩ := H
    go_enter Try.func16, Try.ntmps16
    go_wp2_with (first | ((with_reducible refine gate_callee (f := 40) rfl ?_); refine goesL_ (some 17) rfl rfl Try.func40 (by kernel_rfl) rfl #[.string a0] rfl (by (try simp only [List.map_toArray, List.map_cons, List.map_nil]); first | done | rfl | (simp only [List.length_drop, List.length_take]; rfl)) ?_; (with_reducible refine (oxbowref01_Points.calls k a0 t191 false _ A3.out).mono ?_); rintro e w28 ⟨v193, rfl, ho0, hb⟩; refine ⟨_, rfl, ?_⟩; have n0_ := Aside0.mk (Kd.R_lower ho0 (below_size (by repeat (first | (with_reducible first | exact HB.out | apply below_alloc | apply pw_below_drewN | apply below_drew1) | exact HB.out)))); have n1_ := Aside0.mk (below_step (by repeat (first | (with_reducible first | exact HB.out | apply below_alloc | apply pw_below_drewN | apply below_drew1) | exact HB.out)) hb); clear HB; have HO194 := n0_; have HB := n1_; clear n0_ n1_; (try clear hb); (try clear hb2); (try clear hk); (try clear hi); (try clear ho0)))
    go_ret2
    exact ⟨by first | rfl | (simp [errW_none, errW_some] <;> rfl) | (simp [*, errW_none, errW_some] <;> rfl), by repeat (first | (with_reducible first | exact HB.out | apply below_alloc | apply pw_below_drewN | apply below_drew1) | exact HB.out)⟩

-- NOT PRINTED: function 44 (delta_joiner_keeps)

-- NOT PRINTED: function 43 (delta_joiner_gap)

end Go.Proofs.Ytdpbkomaiafemaa.HDl
