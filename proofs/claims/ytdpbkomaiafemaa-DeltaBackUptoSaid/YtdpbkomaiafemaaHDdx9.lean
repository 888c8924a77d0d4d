-- Written by hprint.py over the kit's print.py; contracts of some functions by hand.
import Derived.Test.YtdpbkomaiafemaaHDdx0
import Derived.Test.YtdpbkomaiafemaaHDdx8
namespace Go.Proofs.Ytdpbkomaiafemaa.HDd
open Go.RowKit Go.Proofs.YtdpbkomaiafemaaW.PrintWords Go.Proofs.YtdpbkomaiafemaaW.PrintLast Go.Proofs.YtdpbkomaiafemaaW.PrintMore
attribute [local go_sem] max2_int min2_int max_two min_two max_three min_three max_four min_four   -- for this text's walks alone
set_option linter.unusedVariables false
set_option linter.unusedSimpArgs false

/-! ### oxbowref02_Text: function 56 -/
def oxbowref02_Text.f (k : Nat) (a0 : ByteArray) : Option (ByteArray × Int) := if (a0.size : Int) > 20000 then (some ((⟨#[]⟩ : ByteArray), 2)) else ((oxbowref02_Num.f k (a0.size : Int)).bind fun bt212 => (if bt212.1.size + a0.size ≤ 9223372036854775807 then (some (bt212.1 ++ a0, 0)) else (none)))
theorem oxbowref02_Text.mono : ∀ a0 k, LeO (oxbowref02_Text.f k a0) (oxbowref02_Text.f (k + 1) a0) := by
  intro a0 k
  unfold oxbowref02_Text.f
  repeat' first
      | (with_reducible exact oxbowref02_Num.mono _ _)
      | (with_reducible exact LeO.refl _)
      | (with_reducible exact LeO.none _)
      | (with_reducible refine LeO.ite ?_ ?_)
      | (with_reducible refine LeO.bind ?_ (fun _ => ?_))
      | exact oxbowref02_Num.mono _ _
      | exact LeO.none _
      | refine LeO.ite ?_ ?_
      | refine LeO.bind ?_ (fun _ => ?_)
set_option maxHeartbeats 8000000 in
set_option maxRecDepth 100000 in
theorem oxbowref02_Text.calls (k : Nat) (a0 : ByteArray) (r1 : ByteArray) (r2 : Int) (w : World) (h : oxbowref02_Text.f k a0 = some (r1, r2)) :
    Calls Try.prog 56 #[.string a0] w fun e w' => e = .returned (.tuple #[.string r1, .int .i64 r2]) ∧ Below w.heap.size w w' := by
  have HB := Aside0.mk (Below.refl w.heap.size w)
  have H : (if (a0.size : Int) > 20000 then (some ((⟨#[]⟩ : ByteArray), 2)) else ((oxbowref02_Num.f k (a0.size : Int)).bind fun bt212 => (if bt212.1.size + a0.size ≤ 9223372036854775807 then (some (bt212.1 ++ a0, 0)) else (none)))) = some (r1, r2) := h
  clear h
  by_cases c2 : (a0.size : Int) > 20000
  · rw [if_pos c2] at H
    have c2b0 : decide (20000 < (a0.size : Int)) = true := decide_eq_true c2
    have c2b1 : decide (20000 < a0.size) = true := decide_eq_true (by omega)
    clear c2
    simp only [Option.some.injEq, Prod.mk.injEq] at H
    obtain ⟨rfl, rfl⟩ := H
    go_enter Try.func56, Try.ntmps56
    go_wp2
    go_ret2
    exact ⟨by first | rfl | (simp [errW_none, errW_some] <;> rfl) | (simp [*, errW_none, errW_some] <;> rfl), by repeat (first | (with_reducible first | exact HB.out | apply below_alloc | apply pw_below_drewN | apply below_drew1) | exact HB.out)⟩
  · rw [if_neg c2] at H
    have c2b0 : decide (20000 < (a0.size : Int)) = false := decide_eq_false c2
    have c2b1 : decide (20000 < a0.size) = false := decide_eq_false (by omega)
    clear c2
    replace H := Option.bind_eq_some_iff.mp H
    obtain ⟨⟨t212, t213⟩, A30, H⟩ := H
    replace H : (if t212.size + a0.size ≤ 9223372036854775807 then (some (t212 ++ a0, 0)) else (none)) = some (r1, r2) := H
    have A3 := Aside0.mk A30
    clear A30
    by_cases c4 : t212.size + a0.size ≤ 9223372036854775807
    · rw [if_pos c4] at H
      have c4b0 := eq_true c4
      have c4b1 : decide (t212.size + a0.size ≤ 9223372036854775807) = true := decide_eq_true c4
      try have c4b2 : (9223372036854775807 < t212.size + a0.size) = False := eq_false (Nat.not_lt.2 c4)
      simp only [Option.some.injEq, Prod.mk.injEq] at H
      obtain ⟨rfl, rfl⟩ := H
      go_enter Try.func56, Try.ntmps56
      go_wp2_with (first | ((with_reducible refine gate_callee (f := 55) rfl ?_); refine goesL_ (some 12) rfl rfl Try.func55 (by kernel_rfl) rfl #[.int .i64 (a0.size : Int)] rfl (by (try simp only [List.map_toArray, List.map_cons, List.map_nil]); first | done | rfl | (simp only [List.length_drop, List.length_take]; rfl)) ?_; (with_reducible refine (oxbowref02_Num.calls k (a0.size : Int) t212 t213 _ A3.out).mono ?_); rintro e w5 ⟨rfl, hb⟩; refine ⟨_, rfl, ?_⟩; have n0_ := Aside0.mk (below_step (by repeat (first | (with_reducible first | exact HB.out | apply below_alloc | apply pw_below_drewN | apply below_drew1) | exact HB.out)) hb); clear HB; have HB := n0_; clear n0_; (try clear hb); (try clear hb2); (try clear hk); (try clear hi)))
      go_ret2
      exact ⟨by first | rfl | (simp [errW_none, errW_some] <;> rfl) | (simp [*, errW_none, errW_some] <;> rfl), by repeat (first | (with_reducible first | exact HB.out | apply below_alloc | apply pw_below_drewN | apply below_drew1) | exact HB.out)⟩
    · rw [if_neg c4] at H
      exact absurd H (by simp)

/-! ### oxbowref09_Encode: function 34 -/
theorem oxbowref09_Encode.info : (Try.prog.info? 5).map (fun i => (i.zero, i.size, i.bytes)) = some (some (.int .u8 0), 1, 1) := by kernel_rfl
/-- The bytes behind an operation's kind. -/
def oxbowref09_Encode.part (k : Nat) (x : S36) : Option (ByteArray × Int) := if x.f0 = 2 then oxbowref02_Text.f k x.f2 else oxbowref02_Num.f k x.f1
def oxbowref09_Encode.l0 : Nat → List S36 → ByteArray → Int → Option (ByteArray × Int)
  | 0, _, _, _ => none
  | k + 1, l, out, i => if i < (l.length : Int) then (if 0 ≤ i then ((oxbowref02_Num.f k (rd_T36 l i).f0).bind fun b => (if out.size + b.1.size ≤ 140737488355328 then ((oxbowref09_Encode.part k (rd_T36 l i)).bind fun c => (if (out ++ b.1).size + c.1.size ≤ 140737488355328 then oxbowref09_Encode.l0 k l ((out ++ b.1) ++ c.1) (wrap64 (i + 1)) else none)) else none)) else none) else some (out, 0)
def oxbowref09_Encode.f (k : Nat) (l0 : List S36) : Option (ByteArray × Int) := (oxbowref09_Check.f k l0).bind fun e => if e = 0 then ((oxbowref02_Num.f k (l0.length : Int)).bind fun b => (if b.1.size ≤ 140737488355328 then oxbowref09_Encode.l0 k l0 b.1 0 else none)) else some ((⟨#[]⟩ : ByteArray), e)
theorem oxbowref09_Encode.part_mono (x : S36) (k : Nat) : LeO (oxbowref09_Encode.part k x) (oxbowref09_Encode.part (k + 1) x) := by
  unfold oxbowref09_Encode.part
  exact LeO.ite (oxbowref02_Text.mono _ _) (oxbowref02_Num.mono _ _)
theorem oxbowref09_Encode.mono_l : ∀ k, (∀ y0 y1 y2, LeO (oxbowref09_Encode.l0 k y0 y1 y2) (oxbowref09_Encode.l0 (k + 1) y0 y1 y2))
  | 0 => fun _ _ _ r h => by simp [oxbowref09_Encode.l0] at h
  | k + 1 => by
    have ih := oxbowref09_Encode.mono_l k
    intro y0 y1 y2
    unfold oxbowref09_Encode.l0
    exact LeO.ite (LeO.ite (LeO.bind (oxbowref02_Num.mono _ _) (fun _ => LeO.ite (LeO.bind (oxbowref09_Encode.part_mono _ _) (fun _ => LeO.ite (ih _ _ _) (LeO.refl _))) (LeO.refl _))) (LeO.refl _)) (LeO.refl _)
theorem oxbowref09_Encode.mono : ∀ a0 k, LeO (oxbowref09_Encode.f k a0) (oxbowref09_Encode.f (k + 1) a0) := by
  intro a0 k
  unfold oxbowref09_Encode.f
  exact LeO.bind (oxbowref09_Check.mono _ _) (fun _ => LeO.ite (LeO.bind (oxbowref02_Num.mono _ _) (fun _ => LeO.ite (oxbowref09_Encode.mono_l k _ _ _) (LeO.refl _))) (LeO.refl _))
set_option maxHeartbeats 8000000 in
set_option maxRecDepth 100000 in
theorem oxbowref09_Encode.calls (k : Nat) (A0 : Option Addr) (c0 : Nat) (l0 : List (S36)) (r1 : ByteArray) (r2 : Int) (w : World) (hr0 : Kd.C k36 w A0 l0.length l0) (hc0 : l0.length ≤ c0) (h : oxbowref09_Encode.f k l0 = some (r1, r2)) :
    Calls Try.prog 34 #[.slice A0 l0.length c0] w fun e w' => e = .returned (.tuple #[.string r1, .int .i64 r2]) ∧ Below w.heap.size w w' := by
  have hu36 := Try.underlying36
  have HR0 := Aside0.mk hr0
  have HC0 := Aside0.mk hc0
  unfold oxbowref09_Encode.f at h
  have h_ := Option.bind_eq_some_iff.mp h
  clear h
  obtain ⟨e, he, h⟩ := h_
  have HE := Aside0.mk he
  clear he hr0 hc0
  by_cases d : e = 0
  · rw [if_pos d] at h
    subst d
    have h_ := Option.bind_eq_some_iff.mp h
    clear h
    obtain ⟨⟨t, e0⟩, h1, h2⟩ := h_
    simp only at h2
    by_cases c3 : t.size ≤ 140737488355328
    case neg => rw [if_neg c3] at h2; cases h2
    rw [if_pos c3] at h2
    have A3 := Aside0.mk h1
    have H' := Aside0.mk h2
    have LT := Aside0.mk c3
    clear h1 h2 c3
    go_enter Try.func34, Try.ntmps34
    go_wp2_with (first | ((with_reducible refine gate_callee (f := 25) rfl ?_); refine goesL_ (some 16) rfl rfl Try.func25 (by kernel_rfl) rfl #[.slice A0 l0.length c0] rfl (by (try simp only [List.map_toArray, List.map_cons, List.map_nil]); first | done | rfl) ?_; (with_reducible refine (oxbowref09_Check.calls k A0 c0 l0 _ w HR0.out HC0.out HE.out).mono ?_); rintro e w1 ⟨rfl, hb⟩; refine ⟨_, rfl, ?_⟩; have HB1 := Aside0.mk hb; clear hb) | ((with_reducible refine gate_callee (f := 55) rfl ?_); refine goesL_ (some 23) rfl rfl Try.func55 (by kernel_rfl) rfl #[.int .i64 (l0.length : Int)] rfl (by (try simp only [List.map_toArray, List.map_cons, List.map_nil]); first | done | rfl) ?_; (with_reducible refine (oxbowref02_Num.calls k (l0.length : Int) t e0 _ A3.out).mono ?_); rintro e w4 ⟨rfl, hb⟩; refine ⟨_, rfl, ?_⟩; have HB4 := Aside0.mk (below_step HB1.out hb); clear hb) | ((with_reducible refine gate_dst (N := 27) rfl ?_); refine Byt.wpList_bytes rfl 9 77 (.tmp 26) rfl w.heap.size 5 Try.underlying9 Try.underlying77 Try.underlying5 t rfl ?cL ?cB ?_; (case cL => have := LT.out; unfold maxLen; omega); (case cB => exact HB4.out.size); intro v6 w6 hO _ hb; have HO := Aside0.mk hO; have HB6 := Aside0.mk (below_step HB4.out hb); clear hO hb))
    go_loopg [7, 8] k (fun kq v7 vi w' => ∃ (out : ByteArray) (i : Int), vi = .int .i64 i ∧ Aside0 (oxbowref09_Encode.l0 kq l0 out i = some (r1, r2)) ∧ Aside0 (kq ≤ k) ∧ Aside0 (Byt.OwnM w' w.heap.size 5 v7 (Lib.strCells out)) ∧ Aside0 (Below w.heap.size w w'))
    case atStart => exact ⟨t, 0, rfl, H', ⟨Nat.le_refl _⟩, HO, HB6⟩
    case round =>
      clear H' HO HB6 HB4 HB1
      obtain ⟨out, i, rfl, HA, HK, HO, HB⟩ := hrel
      cases gk with
      | zero => exact absurd HA.out (by simp [oxbowref09_Encode.l0])
      | succ k1 =>
        have H := HA.out
        clear HA
        simp only [oxbowref09_Encode.l0] at H
        by_cases c4 : i < (l0.length : Int)
        · rw [if_pos c4] at H
          have c4b : decide (i < (l0.length : Int)) = true := decide_eq_true c4
          by_cases c5 : 0 ≤ i
          · rw [if_pos c5] at H
            obtain ⟨ad, ead, hx0, hx1, hx2⟩ := at_T36 HR0.out i c5 c4
            cases ead
            obtain ⟨x, Nx_⟩ : ∃ y_ : S36, y_ = rd_T36 l0 i := ⟨_, rfl⟩
            rw [← Nx_] at H hx0 hx1 hx2
            have X0 := Aside0.mk hx0
            have X1 := Aside0.mk hx1
            have X2 := Aside0.mk hx2
            replace hx0 := (HB.out.cell (World.block_lt_of_cell? w _ hx0)).trans hx0
            replace hx1 := (HB.out.cell (World.block_lt_of_cell? w _ hx1)).trans hx1
            replace hx2 := (HB.out.cell (World.block_lt_of_cell? w _ hx2)).trans hx2
            have Nx := Aside0.mk Nx_
            clear Nx_
            have p9 := eq_true c5
            have q9 := eq_true c4
            clear c4 c5
            have H_ := Option.bind_eq_some_iff.mp H
            clear H
            obtain ⟨⟨t1, e1⟩, h4, H⟩ := H_
            simp only at H
            have A4 := Aside0.mk h4
            clear h4
            by_cases c6 : out.size + t1.size ≤ 140737488355328
            case neg => rw [if_neg c6] at H; cases H
            rw [if_pos c6] at H
            have L6 := Aside0.mk c6
            clear c6
            have H_ := Option.bind_eq_some_iff.mp H
            clear H
            obtain ⟨⟨t2, e2⟩, h5, H⟩ := H_
            simp only at H
            by_cases c7 : (out ++ t1).size + t2.size ≤ 140737488355328
            case neg => rw [if_neg c7] at H; cases H
            rw [if_pos c7] at H
            have L7 := Aside0.mk c7
            clear c7
            have H' := Aside0.mk H
            clear H
            unfold oxbowref09_Encode.part at h5
            by_cases d2 : x.f0 = 2
            · rw [if_pos d2] at h5
              have A5 := Aside0.mk h5
              have d2b : (x.f0 == 2) = true := beq_iff_eq.mpr d2
              clear h5 d2
              go_wp2_with (first | ((with_reducible refine gate_callee (f := 55) rfl ?_); refine goesL_ (some 40) rfl rfl Try.func55 (by kernel_rfl) rfl #[.int .i64 x.f0] rfl (by (try simp only [List.map_toArray, List.map_cons, List.map_nil]); first | done | rfl) ?_; (with_reducible refine (oxbowref02_Num.calls k1 x.f0 t1 e1 _ A4.out).mono ?_); rintro e w9 ⟨rfl, hb⟩; refine ⟨_, rfl, ?_⟩; have HB9 := Aside0.mk (below_step HB.out hb); have HO9 := Aside0.mk (Byt.OwnM.below HO.out hb); clear hb; have y9_0 := (HB9.out.cell (World.block_lt_of_cell? w _ X0.out)).trans X0.out; have y9_1 := (HB9.out.cell (World.block_lt_of_cell? w _ X1.out)).trans X1.out; have y9_2 := (HB9.out.cell (World.block_lt_of_cell? w _ X2.out)).trans X2.out) | ((with_reducible refine gate_dst (N := 45) rfl ?_); refine Byt.wpList_append_M rfl (.tmp 43) (.tmp 44) 77 9 rfl w.heap.size 5 Try.underlying77 Try.underlying9 oxbowref09_Encode.info _ (Lib.strCells (out)) rfl HO9.out t1 rfl ?cLa ?cBa ?_; (case cLa => have := L6.out; rw [Lib.strCells_length]; omega); (case cBa => exact HB9.out.size); intro v10 w10 hO hg; rw [← Byt.strCells_append] at hO; have HB10 := Aside0.mk (pw_below_grown HB9.out _ HB9.out.size hg (fun k_ hk => Byt.OwnM.base_le HO9.out k_ hk)); have HO10 := Aside0.mk hO; clear hO hg; have y10_0 := (HB10.out.cell (World.block_lt_of_cell? w _ X0.out)).trans X0.out; have y10_1 := (HB10.out.cell (World.block_lt_of_cell? w _ X1.out)).trans X1.out; have y10_2 := (HB10.out.cell (World.block_lt_of_cell? w _ X2.out)).trans X2.out) | ((with_reducible refine gate_callee (f := 56) rfl ?_); refine goesL_ (some 58) rfl rfl Try.func56 (by kernel_rfl) rfl #[.string x.f2] rfl (by (try simp only [List.map_toArray, List.map_cons, List.map_nil]); first | done | rfl) ?_; (with_reducible refine (oxbowref02_Text.calls k1 x.f2 t2 e2 _ A5.out).mono ?_); rintro e w11 ⟨rfl, hb⟩; refine ⟨_, rfl, ?_⟩; have HB11 := Aside0.mk (below_step HB10.out hb); have HO11 := Aside0.mk (Byt.OwnM.below HO10.out hb); clear hb) | ((with_reducible refine gate_dst (N := 63) rfl ?_); refine Byt.wpList_append_M rfl (.tmp 61) (.tmp 62) 77 9 rfl w.heap.size 5 Try.underlying77 Try.underlying9 oxbowref09_Encode.info _ (Lib.strCells (out ++ t1)) rfl HO11.out t2 rfl ?cLb ?cBb ?_; (case cLb => have := L7.out; rw [Lib.strCells_length]; omega); (case cBb => exact HB11.out.size); intro v12 w12 hO hg; rw [← Byt.strCells_append] at hO; have HB12 := Aside0.mk (pw_below_grown HB11.out _ HB11.out.size hg (fun k_ hk => Byt.OwnM.base_le HO11.out k_ hk)); have HO12 := Aside0.mk hO; clear hO hg))
              go_roundg k1
              case measure => have := HK.out; omega
              case rel => exact ⟨_, wrap64 (i + 1), rfl, H', ⟨by have := HK.out; omega⟩, HO12, HB12⟩
            · rw [if_neg d2] at h5
              have A5 := Aside0.mk h5
              have d2b : (x.f0 == 2) = false := beq_eq_false_iff_ne.mpr d2
              clear h5 d2
              go_wp2_with (first | ((with_reducible refine gate_callee (f := 55) rfl ?_); refine goesL_ (some 40) rfl rfl Try.func55 (by kernel_rfl) rfl #[.int .i64 x.f0] rfl (by (try simp only [List.map_toArray, List.map_cons, List.map_nil]); first | done | rfl) ?_; (with_reducible refine (oxbowref02_Num.calls k1 x.f0 t1 e1 _ A4.out).mono ?_); rintro e w9 ⟨rfl, hb⟩; refine ⟨_, rfl, ?_⟩; have HB9 := Aside0.mk (below_step HB.out hb); have HO9 := Aside0.mk (Byt.OwnM.below HO.out hb); clear hb; have y9_0 := (HB9.out.cell (World.block_lt_of_cell? w _ X0.out)).trans X0.out; have y9_1 := (HB9.out.cell (World.block_lt_of_cell? w _ X1.out)).trans X1.out; have y9_2 := (HB9.out.cell (World.block_lt_of_cell? w _ X2.out)).trans X2.out) | ((with_reducible refine gate_dst (N := 45) rfl ?_); refine Byt.wpList_append_M rfl (.tmp 43) (.tmp 44) 77 9 rfl w.heap.size 5 Try.underlying77 Try.underlying9 oxbowref09_Encode.info _ (Lib.strCells (out)) rfl HO9.out t1 rfl ?cLa ?cBa ?_; (case cLa => have := L6.out; rw [Lib.strCells_length]; omega); (case cBa => exact HB9.out.size); intro v10 w10 hO hg; rw [← Byt.strCells_append] at hO; have HB10 := Aside0.mk (pw_below_grown HB9.out _ HB9.out.size hg (fun k_ hk => Byt.OwnM.base_le HO9.out k_ hk)); have HO10 := Aside0.mk hO; clear hO hg; have y10_0 := (HB10.out.cell (World.block_lt_of_cell? w _ X0.out)).trans X0.out; have y10_1 := (HB10.out.cell (World.block_lt_of_cell? w _ X1.out)).trans X1.out; have y10_2 := (HB10.out.cell (World.block_lt_of_cell? w _ X2.out)).trans X2.out) | ((with_reducible refine gate_callee (f := 55) rfl ?_); refine goesL_ (some 70) rfl rfl Try.func55 (by kernel_rfl) rfl #[.int .i64 x.f1] rfl (by (try simp only [List.map_toArray, List.map_cons, List.map_nil]); first | done | rfl) ?_; (with_reducible refine (oxbowref02_Num.calls k1 x.f1 t2 e2 _ A5.out).mono ?_); rintro e w11 ⟨rfl, hb⟩; refine ⟨_, rfl, ?_⟩; have HB11 := Aside0.mk (below_step HB10.out hb); have HO11 := Aside0.mk (Byt.OwnM.below HO10.out hb); clear hb) | ((with_reducible refine gate_dst (N := 75) rfl ?_); refine Byt.wpList_append_M rfl (.tmp 73) (.tmp 74) 77 9 rfl w.heap.size 5 Try.underlying77 Try.underlying9 oxbowref09_Encode.info _ (Lib.strCells (out ++ t1)) rfl HO11.out t2 rfl ?cLb ?cBb ?_; (case cLb => have := L7.out; rw [Lib.strCells_length]; omega); (case cBb => exact HB11.out.size); intro v12 w12 hO hg; rw [← Byt.strCells_append] at hO; have HB12 := Aside0.mk (pw_below_grown HB11.out _ HB11.out.size hg (fun k_ hk => Byt.OwnM.base_le HO11.out k_ hk)); have HO12 := Aside0.mk hO; clear hO hg))
              go_roundg k1
              case measure => have := HK.out; omega
              case rel => exact ⟨_, wrap64 (i + 1), rfl, H', ⟨by have := HK.out; omega⟩, HO12, HB12⟩
          · rw [if_neg c5] at H
            cases H
        · rw [if_neg c4] at H
          have c4b : decide (i < (l0.length : Int)) = false := decide_eq_false c4
          clear c4
          have H_ := Prod.mk.inj (Option.some.inj H)
          clear H
          obtain ⟨rfl, rfl⟩ := H_
          have hcv := Byt.OwnM.toString (P := Try.prog) Try.underlying77 Try.underlying5 Try.underlying9 HO.out
          go_wp2
          go_ret2
          exact ⟨rfl, HB.out⟩
  · rw [if_neg d] at h
    have h_ := Prod.mk.inj (Option.some.inj h)
    clear h
    obtain ⟨rfl, rfl⟩ := h_
    have db : (e != 0) = true := by rw [bne_iff_ne]; exact d
    have db2 : (e == 0) = false := beq_eq_false_iff_ne.mpr d
    clear d
    go_enter Try.func34, Try.ntmps34
    go_wp2_with (first | ((with_reducible refine gate_callee (f := 25) rfl ?_); refine goesL_ (some 16) rfl rfl Try.func25 (by kernel_rfl) rfl #[.slice A0 l0.length c0] rfl (by (try simp only [List.map_toArray, List.map_cons, List.map_nil]); first | done | rfl) ?_; (with_reducible refine (oxbowref09_Check.calls k A0 c0 l0 _ w HR0.out HC0.out HE.out).mono ?_); rintro e w1 ⟨rfl, hb⟩; refine ⟨_, rfl, ?_⟩; have HB1 := Aside0.mk hb; clear hb))
    go_ret2
    exact ⟨rfl, HB1.out⟩


/-! ### oxbowref02_TakeNum: function 60 -/
mutual
def oxbowref02_TakeNum.j0 : Nat → ByteArray → Int → Bool → Option (Int × Int × Int)
  | 0, _, _, _ => none
  | k + 1, x0, x1, x17 => if x17 = true then (some (0, 0, 1)) else (oxbowref02_TakeNum.l0 k x0 x1 0 0)
def oxbowref02_TakeNum.l0 : Nat → ByteArray → Int → Int → Int → Option (Int × Int × Int)
  | 0, _, _, _, _ => none
  | k + 1, x0, x1, x7, x8 => if x8 < 8 then (if (wrap64 (x1 + x8)) ≥ (x0.size : Int) then (some (0, 0, 21)) else (if 0 ≤ (wrap64 (x1 + x8)) then (if (wrap64 (x1 + x8)) < (x0.size : Int) then (if 0 ≤ (wrap64 (7 * x8)) then (if (wrap64 (bt x0 (wrap64 (x1 + x8)))) < 128 then (if (wrap64 (bt x0 (wrap64 (x1 + x8)))) = 0 then (if x8 > 0 then (some (0, 0, 22)) else (if (wrap64 (x7 + (shl .i64 (Int.tmod (wrap64 (bt x0 (wrap64 (x1 + x8)))) 128) (wrap64 (7 * x8))))) > 1125899906842624 then (some (0, 0, 22)) else (some (wrap64 (x7 + (shl .i64 (Int.tmod (wrap64 (bt x0 (wrap64 (x1 + x8)))) 128) (wrap64 (7 * x8)))), wrap64 ((wrap64 (x1 + x8)) + 1), 0)))) else (if (wrap64 (x7 + (shl .i64 (Int.tmod (wrap64 (bt x0 (wrap64 (x1 + x8)))) 128) (wrap64 (7 * x8))))) > 1125899906842624 then (some (0, 0, 22)) else (some (wrap64 (x7 + (shl .i64 (Int.tmod (wrap64 (bt x0 (wrap64 (x1 + x8)))) 128) (wrap64 (7 * x8)))), wrap64 ((wrap64 (x1 + x8)) + 1), 0)))) else (oxbowref02_TakeNum.l0 k x0 x1 (wrap64 (x7 + (shl .i64 (Int.tmod (wrap64 (bt x0 (wrap64 (x1 + x8)))) 128) (wrap64 (7 * x8))))) (wrap64 (x8 + 1)))) else (none)) else (none)) else (none))) else (some (0, 0, 22))
end
def oxbowref02_TakeNum.f (k : Nat) (a0 : ByteArray) (a1 : Int) : Option (Int × Int × Int) := if a1 < 0 then (oxbowref02_TakeNum.j0 k a0 a1 true) else (oxbowref02_TakeNum.j0 k a0 a1 (decide (a1 > (a0.size : Int))))
theorem oxbowref02_TakeNum.mono_l : ∀ k, (∀ y0 y1 y2, LeO (oxbowref02_TakeNum.j0 k y0 y1 y2) (oxbowref02_TakeNum.j0 (k + 1) y0 y1 y2)) ∧ (∀ y0 y1 y2 y3, LeO (oxbowref02_TakeNum.l0 k y0 y1 y2 y3) (oxbowref02_TakeNum.l0 (k + 1) y0 y1 y2 y3))
  | 0 => ⟨fun _ _ _ r h => by simp [oxbowref02_TakeNum.j0] at h, fun _ _ _ _ r h => by simp [oxbowref02_TakeNum.l0] at h⟩
  | k + 1 => by
    obtain ⟨ih0, ih1⟩ := oxbowref02_TakeNum.mono_l k
    refine ⟨?_, ?_⟩
    · intro y0 y1 y2
      unfold oxbowref02_TakeNum.j0
      repeat' first
      | (with_reducible exact ih0 _ _ _)
      | (with_reducible exact ih1 _ _ _ _)
      | (with_reducible exact LeO.refl _)
      | (with_reducible exact LeO.none _)
      | (with_reducible refine LeO.ite ?_ ?_)
      | (with_reducible refine LeO.bind ?_ (fun _ => ?_))
      | exact ih0 _ _ _
      | exact ih1 _ _ _ _
      | exact LeO.none _
      | refine LeO.ite ?_ ?_
      | refine LeO.bind ?_ (fun _ => ?_)
    · intro y0 y1 y2 y3
      unfold oxbowref02_TakeNum.l0
      repeat' first
      | (with_reducible exact ih0 _ _ _)
      | (with_reducible exact ih1 _ _ _ _)
      | (with_reducible exact LeO.refl _)
      | (with_reducible exact LeO.none _)
      | (with_reducible refine LeO.ite ?_ ?_)
      | (with_reducible refine LeO.bind ?_ (fun _ => ?_))
      | exact ih0 _ _ _
      | exact ih1 _ _ _ _
      | exact LeO.none _
      | refine LeO.ite ?_ ?_
      | refine LeO.bind ?_ (fun _ => ?_)
theorem oxbowref02_TakeNum.mono : ∀ a0 a1 k, LeO (oxbowref02_TakeNum.f k a0 a1) (oxbowref02_TakeNum.f (k + 1) a0 a1) := by
  intro a0 a1 k
  obtain ⟨ih0, ih1⟩ := oxbowref02_TakeNum.mono_l k
  unfold oxbowref02_TakeNum.f
  repeat' first
      | (with_reducible exact ih0 _ _ _)
      | (with_reducible exact ih1 _ _ _ _)
      | (with_reducible exact LeO.refl _)
      | (with_reducible exact LeO.none _)
      | (with_reducible refine LeO.ite ?_ ?_)
      | (with_reducible refine LeO.bind ?_ (fun _ => ?_))
      | exact ih0 _ _ _
      | exact ih1 _ _ _ _
      | exact LeO.none _
      | refine LeO.ite ?_ ?_
      | refine LeO.bind ?_ (fun _ => ?_)
set_option maxHeartbeats 8000000 in
set_option maxRecDepth 100000 in
theorem oxbowref02_TakeNum.calls (k : Nat) (a0 : ByteArray) (a1 : Int) (r1 : Int) (r2 : Int) (r3 : Int) (w : World) (h : oxbowref02_TakeNum.f k a0 a1 = some (r1, r2, r3)) :
    Calls Try.prog 60 #[.string a0, .int .i64 a1] w fun e w' => e = .returned (.tuple #[.int .i64 r1, .int .i64 r2, .int .i64 r3]) ∧ Drawn0 w w' := by
  have H : (if a1 < 0 then (oxbowref02_TakeNum.j0 k a0 a1 true) else (oxbowref02_TakeNum.j0 k a0 a1 (decide (a1 > (a0.size : Int))))) = some (r1, r2, r3) := h
  clear h
  have HC3 := Aside0.mk H
  clear H
  go_enter Try.func60, Try.ntmps60
  go_upto_region 1 with (fail)
  go_cut [17] (fun v17 wc => ∃ (kq : Nat) (x17_2 : Bool), v17 = .bool x17_2 ∧ Aside0 (oxbowref02_TakeNum.j0 kq a0 a1 x17_2 = some (r1, r2, r3)) ∧ Aside0 (kq ≤ k) ∧ Drawn0 w wc)
  case first =>
    have H := HC3.out
    clear HC3
    by_cases c4 : a1 < 0
    · rw [if_pos c4] at H
      have c4b0 : decide (a1 < 0) = true := decide_eq_true c4
      clear c4
      (first | rw [c4b0] | (simp only [i64_w, i32_w]; rw [c4b0]) | skip)
      have H' := Aside0.mk H
      clear H
      go_wp2
      go_meet
      case rel => exact ⟨_, (true), (by first | rfl | (simp; done) | (simp [*]; done) | (simp; (generalize ByteArray.toList _ = l_); cases l_ <;> rfl)), H', ⟨by first | omega | exact Nat.le_refl _⟩, by repeat (first | exact Drawn0.refl _ | apply Drawn0.step)⟩
    · rw [if_neg c4] at H
      have c4b0 : decide (a1 < 0) = false := decide_eq_false c4
      clear c4
      (first | rw [c4b0] | (simp only [i64_w, i32_w]; rw [c4b0]) | skip)
      have H' := Aside0.mk H
      clear H
      go_wp2
      go_meet
      case rel => exact ⟨_, (decide (a1 > (a0.size : Int))), (by first | rfl | (simp; done) | (simp [*]; done) | (simp; (generalize ByteArray.toList _ = l_); cases l_ <;> rfl)), H', ⟨by first | omega | exact Nat.le_refl _⟩, by repeat (first | exact Drawn0.refl _ | apply Drawn0.step)⟩
  case rest =>
    clear HC3
    try clear p2
    try clear c4
    try clear c4b0
    obtain ⟨kq, x17_2, rfl, HA, HJ2, ⟨mc2, rfl⟩⟩ := hcut
    cases kq with
    | zero => exact absurd HA.out (by simp [oxbowref02_TakeNum.j0])
    | succ kj2 =>
      have H := HA.out
      clear HA
      simp only [oxbowref02_TakeNum.j0] at H
      by_cases c5 : x17_2 = true
      · subst c5
        have H1 : (some (0, 0, 1)) = some (r1, r2, r3) := by rw [if_pos rfl] at H; exact H
        clear H
        have H := H1
        clear H1
        simp only [Option.some.injEq, Prod.mk.injEq] at H
        obtain ⟨rfl, rfl, rfl⟩ := H
        go_wp2
        go_ret3
        exact ⟨by first | rfl | (simp; done) | (simp [*]; done), by repeat (first | exact Drawn0.refl _ | apply Drawn0.step)⟩
      · replace c5 := Bool.eq_false_iff.mpr c5
        subst c5
        have H1 : (oxbowref02_TakeNum.l0 kj2 a0 a1 0 0) = some (r1, r2, r3) := by rw [if_neg (show ¬ (false = true) by decide)] at H; exact H
        clear H
        have H := H1
        clear H1
        have H' := Aside0.mk H
        clear H
        go_wp2
        go_loopg [7, 8] kj2 (fun kq v7 v8 w' => ∃ (x7_2 : Int) (x8_2 : Int), v7 = .int .i64 x7_2 ∧ v8 = .int .i64 x8_2 ∧ Aside0 (oxbowref02_TakeNum.l0 kq a0 a1 x7_2 x8_2 = some (r1, r2, r3)) ∧ Aside0 (kq ≤ kj2) ∧ Drawn0 w w')
        case atStart => exact ⟨(0), (0), (by first | rfl | (simp; done) | (simp [*]; done) | (simp; (generalize ByteArray.toList _ = l_); cases l_ <;> rfl)), (by first | rfl | (simp; done) | (simp [*]; done) | (simp; (generalize ByteArray.toList _ = l_); cases l_ <;> rfl)), H', ⟨Nat.le_refl _⟩, by repeat (first | exact Drawn0.refl _ | apply Drawn0.step)⟩
        case round =>
          clear H'
          try clear c2
          try clear p2
          try clear c4
          try clear c4b0
          try clear c5
          try clear p2
          obtain ⟨x7_2, x8_2, rfl, rfl, HA, HK2, ⟨m2, rfl⟩⟩ := hrel
          cases gk with
          | zero => exact absurd HA.out (by simp [oxbowref02_TakeNum.l0])
          | succ k2 =>
            have H := HA.out
            clear HA
            simp only [oxbowref02_TakeNum.l0] at H
            by_cases c6 : x8_2 < 8
            · rw [if_pos c6] at H
              have c6b0 : decide (x8_2 < 8) = true := decide_eq_true c6
              clear c6
              by_cases c7 : (wrap64 (a1 + x8_2)) ≥ (a0.size : Int)
              · rw [if_pos c7] at H
                have c7b0 : decide ((a0.size : Int) ≤ (wrap64 (a1 + x8_2))) = true := decide_eq_true c7
                clear c7
                simp only [Option.some.injEq, Prod.mk.injEq] at H
                obtain ⟨rfl, rfl, rfl⟩ := H
                go_wp2
                go_ret3
                exact ⟨by first | rfl | (simp; done) | (simp [*]; done), by repeat (first | exact Drawn0.refl _ | apply Drawn0.step)⟩
              · rw [if_neg c7] at H
                have c7b0 : decide ((a0.size : Int) ≤ (wrap64 (a1 + x8_2))) = false := decide_eq_false c7
                clear c7
                obtain ⟨ji8, hji8⟩ : ∃ j_ : Int, (wrap64 (a1 + x8_2)) = j_ := ⟨_, rfl⟩
                replace H : (if 0 ≤ (ji8) then (if (ji8) < (a0.size : Int) then (if 0 ≤ (wrap64 (7 * x8_2)) then (if (wrap64 (bt a0 (ji8))) < 128 then (if (wrap64 (bt a0 (ji8))) = 0 then (if x8_2 > 0 then (some (0, 0, 22)) else (if (wrap64 (x7_2 + (shl .i64 (Int.tmod (wrap64 (bt a0 (ji8))) 128) (wrap64 (7 * x8_2))))) > 1125899906842624 then (some (0, 0, 22)) else (some (wrap64 (x7_2 + (shl .i64 (Int.tmod (wrap64 (bt a0 (ji8))) 128) (wrap64 (7 * x8_2)))), wrap64 ((ji8) + 1), 0)))) else (if (wrap64 (x7_2 + (shl .i64 (Int.tmod (wrap64 (bt a0 (ji8))) 128) (wrap64 (7 * x8_2))))) > 1125899906842624 then (some (0, 0, 22)) else (some (wrap64 (x7_2 + (shl .i64 (Int.tmod (wrap64 (bt a0 (ji8))) 128) (wrap64 (7 * x8_2)))), wrap64 ((ji8) + 1), 0)))) else (oxbowref02_TakeNum.l0 k2 a0 a1 (wrap64 (x7_2 + (shl .i64 (Int.tmod (wrap64 (bt a0 (ji8))) 128) (wrap64 (7 * x8_2))))) (wrap64 (x8_2 + 1)))) else (none)) else (none)) else (none)) = some (r1, r2, r3) := by first | (rw [hji8] at H; exact H) | (simp only [hji8] at H ⊢; exact H)
                (try rw [hji8] at c7b0)
                have hji8w : (IntKind.i64.wrap (a1 + x8_2)) = ji8 := (i64_w _).trans hji8
                by_cases c9 : 0 ≤ (ji8)
                · rw [if_pos c9] at H
                  have c9b0 : decide (0 ≤ (ji8)) = true := decide_eq_true c9
                  clear c9
                  by_cases c10 : (ji8) < (a0.size : Int)
                  · rw [if_pos c10] at H
                    have c10b0 : decide ((ji8) < (a0.size : Int)) = true := decide_eq_true c10
                    clear c10
                    obtain ⟨ji12, hji12⟩ : ∃ j_ : Int, (wrap64 (7 * x8_2)) = j_ := ⟨_, rfl⟩
                    replace H : (if 0 ≤ (ji12) then (if (wrap64 (bt a0 (ji8))) < 128 then (if (wrap64 (bt a0 (ji8))) = 0 then (if x8_2 > 0 then (some (0, 0, 22)) else (if (wrap64 (x7_2 + (shl .i64 (Int.tmod (wrap64 (bt a0 (ji8))) 128) (ji12)))) > 1125899906842624 then (some (0, 0, 22)) else (some (wrap64 (x7_2 + (shl .i64 (Int.tmod (wrap64 (bt a0 (ji8))) 128) (ji12))), wrap64 ((ji8) + 1), 0)))) else (if (wrap64 (x7_2 + (shl .i64 (Int.tmod (wrap64 (bt a0 (ji8))) 128) (ji12)))) > 1125899906842624 then (some (0, 0, 22)) else (some (wrap64 (x7_2 + (shl .i64 (Int.tmod (wrap64 (bt a0 (ji8))) 128) (ji12))), wrap64 ((ji8) + 1), 0)))) else (oxbowref02_TakeNum.l0 k2 a0 a1 (wrap64 (x7_2 + (shl .i64 (Int.tmod (wrap64 (bt a0 (ji8))) 128) (ji12)))) (wrap64 (x8_2 + 1)))) else (none)) = some (r1, r2, r3) := by first | (rw [hji12] at H; exact H) | (simp only [hji12] at H ⊢; exact H)
                    have hji12w : (IntKind.i64.wrap (7 * x8_2)) = ji12 := (i64_w _).trans hji12
                    by_cases c13 : 0 ≤ (ji12)
                    · rw [if_pos c13] at H
                      have c13b0 := eq_true c13
                      have c13b1 : decide (0 ≤ (ji12)) = true := decide_eq_true c13
                      clear c13
                      obtain ⟨ji14, hji14⟩ : ∃ j_ : Int, (shl .i64 (Int.tmod (wrap64 (bt a0 (ji8))) 128) (ji12)) = j_ := ⟨_, rfl⟩
                      replace H : (if (wrap64 (bt a0 (ji8))) < 128 then (if (wrap64 (bt a0 (ji8))) = 0 then (if x8_2 > 0 then (some (0, 0, 22)) else (if (wrap64 (x7_2 + (ji14))) > 1125899906842624 then (some (0, 0, 22)) else (some (wrap64 (x7_2 + (ji14)), wrap64 ((ji8) + 1), 0)))) else (if (wrap64 (x7_2 + (ji14))) > 1125899906842624 then (some (0, 0, 22)) else (some (wrap64 (x7_2 + (ji14)), wrap64 ((ji8) + 1), 0)))) else (oxbowref02_TakeNum.l0 k2 a0 a1 (wrap64 (x7_2 + (ji14))) (wrap64 (x8_2 + 1)))) = some (r1, r2, r3) := by first | (rw [hji14] at H; exact H) | (simp only [hji14] at H ⊢; exact H)
                      have hji14_ : (IntKind.i64.wrap ((Int.tmod (wrap64 (bt a0 (ji8))) 128) * 2 ^ min (ji12).toNat 64)) = ji14 := hji14
                      have hji14z : (ji12) ≤ 64 → (IntKind.i64.wrap ((Int.tmod (wrap64 (bt a0 (ji8))) 128) * 2 ^ (ji12).toNat)) = ji14 := shl_small hji14
                      have hji14y : (wrap64 ((Int.tmod (wrap64 (bt a0 (ji8))) 128) * 2 ^ min (ji12).toNat 64)) = ji14 := (i64_w _).symm.trans hji14_
                      have hji14x : (ji12) ≤ 64 → (wrap64 ((Int.tmod (wrap64 (bt a0 (ji8))) 128) * 2 ^ (ji12).toNat)) = ji14 := fun h_ => (i64_w _).symm.trans (hji14z h_)
                      by_cases c15 : (wrap64 (bt a0 (ji8))) < 128
                      · rw [if_pos c15] at H
                        have c15b0 : decide ((wrap64 (bt a0 (ji8))) < 128) = true := decide_eq_true c15
                        clear c15
                        by_cases c16 : (wrap64 (bt a0 (ji8))) = 0
                        · rw [if_pos c16] at H
                          have c16b0 : ((wrap64 (bt a0 (ji8))) == 0) = true := beq_iff_eq.mpr c16
                          have c16b1 : ((wrap64 (bt a0 (ji8))) != 0) = false := bne_eq_false_iff_eq.mpr c16
                          clear c16
                          by_cases c17 : x8_2 > 0
                          · rw [if_pos c17] at H
                            have c17b0 : decide (0 < x8_2) = true := decide_eq_true c17
                            clear c17
                            simp only [Option.some.injEq, Prod.mk.injEq] at H
                            obtain ⟨rfl, rfl, rfl⟩ := H
                            have p11 : 0 ≤ ((ji8) : Int) := of_decide_eq_true (by first | (with_reducible assumption) | assumption)
                            have q11 : (ji8) < (a0.size : Int) := of_decide_eq_true (by first | (with_reducible assumption) | assumption)
                            have hx11 := bt_at a0 (ji8)
                            replace p11 := eq_true p11
                            replace q11 := eq_true q11
                            go_wp2
                            go_ret3
                            exact ⟨by first | rfl | (simp; done) | (simp only [← hji8, ← hji12, ← hji14] <;> (first | rfl | simp)) | (simp [*]; done), by repeat (first | exact Drawn0.refl _ | apply Drawn0.step)⟩
                          · rw [if_neg c17] at H
                            have c17b0 : decide (0 < x8_2) = false := decide_eq_false c17
                            clear c17
                            by_cases c18 : (wrap64 (x7_2 + (ji14))) > 1125899906842624
                            · rw [if_pos c18] at H
                              have c18b0 : decide (1125899906842624 < (wrap64 (x7_2 + (ji14)))) = true := decide_eq_true c18
                              clear c18
                              simp only [Option.some.injEq, Prod.mk.injEq] at H
                              obtain ⟨rfl, rfl, rfl⟩ := H
                              have p11 : 0 ≤ ((ji8) : Int) := of_decide_eq_true (by first | (with_reducible assumption) | assumption)
                              have q11 : (ji8) < (a0.size : Int) := of_decide_eq_true (by first | (with_reducible assumption) | assumption)
                              have hx11 := bt_at a0 (ji8)
                              replace p11 := eq_true p11
                              replace q11 := eq_true q11
                              go_wp2
                              go_ret3
                              exact ⟨by first | rfl | (simp; done) | (simp only [← hji8, ← hji12, ← hji14] <;> (first | rfl | simp)) | (simp [*]; done), by repeat (first | exact Drawn0.refl _ | apply Drawn0.step)⟩
                            · rw [if_neg c18] at H
                              have c18b0 : decide (1125899906842624 < (wrap64 (x7_2 + (ji14)))) = false := decide_eq_false c18
                              clear c18
                              simp only [Option.some.injEq, Prod.mk.injEq] at H
                              obtain ⟨rfl, rfl, rfl⟩ := H
                              have p11 : 0 ≤ ((ji8) : Int) := of_decide_eq_true (by first | (with_reducible assumption) | assumption)
                              have q11 : (ji8) < (a0.size : Int) := of_decide_eq_true (by first | (with_reducible assumption) | assumption)
                              have hx11 := bt_at a0 (ji8)
                              replace p11 := eq_true p11
                              replace q11 := eq_true q11
                              go_wp2
                              go_ret3
                              exact ⟨by first | rfl | (simp; done) | (simp only [← hji8, ← hji12, ← hji14] <;> (first | rfl | simp)) | (simp [*]; done), by repeat (first | exact Drawn0.refl _ | apply Drawn0.step)⟩
                        · rw [if_neg c16] at H
                          have c16b0 : ((wrap64 (bt a0 (ji8))) == 0) = false := beq_eq_false_iff_ne.mpr c16
                          have c16b1 : ((wrap64 (bt a0 (ji8))) != 0) = true := bne_iff_ne.mpr c16
                          by_cases c19 : (wrap64 (x7_2 + (ji14))) > 1125899906842624
                          · rw [if_pos c19] at H
                            have c19b0 : decide (1125899906842624 < (wrap64 (x7_2 + (ji14)))) = true := decide_eq_true c19
                            clear c19
                            simp only [Option.some.injEq, Prod.mk.injEq] at H
                            obtain ⟨rfl, rfl, rfl⟩ := H
                            have p11 : 0 ≤ ((ji8) : Int) := of_decide_eq_true (by first | (with_reducible assumption) | assumption)
                            have q11 : (ji8) < (a0.size : Int) := of_decide_eq_true (by first | (with_reducible assumption) | assumption)
                            have hx11 := bt_at a0 (ji8)
                            replace p11 := eq_true p11
                            replace q11 := eq_true q11
                            go_wp2
                            go_ret3
                            exact ⟨by first | rfl | (simp; done) | (simp only [← hji8, ← hji12, ← hji14] <;> (first | rfl | simp)) | (simp [*]; done), by repeat (first | exact Drawn0.refl _ | apply Drawn0.step)⟩
                          · rw [if_neg c19] at H
                            have c19b0 : decide (1125899906842624 < (wrap64 (x7_2 + (ji14)))) = false := decide_eq_false c19
                            clear c19
                            simp only [Option.some.injEq, Prod.mk.injEq] at H
                            obtain ⟨rfl, rfl, rfl⟩ := H
                            have p11 : 0 ≤ ((ji8) : Int) := of_decide_eq_true (by first | (with_reducible assumption) | assumption)
                            have q11 : (ji8) < (a0.size : Int) := of_decide_eq_true (by first | (with_reducible assumption) | assumption)
                            have hx11 := bt_at a0 (ji8)
                            replace p11 := eq_true p11
                            replace q11 := eq_true q11
                            go_wp2
                            go_ret3
                            exact ⟨by first | rfl | (simp; done) | (simp only [← hji8, ← hji12, ← hji14] <;> (first | rfl | simp)) | (simp [*]; done), by repeat (first | exact Drawn0.refl _ | apply Drawn0.step)⟩
                      · rw [if_neg c15] at H
                        have c15b0 : decide ((wrap64 (bt a0 (ji8))) < 128) = false := decide_eq_false c15
                        clear c15
                        have H' := Aside0.mk H
                        clear H
                        have p11 : 0 ≤ ((ji8) : Int) := of_decide_eq_true (by first | (with_reducible assumption) | assumption)
                        have q11 : (ji8) < (a0.size : Int) := of_decide_eq_true (by first | (with_reducible assumption) | assumption)
                        have hx11 := bt_at a0 (ji8)
                        replace p11 := eq_true p11
                        replace q11 := eq_true q11
                        go_wp2
                        go_roundg k2
                        case measure => have := HJ2.out; have := HK2.out; omega
                        case rel => exact ⟨(wrap64 (x7_2 + (ji14))), (wrap64 (x8_2 + 1)), (by first | rfl | (simp; done) | (simp only [← hji14] <;> (first | rfl | simp)) | (simp [*]; done)), (by first | rfl | (simp; done) | (simp [*]; done) | (simp; (generalize ByteArray.toList _ = l_); cases l_ <;> rfl)), H', ⟨by have := HJ2.out; have := HK2.out; omega⟩, by repeat (first | exact Drawn0.refl _ | apply Drawn0.step)⟩
                    · rw [if_neg c13] at H
                      exact absurd H (by simp)
                  · rw [if_neg c10] at H
                    exact absurd H (by simp)
                · rw [if_neg c9] at H
                  exact absurd H (by simp)
            · rw [if_neg c6] at H
              have c6b0 : decide (x8_2 < 8) = false := decide_eq_false c6
              clear c6
              simp only [Option.some.injEq, Prod.mk.injEq] at H
              obtain ⟨rfl, rfl, rfl⟩ := H
              go_wp2
              go_ret3
              exact ⟨by first | rfl | (simp; done) | (simp [*]; done), by repeat (first | exact Drawn0.refl _ | apply Drawn0.step)⟩

/-! ### oxbowref02_TakeText: function 61 -/
def oxbowref02_TakeText.f (k : Nat) (a0 : ByteArray) (a1 : Int) : Option (ByteArray × Int × Int) := (oxbowref02_TakeNum.f k a0 a1).bind fun bt214 => (if bt214.2.2 = 0 then (if bt214.1 > 20000 then (some ((⟨#[]⟩ : ByteArray), 0, 22)) else (if bt214.1 > (wrap64 ((a0.size : Int) - bt214.2.1)) then (some ((⟨#[]⟩ : ByteArray), 0, 21)) else (if 0 ≤ bt214.2.1 then (if bt214.2.1 ≤ (wrap64 (bt214.2.1 + bt214.1)) then (if (wrap64 (bt214.2.1 + bt214.1)) ≤ (a0.size : Int) then (some (a0.extract (bt214.2.1 : Int).toNat ((wrap64 (bt214.2.1 + bt214.1)) : Int).toNat, wrap64 (bt214.2.1 + bt214.1), 0)) else (none)) else (none)) else (none)))) else (some ((⟨#[]⟩ : ByteArray), 0, bt214.2.2)))
theorem oxbowref02_TakeText.mono : ∀ a0 a1 k, LeO (oxbowref02_TakeText.f k a0 a1) (oxbowref02_TakeText.f (k + 1) a0 a1) := by
  intro a0 a1 k
  unfold oxbowref02_TakeText.f
  repeat' first
      | (with_reducible exact oxbowref02_TakeNum.mono _ _ _)
      | (with_reducible exact LeO.refl _)
      | (with_reducible exact LeO.none _)
      | (with_reducible refine LeO.ite ?_ ?_)
      | (with_reducible refine LeO.bind ?_ (fun _ => ?_))
      | exact oxbowref02_TakeNum.mono _ _ _
      | exact LeO.none _
      | refine LeO.ite ?_ ?_
      | refine LeO.bind ?_ (fun _ => ?_)
set_option maxHeartbeats 8000000 in
set_option maxRecDepth 100000 in
theorem oxbowref02_TakeText.calls (k : Nat) (a0 : ByteArray) (a1 : Int) (r1 : ByteArray) (r2 : Int) (r3 : Int) (w : World) (h : oxbowref02_TakeText.f k a0 a1 = some (r1, r2, r3)) :
    Calls Try.prog 61 #[.string a0, .int .i64 a1] w fun e w' => e = .returned (.tuple #[.string r1, .int .i64 r2, .int .i64 r3]) ∧ Drawn0 w w' := by
  have H : ((oxbowref02_TakeNum.f k a0 a1).bind fun bt214 => (if bt214.2.2 = 0 then (if bt214.1 > 20000 then (some ((⟨#[]⟩ : ByteArray), 0, 22)) else (if bt214.1 > (wrap64 ((a0.size : Int) - bt214.2.1)) then (some ((⟨#[]⟩ : ByteArray), 0, 21)) else (if 0 ≤ bt214.2.1 then (if bt214.2.1 ≤ (wrap64 (bt214.2.1 + bt214.1)) then (if (wrap64 (bt214.2.1 + bt214.1)) ≤ (a0.size : Int) then (some (a0.extract (bt214.2.1 : Int).toNat ((wrap64 (bt214.2.1 + bt214.1)) : Int).toNat, wrap64 (bt214.2.1 + bt214.1), 0)) else (none)) else (none)) else (none)))) else (some ((⟨#[]⟩ : ByteArray), 0, bt214.2.2)))) = some (r1, r2, r3) := h
  clear h
  replace H := Option.bind_eq_some_iff.mp H
  obtain ⟨⟨t214, t215, t216⟩, A30, H⟩ := H
  replace H : (if t216 = 0 then (if t214 > 20000 then (some ((⟨#[]⟩ : ByteArray), 0, 22)) else (if t214 > (wrap64 ((a0.size : Int) - t215)) then (some ((⟨#[]⟩ : ByteArray), 0, 21)) else (if 0 ≤ t215 then (if t215 ≤ (wrap64 (t215 + t214)) then (if (wrap64 (t215 + t214)) ≤ (a0.size : Int) then (some (a0.extract (t215 : Int).toNat ((wrap64 (t215 + t214)) : Int).toNat, wrap64 (t215 + t214), 0)) else (none)) else (none)) else (none)))) else (some ((⟨#[]⟩ : ByteArray), 0, t216))) = some (r1, r2, r3) := H
  have A3 := Aside0.mk A30
  clear A30
  by_cases c4 : t216 = 0
  · rw [if_pos c4] at H
    have c4b0 : (t216 == 0) = true := beq_iff_eq.mpr c4
    have c4b1 : (t216 != 0) = false := bne_eq_false_iff_eq.mpr c4
    clear c4
    by_cases c5 : t214 > 20000
    · rw [if_pos c5] at H
      have c5b0 : decide (20000 < t214) = true := decide_eq_true c5
      clear c5
      simp only [Option.some.injEq, Prod.mk.injEq] at H
      obtain ⟨rfl, rfl, rfl⟩ := H
      go_enter Try.func61, Try.ntmps61
      go_wp2_with (first | ((with_reducible refine gate_callee (f := 60) rfl ?_); refine goesL_ (some 13) rfl rfl Try.func60 (by kernel_rfl) rfl #[.string a0, .int .i64 a1] rfl (by (try simp only [List.map_toArray, List.map_cons, List.map_nil]); first | done | rfl | (simp only [List.length_drop, List.length_take]; rfl)) ?_; (with_reducible refine (oxbowref02_TakeNum.calls k a0 a1 t214 t215 t216 _ A3.out).mono ?_); rintro e w' ⟨rfl, ⟨nd, rfl⟩⟩; refine ⟨_, rfl, ?_⟩))
      go_ret3
      exact ⟨by first | rfl | (simp; done) | (simp [*]; done), by repeat (first | exact Drawn0.refl _ | apply Drawn0.step)⟩
    · rw [if_neg c5] at H
      have c5b0 : decide (20000 < t214) = false := decide_eq_false c5
      clear c5
      by_cases c6 : t214 > (wrap64 ((a0.size : Int) - t215))
      · rw [if_pos c6] at H
        have c6b0 : decide ((wrap64 ((a0.size : Int) - t215)) < t214) = true := decide_eq_true c6
        clear c6
        simp only [Option.some.injEq, Prod.mk.injEq] at H
        obtain ⟨rfl, rfl, rfl⟩ := H
        go_enter Try.func61, Try.ntmps61
        go_wp2_with (first | ((with_reducible refine gate_callee (f := 60) rfl ?_); refine goesL_ (some 13) rfl rfl Try.func60 (by kernel_rfl) rfl #[.string a0, .int .i64 a1] rfl (by (try simp only [List.map_toArray, List.map_cons, List.map_nil]); first | done | rfl | (simp only [List.length_drop, List.length_take]; rfl)) ?_; (with_reducible refine (oxbowref02_TakeNum.calls k a0 a1 t214 t215 t216 _ A3.out).mono ?_); rintro e w' ⟨rfl, ⟨nd, rfl⟩⟩; refine ⟨_, rfl, ?_⟩))
        go_ret3
        exact ⟨by first | rfl | (simp; done) | (simp [*]; done), by repeat (first | exact Drawn0.refl _ | apply Drawn0.step)⟩
      · rw [if_neg c6] at H
        have c6b0 : decide ((wrap64 ((a0.size : Int) - t215)) < t214) = false := decide_eq_false c6
        clear c6
        by_cases c7 : 0 ≤ t215
        · rw [if_pos c7] at H
          have c7b0 := eq_true c7
          have c7b1 : decide (0 ≤ t215) = true := decide_eq_true c7
          clear c7
          by_cases c8 : t215 ≤ (wrap64 (t215 + t214))
          · rw [if_pos c8] at H
            have c8b0 := eq_true c8
            have c8b1 : decide (t215 ≤ (wrap64 (t215 + t214))) = true := decide_eq_true c8
            by_cases c9 : (wrap64 (t215 + t214)) ≤ (a0.size : Int)
            · rw [if_pos c9] at H
              have c9b0 := eq_true c9
              have c9b1 : decide ((wrap64 (t215 + t214)) ≤ (a0.size : Int)) = true := decide_eq_true c9
              simp only [Option.some.injEq, Prod.mk.injEq] at H
              obtain ⟨rfl, rfl, rfl⟩ := H
              go_enter Try.func61, Try.ntmps61
              go_wp2_with (first | ((with_reducible refine gate_callee (f := 60) rfl ?_); refine goesL_ (some 13) rfl rfl Try.func60 (by kernel_rfl) rfl #[.string a0, .int .i64 a1] rfl (by (try simp only [List.map_toArray, List.map_cons, List.map_nil]); first | done | rfl | (simp only [List.length_drop, List.length_take]; rfl)) ?_; (with_reducible refine (oxbowref02_TakeNum.calls k a0 a1 t214 t215 t216 _ A3.out).mono ?_); rintro e w' ⟨rfl, ⟨nd, rfl⟩⟩; refine ⟨_, rfl, ?_⟩))
              go_ret3
              exact ⟨by first | rfl | (simp; done) | (simp [*]; done), by repeat (first | exact Drawn0.refl _ | apply Drawn0.step)⟩
            · rw [if_neg c9] at H
              exact absurd H (by simp)
          · rw [if_neg c8] at H
            exact absurd H (by simp)
        · rw [if_neg c7] at H
          exact absurd H (by simp)
  · rw [if_neg c4] at H
    have c4b0 : (t216 == 0) = false := beq_eq_false_iff_ne.mpr c4
    have c4b1 : (t216 != 0) = true := bne_iff_ne.mpr c4
    simp only [Option.some.injEq, Prod.mk.injEq] at H
    obtain ⟨rfl, rfl, rfl⟩ := H
    go_enter Try.func61, Try.ntmps61
    go_wp2_with (first | ((with_reducible refine gate_callee (f := 60) rfl ?_); refine goesL_ (some 13) rfl rfl Try.func60 (by kernel_rfl) rfl #[.string a0, .int .i64 a1] rfl (by (try simp only [List.map_toArray, List.map_cons, List.map_nil]); first | done | rfl | (simp only [List.length_drop, List.length_take]; rfl)) ?_; (with_reducible refine (oxbowref02_TakeNum.calls k a0 a1 t214 t215 t216 _ A3.out).mono ?_); rintro e w' ⟨rfl, ⟨nd, rfl⟩⟩; refine ⟨_, rfl, ?_⟩))
    go_ret3
    exact ⟨by first | rfl | (simp; done) | (simp [*]; done), by repeat (first | exact Drawn0.refl _ | apply Drawn0.step)⟩

/-! ### oxbowref09_Decode: function 37 -/
theorem oxbowref09_Decode.info : (Try.prog.info? 36).map (fun i => (i.zero, i.size, i.bytes)) = some (some (.agg #[(.int .i64 0), (.int .i64 0), (.string ⟨#[]⟩)]), 3, 32) := by kernel_rfl
/-- What stands behind an operation's kind, read. -/
def oxbowref09_Decode.part (k : Nat) (s : ByteArray) (kind at_ : Int) : Option (S36 × Int × Int) := if kind = 2 then (oxbowref02_TakeText.f k s at_).bind fun b => some (⟨kind, 0, b.1⟩, b.2.1, b.2.2) else (oxbowref02_TakeNum.f k s at_).bind fun b => some (⟨kind, b.1, ⟨#[]⟩⟩, b.2.1, b.2.2)
def oxbowref09_Decode.l0 : Nat → ByteArray → Int → List S36 → Int → Int → Option (List S36 × Int)
  | 0, _, _, _, _, _ => none
  | k + 1, s, n, d, at_, i => if (d.length + 1) * 32 ≤ 140737488355328 then (if i < n then ((oxbowref02_TakeNum.f k s at_).bind fun a => if a.2.2 = 0 then ((oxbowref09_Decode.part k s a.1 a.2.1).bind fun b => if b.2.2 = 0 then oxbowref09_Decode.l0 k s n (d ++ [b.1]) b.2.1 (wrap64 (i + 1)) else some ([], 90)) else some ([], 90)) else ((oxbowref09_Encode.f k d).bind fun b => if b.2 = 0 then (if b.1.toList = s.toList then some (d, 0) else some ([], 90)) else some ([], 90))) else none
def oxbowref09_Decode.f (k : Nat) (a0 : ByteArray) : Option (List S36 × Int) := (oxbowref02_TakeNum.f k a0 0).bind fun a => if a.2.2 = 0 then (if a.1 > 3000 then some ([], 90) else oxbowref09_Decode.l0 k a0 a.1 [] a.2.1 0) else some ([], 90)
theorem oxbowref09_Decode.part_mono (s : ByteArray) (x y : Int) (k : Nat) : LeO (oxbowref09_Decode.part k s x y) (oxbowref09_Decode.part (k + 1) s x y) := by
  unfold oxbowref09_Decode.part
  exact LeO.ite (LeO.bind (oxbowref02_TakeText.mono _ _ _) (fun _ => LeO.refl _)) (LeO.bind (oxbowref02_TakeNum.mono _ _ _) (fun _ => LeO.refl _))
theorem oxbowref09_Decode.mono_l : ∀ k, (∀ y0 y1 y2 y3 y4, LeO (oxbowref09_Decode.l0 k y0 y1 y2 y3 y4) (oxbowref09_Decode.l0 (k + 1) y0 y1 y2 y3 y4))
  | 0 => fun _ _ _ _ _ r h => by simp [oxbowref09_Decode.l0] at h
  | k + 1 => by
    have ih := oxbowref09_Decode.mono_l k
    intro y0 y1 y2 y3 y4
    unfold oxbowref09_Decode.l0
    exact LeO.ite (LeO.ite (LeO.bind (oxbowref02_TakeNum.mono _ _ _) (fun _ => LeO.ite (LeO.bind (oxbowref09_Decode.part_mono _ _ _ _) (fun _ => LeO.ite (ih _ _ _ _ _) (LeO.refl _))) (LeO.refl _))) (LeO.bind (oxbowref09_Encode.mono _ _) (fun _ => LeO.refl _))) (LeO.refl _)
theorem oxbowref09_Decode.mono : ∀ a0 k, LeO (oxbowref09_Decode.f k a0) (oxbowref09_Decode.f (k + 1) a0) := by
  intro a0 k
  unfold oxbowref09_Decode.f
  exact LeO.bind (oxbowref02_TakeNum.mono _ _ _) (fun _ => LeO.ite (LeO.ite (LeO.refl _) (oxbowref09_Decode.mono_l k _ _ _ _ _)) (LeO.refl _))
/-- A new operation lies in a block of its own. -/
theorem oxbowref09_Decode.boxed {w0 wr w7 : World} {gb : Nat} {v : Value} {d : List S36} (t1 : Int) (HB : Below w0.heap.size w0 wr) (HO : Kd.R k36 36 wr w0.heap.size (fun _ => True) v d) (hg : gb = wr.heap.size)
    (hbox : w7.heap[gb]? = some (.cells #[.int .i64 0, .int .i64 0, .string ⟨#[]⟩] 36 (0, 0))) (hb : Below wr.heap.size wr w7) :
    w0.heap.size ≤ gb ∧ Below w0.heap.size w0 (((w7.setCell ⟨gb, 0, none⟩ (.int .i64 t1)).setCell ⟨gb, 1, none⟩ (.int .i64 0)).setCell ⟨gb, 2, none⟩ (.string ⟨#[]⟩)) ∧ Kd.R k36 36 (((w7.setCell ⟨gb, 0, none⟩ (.int .i64 t1)).setCell ⟨gb, 1, none⟩ (.int .i64 0)).setCell ⟨gb, 2, none⟩ (.string ⟨#[]⟩)) w0.heap.size (fun k_ => k_ ≠ gb) v d ∧ (((w7.setCell ⟨gb, 0, none⟩ (.int .i64 t1)).setCell ⟨gb, 1, none⟩ (.int .i64 0)).setCell ⟨gb, 2, none⟩ (.string ⟨#[]⟩)).heap[gb]? = some (.cells #[.int .i64 t1, .int .i64 0, .string ⟨#[]⟩] 36 (0, 0)) := by
  have GE : w0.heap.size ≤ gb := by rw [hg]; exact HB.size
  have hr := Kd.R_below (Kd.R_bound HO) hb
  refine ⟨GE, below_set (below_set (below_set (below_step HB hb) GE) GE) GE, ?_, blk_put (blk_put (blk_put hbox 0 (.int .i64 t1) rfl) 1 (.int .i64 0) rfl) 2 (.string ⟨#[]⟩) rfl⟩
  exact Kd.R_mono (Kd.R_far (Kd.R_far (Kd.R_far hr (fun k hk => by show k ≠ gb; omega) _) (fun k hk => by show k ≠ gb; omega) _) (fun k hk => by show k ≠ gb; omega) _) (fun k hk => by omega)
set_option maxHeartbeats 16000000 in
set_option maxRecDepth 100000 in
theorem oxbowref09_Decode.calls (k : Nat) (a0 : ByteArray) (r1 : List S36) (r2 : Int) (w : World) (h : oxbowref09_Decode.f k a0 = some (r1, r2)) :
    Calls Try.prog 37 #[.string a0] w fun e w' => ∃ v0_ : Value, e = .returned (.tuple #[v0_, .int .i64 r2]) ∧ Kd.R k36 36 w' w.heap.size (fun _ => True) v0_ r1 ∧ Below w.heap.size w w' := by
  have hu36 := Try.underlying36
  unfold oxbowref09_Decode.f at h
  have h_ := Option.bind_eq_some_iff.mp h
  clear h
  obtain ⟨⟨n, at0, e0⟩, h1, h⟩ := h_
  simp only at h
  have A1 := Aside0.mk h1
  clear h1
  have HB0 := Aside0.mk (Below.refl w.heap.size w)
  by_cases d0 : e0 = 0
  · rw [if_pos d0] at h
    subst d0
    by_cases d1 : n > 3000
    · rw [if_pos d1] at h
      have h_ := Prod.mk.inj (Option.some.inj h)
      clear h
      obtain ⟨rfl, rfl⟩ := h_
      have d1b : decide (3000 < n) = true := decide_eq_true d1
      clear d1
      go_enter Try.func37, Try.ntmps37
      go_wp2_with (first | ((with_reducible refine gate_callee (f := 60) rfl ?_); refine goesL_ (some 17) rfl rfl Try.func60 (by kernel_rfl) rfl #[.string a0, .int .i64 0] rfl (by (try simp only [List.map_toArray, List.map_cons, List.map_nil]); first | done | rfl) ?_; (with_reducible refine (oxbowref02_TakeNum.calls k a0 0 _ _ _ _ A1.out).mono ?_); rintro e w1 ⟨rfl, hb⟩; refine ⟨_, rfl, ?_⟩; have HB1 := Aside0.mk (below_step HB0.out hb.below); clear hb))
      go_ret2
      exact ⟨_, rfl, Kd.R_nil _ _ _ _ _, HB1.out⟩
    · rw [if_neg d1] at h
      have d1b : decide (3000 < n) = false := decide_eq_false d1
      have H0 := Aside0.mk h
      clear d1 h
      go_enter Try.func37, Try.ntmps37
      go_wp2_with (first | ((with_reducible refine gate_callee (f := 60) rfl ?_); refine goesL_ (some 17) rfl rfl Try.func60 (by kernel_rfl) rfl #[.string a0, .int .i64 0] rfl (by (try simp only [List.map_toArray, List.map_cons, List.map_nil]); first | done | rfl) ?_; (with_reducible refine (oxbowref02_TakeNum.calls k a0 0 _ _ _ _ A1.out).mono ?_); rintro e w1 ⟨rfl, hb⟩; refine ⟨_, rfl, ?_⟩; have HB1 := Aside0.mk (below_step HB0.out hb.below); clear hb))
      go_loopg [5, 7, 8] k (fun kq v5 v7 v22 w' => ∃ (d : List S36) (at_ i : Int), v5 = .int .i64 at_ ∧ v22 = .int .i64 i ∧ Aside0 (oxbowref09_Decode.l0 kq a0 n d at_ i = some (r1, r2)) ∧ Aside0 (kq ≤ k) ∧ Aside0 (Kd.R k36 36 w' w.heap.size (fun _ => True) v7 d) ∧ Aside0 (Below w.heap.size w w'))
      case atStart => exact ⟨[], at0, 0, rfl, rfl, H0, ⟨Nat.le_refl _⟩, ⟨Kd.R_nil _ _ _ _ _⟩, HB1⟩
      case round =>
        clear H0 HB0 HB1 A1 d1b
        obtain ⟨d, at_, i, rfl, rfl, HA, HK, HO, HB⟩ := hrel
        obtain ⟨A, c, rfl⟩ := Kd.R_slice HO.out
        cases gk with
        | zero => exact absurd HA.out (by simp [oxbowref09_Decode.l0])
        | succ k1 =>
          have H := HA.out
          clear HA
          simp only [oxbowref09_Decode.l0] at H
          by_cases c3 : (d.length + 1) * 32 ≤ 140737488355328
          case neg => rw [if_neg c3] at H; cases H
          rw [if_pos c3] at H
          have LD := Aside0.mk c3
          clear c3
          by_cases c4 : i < n
          · rw [if_pos c4] at H
            have c4b : decide (i < n) = true := decide_eq_true c4
            clear c4
            have H_ := Option.bind_eq_some_iff.mp H
            clear H
            obtain ⟨⟨t1, at1, e1⟩, h4, H⟩ := H_
            simp only at H
            have A4 := Aside0.mk h4
            clear h4
            by_cases c5 : e1 = 0
            · rw [if_pos c5] at H
              subst c5
              have H_ := Option.bind_eq_some_iff.mp H
              clear H
              obtain ⟨⟨x, at2, e2⟩, h5, H⟩ := H_
              simp only at H
              unfold oxbowref09_Decode.part at h5
              by_cases c6 : t1 = 2
              · rw [if_pos c6] at h5
                have c6b : (t1 == 2) = true := beq_iff_eq.mpr c6
                have h_ := Option.bind_eq_some_iff.mp h5
                clear h5 c6
                obtain ⟨⟨t2, at2', e2'⟩, h5, h6⟩ := h_
                have A5 := Aside0.mk h5
                have h_ := Prod.mk.inj (Option.some.inj h6)
                clear h5 h6
                obtain ⟨rfl, h_⟩ := h_
                obtain ⟨rfl, rfl⟩ := Prod.mk.inj h_
                clear h_
                simp only at H A5
                by_cases c7 : e2' = 0
                · rw [if_pos c7] at H
                  subst c7
                  have H' := Aside0.mk H
                  clear H
                  go_wp2_with (first | ((with_reducible refine gate_callee (f := 60) rfl ?_); refine goesL_ (some 35) rfl rfl Try.func60 (by kernel_rfl) rfl #[.string a0, .int .i64 at_] rfl (by (try simp only [List.map_toArray, List.map_cons, List.map_nil]); first | done | rfl) ?_; (with_reducible refine (oxbowref02_TakeNum.calls k1 a0 at_ t1 at1 _ _ A4.out).mono ?_); rintro e w9 ⟨rfl, hb⟩; refine ⟨_, rfl, ?_⟩; have HB9 := Aside0.mk (below_step HB.out hb.below); have HO9 := Aside0.mk (Kd.R_below HO.out hb.below); clear hb) | ((with_reducible refine gate_dst (N := 12) rfl ?_); refine box_event ?hg (N := 12) ?hd (cs := #[.int .i64 0, .int .i64 0, .string (⟨#[]⟩ : ByteArray)]) (t := 36) ?hr ?_; (case hd => rfl); (case hg => rfl); (case hr => first | (go_simp; done) | (go_simp; rfl)); intro gb hg w7 hbox hb; obtain ⟨hGx, hBx, hOx, hXx⟩ := oxbowref09_Decode.boxed t1 HB9.out HO9.out hg hbox hb; have HBx := Aside0.mk hBx; have HOx := Aside0.mk hOx; have HXx := Aside0.mk hXx; have GX := Aside0.mk hGx; have BK := Aside0.mk hbox; clear hb hbox hg hBx hOx hXx hGx; have hz0 : w7.cell? ⟨gb, 0, none⟩ = some (.int .i64 0) := (blk_cell BK.out 0).trans rfl; have hz1 : w7.cell? ⟨gb, 1, none⟩ = some (.int .i64 0) := (blk_cell BK.out 1).trans rfl; have hz2 : w7.cell? ⟨gb, 2, none⟩ = some (.string (⟨#[]⟩ : ByteArray)) := (blk_cell BK.out 2).trans rfl; have hf0 := blk_frozen BK.out 0; have hf1 := blk_frozen BK.out 1; have hf2 := blk_frozen BK.out 2) | ((with_reducible refine gate_callee (f := 61) rfl ?_); refine goesL_ (some 48) rfl rfl Try.func61 (by kernel_rfl) rfl #[.string a0, .int .i64 at1] rfl (by (try simp only [List.map_toArray, List.map_cons, List.map_nil]); first | done | rfl) ?_; (with_reducible refine (oxbowref02_TakeText.calls k1 a0 at1 t2 at2' _ _ A5.out).mono ?_); rintro e w11 ⟨rfl, hb⟩; refine ⟨_, rfl, ?_⟩; have HB11 := Aside0.mk (below_step HBx.out hb.below); have HO11 := Aside0.mk (Kd.R_below HOx.out hb.below); have HX11 := Aside0.mk (blk_below HXx.out hb.below); clear hb; have y11_0 := (blk_cell HX11.out 0).trans rfl; have y11_1 := (blk_cell HX11.out 1).trans rfl; have y11_2 := (blk_cell HX11.out 2).trans rfl; have f11_0 := blk_frozen HX11.out 0; have f11_1 := blk_frozen HX11.out 1; have f11_2 := blk_frozen HX11.out 2) | ((with_reducible refine gate_builtin (b := .append) (xs := #[.tmp 63, .tmp 65]) rfl ?_); at_builtin; refine Kd.R_append k36 (w0 := w) (W := (w11.setCell ⟨gb, 2, none⟩ (.string t2))) w.heap.size rfl (.tmp 63) (.tmp 65) 22 36 (.agg #[(.int .i64 0), (.int .i64 0), (.string ⟨#[]⟩)]) 32 rfl Try.underlying22 oxbowref09_Decode.info rfl (by decide) (by decide) (.slice A d.length c) d (⟨t1, 0, t2⟩ : S36) [.int .i64 t1, .int .i64 0, .string t2] (fun k_ => k_ ≠ gb) (fun _ => False) rfl (by first | (go_simp; done) | (go_simp; rfl)) (k36_mkM _ _ _ (⟨t1, 0, t2⟩ : S36)) (fun _ hk => hk.elim) (fun k_ hk => Kd.freshB (g := gb) (blk_put HX11.out 2 (.string t2) rfl) k_ hk) (Kd.R_far HO11.out (p := ⟨gb, 2, none⟩) (fun k hk => hk) (.string t2)) (below_set HB11.out GX.out) (below_set HB11.out GX.out).size LD.out ?_; intro v14 w14 ho hb hg hat; have HO14 := Aside0.mk (Kd.R_mono ho (fun _ _ => trivial)); have HB14 := Aside0.mk hb; clear ho hb hg hat))
                  go_roundg k1
                  case measure => have := HK.out; omega
                  case rel => exact ⟨_, _, wrap64 (i + 1), rfl, rfl, H', ⟨by have := HK.out; omega⟩, HO14, HB14⟩
                · rw [if_neg c7] at H
                  have H_ := Prod.mk.inj (Option.some.inj H)
                  clear H
                  obtain ⟨rfl, rfl⟩ := H_
                  have c7b : (e2' != 0) = true := by rw [bne_iff_ne]; exact c7
                  clear c7
                  go_wp2_with (first | ((with_reducible refine gate_callee (f := 60) rfl ?_); refine goesL_ (some 35) rfl rfl Try.func60 (by kernel_rfl) rfl #[.string a0, .int .i64 at_] rfl (by (try simp only [List.map_toArray, List.map_cons, List.map_nil]); first | done | rfl) ?_; (with_reducible refine (oxbowref02_TakeNum.calls k1 a0 at_ t1 at1 _ _ A4.out).mono ?_); rintro e w9 ⟨rfl, hb⟩; refine ⟨_, rfl, ?_⟩; have HB9 := Aside0.mk (below_step HB.out hb.below); have HO9 := Aside0.mk (Kd.R_below HO.out hb.below); clear hb) | ((with_reducible refine gate_dst (N := 12) rfl ?_); refine box_event ?hg (N := 12) ?hd (cs := #[.int .i64 0, .int .i64 0, .string (⟨#[]⟩ : ByteArray)]) (t := 36) ?hr ?_; (case hd => rfl); (case hg => rfl); (case hr => first | (go_simp; done) | (go_simp; rfl)); intro gb hg w7 hbox hb; obtain ⟨hGx, hBx, hOx, hXx⟩ := oxbowref09_Decode.boxed t1 HB9.out HO9.out hg hbox hb; have HBx := Aside0.mk hBx; have HOx := Aside0.mk hOx; have HXx := Aside0.mk hXx; have GX := Aside0.mk hGx; have BK := Aside0.mk hbox; clear hb hbox hg hBx hOx hXx hGx; have hz0 : w7.cell? ⟨gb, 0, none⟩ = some (.int .i64 0) := (blk_cell BK.out 0).trans rfl; have hz1 : w7.cell? ⟨gb, 1, none⟩ = some (.int .i64 0) := (blk_cell BK.out 1).trans rfl; have hz2 : w7.cell? ⟨gb, 2, none⟩ = some (.string (⟨#[]⟩ : ByteArray)) := (blk_cell BK.out 2).trans rfl; have hf0 := blk_frozen BK.out 0; have hf1 := blk_frozen BK.out 1; have hf2 := blk_frozen BK.out 2) | ((with_reducible refine gate_callee (f := 61) rfl ?_); refine goesL_ (some 48) rfl rfl Try.func61 (by kernel_rfl) rfl #[.string a0, .int .i64 at1] rfl (by (try simp only [List.map_toArray, List.map_cons, List.map_nil]); first | done | rfl) ?_; (with_reducible refine (oxbowref02_TakeText.calls k1 a0 at1 t2 at2' _ _ A5.out).mono ?_); rintro e w11 ⟨rfl, hb⟩; refine ⟨_, rfl, ?_⟩; have HB11 := Aside0.mk (below_step HBx.out hb.below); have HO11 := Aside0.mk (Kd.R_below HOx.out hb.below); have HX11 := Aside0.mk (blk_below HXx.out hb.below); clear hb; have y11_0 := (blk_cell HX11.out 0).trans rfl; have y11_1 := (blk_cell HX11.out 1).trans rfl; have y11_2 := (blk_cell HX11.out 2).trans rfl; have f11_0 := blk_frozen HX11.out 0; have f11_1 := blk_frozen HX11.out 1; have f11_2 := blk_frozen HX11.out 2))
                  go_ret2
                  exact ⟨_, rfl, Kd.R_nil _ _ _ _ _, below_set HB11.out GX.out⟩
              · rw [if_neg c6] at h5
                have c6b : (t1 == 2) = false := beq_eq_false_iff_ne.mpr c6
                have h_ := Option.bind_eq_some_iff.mp h5
                clear h5 c6
                obtain ⟨⟨t2, at2', e2'⟩, h5, h6⟩ := h_
                have A5 := Aside0.mk h5
                have h_ := Prod.mk.inj (Option.some.inj h6)
                clear h5 h6
                obtain ⟨rfl, h_⟩ := h_
                obtain ⟨rfl, rfl⟩ := Prod.mk.inj h_
                clear h_
                simp only at H A5
                by_cases c7 : e2' = 0
                · rw [if_pos c7] at H
                  subst c7
                  have H' := Aside0.mk H
                  clear H
                  go_wp2_with (first | ((with_reducible refine gate_callee (f := 60) rfl ?_); refine goesL_ (some 35) rfl rfl Try.func60 (by kernel_rfl) rfl #[.string a0, .int .i64 at_] rfl (by (try simp only [List.map_toArray, List.map_cons, List.map_nil]); first | done | rfl) ?_; (with_reducible refine (oxbowref02_TakeNum.calls k1 a0 at_ t1 at1 _ _ A4.out).mono ?_); rintro e w9 ⟨rfl, hb⟩; refine ⟨_, rfl, ?_⟩; have HB9 := Aside0.mk (below_step HB.out hb.below); have HO9 := Aside0.mk (Kd.R_below HO.out hb.below); clear hb) | ((with_reducible refine gate_dst (N := 12) rfl ?_); refine box_event ?hg (N := 12) ?hd (cs := #[.int .i64 0, .int .i64 0, .string (⟨#[]⟩ : ByteArray)]) (t := 36) ?hr ?_; (case hd => rfl); (case hg => rfl); (case hr => first | (go_simp; done) | (go_simp; rfl)); intro gb hg w7 hbox hb; obtain ⟨hGx, hBx, hOx, hXx⟩ := oxbowref09_Decode.boxed t1 HB9.out HO9.out hg hbox hb; have HBx := Aside0.mk hBx; have HOx := Aside0.mk hOx; have HXx := Aside0.mk hXx; have GX := Aside0.mk hGx; have BK := Aside0.mk hbox; clear hb hbox hg hBx hOx hXx hGx; have hz0 : w7.cell? ⟨gb, 0, none⟩ = some (.int .i64 0) := (blk_cell BK.out 0).trans rfl; have hz1 : w7.cell? ⟨gb, 1, none⟩ = some (.int .i64 0) := (blk_cell BK.out 1).trans rfl; have hz2 : w7.cell? ⟨gb, 2, none⟩ = some (.string (⟨#[]⟩ : ByteArray)) := (blk_cell BK.out 2).trans rfl; have hf0 := blk_frozen BK.out 0; have hf1 := blk_frozen BK.out 1; have hf2 := blk_frozen BK.out 2) | ((with_reducible refine gate_callee (f := 60) rfl ?_); refine goesL_ (some 56) rfl rfl Try.func60 (by kernel_rfl) rfl #[.string a0, .int .i64 at1] rfl (by (try simp only [List.map_toArray, List.map_cons, List.map_nil]); first | done | rfl) ?_; (with_reducible refine (oxbowref02_TakeNum.calls k1 a0 at1 t2 at2' _ _ A5.out).mono ?_); rintro e w11 ⟨rfl, hb⟩; refine ⟨_, rfl, ?_⟩; have HB11 := Aside0.mk (below_step HBx.out hb.below); have HO11 := Aside0.mk (Kd.R_below HOx.out hb.below); have HX11 := Aside0.mk (blk_below HXx.out hb.below); clear hb; have y11_0 := (blk_cell HX11.out 0).trans rfl; have y11_1 := (blk_cell HX11.out 1).trans rfl; have y11_2 := (blk_cell HX11.out 2).trans rfl; have f11_0 := blk_frozen HX11.out 0; have f11_1 := blk_frozen HX11.out 1; have f11_2 := blk_frozen HX11.out 2) | ((with_reducible refine gate_builtin (b := .append) (xs := #[.tmp 63, .tmp 65]) rfl ?_); at_builtin; refine Kd.R_append k36 (w0 := w) (W := (w11.setCell ⟨gb, 1, none⟩ (.int .i64 t2))) w.heap.size rfl (.tmp 63) (.tmp 65) 22 36 (.agg #[(.int .i64 0), (.int .i64 0), (.string ⟨#[]⟩)]) 32 rfl Try.underlying22 oxbowref09_Decode.info rfl (by decide) (by decide) (.slice A d.length c) d (⟨t1, t2, ⟨#[]⟩⟩ : S36) [.int .i64 t1, .int .i64 t2, .string ⟨#[]⟩] (fun k_ => k_ ≠ gb) (fun _ => False) rfl (by first | (go_simp; done) | (go_simp; rfl)) (k36_mkM _ _ _ (⟨t1, t2, ⟨#[]⟩⟩ : S36)) (fun _ hk => hk.elim) (fun k_ hk => Kd.freshB (g := gb) (blk_put HX11.out 1 (.int .i64 t2) rfl) k_ hk) (Kd.R_far HO11.out (p := ⟨gb, 1, none⟩) (fun k hk => hk) (.int .i64 t2)) (below_set HB11.out GX.out) (below_set HB11.out GX.out).size LD.out ?_; intro v14 w14 ho hb hg hat; have HO14 := Aside0.mk (Kd.R_mono ho (fun _ _ => trivial)); have HB14 := Aside0.mk hb; clear ho hb hg hat))
                  go_roundg k1
                  case measure => have := HK.out; omega
                  case rel => exact ⟨_, _, wrap64 (i + 1), rfl, rfl, H', ⟨by have := HK.out; omega⟩, HO14, HB14⟩
                · rw [if_neg c7] at H
                  have H_ := Prod.mk.inj (Option.some.inj H)
                  clear H
                  obtain ⟨rfl, rfl⟩ := H_
                  have c7b : (e2' != 0) = true := by rw [bne_iff_ne]; exact c7
                  clear c7
                  go_wp2_with (first | ((with_reducible refine gate_callee (f := 60) rfl ?_); refine goesL_ (some 35) rfl rfl Try.func60 (by kernel_rfl) rfl #[.string a0, .int .i64 at_] rfl (by (try simp only [List.map_toArray, List.map_cons, List.map_nil]); first | done | rfl) ?_; (with_reducible refine (oxbowref02_TakeNum.calls k1 a0 at_ t1 at1 _ _ A4.out).mono ?_); rintro e w9 ⟨rfl, hb⟩; refine ⟨_, rfl, ?_⟩; have HB9 := Aside0.mk (below_step HB.out hb.below); have HO9 := Aside0.mk (Kd.R_below HO.out hb.below); clear hb) | ((with_reducible refine gate_dst (N := 12) rfl ?_); refine box_event ?hg (N := 12) ?hd (cs := #[.int .i64 0, .int .i64 0, .string (⟨#[]⟩ : ByteArray)]) (t := 36) ?hr ?_; (case hd => rfl); (case hg => rfl); (case hr => first | (go_simp; done) | (go_simp; rfl)); intro gb hg w7 hbox hb; obtain ⟨hGx, hBx, hOx, hXx⟩ := oxbowref09_Decode.boxed t1 HB9.out HO9.out hg hbox hb; have HBx := Aside0.mk hBx; have HOx := Aside0.mk hOx; have HXx := Aside0.mk hXx; have GX := Aside0.mk hGx; have BK := Aside0.mk hbox; clear hb hbox hg hBx hOx hXx hGx; have hz0 : w7.cell? ⟨gb, 0, none⟩ = some (.int .i64 0) := (blk_cell BK.out 0).trans rfl; have hz1 : w7.cell? ⟨gb, 1, none⟩ = some (.int .i64 0) := (blk_cell BK.out 1).trans rfl; have hz2 : w7.cell? ⟨gb, 2, none⟩ = some (.string (⟨#[]⟩ : ByteArray)) := (blk_cell BK.out 2).trans rfl; have hf0 := blk_frozen BK.out 0; have hf1 := blk_frozen BK.out 1; have hf2 := blk_frozen BK.out 2) | ((with_reducible refine gate_callee (f := 60) rfl ?_); refine goesL_ (some 56) rfl rfl Try.func60 (by kernel_rfl) rfl #[.string a0, .int .i64 at1] rfl (by (try simp only [List.map_toArray, List.map_cons, List.map_nil]); first | done | rfl) ?_; (with_reducible refine (oxbowref02_TakeNum.calls k1 a0 at1 t2 at2' _ _ A5.out).mono ?_); rintro e w11 ⟨rfl, hb⟩; refine ⟨_, rfl, ?_⟩; have HB11 := Aside0.mk (below_step HBx.out hb.below); have HO11 := Aside0.mk (Kd.R_below HOx.out hb.below); have HX11 := Aside0.mk (blk_below HXx.out hb.below); clear hb; have y11_0 := (blk_cell HX11.out 0).trans rfl; have y11_1 := (blk_cell HX11.out 1).trans rfl; have y11_2 := (blk_cell HX11.out 2).trans rfl; have f11_0 := blk_frozen HX11.out 0; have f11_1 := blk_frozen HX11.out 1; have f11_2 := blk_frozen HX11.out 2))
                  go_ret2
                  exact ⟨_, rfl, Kd.R_nil _ _ _ _ _, below_set HB11.out GX.out⟩
            · rw [if_neg c5] at H
              have H_ := Prod.mk.inj (Option.some.inj H)
              clear H
              obtain ⟨rfl, rfl⟩ := H_
              have c5b : (e1 != 0) = true := by rw [bne_iff_ne]; exact c5
              clear c5
              go_wp2_with (first | ((with_reducible refine gate_callee (f := 60) rfl ?_); refine goesL_ (some 35) rfl rfl Try.func60 (by kernel_rfl) rfl #[.string a0, .int .i64 at_] rfl (by (try simp only [List.map_toArray, List.map_cons, List.map_nil]); first | done | rfl) ?_; (with_reducible refine (oxbowref02_TakeNum.calls k1 a0 at_ t1 at1 _ _ A4.out).mono ?_); rintro e w9 ⟨rfl, hb⟩; refine ⟨_, rfl, ?_⟩; have HB9 := Aside0.mk (below_step HB.out hb.below); have HO9 := Aside0.mk (Kd.R_below HO.out hb.below); clear hb))
              go_ret2
              exact ⟨_, rfl, Kd.R_nil _ _ _ _ _, HB9.out⟩
          · rw [if_neg c4] at H
            have c4b : decide (i < n) = false := decide_eq_false c4
            clear c4
            have H_ := Option.bind_eq_some_iff.mp H
            clear H
            obtain ⟨⟨t3, e3⟩, h4, H⟩ := H_
            simp only at H
            have A4 := Aside0.mk h4
            clear h4
            have HC := Aside0.mk (Kd.R_reads' HO.out).2.2
            have HL := Aside0.mk (Kd.R_reads' HO.out).2.1
            by_cases c6 : e3 = 0
            · rw [if_pos c6] at H
              subst c6
              by_cases c7 : t3.toList = a0.toList
              · rw [if_pos c7] at H
                have c7b : (t3.toList == a0.toList) = true := beq_iff_eq.mpr c7
                have c7c : (t3.toList != a0.toList) = false := by unfold bne; rw [c7b]; rfl
                have H_ := Prod.mk.inj (Option.some.inj H)
                clear H c7
                obtain ⟨rfl, rfl⟩ := H_
                go_wp2_with (first | ((with_reducible refine gate_callee (f := 34) rfl ?_); refine goesL_ (some 69) rfl rfl Try.func34 (by kernel_rfl) rfl #[.slice A d.length c] rfl (by (try simp only [List.map_toArray, List.map_cons, List.map_nil]); first | done | rfl) ?_; (with_reducible refine (oxbowref09_Encode.calls k1 A c d _ _ _ HC.out HL.out A4.out).mono ?_); rintro e w15 ⟨rfl, hb⟩; refine ⟨_, rfl, ?_⟩; have HB15 := Aside0.mk (below_step HB.out hb); have HO15 := Aside0.mk (Kd.R_below HO.out hb); clear hb))
                go_ret2
                exact ⟨_, rfl, HO15.out, HB15.out⟩
              · rw [if_neg c7] at H
                have c7b : (t3.toList == a0.toList) = false := beq_eq_false_iff_ne.mpr c7
                have c7c : (t3.toList != a0.toList) = true := by unfold bne; rw [c7b]; rfl
                have H_ := Prod.mk.inj (Option.some.inj H)
                clear H c7
                obtain ⟨rfl, rfl⟩ := H_
                go_wp2_with (first | ((with_reducible refine gate_callee (f := 34) rfl ?_); refine goesL_ (some 69) rfl rfl Try.func34 (by kernel_rfl) rfl #[.slice A d.length c] rfl (by (try simp only [List.map_toArray, List.map_cons, List.map_nil]); first | done | rfl) ?_; (with_reducible refine (oxbowref09_Encode.calls k1 A c d _ _ _ HC.out HL.out A4.out).mono ?_); rintro e w15 ⟨rfl, hb⟩; refine ⟨_, rfl, ?_⟩; have HB15 := Aside0.mk (below_step HB.out hb); have HO15 := Aside0.mk (Kd.R_below HO.out hb); clear hb))
                go_ret2
                exact ⟨_, rfl, Kd.R_nil _ _ _ _ _, HB15.out⟩
            · rw [if_neg c6] at H
              have H_ := Prod.mk.inj (Option.some.inj H)
              clear H
              obtain ⟨rfl, rfl⟩ := H_
              have c6b : (e3 != 0) = true := by rw [bne_iff_ne]; exact c6
              clear c6
              go_wp2_with (first | ((with_reducible refine gate_callee (f := 34) rfl ?_); refine goesL_ (some 69) rfl rfl Try.func34 (by kernel_rfl) rfl #[.slice A d.length c] rfl (by (try simp only [List.map_toArray, List.map_cons, List.map_nil]); first | done | rfl) ?_; (with_reducible refine (oxbowref09_Encode.calls k1 A c d _ _ _ HC.out HL.out A4.out).mono ?_); rintro e w15 ⟨rfl, hb⟩; refine ⟨_, rfl, ?_⟩; have HB15 := Aside0.mk (below_step HB.out hb); have HO15 := Aside0.mk (Kd.R_below HO.out hb); clear hb))
              go_ret2
              exact ⟨_, rfl, Kd.R_nil _ _ _ _ _, HB15.out⟩
  · rw [if_neg d0] at h
    have h_ := Prod.mk.inj (Option.some.inj h)
    clear h
    obtain ⟨rfl, rfl⟩ := h_
    have d0b : (e0 != 0) = true := by rw [bne_iff_ne]; exact d0
    clear d0
    go_enter Try.func37, Try.ntmps37
    go_wp2_with (first | ((with_reducible refine gate_callee (f := 60) rfl ?_); refine goesL_ (some 17) rfl rfl Try.func60 (by kernel_rfl) rfl #[.string a0, .int .i64 0] rfl (by (try simp only [List.map_toArray, List.map_cons, List.map_nil]); first | done | rfl) ?_; (with_reducible refine (oxbowref02_TakeNum.calls k a0 0 _ _ _ _ A1.out).mono ?_); rintro e w1 ⟨rfl, hb⟩; refine ⟨_, rfl, ?_⟩; have HB1 := Aside0.mk (below_step HB0.out hb.below); clear hb))
    go_ret2
    exact ⟨_, rfl, Kd.R_nil _ _ _ _ _, HB1.out⟩


end Go.Proofs.Ytdpbkomaiafemaa.HDd
