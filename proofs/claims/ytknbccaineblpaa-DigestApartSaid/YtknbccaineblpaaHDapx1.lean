-- Written by hprint.py over the kit's print.py; contracts of some functions by hand.
import Derived.Test.YtknbccaineblpaaHDapx0
namespace Go.Proofs.Ytknbccaineblpaa.HDap
open Go.RowKit Go.Proofs.YtknbccaineblpaaW.PrintWords Go.Proofs.YtknbccaineblpaaW.PrintLast Go.Proofs.YtknbccaineblpaaW.PrintMore
attribute [local go_sem] max2_int min2_int max_two min_two max_three min_three max_four min_four   -- for this text's walks alone
set_option linter.unusedVariables false
set_option linter.unusedSimpArgs false

/-! ### digest_Extend: function 18 -/
def digest_Extend.l0 : Nat → Int → ByteArray → Int → Int → Option (Int)
  | 0, _, _, _, _ => none
  | k + 1, x0, x1, x7, x8 => if x8 < x7 then (if 0 ≤ x8 then (if x8 < (x1.size : Int) then (digest_Extend.l0 k (((((((Go.bits .xor .u32 x0 ((bt x1 x8) % 4294967296)) * 16777216) % 4294967296) + (((Go.bits .xor .u32 x0 ((bt x1 x8) % 4294967296)) * 256) % 4294967296)) % 4294967296) + (((Go.bits .xor .u32 x0 ((bt x1 x8) % 4294967296)) * 147) % 4294967296)) % 4294967296) x1 x7 (wrap64 (x8 + 1))) else (none)) else (none)) else (some x0)
def digest_Extend.f (k : Nat) (a0 : Int) (a1 : ByteArray) : Option (Int) := digest_Extend.l0 k a0 a1 (a1.size : Int) 0
theorem digest_Extend.mono_l : ∀ k, (∀ y0 y1 y2 y3, LeO (digest_Extend.l0 k y0 y1 y2 y3) (digest_Extend.l0 (k + 1) y0 y1 y2 y3))
  | 0 => fun _ _ _ _ r h => by simp [digest_Extend.l0] at h
  | k + 1 => by
    have ih0 := digest_Extend.mono_l k
    · intro y0 y1 y2 y3
      unfold digest_Extend.l0
      repeat' first
      | (with_reducible exact ih0 _ _ _ _)
      | (with_reducible exact LeO.refl _)
      | (with_reducible exact LeO.none _)
      | (with_reducible refine LeO.ite ?_ ?_)
      | (with_reducible refine LeO.bind ?_ (fun _ => ?_))
      | exact ih0 _ _ _ _
      | exact LeO.none _
      | refine LeO.ite ?_ ?_
      | refine LeO.bind ?_ (fun _ => ?_)
theorem digest_Extend.mono : ∀ a0 a1 k, LeO (digest_Extend.f k a0 a1) (digest_Extend.f (k + 1) a0 a1) := by
  intro a0 a1 k
  have ih0 := digest_Extend.mono_l k
  unfold digest_Extend.f
  repeat' first
      | (with_reducible exact ih0 _ _ _ _)
      | (with_reducible exact LeO.refl _)
      | (with_reducible exact LeO.none _)
      | (with_reducible refine LeO.ite ?_ ?_)
      | (with_reducible refine LeO.bind ?_ (fun _ => ?_))
      | exact ih0 _ _ _ _
      | exact LeO.none _
      | refine LeO.ite ?_ ?_
      | refine LeO.bind ?_ (fun _ => ?_)
set_option maxHeartbeats 8000000 in
set_option maxRecDepth 100000 in
theorem digest_Extend.calls (k : Nat) (a0 : Int) (a1 : ByteArray) (r : Int) (w : World) (h : digest_Extend.f k a0 a1 = some r) :
    Calls Try.prog 18 #[.int .u32 a0, .string a1] w fun e w' => e = .returned (.int .u32 r) ∧ Drawn0 w w' := by
  have H : (digest_Extend.l0 k a0 a1 (a1.size : Int) 0) = some r := h
  clear h
  have H' := Aside0.mk H
  clear H
  go_enter Try.func18, Try.ntmps18
  go_wp2
  go_loopg [0, 8] k (fun kq v0 v8 w' => ∃ (x0_1 : Int) (x8_1 : Int), v0 = .int .u32 x0_1 ∧ v8 = .int .i64 x8_1 ∧ Aside0 (digest_Extend.l0 kq x0_1 a1 (a1.size : Int) x8_1 = some r) ∧ Aside0 (kq ≤ k) ∧ Drawn0 w w')
  case atStart => exact ⟨(a0), (0), (by first | rfl | (simp; done) | (simp [*]; done)), (by first | rfl | (simp; done) | (simp [*]; done)), H', ⟨Nat.le_refl _⟩, by repeat (first | exact Drawn0.refl _ | apply Drawn0.step)⟩
  case round =>
    clear H'
    try clear c1
    try clear p2
    obtain ⟨x0_1, x8_1, rfl, rfl, HA, HK1, ⟨m1, rfl⟩⟩ := hrel
    cases gk with
    | zero => exact absurd HA.out (by simp [digest_Extend.l0])
    | succ k1 =>
      have H := HA.out
      clear HA
      simp only [digest_Extend.l0] at H
      by_cases c3 : x8_1 < (a1.size : Int)
      · rw [if_pos c3] at H
        have c3b0 : decide (x8_1 < (a1.size : Int)) = true := decide_eq_true c3
        clear c3
        by_cases c4 : 0 ≤ x8_1
        · rw [if_pos c4] at H
          have c4b0 : decide (0 ≤ x8_1) = true := decide_eq_true c4
          clear c4
          by_cases c5 : x8_1 < (a1.size : Int)
          · rw [if_pos c5] at H
            have c5b0 : decide (x8_1 < (a1.size : Int)) = true := decide_eq_true c5
            clear c5
            have H' := Aside0.mk H
            clear H
            have p6 : 0 ≤ (x8_1 : Int) := of_decide_eq_true (by first | (with_reducible assumption) | assumption)
            have q6 : x8_1 < (a1.size : Int) := of_decide_eq_true (by first | (with_reducible assumption) | assumption)
            have hx6 := bt_at a1 x8_1
            replace p6 := eq_true p6
            replace q6 := eq_true q6
            go_wp2
            go_roundg k1
            case measure => have := HK1.out; omega
            case rel => exact ⟨(((((((Go.bits .xor .u32 x0_1 ((bt a1 x8_1) % 4294967296)) * 16777216) % 4294967296) + (((Go.bits .xor .u32 x0_1 ((bt a1 x8_1) % 4294967296)) * 256) % 4294967296)) % 4294967296) + (((Go.bits .xor .u32 x0_1 ((bt a1 x8_1) % 4294967296)) * 147) % 4294967296)) % 4294967296), (wrap64 (x8_1 + 1)), (by first | rfl | (simp; done) | (simp [*]; done)), (by first | rfl | (simp; done) | (simp [*]; done)), H', ⟨by have := HK1.out; omega⟩, by repeat (first | exact Drawn0.refl _ | apply Drawn0.step)⟩
          · rw [if_neg c5] at H
            exact absurd H (by simp)
        · rw [if_neg c4] at H
          exact absurd H (by simp)
      · rw [if_neg c3] at H
        have c3b0 : decide (x8_1 < (a1.size : Int)) = false := decide_eq_false c3
        clear c3
        obtain rfl := Option.some.inj H
        go_wp2
        go_ret
        exact ⟨by first | rfl | (simp; done) | (simp [*]; done), by repeat (first | exact Drawn0.refl _ | apply Drawn0.step)⟩

/-! ### digest_Sum: function 16 -/
def digest_Sum.f (k : Nat) (a0 : ByteArray) : Option (Int) := (digest_Extend.f k 2166136261 a0).bind fun t101 => (some t101)
theorem digest_Sum.mono : ∀ a0 k, LeO (digest_Sum.f k a0) (digest_Sum.f (k + 1) a0) := by
  intro a0 k
  unfold digest_Sum.f
  repeat' first
      | (with_reducible exact digest_Extend.mono _ _ _)
      | (with_reducible exact LeO.refl _)
      | (with_reducible exact LeO.none _)
      | (with_reducible refine LeO.ite ?_ ?_)
      | (with_reducible refine LeO.bind ?_ (fun _ => ?_))
      | exact digest_Extend.mono _ _ _
      | exact LeO.none _
      | refine LeO.ite ?_ ?_
      | refine LeO.bind ?_ (fun _ => ?_)
set_option maxHeartbeats 8000000 in
set_option maxRecDepth 100000 in
theorem digest_Sum.calls (k : Nat) (a0 : ByteArray) (r : Int) (w : World) (h : digest_Sum.f k a0 = some r) :
    Calls Try.prog 16 #[.string a0] w fun e w' => e = .returned (.int .u32 r) ∧ Drawn0 w w' := by
  have H : ((digest_Extend.f k 2166136261 a0).bind fun t101 => (some t101)) = some r := h
  clear h
  replace H := Option.bind_eq_some_iff.mp H
  obtain ⟨t101, A20, H⟩ := H
  replace H : (some t101) = some r := H
  have A2 := Aside0.mk A20
  clear A20
  obtain rfl := Option.some.inj H
  go_enter Try.func16, Try.ntmps16
  go_wp2_with (first | ((with_reducible refine gate_callee (f := 18) rfl ?_); refine goesL_ (some 4) rfl rfl Try.func18 (by kernel_rfl) rfl #[.int .u32 2166136261, .string a0] rfl (by (try simp only [List.map_toArray, List.map_cons, List.map_nil]); first | done | rfl | (simp only [List.length_drop, List.length_take]; rfl)) ?_; (with_reducible refine (digest_Extend.calls k 2166136261 a0 t101 _ A2.out).mono ?_); rintro e w' ⟨rfl, ⟨nd, rfl⟩⟩; refine ⟨_, rfl, ?_⟩))
  go_ret
  exact ⟨by first | rfl | (simp; done) | (simp [*]; done), by repeat (first | exact Drawn0.refl _ | apply Drawn0.step)⟩

/-! ### digest_Name: function 20 -/
def digest_Name.f (a0 : Int) : Option (ByteArray) := some (strOfNums (([(a0 / 16777216) % 256, (a0 / 65536) % 256, (a0 / 256) % 256, (a0) % 256] : List Int)))
set_option maxHeartbeats 800000 in
set_option maxRecDepth 100000 in
theorem digest_Name.calls (a0 : Int) (r : ByteArray) (w : World) (h : digest_Name.f a0 = some r) :
    Calls Try.prog 20 #[.int .u32 a0] w fun e w' => e = .returned (.string r) ∧ Below w.heap.size w w' := by
  obtain rfl := Option.some.inj h
  have HB := Aside0.mk (Below.refl w.heap.size w)
  clear h
  have hc : ∀ i, i < 4 → (w.alloc (.cells #[.int .u8 (a0 / 16777216 % 256), .int .u8 (a0 / 65536 % 256), .int .u8 (a0 / 256 % 256), .int .u8 (a0 % 256)] 77)).cell? ⟨w.heap.size, 0 + i, none⟩ = some (.int .u8 (([(a0 / 16777216) % 256, (a0 / 65536) % 256, (a0 / 256) % 256, (a0) % 256] : List Int).getD i 0)) := by
    intro i hi
    rw [World.cell?_alloc_at _ _ _ _ rfl, Nat.zero_add]
    match i, hi with
    | 0, _ => rfl
    | 1, _ => rfl
    | 2, _ => rfl
    | 3, _ => rfl
  have hcv := run_convert_bytes_arg (P := Try.prog) _ 30 5 Try.underlying30 Try.underlying5 w.heap.size 0 4 4 [(a0 / 16777216) % 256, (a0 / 65536) % 256, (a0 / 256) % 256, (a0) % 256] rfl hc 9 Try.underlying9
  clear hc
  go_enter Try.func20, Try.ntmps20
  go_wp2
  go_ret
  exact ⟨rfl, below_alloc HB.out _⟩


/-! ### oxbowlaw07_live: function 15 -/
def oxbowlaw07_live.f (k : Nat)  : Option (Bool) := (digest_Sum.f k (⟨#[]⟩ : ByteArray)).bind fun t102 => (if t102 = 2166136261 then ((digest_Sum.f k (⟨#[97]⟩ : ByteArray)).bind fun t103 => (if t103 = 3826002220 then ((digest_Sum.f k (⟨#[102, 111, 111, 98, 97, 114]⟩ : ByteArray)).bind fun t104 => (if t104 = 3214735720 then ((digest_Name.f 1).bind fun t105 => (some (t105.toList == ([0, 0, 0, 1] : List UInt8)))) else (some false))) else (some false))) else (some false))
theorem oxbowlaw07_live.mono : ∀ k, LeO (oxbowlaw07_live.f k ) (oxbowlaw07_live.f (k + 1) ) := by
  intro  k
  unfold oxbowlaw07_live.f
  repeat' first
      | (with_reducible exact digest_Sum.mono _ _)
      | (with_reducible exact LeO.refl _)
      | (with_reducible exact LeO.none _)
      | (with_reducible refine LeO.ite ?_ ?_)
      | (with_reducible refine LeO.bind ?_ (fun _ => ?_))
      | exact digest_Sum.mono _ _
      | exact LeO.none _
      | refine LeO.ite ?_ ?_
      | refine LeO.bind ?_ (fun _ => ?_)
set_option maxHeartbeats 8000000 in
set_option maxRecDepth 100000 in
theorem oxbowlaw07_live.calls (k : Nat)  (r : Bool) (w : World) (h : oxbowlaw07_live.f k  = some r) :
    Calls Try.prog 15 #[] w fun e w' => e = .returned (.bool r) ∧ Below w.heap.size w w' := by
  have HB := Aside0.mk (Below.refl w.heap.size w)
  have H : ((digest_Sum.f k (⟨#[]⟩ : ByteArray)).bind fun t102 => (if t102 = 2166136261 then ((digest_Sum.f k (⟨#[97]⟩ : ByteArray)).bind fun t103 => (if t103 = 3826002220 then ((digest_Sum.f k (⟨#[102, 111, 111, 98, 97, 114]⟩ : ByteArray)).bind fun t104 => (if t104 = 3214735720 then ((digest_Name.f 1).bind fun t105 => (some (t105.toList == ([0, 0, 0, 1] : List UInt8)))) else (some false))) else (some false))) else (some false))) = some r := h
  clear h
  replace H := Option.bind_eq_some_iff.mp H
  obtain ⟨t102, A10, H⟩ := H
  replace H : (if t102 = 2166136261 then ((digest_Sum.f k (⟨#[97]⟩ : ByteArray)).bind fun t103 => (if t103 = 3826002220 then ((digest_Sum.f k (⟨#[102, 111, 111, 98, 97, 114]⟩ : ByteArray)).bind fun t104 => (if t104 = 3214735720 then ((digest_Name.f 1).bind fun t105 => (some (t105.toList == ([0, 0, 0, 1] : List UInt8)))) else (some false))) else (some false))) else (some false)) = some r := H
  have A1 := Aside0.mk A10
  clear A10
  by_cases c2 : t102 = 2166136261
  · rw [if_pos c2] at H
    have c2b0 : (t102 == 2166136261) = true := beq_iff_eq.mpr c2
    have c2b1 : (t102 != 2166136261) = false := bne_eq_false_iff_eq.mpr c2
    clear c2
    replace H := Option.bind_eq_some_iff.mp H
    obtain ⟨t103, A30, H⟩ := H
    replace H : (if t103 = 3826002220 then ((digest_Sum.f k (⟨#[102, 111, 111, 98, 97, 114]⟩ : ByteArray)).bind fun t104 => (if t104 = 3214735720 then ((digest_Name.f 1).bind fun t105 => (some (t105.toList == ([0, 0, 0, 1] : List UInt8)))) else (some false))) else (some false)) = some r := H
    have A3 := Aside0.mk A30
    clear A30
    by_cases c4 : t103 = 3826002220
    · rw [if_pos c4] at H
      have c4b0 : (t103 == 3826002220) = true := beq_iff_eq.mpr c4
      have c4b1 : (t103 != 3826002220) = false := bne_eq_false_iff_eq.mpr c4
      clear c4
      replace H := Option.bind_eq_some_iff.mp H
      obtain ⟨t104, A50, H⟩ := H
      replace H : (if t104 = 3214735720 then ((digest_Name.f 1).bind fun t105 => (some (t105.toList == ([0, 0, 0, 1] : List UInt8)))) else (some false)) = some r := H
      have A5 := Aside0.mk A50
      clear A50
      by_cases c6 : t104 = 3214735720
      · rw [if_pos c6] at H
        have c6b0 : (t104 == 3214735720) = true := beq_iff_eq.mpr c6
        have c6b1 : (t104 != 3214735720) = false := bne_eq_false_iff_eq.mpr c6
        clear c6
        replace H := Option.bind_eq_some_iff.mp H
        obtain ⟨t105, A70, H⟩ := H
        replace H : (some (t105.toList == ([0, 0, 0, 1] : List UInt8))) = some r := H
        have A7 := Aside0.mk A70
        clear A70
        obtain rfl := Option.some.inj H
        go_enter Try.func15, Try.ntmps15
        go_wp2_with (first | ((with_reducible refine gate_callee (f := 16) rfl ?_); refine goesL_ (some 1) rfl rfl Try.func16 (by kernel_rfl) rfl #[.string (⟨#[]⟩ : ByteArray)] rfl (by (try simp only [List.map_toArray, List.map_cons, List.map_nil]); first | done | rfl | (simp only [List.length_drop, List.length_take]; rfl)) ?_; (with_reducible refine (digest_Sum.calls k (⟨#[]⟩ : ByteArray) t102 _ A1.out).mono ?_); rintro e w' ⟨rfl, ⟨nd, rfl⟩⟩; refine ⟨_, rfl, ?_⟩) | (go_at_call 16; (with_reducible refine (digest_Sum.calls k (⟨#[97]⟩ : ByteArray) t103 _ A3.out).mono ?_); rintro e w' ⟨rfl, ⟨nd, rfl⟩⟩) | (go_at_call 16; (with_reducible refine (digest_Sum.calls k (⟨#[102, 111, 111, 98, 97, 114]⟩ : ByteArray) t104 _ A5.out).mono ?_); rintro e w' ⟨rfl, ⟨nd, rfl⟩⟩) | (go_at_call 20; (with_reducible refine (digest_Name.calls 1 t105 _ A7.out).mono ?_); rintro e w8 ⟨rfl, hb⟩; have n0_ := Aside0.mk (below_step (by repeat (first | (with_reducible first | exact HB.out | apply below_alloc | apply pw_below_drewN | apply below_drew1) | exact HB.out)) hb); clear HB; have HB := n0_; clear n0_; (try clear hb); (try clear hb2); (try clear hk); (try clear hi)))
        go_ret
        exact ⟨by first | rfl | (simp [errW_none, errW_some] <;> rfl) | (simp [*, errW_none, errW_some] <;> rfl), by repeat (first | (with_reducible first | exact HB.out | apply below_alloc | apply pw_below_drewN | apply below_drew1) | exact HB.out)⟩
      · rw [if_neg c6] at H
        have c6b0 : (t104 == 3214735720) = false := beq_eq_false_iff_ne.mpr c6
        have c6b1 : (t104 != 3214735720) = true := bne_iff_ne.mpr c6
        obtain rfl := Option.some.inj H
        go_enter Try.func15, Try.ntmps15
        go_wp2_with (first | ((with_reducible refine gate_callee (f := 16) rfl ?_); refine goesL_ (some 1) rfl rfl Try.func16 (by kernel_rfl) rfl #[.string (⟨#[]⟩ : ByteArray)] rfl (by (try simp only [List.map_toArray, List.map_cons, List.map_nil]); first | done | rfl | (simp only [List.length_drop, List.length_take]; rfl)) ?_; (with_reducible refine (digest_Sum.calls k (⟨#[]⟩ : ByteArray) t102 _ A1.out).mono ?_); rintro e w' ⟨rfl, ⟨nd, rfl⟩⟩; refine ⟨_, rfl, ?_⟩) | (go_at_call 16; (with_reducible refine (digest_Sum.calls k (⟨#[97]⟩ : ByteArray) t103 _ A3.out).mono ?_); rintro e w' ⟨rfl, ⟨nd, rfl⟩⟩) | (go_at_call 16; (with_reducible refine (digest_Sum.calls k (⟨#[102, 111, 111, 98, 97, 114]⟩ : ByteArray) t104 _ A5.out).mono ?_); rintro e w' ⟨rfl, ⟨nd, rfl⟩⟩))
        go_ret
        exact ⟨by first | rfl | (simp [errW_none, errW_some] <;> rfl) | (simp [*, errW_none, errW_some] <;> rfl), by repeat (first | (with_reducible first | exact HB.out | apply below_alloc | apply pw_below_drewN | apply below_drew1) | exact HB.out)⟩
    · rw [if_neg c4] at H
      have c4b0 : (t103 == 3826002220) = false := beq_eq_false_iff_ne.mpr c4
      have c4b1 : (t103 != 3826002220) = true := bne_iff_ne.mpr c4
      obtain rfl := Option.some.inj H
      go_enter Try.func15, Try.ntmps15
      go_wp2_with (first | ((with_reducible refine gate_callee (f := 16) rfl ?_); refine goesL_ (some 1) rfl rfl Try.func16 (by kernel_rfl) rfl #[.string (⟨#[]⟩ : ByteArray)] rfl (by (try simp only [List.map_toArray, List.map_cons, List.map_nil]); first | done | rfl | (simp only [List.length_drop, List.length_take]; rfl)) ?_; (with_reducible refine (digest_Sum.calls k (⟨#[]⟩ : ByteArray) t102 _ A1.out).mono ?_); rintro e w' ⟨rfl, ⟨nd, rfl⟩⟩; refine ⟨_, rfl, ?_⟩) | (go_at_call 16; (with_reducible refine (digest_Sum.calls k (⟨#[97]⟩ : ByteArray) t103 _ A3.out).mono ?_); rintro e w' ⟨rfl, ⟨nd, rfl⟩⟩))
      go_ret
      exact ⟨by first | rfl | (simp [errW_none, errW_some] <;> rfl) | (simp [*, errW_none, errW_some] <;> rfl), by repeat (first | (with_reducible first | exact HB.out | apply below_alloc | apply pw_below_drewN | apply below_drew1) | exact HB.out)⟩
  · rw [if_neg c2] at H
    have c2b0 : (t102 == 2166136261) = false := beq_eq_false_iff_ne.mpr c2
    have c2b1 : (t102 != 2166136261) = true := bne_iff_ne.mpr c2
    obtain rfl := Option.some.inj H
    go_enter Try.func15, Try.ntmps15
    go_wp2_with (first | ((with_reducible refine gate_callee (f := 16) rfl ?_); refine goesL_ (some 1) rfl rfl Try.func16 (by kernel_rfl) rfl #[.string (⟨#[]⟩ : ByteArray)] rfl (by (try simp only [List.map_toArray, List.map_cons, List.map_nil]); first | done | rfl | (simp only [List.length_drop, List.length_take]; rfl)) ?_; (with_reducible refine (digest_Sum.calls k (⟨#[]⟩ : ByteArray) t102 _ A1.out).mono ?_); rintro e w' ⟨rfl, ⟨nd, rfl⟩⟩; refine ⟨_, rfl, ?_⟩))
    go_ret
    exact ⟨by first | rfl | (simp [errW_none, errW_some] <;> rfl) | (simp [*, errW_none, errW_some] <;> rfl), by repeat (first | (with_reducible first | exact HB.out | apply below_alloc | apply pw_below_drewN | apply below_drew1) | exact HB.out)⟩

/-! ### oxbowlaw07_DigestApart: function 5 -/
def oxbowlaw07_DigestApart.ix (s : ByteArray) (a3 : Int) : Int := Int.tmod (if a3 < 0 then wrap64 (-(wrap64 (a3 + 1))) else a3) (s.size : Int)
abbrev oxbowlaw07_DigestApart.turned (s : ByteArray) (i : Int) (x : Int) : ByteArray := ⟨s.data.setIfInBounds i.toNat (UInt8.ofNat x.toNat)⟩
def oxbowlaw07_DigestApart.tail (k : Nat) (s : ByteArray) (i : Int) (x : Int) : Option Bool := if 0 ≤ i ∧ i < (s.size : Int) ∧ s.size ≤ maxLen ∧ 0 ≤ x ∧ x < 256 then ((oxbowlaw07_live.f k).bind fun t3 => if t3 = true then ((digest_Sum.f k (oxbowlaw07_DigestApart.turned s i x)).bind fun t4 => ((digest_Sum.f k s).bind fun t5 => some (t4 != t5))) else some false) else none
def oxbowlaw07_DigestApart.f (k : Nat) (a0 a1 : Int) (s : ByteArray) (a3 a4 : Int) : Option Bool := (digest_Extend.f k a0 s).bind fun t1 => (digest_Extend.f k a1 s).bind fun t2 => if ((t1 == t2) != (a0 == a1)) = true then some false else (if s.size = 0 then oxbowlaw07_live.f k else (if a4 = 0 then oxbowlaw07_live.f k else oxbowlaw07_DigestApart.tail k s (oxbowlaw07_DigestApart.ix s a3) (Go.bits .xor .u8 (bt s (oxbowlaw07_DigestApart.ix s a3)) a4)))
theorem oxbowlaw07_DigestApart.strCells_bt (s : ByteArray) (i : Int) (h0 : 0 ≤ i) (h1 : i < (s.size : Int)) : (Lib.strCells s)[i.toNat]? = some (.int .u8 (bt s i)) := by
  have hl : i.toNat < s.size := by omega
  have hl2 : i.toNat < s.data.size := hl
  simp only [Lib.strCells, List.getElem?_map, Array.getElem?_toList, Array.getElem?_eq_getElem hl2, Option.map_some, bt]
  congr 2
  simp [hl]
  rfl
theorem oxbowlaw07_DigestApart.drawn {B : Nat} {a w w' : World} (h : Below B a w) (hd : Drawn0 w w') : Below B a w' := by
  obtain ⟨n, rfl⟩ := hd
  exact pw_below_drewN h n
theorem oxbowlaw07_DigestApart.mono : ∀ a0 a1 a2 a3 a4 k, LeO (oxbowlaw07_DigestApart.f k a0 a1 a2 a3 a4) (oxbowlaw07_DigestApart.f (k + 1) a0 a1 a2 a3 a4) := by
  intro a0 a1 a2 a3 a4 k
  unfold oxbowlaw07_DigestApart.f oxbowlaw07_DigestApart.tail
  exact LeO.bind (digest_Extend.mono _ _ _) (fun _ => LeO.bind (digest_Extend.mono _ _ _) (fun _ => LeO.ite (LeO.refl _) (LeO.ite (oxbowlaw07_live.mono _) (LeO.ite (oxbowlaw07_live.mono _) (LeO.ite (LeO.bind (oxbowlaw07_live.mono _) (fun _ => LeO.ite (LeO.bind (digest_Sum.mono _ _) (fun _ => LeO.bind (digest_Sum.mono _ _) (fun _ => LeO.refl _))) (LeO.refl _))) (LeO.refl _))))))
set_option maxHeartbeats 8000000 in
set_option maxRecDepth 100000 in
theorem oxbowlaw07_DigestApart.calls (k : Nat) (a0 a1 : Int) (s : ByteArray) (a3 a4 : Int) (r : Bool) (w : World) (h : oxbowlaw07_DigestApart.f k a0 a1 s a3 a4 = some r) :
    Calls Try.prog 5 #[.int .u32 a0, .int .u32 a1, .string s, .int .i64 a3, .int .u8 a4] w fun e w' => e = .returned (.bool r) ∧ Below w.heap.size w w' := by
  have HB := Aside0.mk (Below.refl w.heap.size w)
  unfold oxbowlaw07_DigestApart.f at h
  obtain ⟨t1, h1, h⟩ := Option.bind_eq_some_iff.mp h
  obtain ⟨t2, h2, h⟩ := Option.bind_eq_some_iff.mp h
  have A1 := Aside0.mk h1
  have A2 := Aside0.mk h2
  clear h1 h2
  by_cases c1 : ((t1 == t2) != (a0 == a1)) = true
  · rw [if_pos c1] at h
    have c1b : (!((t1 == t2) == (a0 == a1))) = true := c1
    obtain rfl := Option.some.inj h
    clear h
    go_enter Try.func5, Try.ntmps5
    go_wp2_with (first | ((with_reducible refine gate_callee (f := 18) rfl ?_); refine goesL_ (some 14) rfl rfl Try.func18 (by kernel_rfl) rfl #[.int .u32 a0, .string s] rfl (by (try simp only [List.map_toArray, List.map_cons, List.map_nil]); first | done | rfl) ?_; (with_reducible refine (digest_Extend.calls k a0 s t1 _ A1.out).mono ?_); rintro e w1 ⟨rfl, hb⟩; refine ⟨_, rfl, ?_⟩; have HB1 := Aside0.mk (oxbowlaw07_DigestApart.drawn HB.out hb); clear hb) | ((with_reducible refine gate_callee (f := 18) rfl ?_); refine goesL_ (some 17) rfl rfl Try.func18 (by kernel_rfl) rfl #[.int .u32 a1, .string s] rfl (by (try simp only [List.map_toArray, List.map_cons, List.map_nil]); first | done | rfl) ?_; (with_reducible refine (digest_Extend.calls k a1 s t2 _ A2.out).mono ?_); rintro e w2 ⟨rfl, hb⟩; refine ⟨_, rfl, ?_⟩; have HB2 := Aside0.mk (oxbowlaw07_DigestApart.drawn HB1.out hb); clear hb))
    go_ret
    exact ⟨rfl, HB2.out⟩
  · rw [if_neg c1] at h
    replace c1 : ((t1 == t2) != (a0 == a1)) = false := Bool.eq_false_iff.mpr c1
    have c1b : (!((t1 == t2) == (a0 == a1))) = false := c1
    by_cases c2 : s.size = 0
    · rw [if_pos c2] at h
      have A3 := Aside0.mk h
      clear h
      have c2b : (s.toList == ([] : List UInt8)) = true := by
        rw [Ev.toList_data, beq_iff_eq]
        exact List.length_eq_zero_iff.1 (by rw [Array.length_toList]; exact c2)
      go_enter Try.func5, Try.ntmps5
      go_wp2_with (first | ((with_reducible refine gate_callee (f := 18) rfl ?_); refine goesL_ (some 14) rfl rfl Try.func18 (by kernel_rfl) rfl #[.int .u32 a0, .string s] rfl (by (try simp only [List.map_toArray, List.map_cons, List.map_nil]); first | done | rfl) ?_; (with_reducible refine (digest_Extend.calls k a0 s t1 _ A1.out).mono ?_); rintro e w1 ⟨rfl, hb⟩; refine ⟨_, rfl, ?_⟩; have HB1 := Aside0.mk (oxbowlaw07_DigestApart.drawn HB.out hb); clear hb) | ((with_reducible refine gate_callee (f := 18) rfl ?_); refine goesL_ (some 17) rfl rfl Try.func18 (by kernel_rfl) rfl #[.int .u32 a1, .string s] rfl (by (try simp only [List.map_toArray, List.map_cons, List.map_nil]); first | done | rfl) ?_; (with_reducible refine (digest_Extend.calls k a1 s t2 _ A2.out).mono ?_); rintro e w2 ⟨rfl, hb⟩; refine ⟨_, rfl, ?_⟩; have HB2 := Aside0.mk (oxbowlaw07_DigestApart.drawn HB1.out hb); clear hb) | ((with_reducible refine gate_callee (f := 15) rfl ?_); refine goesL_ (some 29) rfl rfl Try.func15 (by kernel_rfl) rfl #[] rfl (by (try simp only [List.map_toArray, List.map_cons, List.map_nil]); first | done | rfl) ?_; (with_reducible refine (oxbowlaw07_live.calls k r _ A3.out).mono ?_); rintro e w3 ⟨rfl, hb⟩; refine ⟨_, rfl, ?_⟩; have HB3 := Aside0.mk (below_step HB2.out hb); clear hb))
      go_ret
      exact ⟨rfl, HB3.out⟩
    · rw [if_neg c2] at h
      have c2b : (s.toList == ([] : List UInt8)) = false := beq_eq_false_iff_ne.mpr (fun e => c2 (by
        rw [Ev.toList_data] at e
        have := congrArg List.length e
        rw [Array.length_toList] at this
        exact this))
      by_cases c3 : a4 = 0
      · rw [if_pos c3] at h
        have A3 := Aside0.mk h
        clear h
        subst c3
        go_enter Try.func5, Try.ntmps5
        go_wp2_with (first | ((with_reducible refine gate_callee (f := 18) rfl ?_); refine goesL_ (some 14) rfl rfl Try.func18 (by kernel_rfl) rfl #[.int .u32 a0, .string s] rfl (by (try simp only [List.map_toArray, List.map_cons, List.map_nil]); first | done | rfl) ?_; (with_reducible refine (digest_Extend.calls k a0 s t1 _ A1.out).mono ?_); rintro e w1 ⟨rfl, hb⟩; refine ⟨_, rfl, ?_⟩; have HB1 := Aside0.mk (oxbowlaw07_DigestApart.drawn HB.out hb); clear hb) | ((with_reducible refine gate_callee (f := 18) rfl ?_); refine goesL_ (some 17) rfl rfl Try.func18 (by kernel_rfl) rfl #[.int .u32 a1, .string s] rfl (by (try simp only [List.map_toArray, List.map_cons, List.map_nil]); first | done | rfl) ?_; (with_reducible refine (digest_Extend.calls k a1 s t2 _ A2.out).mono ?_); rintro e w2 ⟨rfl, hb⟩; refine ⟨_, rfl, ?_⟩; have HB2 := Aside0.mk (oxbowlaw07_DigestApart.drawn HB1.out hb); clear hb) | ((with_reducible refine gate_callee (f := 15) rfl ?_); refine goesL_ (some 29) rfl rfl Try.func15 (by kernel_rfl) rfl #[] rfl (by (try simp only [List.map_toArray, List.map_cons, List.map_nil]); first | done | rfl) ?_; (with_reducible refine (oxbowlaw07_live.calls k r _ A3.out).mono ?_); rintro e w3 ⟨rfl, hb⟩; refine ⟨_, rfl, ?_⟩; have HB3 := Aside0.mk (below_step HB2.out hb); clear hb))
        go_ret
        exact ⟨rfl, HB3.out⟩
      · rw [if_neg c3] at h
        have c3b : (a4 == 0) = false := beq_eq_false_iff_ne.mpr c3
        have c2n : ((s.size : Int) == 0) = false := beq_eq_false_iff_ne.mpr (by omega)
        by_cases c5 : a3 < 0
        · have hix : oxbowlaw07_DigestApart.ix s a3 = Int.tmod (wrap64 (-(wrap64 (a3 + 1)))) (s.size : Int) := by unfold oxbowlaw07_DigestApart.ix; rw [if_pos c5]
          rw [hix] at h
          unfold oxbowlaw07_DigestApart.tail at h
          have c5b := decide_eq_true c5
          clear hix c5
          by_cases c4 : 0 ≤ (Int.tmod (wrap64 (-(wrap64 (a3 + 1)))) (s.size : Int)) ∧ (Int.tmod (wrap64 (-(wrap64 (a3 + 1)))) (s.size : Int)) < (s.size : Int) ∧ s.size ≤ maxLen ∧ 0 ≤ Go.bits .xor .u8 (bt s (Int.tmod (wrap64 (-(wrap64 (a3 + 1)))) (s.size : Int))) a4 ∧ Go.bits .xor .u8 (bt s (Int.tmod (wrap64 (-(wrap64 (a3 + 1)))) (s.size : Int))) a4 < 256
          case neg =>
            rw [if_neg c4] at h
            exact absurd h (by simp)
          rw [if_pos c4] at h
          obtain ⟨t3, h3, h⟩ := Option.bind_eq_some_iff.mp h
          have A3 := Aside0.mk h3
          have HI := Aside0.mk c4
          have H := Aside0.mk h
          clear h3 c4 h
          have p8 := eq_true HI.out.1
          have q8 := eq_true HI.out.2.1
          go_enter Try.func5, Try.ntmps5
          go_wp2_with (first | ((with_reducible refine gate_callee (f := 18) rfl ?_); refine goesL_ (some 14) rfl rfl Try.func18 (by kernel_rfl) rfl #[.int .u32 a0, .string s] rfl (by (try simp only [List.map_toArray, List.map_cons, List.map_nil]); first | done | rfl) ?_; (with_reducible refine (digest_Extend.calls k a0 s t1 _ A1.out).mono ?_); rintro e w1 ⟨rfl, hb⟩; refine ⟨_, rfl, ?_⟩; have HB1 := Aside0.mk (oxbowlaw07_DigestApart.drawn HB.out hb); clear hb) | ((with_reducible refine gate_callee (f := 18) rfl ?_); refine goesL_ (some 17) rfl rfl Try.func18 (by kernel_rfl) rfl #[.int .u32 a1, .string s] rfl (by (try simp only [List.map_toArray, List.map_cons, List.map_nil]); first | done | rfl) ?_; (with_reducible refine (digest_Extend.calls k a1 s t2 _ A2.out).mono ?_); rintro e w2 ⟨rfl, hb⟩; refine ⟨_, rfl, ?_⟩; have HB2 := Aside0.mk (oxbowlaw07_DigestApart.drawn HB1.out hb); clear hb) | ((with_reducible refine gate_dst (N := 36) rfl ?_); refine Byt.wpList_bytes rfl 9 30 (.tmp 35) rfl w.heap.size 5 Try.underlying9 Try.underlying30 Try.underlying5 s rfl ?cL ?cB ?_; (case cL => exact HI.out.2.2.1); (case cB => exact HB2.out.size); intro v7 w7 hO _ hb; have HO := Aside0.mk hO; have HB7 := Aside0.mk (below_step HB2.out hb); clear hO hb))
          obtain ⟨g, cap, hv7⟩ : ∃ g cap, v7 = .slice (some ⟨g, 0, none⟩) s.size cap := by
            obtain ⟨g, cap, cur, m, hv, _⟩ := HO.out
            exact ⟨g, cap, by rw [hv, Lib.strCells_length]⟩
          subst hv7
          have hx8 := Aside0.mk (Byt.OwnM.cells HO.out (Int.tmod (wrap64 (-(wrap64 (a3 + 1)))) (s.size : Int)).toNat (.int .u8 (bt s (Int.tmod (wrap64 (-(wrap64 (a3 + 1)))) (s.size : Int)))) (oxbowlaw07_DigestApart.strCells_bt s _ HI.out.1 HI.out.2.1))
          rw [Byt.at_zero] at hx8
          refine start_ (n := 16) (S := fun w' => w'.cell? ⟨g, (Int.tmod (wrap64 (-(wrap64 (a3 + 1)))) (s.size : Int)).toNat, none⟩ = some (.int .u8 (bt s (Int.tmod (wrap64 (-(wrap64 (a3 + 1)))) (s.size : Int))))) (ds := [15]) #[false, false, false, false, false, false, false, false, false, false, false, false, false, false, false, false] (by kernel_rfl) rfl rfl (hx8.out) (fun hHeld => ?_)
          generalize hw9 : World.drew _ = w9 at hHeld ⊢
          have HO9 : Aside0 (Byt.OwnM w9 w.heap.size 5 (.slice (some ⟨g, 0, none⟩) s.size cap) (Lib.strCells s)) := ⟨by rw [← hw9]; exact Byt.OwnM.heap HO.out rfl⟩
          have HB9 : Aside0 (Below w.heap.size w w9) := ⟨by rw [← hw9]; exact pw_below_drewN HB7.out 1⟩
          obtain ⟨hst8_, HO10_, hg10_⟩ := Byt.OwnM.set HO9.out (Int.tmod (wrap64 (-(wrap64 (a3 + 1)))) (s.size : Int)).toNat (by rw [Lib.strCells_length]; have := HI.out; omega) (.int .u8 (Go.bits .xor .u8 (bt s (Int.tmod (wrap64 (-(wrap64 (a3 + 1)))) (s.size : Int))) a4))
          have hst8 := Aside0.mk hst8_
          clear hst8_
          refine pure_ (i := 0) (N := some 37) (v := ?_) (a' := ?_) #[true, false, false, false, false, false, false, false, false, false, false, false, false, false, false, false] rfl rfl (by kernel_rfl) (fun _ _ _ h => h) (Or.inl ⟨by rfl, ?_⟩) ?_ ?_
          rotate_left
          · intro w'
            go_simp
            with_reducible rfl
          rotate_left
          · simp only [Act.put, List.setIfInBounds_toArray, List.set_cons_zero, List.set_cons_succ, i64_w, i32_w]
            rfl
          refine pure_ (i := 1) (N := some 38) (v := ?_) (a' := ?_) #[true, true, false, false, false, false, false, false, false, false, false, false, false, false, false, false] rfl rfl (by kernel_rfl) (fun _ _ _ h => h) (Or.inl ⟨by rfl, ?_⟩) ?_ ?_
          rotate_left
          · intro w'
            go_simp
            with_reducible rfl
          rotate_left
          · simp only [Act.put, List.setIfInBounds_toArray, List.set_cons_zero, List.set_cons_succ, i64_w, i32_w]
            rfl
          refine pure_ (i := 2) (N := some 39) (v := ?_) (a' := ?_) #[true, true, true, false, false, false, false, false, false, false, false, false, false, false, false, false] rfl rfl (by kernel_rfl) (fun _ _ _ h => h) (Or.inl ⟨by rfl, ?_⟩) ?_ ?_
          rotate_left
          · intro w'
            go_simp
            with_reducible rfl
          rotate_left
          · simp only [Act.put, List.setIfInBounds_toArray, List.set_cons_zero, List.set_cons_succ, i64_w, i32_w]
            rfl
          refine pure_ (i := 3) (N := some 40) (v := ?_) (a' := ?_) #[true, true, true, true, false, false, false, false, false, false, false, false, false, false, false, false] rfl rfl (by kernel_rfl) (fun _ _ _ h => h) (Or.inl ⟨by rfl, ?_⟩) ?_ ?_
          rotate_left
          · intro w'
            go_simp
            with_reducible rfl
          rotate_left
          · simp only [Act.put, List.setIfInBounds_toArray, List.set_cons_zero, List.set_cons_succ, i64_w, i32_w]
            rfl
          refine pure_ (i := 4) (N := some 41) (v := ?_) (a' := ?_) #[true, true, true, true, true, false, false, false, false, false, false, false, false, false, false, false] rfl rfl (by kernel_rfl) (fun _ _ _ h => h) (Or.inl ⟨by rfl, ?_⟩) ?_ ?_
          rotate_left
          · intro w'
            go_simp
            with_reducible rfl
          rotate_left
          · simp only [Act.put, List.setIfInBounds_toArray, List.set_cons_zero, List.set_cons_succ, i64_w, i32_w]
            rfl
          refine pure_ (i := 5) (N := some 42) (v := ?_) (a' := ?_) #[true, true, true, true, true, true, false, false, false, false, false, false, false, false, false, false] rfl rfl (by kernel_rfl) (fun _ _ _ h => h) (Or.inl ⟨by rfl, ?_⟩) ?_ ?_
          rotate_left
          · intro w'
            go_simp
            with_reducible rfl
          rotate_left
          · simp only [Act.put, List.setIfInBounds_toArray, List.set_cons_zero, List.set_cons_succ, i64_w, i32_w]
            rfl
          refine pure_ (i := 6) (N := some 43) (v := ?_) (a' := ?_) #[true, true, true, true, true, true, true, false, false, false, false, false, false, false, false, false] rfl rfl (by kernel_rfl) (fun _ _ _ h => h) (Or.inl ⟨by rfl, ?_⟩) ?_ ?_
          rotate_left
          · intro w'
            go_simp
            with_reducible rfl
          rotate_left
          · simp only [Act.put, List.setIfInBounds_toArray, List.set_cons_zero, List.set_cons_succ, i64_w, i32_w]
            rfl
          refine pure_ (i := 7) (N := some 44) (v := ?_) (a' := ?_) #[true, true, true, true, true, true, true, true, false, false, false, false, false, false, false, false] rfl rfl (by kernel_rfl) (fun _ _ _ h => h) (Or.inl ⟨by rfl, ?_⟩) ?_ ?_
          rotate_left
          · intro w'
            go_simp
            with_reducible rfl
          rotate_left
          · simp only [Act.put, List.setIfInBounds_toArray, List.set_cons_zero, List.set_cons_succ, i64_w, i32_w]
            rfl
          refine pure_ (i := 8) (N := some 45) (v := ?_) (a' := ?_) #[true, true, true, true, true, true, true, true, true, false, false, false, false, false, false, false] rfl rfl (by kernel_rfl) (fun _ _ _ h => h) (Or.inl ⟨by rfl, ?_⟩) ?_ ?_
          rotate_left
          · intro w'
            go_simp
            with_reducible rfl
          rotate_left
          · simp only [Act.put, List.setIfInBounds_toArray, List.set_cons_zero, List.set_cons_succ, i64_w, i32_w]
            rfl
          refine pure_ (i := 9) (N := some 46) (v := ?_) (a' := ?_) #[true, true, true, true, true, true, true, true, true, true, false, false, false, false, false, false] rfl rfl (by kernel_rfl) (fun _ _ _ h => h) (Or.inl ⟨by rfl, ?_⟩) ?_ ?_
          rotate_left
          · intro w'
            go_simp
            with_reducible rfl
          rotate_left
          · simp only [Act.put, List.setIfInBounds_toArray, List.set_cons_zero, List.set_cons_succ, i64_w, i32_w]
            rfl
          refine pure_ (i := 10) (N := some 47) (v := ?_) (a' := ?_) #[true, true, true, true, true, true, true, true, true, true, true, false, false, false, false, false] rfl rfl (by kernel_rfl) (fun _ _ _ h => h) (Or.inl ⟨by rfl, ?_⟩) ?_ ?_
          rotate_left
          · intro w'
            go_simp
            with_reducible rfl
          rotate_left
          · simp only [Act.put, List.setIfInBounds_toArray, List.set_cons_zero, List.set_cons_succ, i64_w, i32_w]
            rfl
          refine pure_ (i := 12) (N := some 49) (v := ?_) (a' := ?_) #[true, true, true, true, true, true, true, true, true, true, true, false, true, false, false, false] rfl rfl (by kernel_rfl) (fun _ _ _ h => h) (Or.inl ⟨by rfl, ?_⟩) ?_ ?_
          rotate_left
          · intro w'
            go_simp
            with_reducible rfl
          rotate_left
          · simp only [Act.put, List.setIfInBounds_toArray, List.set_cons_zero, List.set_cons_succ, i64_w, i32_w]
            rfl
          refine take_ (i := 11) (N := some 48) (v := ?_) (a' := ?_) #[true, true, true, true, true, true, true, true, true, true, true, true, true, false, false, false] rfl rfl (by kernel_rfl) (fun _ _ _ h => h) (Or.inl ⟨by rfl, ?_⟩) hHeld ?_ ?_
          rotate_left
          · intro w' s0
            go_simp
            with_reducible rfl
          rotate_left
          · simp only [Act.put, List.setIfInBounds_toArray, List.set_cons_zero, List.set_cons_succ, i64_w, i32_w]
            rfl
          refine pure_ (i := 13) (N := some 50) (v := ?_) (a' := ?_) #[true, true, true, true, true, true, true, true, true, true, true, true, true, true, false, false] rfl rfl (by kernel_rfl) (fun _ _ _ h => h) (Or.inl ⟨by rfl, ?_⟩) ?_ ?_
          rotate_left
          · intro w'
            go_simp
            with_reducible rfl
          rotate_left
          · simp only [Act.put, List.setIfInBounds_toArray, List.set_cons_zero, List.set_cons_succ, i64_w, i32_w]
            rfl
          refine pure_ (i := 14) (N := some 51) (v := ?_) (a' := ?_) #[true, true, true, true, true, true, true, true, true, true, true, true, true, true, true, false] rfl rfl (by kernel_rfl) (fun _ _ _ h => h) (Or.inl ⟨by rfl, ?_⟩) ?_ ?_
          rotate_left
          · intro w'
            go_simp
            with_reducible rfl
          rotate_left
          · simp only [Act.put, List.setIfInBounds_toArray, List.set_cons_zero, List.set_cons_succ, i64_w, i32_w]
            rfl
          refine last_ (i := 15) (N := none) #[true, true, true, true, true, true, true, true, true, true, true, true, true, true, true, true] rfl rfl (by kernel_rfl) (by decide) (fun K hK => ?_)
          refine skip_ (w1 := ?_) (by rfl) rfl ?_ ?_
          rotate_left
          · go_simp
            rw [if_neg (by rw [hst8.out]; exact Bool.false_ne_true)]
          refine hK.out _ _ ?_
          clear hK K
          refine done_ (by kernel_rfl) ?_
          
          rw [Byt.strCells_set s _ _ HI.out.2.2.2.1 HI.out.2.2.2.2] at HO10_
          have HO10 := Aside0.mk HO10_
          have HB10 := Aside0.mk (pw_below_grown HB9.out _ HB9.out.size hg10_ (fun k_ hk => by injection hk with hk; subst hk; exact Byt.OwnM.base_le HO.out _ rfl))
          clear HO10_ hg10_
          have H := H.out
          cases t3 with
          | false =>
            rw [if_neg (by simp)] at H
            obtain rfl := Option.some.inj H
            go_wp2_with (first | ((with_reducible refine gate_callee (f := 15) rfl ?_); refine goesL_ (some 52) rfl rfl Try.func15 (by kernel_rfl) rfl #[] rfl (by (try simp only [List.map_toArray, List.map_cons, List.map_nil]); first | done | rfl) ?_; (with_reducible refine (oxbowlaw07_live.calls k _ _ A3.out).mono ?_); rintro e w11 ⟨rfl, hb⟩; refine ⟨_, rfl, ?_⟩; have HB11 := Aside0.mk (below_step HB10.out hb); have HO11 := Aside0.mk (Byt.OwnM.below HO10.out hb); have hcv := Byt.OwnM.toString (P := Try.prog) Try.underlying30 Try.underlying5 Try.underlying9 HO11.out; clear hb))
            go_ret
            exact ⟨rfl, HB11.out⟩
          | true =>
            rw [if_pos rfl] at H
            obtain ⟨t4, h4, H⟩ := Option.bind_eq_some_iff.mp H
            obtain ⟨t5, h5, H⟩ := Option.bind_eq_some_iff.mp H
            have A4 := Aside0.mk h4
            have A5 := Aside0.mk h5
            clear h4 h5
            obtain rfl := Option.some.inj H
            go_wp2_with (first | ((with_reducible refine gate_callee (f := 15) rfl ?_); refine goesL_ (some 52) rfl rfl Try.func15 (by kernel_rfl) rfl #[] rfl (by (try simp only [List.map_toArray, List.map_cons, List.map_nil]); first | done | rfl) ?_; (with_reducible refine (oxbowlaw07_live.calls k _ _ A3.out).mono ?_); rintro e w11 ⟨rfl, hb⟩; refine ⟨_, rfl, ?_⟩; have HB11 := Aside0.mk (below_step HB10.out hb); have HO11 := Aside0.mk (Byt.OwnM.below HO10.out hb); have hcv := Byt.OwnM.toString (P := Try.prog) Try.underlying30 Try.underlying5 Try.underlying9 HO11.out; clear hb) | (go_at_call 16; (with_reducible refine (digest_Sum.calls k (oxbowlaw07_DigestApart.turned s (Int.tmod (wrap64 (-(wrap64 (a3 + 1)))) (s.size : Int)) (Go.bits .xor .u8 (bt s (Int.tmod (wrap64 (-(wrap64 (a3 + 1)))) (s.size : Int))) a4)) t4 _ A4.out).mono ?_); rintro e w12 ⟨rfl, hb⟩; have HB12 := Aside0.mk (oxbowlaw07_DigestApart.drawn HB11.out hb); clear hb) | (go_at_call 16; (with_reducible refine (digest_Sum.calls k s t5 _ A5.out).mono ?_); rintro e w13 ⟨rfl, hb⟩; have HB13 := Aside0.mk (oxbowlaw07_DigestApart.drawn HB12.out hb); clear hb))
            go_ret
            exact ⟨rfl, HB13.out⟩
        · have hix : oxbowlaw07_DigestApart.ix s a3 = Int.tmod a3 (s.size : Int) := by unfold oxbowlaw07_DigestApart.ix; rw [if_neg c5]
          rw [hix] at h
          unfold oxbowlaw07_DigestApart.tail at h
          have c5b := decide_eq_false c5
          clear hix c5
          by_cases c4 : 0 ≤ (Int.tmod a3 (s.size : Int)) ∧ (Int.tmod a3 (s.size : Int)) < (s.size : Int) ∧ s.size ≤ maxLen ∧ 0 ≤ Go.bits .xor .u8 (bt s (Int.tmod a3 (s.size : Int))) a4 ∧ Go.bits .xor .u8 (bt s (Int.tmod a3 (s.size : Int))) a4 < 256
          case neg =>
            rw [if_neg c4] at h
            exact absurd h (by simp)
          rw [if_pos c4] at h
          obtain ⟨t3, h3, h⟩ := Option.bind_eq_some_iff.mp h
          have A3 := Aside0.mk h3
          have HI := Aside0.mk c4
          have H := Aside0.mk h
          clear h3 c4 h
          have p8 := eq_true HI.out.1
          have q8 := eq_true HI.out.2.1
          go_enter Try.func5, Try.ntmps5
          go_wp2_with (first | ((with_reducible refine gate_callee (f := 18) rfl ?_); refine goesL_ (some 14) rfl rfl Try.func18 (by kernel_rfl) rfl #[.int .u32 a0, .string s] rfl (by (try simp only [List.map_toArray, List.map_cons, List.map_nil]); first | done | rfl) ?_; (with_reducible refine (digest_Extend.calls k a0 s t1 _ A1.out).mono ?_); rintro e w1 ⟨rfl, hb⟩; refine ⟨_, rfl, ?_⟩; have HB1 := Aside0.mk (oxbowlaw07_DigestApart.drawn HB.out hb); clear hb) | ((with_reducible refine gate_callee (f := 18) rfl ?_); refine goesL_ (some 17) rfl rfl Try.func18 (by kernel_rfl) rfl #[.int .u32 a1, .string s] rfl (by (try simp only [List.map_toArray, List.map_cons, List.map_nil]); first | done | rfl) ?_; (with_reducible refine (digest_Extend.calls k a1 s t2 _ A2.out).mono ?_); rintro e w2 ⟨rfl, hb⟩; refine ⟨_, rfl, ?_⟩; have HB2 := Aside0.mk (oxbowlaw07_DigestApart.drawn HB1.out hb); clear hb) | ((with_reducible refine gate_dst (N := 36) rfl ?_); refine Byt.wpList_bytes rfl 9 30 (.tmp 35) rfl w.heap.size 5 Try.underlying9 Try.underlying30 Try.underlying5 s rfl ?cL ?cB ?_; (case cL => exact HI.out.2.2.1); (case cB => exact HB2.out.size); intro v7 w7 hO _ hb; have HO := Aside0.mk hO; have HB7 := Aside0.mk (below_step HB2.out hb); clear hO hb))
          obtain ⟨g, cap, hv7⟩ : ∃ g cap, v7 = .slice (some ⟨g, 0, none⟩) s.size cap := by
            obtain ⟨g, cap, cur, m, hv, _⟩ := HO.out
            exact ⟨g, cap, by rw [hv, Lib.strCells_length]⟩
          subst hv7
          have hx8 := Aside0.mk (Byt.OwnM.cells HO.out (Int.tmod a3 (s.size : Int)).toNat (.int .u8 (bt s (Int.tmod a3 (s.size : Int)))) (oxbowlaw07_DigestApart.strCells_bt s _ HI.out.1 HI.out.2.1))
          rw [Byt.at_zero] at hx8
          refine start_ (n := 16) (S := fun w' => w'.cell? ⟨g, (Int.tmod a3 (s.size : Int)).toNat, none⟩ = some (.int .u8 (bt s (Int.tmod a3 (s.size : Int))))) (ds := [15]) #[false, false, false, false, false, false, false, false, false, false, false, false, false, false, false, false] (by kernel_rfl) rfl rfl (hx8.out) (fun hHeld => ?_)
          generalize hw9 : World.drew _ = w9 at hHeld ⊢
          have HO9 : Aside0 (Byt.OwnM w9 w.heap.size 5 (.slice (some ⟨g, 0, none⟩) s.size cap) (Lib.strCells s)) := ⟨by rw [← hw9]; exact Byt.OwnM.heap HO.out rfl⟩
          have HB9 : Aside0 (Below w.heap.size w w9) := ⟨by rw [← hw9]; exact pw_below_drewN HB7.out 1⟩
          obtain ⟨hst8_, HO10_, hg10_⟩ := Byt.OwnM.set HO9.out (Int.tmod a3 (s.size : Int)).toNat (by rw [Lib.strCells_length]; have := HI.out; omega) (.int .u8 (Go.bits .xor .u8 (bt s (Int.tmod a3 (s.size : Int))) a4))
          have hst8 := Aside0.mk hst8_
          clear hst8_
          refine pure_ (i := 0) (N := some 37) (v := ?_) (a' := ?_) #[true, false, false, false, false, false, false, false, false, false, false, false, false, false, false, false] rfl rfl (by kernel_rfl) (fun _ _ _ h => h) (Or.inl ⟨by rfl, ?_⟩) ?_ ?_
          rotate_left
          · intro w'
            go_simp
            with_reducible rfl
          rotate_left
          · simp only [Act.put, List.setIfInBounds_toArray, List.set_cons_zero, List.set_cons_succ, i64_w, i32_w]
            rfl
          refine pure_ (i := 1) (N := some 38) (v := ?_) (a' := ?_) #[true, true, false, false, false, false, false, false, false, false, false, false, false, false, false, false] rfl rfl (by kernel_rfl) (fun _ _ _ h => h) (Or.inl ⟨by rfl, ?_⟩) ?_ ?_
          rotate_left
          · intro w'
            go_simp
            with_reducible rfl
          rotate_left
          · simp only [Act.put, List.setIfInBounds_toArray, List.set_cons_zero, List.set_cons_succ, i64_w, i32_w]
            rfl
          refine pure_ (i := 2) (N := some 39) (v := ?_) (a' := ?_) #[true, true, true, false, false, false, false, false, false, false, false, false, false, false, false, false] rfl rfl (by kernel_rfl) (fun _ _ _ h => h) (Or.inl ⟨by rfl, ?_⟩) ?_ ?_
          rotate_left
          · intro w'
            go_simp
            with_reducible rfl
          rotate_left
          · simp only [Act.put, List.setIfInBounds_toArray, List.set_cons_zero, List.set_cons_succ, i64_w, i32_w]
            rfl
          refine pure_ (i := 3) (N := some 40) (v := ?_) (a' := ?_) #[true, true, true, true, false, false, false, false, false, false, false, false, false, false, false, false] rfl rfl (by kernel_rfl) (fun _ _ _ h => h) (Or.inl ⟨by rfl, ?_⟩) ?_ ?_
          rotate_left
          · intro w'
            go_simp
            with_reducible rfl
          rotate_left
          · simp only [Act.put, List.setIfInBounds_toArray, List.set_cons_zero, List.set_cons_succ, i64_w, i32_w]
            rfl
          refine pure_ (i := 4) (N := some 41) (v := ?_) (a' := ?_) #[true, true, true, true, true, false, false, false, false, false, false, false, false, false, false, false] rfl rfl (by kernel_rfl) (fun _ _ _ h => h) (Or.inl ⟨by rfl, ?_⟩) ?_ ?_
          rotate_left
          · intro w'
            go_simp
            with_reducible rfl
          rotate_left
          · simp only [Act.put, List.setIfInBounds_toArray, List.set_cons_zero, List.set_cons_succ, i64_w, i32_w]
            rfl
          refine pure_ (i := 5) (N := some 42) (v := ?_) (a' := ?_) #[true, true, true, true, true, true, false, false, false, false, false, false, false, false, false, false] rfl rfl (by kernel_rfl) (fun _ _ _ h => h) (Or.inl ⟨by rfl, ?_⟩) ?_ ?_
          rotate_left
          · intro w'
            go_simp
            with_reducible rfl
          rotate_left
          · simp only [Act.put, List.setIfInBounds_toArray, List.set_cons_zero, List.set_cons_succ, i64_w, i32_w]
            rfl
          refine pure_ (i := 6) (N := some 43) (v := ?_) (a' := ?_) #[true, true, true, true, true, true, true, false, false, false, false, false, false, false, false, false] rfl rfl (by kernel_rfl) (fun _ _ _ h => h) (Or.inl ⟨by rfl, ?_⟩) ?_ ?_
          rotate_left
          · intro w'
            go_simp
            with_reducible rfl
          rotate_left
          · simp only [Act.put, List.setIfInBounds_toArray, List.set_cons_zero, List.set_cons_succ, i64_w, i32_w]
            rfl
          refine pure_ (i := 7) (N := some 44) (v := ?_) (a' := ?_) #[true, true, true, true, true, true, true, true, false, false, false, false, false, false, false, false] rfl rfl (by kernel_rfl) (fun _ _ _ h => h) (Or.inl ⟨by rfl, ?_⟩) ?_ ?_
          rotate_left
          · intro w'
            go_simp
            with_reducible rfl
          rotate_left
          · simp only [Act.put, List.setIfInBounds_toArray, List.set_cons_zero, List.set_cons_succ, i64_w, i32_w]
            rfl
          refine pure_ (i := 8) (N := some 45) (v := ?_) (a' := ?_) #[true, true, true, true, true, true, true, true, true, false, false, false, false, false, false, false] rfl rfl (by kernel_rfl) (fun _ _ _ h => h) (Or.inl ⟨by rfl, ?_⟩) ?_ ?_
          rotate_left
          · intro w'
            go_simp
            with_reducible rfl
          rotate_left
          · simp only [Act.put, List.setIfInBounds_toArray, List.set_cons_zero, List.set_cons_succ, i64_w, i32_w]
            rfl
          refine pure_ (i := 9) (N := some 46) (v := ?_) (a' := ?_) #[true, true, true, true, true, true, true, true, true, true, false, false, false, false, false, false] rfl rfl (by kernel_rfl) (fun _ _ _ h => h) (Or.inl ⟨by rfl, ?_⟩) ?_ ?_
          rotate_left
          · intro w'
            go_simp
            with_reducible rfl
          rotate_left
          · simp only [Act.put, List.setIfInBounds_toArray, List.set_cons_zero, List.set_cons_succ, i64_w, i32_w]
            rfl
          refine pure_ (i := 10) (N := some 47) (v := ?_) (a' := ?_) #[true, true, true, true, true, true, true, true, true, true, true, false, false, false, false, false] rfl rfl (by kernel_rfl) (fun _ _ _ h => h) (Or.inl ⟨by rfl, ?_⟩) ?_ ?_
          rotate_left
          · intro w'
            go_simp
            with_reducible rfl
          rotate_left
          · simp only [Act.put, List.setIfInBounds_toArray, List.set_cons_zero, List.set_cons_succ, i64_w, i32_w]
            rfl
          refine pure_ (i := 12) (N := some 49) (v := ?_) (a' := ?_) #[true, true, true, true, true, true, true, true, true, true, true, false, true, false, false, false] rfl rfl (by kernel_rfl) (fun _ _ _ h => h) (Or.inl ⟨by rfl, ?_⟩) ?_ ?_
          rotate_left
          · intro w'
            go_simp
            with_reducible rfl
          rotate_left
          · simp only [Act.put, List.setIfInBounds_toArray, List.set_cons_zero, List.set_cons_succ, i64_w, i32_w]
            rfl
          refine take_ (i := 11) (N := some 48) (v := ?_) (a' := ?_) #[true, true, true, true, true, true, true, true, true, true, true, true, true, false, false, false] rfl rfl (by kernel_rfl) (fun _ _ _ h => h) (Or.inl ⟨by rfl, ?_⟩) hHeld ?_ ?_
          rotate_left
          · intro w' s0
            go_simp
            with_reducible rfl
          rotate_left
          · simp only [Act.put, List.setIfInBounds_toArray, List.set_cons_zero, List.set_cons_succ, i64_w, i32_w]
            rfl
          refine pure_ (i := 13) (N := some 50) (v := ?_) (a' := ?_) #[true, true, true, true, true, true, true, true, true, true, true, true, true, true, false, false] rfl rfl (by kernel_rfl) (fun _ _ _ h => h) (Or.inl ⟨by rfl, ?_⟩) ?_ ?_
          rotate_left
          · intro w'
            go_simp
            with_reducible rfl
          rotate_left
          · simp only [Act.put, List.setIfInBounds_toArray, List.set_cons_zero, List.set_cons_succ, i64_w, i32_w]
            rfl
          refine pure_ (i := 14) (N := some 51) (v := ?_) (a' := ?_) #[true, true, true, true, true, true, true, true, true, true, true, true, true, true, true, false] rfl rfl (by kernel_rfl) (fun _ _ _ h => h) (Or.inl ⟨by rfl, ?_⟩) ?_ ?_
          rotate_left
          · intro w'
            go_simp
            with_reducible rfl
          rotate_left
          · simp only [Act.put, List.setIfInBounds_toArray, List.set_cons_zero, List.set_cons_succ, i64_w, i32_w]
            rfl
          refine last_ (i := 15) (N := none) #[true, true, true, true, true, true, true, true, true, true, true, true, true, true, true, true] rfl rfl (by kernel_rfl) (by decide) (fun K hK => ?_)
          refine skip_ (w1 := ?_) (by rfl) rfl ?_ ?_
          rotate_left
          · go_simp
            rw [if_neg (by rw [hst8.out]; exact Bool.false_ne_true)]
          refine hK.out _ _ ?_
          clear hK K
          refine done_ (by kernel_rfl) ?_
          
          rw [Byt.strCells_set s _ _ HI.out.2.2.2.1 HI.out.2.2.2.2] at HO10_
          have HO10 := Aside0.mk HO10_
          have HB10 := Aside0.mk (pw_below_grown HB9.out _ HB9.out.size hg10_ (fun k_ hk => by injection hk with hk; subst hk; exact Byt.OwnM.base_le HO.out _ rfl))
          clear HO10_ hg10_
          have H := H.out
          cases t3 with
          | false =>
            rw [if_neg (by simp)] at H
            obtain rfl := Option.some.inj H
            go_wp2_with (first | ((with_reducible refine gate_callee (f := 15) rfl ?_); refine goesL_ (some 52) rfl rfl Try.func15 (by kernel_rfl) rfl #[] rfl (by (try simp only [List.map_toArray, List.map_cons, List.map_nil]); first | done | rfl) ?_; (with_reducible refine (oxbowlaw07_live.calls k _ _ A3.out).mono ?_); rintro e w11 ⟨rfl, hb⟩; refine ⟨_, rfl, ?_⟩; have HB11 := Aside0.mk (below_step HB10.out hb); have HO11 := Aside0.mk (Byt.OwnM.below HO10.out hb); have hcv := Byt.OwnM.toString (P := Try.prog) Try.underlying30 Try.underlying5 Try.underlying9 HO11.out; clear hb))
            go_ret
            exact ⟨rfl, HB11.out⟩
          | true =>
            rw [if_pos rfl] at H
            obtain ⟨t4, h4, H⟩ := Option.bind_eq_some_iff.mp H
            obtain ⟨t5, h5, H⟩ := Option.bind_eq_some_iff.mp H
            have A4 := Aside0.mk h4
            have A5 := Aside0.mk h5
            clear h4 h5
            obtain rfl := Option.some.inj H
            go_wp2_with (first | ((with_reducible refine gate_callee (f := 15) rfl ?_); refine goesL_ (some 52) rfl rfl Try.func15 (by kernel_rfl) rfl #[] rfl (by (try simp only [List.map_toArray, List.map_cons, List.map_nil]); first | done | rfl) ?_; (with_reducible refine (oxbowlaw07_live.calls k _ _ A3.out).mono ?_); rintro e w11 ⟨rfl, hb⟩; refine ⟨_, rfl, ?_⟩; have HB11 := Aside0.mk (below_step HB10.out hb); have HO11 := Aside0.mk (Byt.OwnM.below HO10.out hb); have hcv := Byt.OwnM.toString (P := Try.prog) Try.underlying30 Try.underlying5 Try.underlying9 HO11.out; clear hb) | (go_at_call 16; (with_reducible refine (digest_Sum.calls k (oxbowlaw07_DigestApart.turned s (Int.tmod a3 (s.size : Int)) (Go.bits .xor .u8 (bt s (Int.tmod a3 (s.size : Int))) a4)) t4 _ A4.out).mono ?_); rintro e w12 ⟨rfl, hb⟩; have HB12 := Aside0.mk (oxbowlaw07_DigestApart.drawn HB11.out hb); clear hb) | (go_at_call 16; (with_reducible refine (digest_Sum.calls k s t5 _ A5.out).mono ?_); rintro e w13 ⟨rfl, hb⟩; have HB13 := Aside0.mk (oxbowlaw07_DigestApart.drawn HB12.out hb); clear hb))
            go_ret
            exact ⟨rfl, HB13.out⟩



/-- The one pure statement of oxbowlaw07_DigestApart. -/
def oxbowlaw07_DigestApart.Pure : Prop := ∀ (a0 : Int) (a1 : Int) (a2 : ByteArray) (a3 : Int) (a4 : Int), (Lit.int .u32 a0).wf = true → (Lit.int .u32 a1).wf = true → a2.size ≤ 140737488351232 → (Lit.int .i64 a3).wf = true → (Lit.int .u8 a4).wf = true → ∃ k, oxbowlaw07_DigestApart.f k a0 a1 a2 a3 a4 = some true

end Go.Proofs.Ytknbccaineblpaa.HDap
