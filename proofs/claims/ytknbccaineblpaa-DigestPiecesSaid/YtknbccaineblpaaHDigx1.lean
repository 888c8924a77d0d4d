-- Written by hprint.py over the kit's print.py; contracts of some functions by hand.
import Derived.Test.YtknbccaineblpaaHDigx0
namespace Go.Proofs.Ytknbccaineblpaa.HDig
open Go.RowKit Go.Proofs.YtknbccaineblpaaW.PrintWords Go.Proofs.YtknbccaineblpaaW.PrintLast Go.Proofs.YtknbccaineblpaaW.PrintMore
attribute [local go_sem] max2_int min2_int max_two min_two max_three min_three max_four min_four   -- for this text's walks alone
set_option linter.unusedVariables false
set_option linter.unusedSimpArgs false

/-! ### digest_Extend: function 18 -/
def digest_Extend.l0 : Nat → Int → ByteArray → Int → Int → Option (Int)
  | 0, _, _, _, _ => none
  | k + 1, x0, x1, x7, x8 => if x8 < x7 then (if 0 ≤ x8 then (if x8 < (x1.size : Int) then (digest_Extend.l0 k (((((((Go.bits .xor .u32 x0 ((bt x1 x8) % 4294967296)) * 16777216) % 4294967296) + (((Go.bits .xor .u32 x0 ((bt x1 x8) % 4294967296)) * 256) % 4294967296)) % 4294967296) + (((Go.bits .xor .u32 x0 ((bt x1 x8) % 4294967296)) * 147) % 4294967296)) % 4294967296) x1 x7 (wrap64 (x8 + 1))) else (none)) else (none)) else (some x0)
def digest_Extend.f (k : Nat) (a0 : Int) (a1 : ByteArray) : Option (Int) := digest_Extend.l0 k a0 a1 (a1.size : Int) 0
theorem digest_Extend.mono_l : ∀ k, (∀ y0 y1 y2 y3, LeO (digest_Extend.l0 k y0 y1 y2 y3) (digest_Extend.l0 (k + 1) y0 y1 y2 y3))
  | 0 => fun _ _ _ _ r h => by simp [digest_Extend.l0] at h
  | k + 1 => by
    have ih0 := digest_Extend.mono_l k
    · intro y0 y1 y2 y3
      unfold digest_Extend.l0
      repeat' first
      | (with_reducible exact ih0 _ _ _ _)
      | (with_reducible exact LeO.refl _)
      | (with_reducible exact LeO.none _)
      | (with_reducible refine LeO.ite ?_ ?_)
      | (with_reducible refine LeO.bind ?_ (fun _ => ?_))
      | exact ih0 _ _ _ _
      | exact LeO.none _
      | refine LeO.ite ?_ ?_
      | refine LeO.bind ?_ (fun _ => ?_)
theorem digest_Extend.mono : ∀ a0 a1 k, LeO (digest_Extend.f k a0 a1) (digest_Extend.f (k + 1) a0 a1) := by
  intro a0 a1 k
  have ih0 := digest_Extend.mono_l k
  unfold digest_Extend.f
  repeat' first
      | (with_reducible exact ih0 _ _ _ _)
      | (with_reducible exact LeO.refl _)
      | (with_reducible exact LeO.none _)
      | (with_reducible refine LeO.ite ?_ ?_)
      | (with_reducible refine LeO.bind ?_ (fun _ => ?_))
      | exact ih0 _ _ _ _
      | exact LeO.none _
      | refine LeO.ite ?_ ?_
      | refine LeO.bind ?_ (fun _ => ?_)
set_option maxHeartbeats 8000000 in
set_option maxRecDepth 100000 in
theorem digest_Extend.calls (k : Nat) (a0 : Int) (a1 : ByteArray) (r : Int) (w : World) (h : digest_Extend.f k a0 a1 = some r) :
    Calls Try.prog 18 #[.int .u32 a0, .string a1] w fun e w' => e = .returned (.int .u32 r) ∧ Drawn0 w w' := by
  have H : (digest_Extend.l0 k a0 a1 (a1.size : Int) 0) = some r := h
  clear h
  have H' := Aside0.mk H
  clear H
  go_enter Try.func18, Try.ntmps18
  go_wp2
  go_loopg [0, 8] k (fun kq v0 v8 w' => ∃ (x0_1 : Int) (x8_1 : Int), v0 = .int .u32 x0_1 ∧ v8 = .int .i64 x8_1 ∧ Aside0 (digest_Extend.l0 kq x0_1 a1 (a1.size : Int) x8_1 = some r) ∧ Aside0 (kq ≤ k) ∧ Drawn0 w w')
  case atStart => exact ⟨(a0), (0), (by first | rfl | (simp; done) | (simp [*]; done)), (by first | rfl | (simp; done) | (simp [*]; done)), H', ⟨Nat.le_refl _⟩, by repeat (first | exact Drawn0.refl _ | apply Drawn0.step)⟩
  case round =>
    clear H'
    try clear c1
    try clear p2
    obtain ⟨x0_1, x8_1, rfl, rfl, HA, HK1, ⟨m1, rfl⟩⟩ := hrel
    cases gk with
    | zero => exact absurd HA.out (by simp [digest_Extend.l0])
    | succ k1 =>
      have H := HA.out
      clear HA
      simp only [digest_Extend.l0] at H
      by_cases c3 : x8_1 < (a1.size : Int)
      · rw [if_pos c3] at H
        have c3b0 : decide (x8_1 < (a1.size : Int)) = true := decide_eq_true c3
        clear c3
        by_cases c4 : 0 ≤ x8_1
        · rw [if_pos c4] at H
          have c4b0 : decide (0 ≤ x8_1) = true := decide_eq_true c4
          clear c4
          by_cases c5 : x8_1 < (a1.size : Int)
          · rw [if_pos c5] at H
            have c5b0 : decide (x8_1 < (a1.size : Int)) = true := decide_eq_true c5
            clear c5
            have H' := Aside0.mk H
            clear H
            have p6 : 0 ≤ (x8_1 : Int) := of_decide_eq_true (by first | (with_reducible assumption) | assumption)
            have q6 : x8_1 < (a1.size : Int) := of_decide_eq_true (by first | (with_reducible assumption) | assumption)
            have hx6 := bt_at a1 x8_1
            replace p6 := eq_true p6
            replace q6 := eq_true q6
            go_wp2
            go_roundg k1
            case measure => have := HK1.out; omega
            case rel => exact ⟨(((((((Go.bits .xor .u32 x0_1 ((bt a1 x8_1) % 4294967296)) * 16777216) % 4294967296) + (((Go.bits .xor .u32 x0_1 ((bt a1 x8_1) % 4294967296)) * 256) % 4294967296)) % 4294967296) + (((Go.bits .xor .u32 x0_1 ((bt a1 x8_1) % 4294967296)) * 147) % 4294967296)) % 4294967296), (wrap64 (x8_1 + 1)), (by first | rfl | (simp; done) | (simp [*]; done)), (by first | rfl | (simp; done) | (simp [*]; done)), H', ⟨by have := HK1.out; omega⟩, by repeat (first | exact Drawn0.refl _ | apply Drawn0.step)⟩
          · rw [if_neg c5] at H
            exact absurd H (by simp)
        · rw [if_neg c4] at H
          exact absurd H (by simp)
      · rw [if_neg c3] at H
        have c3b0 : decide (x8_1 < (a1.size : Int)) = false := decide_eq_false c3
        clear c3
        obtain rfl := Option.some.inj H
        go_wp2
        go_ret
        exact ⟨by first | rfl | (simp; done) | (simp [*]; done), by repeat (first | exact Drawn0.refl _ | apply Drawn0.step)⟩

/-! ### digest_Sum: function 16 -/
def digest_Sum.f (k : Nat) (a0 : ByteArray) : Option (Int) := (digest_Extend.f k 2166136261 a0).bind fun t101 => (some t101)
theorem digest_Sum.mono : ∀ a0 k, LeO (digest_Sum.f k a0) (digest_Sum.f (k + 1) a0) := by
  intro a0 k
  unfold digest_Sum.f
  repeat' first
      | (with_reducible exact digest_Extend.mono _ _ _)
      | (with_reducible exact LeO.refl _)
      | (with_reducible exact LeO.none _)
      | (with_reducible refine LeO.ite ?_ ?_)
      | (with_reducible refine LeO.bind ?_ (fun _ => ?_))
      | exact digest_Extend.mono _ _ _
      | exact LeO.none _
      | refine LeO.ite ?_ ?_
      | refine LeO.bind ?_ (fun _ => ?_)
set_option maxHeartbeats 8000000 in
set_option maxRecDepth 100000 in
theorem digest_Sum.calls (k : Nat) (a0 : ByteArray) (r : Int) (w : World) (h : digest_Sum.f k a0 = some r) :
    Calls Try.prog 16 #[.string a0] w fun e w' => e = .returned (.int .u32 r) ∧ Drawn0 w w' := by
  have H : ((digest_Extend.f k 2166136261 a0).bind fun t101 => (some t101)) = some r := h
  clear h
  replace H := Option.bind_eq_some_iff.mp H
  obtain ⟨t101, A20, H⟩ := H
  replace H : (some t101) = some r := H
  have A2 := Aside0.mk A20
  clear A20
  obtain rfl := Option.some.inj H
  go_enter Try.func16, Try.ntmps16
  go_wp2_with (first | ((with_reducible refine gate_callee (f := 18) rfl ?_); refine goesL_ (some 4) rfl rfl Try.func18 (by kernel_rfl) rfl #[.int .u32 2166136261, .string a0] rfl (by (try simp only [List.map_toArray, List.map_cons, List.map_nil]); first | done | rfl | (simp only [List.length_drop, List.length_take]; rfl)) ?_; (with_reducible refine (digest_Extend.calls k 2166136261 a0 t101 _ A2.out).mono ?_); rintro e w' ⟨rfl, ⟨nd, rfl⟩⟩; refine ⟨_, rfl, ?_⟩))
  go_ret
  exact ⟨by first | rfl | (simp; done) | (simp [*]; done), by repeat (first | exact Drawn0.refl _ | apply Drawn0.step)⟩

/-! ### digest_Name: function 20 -/
def digest_Name.f (a0 : Int) : Option (ByteArray) := some (strOfNums (([(a0 / 16777216) % 256, (a0 / 65536) % 256, (a0 / 256) % 256, (a0) % 256] : List Int)))
set_option maxHeartbeats 800000 in
set_option maxRecDepth 100000 in
theorem digest_Name.calls (a0 : Int) (r : ByteArray) (w : World) (h : digest_Name.f a0 = some r) :
    Calls Try.prog 20 #[.int .u32 a0] w fun e w' => e = .returned (.string r) ∧ Below w.heap.size w w' := by
  obtain rfl := Option.some.inj h
  have HB := Aside0.mk (Below.refl w.heap.size w)
  clear h
  have hc : ∀ i, i < 4 → (w.alloc (.cells #[.int .u8 (a0 / 16777216 % 256), .int .u8 (a0 / 65536 % 256), .int .u8 (a0 / 256 % 256), .int .u8 (a0 % 256)] 77)).cell? ⟨w.heap.size, 0 + i, none⟩ = some (.int .u8 (([(a0 / 16777216) % 256, (a0 / 65536) % 256, (a0 / 256) % 256, (a0) % 256] : List Int).getD i 0)) := by
    intro i hi
    rw [World.cell?_alloc_at _ _ _ _ rfl, Nat.zero_add]
    match i, hi with
    | 0, _ => rfl
    | 1, _ => rfl
    | 2, _ => rfl
    | 3, _ => rfl
  have hcv := run_convert_bytes_arg (P := Try.prog) _ 30 5 Try.underlying30 Try.underlying5 w.heap.size 0 4 4 [(a0 / 16777216) % 256, (a0 / 65536) % 256, (a0 / 256) % 256, (a0) % 256] rfl hc 9 Try.underlying9
  clear hc
  go_enter Try.func20, Try.ntmps20
  go_wp2
  go_ret
  exact ⟨rfl, below_alloc HB.out _⟩


/-! ### oxbowlaw07_live: function 15 -/
def oxbowlaw07_live.f (k : Nat)  : Option (Bool) := (digest_Sum.f k (⟨#[]⟩ : ByteArray)).bind fun t102 => (if t102 = 2166136261 then ((digest_Sum.f k (⟨#[97]⟩ : ByteArray)).bind fun t103 => (if t103 = 3826002220 then ((digest_Sum.f k (⟨#[102, 111, 111, 98, 97, 114]⟩ : ByteArray)).bind fun t104 => (if t104 = 3214735720 then ((digest_Name.f 1).bind fun t105 => (some (t105.toList == ([0, 0, 0, 1] : List UInt8)))) else (some false))) else (some false))) else (some false))
theorem oxbowlaw07_live.mono : ∀ k, LeO (oxbowlaw07_live.f k ) (oxbowlaw07_live.f (k + 1) ) := by
  intro  k
  unfold oxbowlaw07_live.f
  repeat' first
      | (with_reducible exact digest_Sum.mono _ _)
      | (with_reducible exact LeO.refl _)
      | (with_reducible exact LeO.none _)
      | (with_reducible refine LeO.ite ?_ ?_)
      | (with_reducible refine LeO.bind ?_ (fun _ => ?_))
      | exact digest_Sum.mono _ _
      | exact LeO.none _
      | refine LeO.ite ?_ ?_
      | refine LeO.bind ?_ (fun _ => ?_)
set_option maxHeartbeats 8000000 in
set_option maxRecDepth 100000 in
theorem oxbowlaw07_live.calls (k : Nat)  (r : Bool) (w : World) (h : oxbowlaw07_live.f k  = some r) :
    Calls Try.prog 15 #[] w fun e w' => e = .returned (.bool r) ∧ Below w.heap.size w w' := by
  have HB := Aside0.mk (Below.refl w.heap.size w)
  have H : ((digest_Sum.f k (⟨#[]⟩ : ByteArray)).bind fun t102 => (if t102 = 2166136261 then ((digest_Sum.f k (⟨#[97]⟩ : ByteArray)).bind fun t103 => (if t103 = 3826002220 then ((digest_Sum.f k (⟨#[102, 111, 111, 98, 97, 114]⟩ : ByteArray)).bind fun t104 => (if t104 = 3214735720 then ((digest_Name.f 1).bind fun t105 => (some (t105.toList == ([0, 0, 0, 1] : List UInt8)))) else (some false))) else (some false))) else (some false))) = some r := h
  clear h
  replace H := Option.bind_eq_some_iff.mp H
  obtain ⟨t102, A10, H⟩ := H
  replace H : (if t102 = 2166136261 then ((digest_Sum.f k (⟨#[97]⟩ : ByteArray)).bind fun t103 => (if t103 = 3826002220 then ((digest_Sum.f k (⟨#[102, 111, 111, 98, 97, 114]⟩ : ByteArray)).bind fun t104 => (if t104 = 3214735720 then ((digest_Name.f 1).bind fun t105 => (some (t105.toList == ([0, 0, 0, 1] : List UInt8)))) else (some false))) else (some false))) else (some false)) = some r := H
  have A1 := Aside0.mk A10
  clear A10
  by_cases c2 : t102 = 2166136261
  · rw [if_pos c2] at H
    have c2b0 : (t102 == 2166136261) = true := beq_iff_eq.mpr c2
    have c2b1 : (t102 != 2166136261) = false := bne_eq_false_iff_eq.mpr c2
    clear c2
    replace H := Option.bind_eq_some_iff.mp H
    obtain ⟨t103, A30, H⟩ := H
    replace H : (if t103 = 3826002220 then ((digest_Sum.f k (⟨#[102, 111, 111, 98, 97, 114]⟩ : ByteArray)).bind fun t104 => (if t104 = 3214735720 then ((digest_Name.f 1).bind fun t105 => (some (t105.toList == ([0, 0, 0, 1] : List UInt8)))) else (some false))) else (some false)) = some r := H
    have A3 := Aside0.mk A30
    clear A30
    by_cases c4 : t103 = 3826002220
    · rw [if_pos c4] at H
      have c4b0 : (t103 == 3826002220) = true := beq_iff_eq.mpr c4
      have c4b1 : (t103 != 3826002220) = false := bne_eq_false_iff_eq.mpr c4
      clear c4
      replace H := Option.bind_eq_some_iff.mp H
      obtain ⟨t104, A50, H⟩ := H
      replace H : (if t104 = 3214735720 then ((digest_Name.f 1).bind fun t105 => (some (t105.toList == ([0, 0, 0, 1] : List UInt8)))) else (some false)) = some r := H
      have A5 := Aside0.mk A50
      clear A50
      by_cases c6 : t104 = 3214735720
      · rw [if_pos c6] at H
        have c6b0 : (t104 == 3214735720) = true := beq_iff_eq.mpr c6
        have c6b1 : (t104 != 3214735720) = false := bne_eq_false_iff_eq.mpr c6
        clear c6
        replace H := Option.bind_eq_some_iff.mp H
        obtain ⟨t105, A70, H⟩ := H
        replace H : (some (t105.toList == ([0, 0, 0, 1] : List UInt8))) = some r := H
        have A7 := Aside0.mk A70
        clear A70
        obtain rfl := Option.some.inj H
        go_enter Try.func15, Try.ntmps15
        go_wp2_with (first | ((with_reducible refine gate_callee (f := 16) rfl ?_); refine goesL_ (some 1) rfl rfl Try.func16 (by kernel_rfl) rfl #[.string (⟨#[]⟩ : ByteArray)] rfl (by (try simp only [List.map_toArray, List.map_cons, List.map_nil]); first | done | rfl | (simp only [List.length_drop, List.length_take]; rfl)) ?_; (with_reducible refine (digest_Sum.calls k (⟨#[]⟩ : ByteArray) t102 _ A1.out).mono ?_); rintro e w' ⟨rfl, ⟨nd, rfl⟩⟩; refine ⟨_, rfl, ?_⟩) | (go_at_call 16; (with_reducible refine (digest_Sum.calls k (⟨#[97]⟩ : ByteArray) t103 _ A3.out).mono ?_); rintro e w' ⟨rfl, ⟨nd, rfl⟩⟩) | (go_at_call 16; (with_reducible refine (digest_Sum.calls k (⟨#[102, 111, 111, 98, 97, 114]⟩ : ByteArray) t104 _ A5.out).mono ?_); rintro e w' ⟨rfl, ⟨nd, rfl⟩⟩) | (go_at_call 20; (with_reducible refine (digest_Name.calls 1 t105 _ A7.out).mono ?_); rintro e w8 ⟨rfl, hb⟩; have n0_ := Aside0.mk (below_step (by repeat (first | (with_reducible first | exact HB.out | apply below_alloc | apply pw_below_drewN | apply below_drew1) | exact HB.out)) hb); clear HB; have HB := n0_; clear n0_; (try clear hb); (try clear hb2); (try clear hk); (try clear hi)))
        go_ret
        exact ⟨by first | rfl | (simp [errW_none, errW_some] <;> rfl) | (simp [*, errW_none, errW_some] <;> rfl), by repeat (first | (with_reducible first | exact HB.out | apply below_alloc | apply pw_below_drewN | apply below_drew1) | exact HB.out)⟩
      · rw [if_neg c6] at H
        have c6b0 : (t104 == 3214735720) = false := beq_eq_false_iff_ne.mpr c6
        have c6b1 : (t104 != 3214735720) = true := bne_iff_ne.mpr c6
        obtain rfl := Option.some.inj H
        go_enter Try.func15, Try.ntmps15
        go_wp2_with (first | ((with_reducible refine gate_callee (f := 16) rfl ?_); refine goesL_ (some 1) rfl rfl Try.func16 (by kernel_rfl) rfl #[.string (⟨#[]⟩ : ByteArray)] rfl (by (try simp only [List.map_toArray, List.map_cons, List.map_nil]); first | done | rfl | (simp only [List.length_drop, List.length_take]; rfl)) ?_; (with_reducible refine (digest_Sum.calls k (⟨#[]⟩ : ByteArray) t102 _ A1.out).mono ?_); rintro e w' ⟨rfl, ⟨nd, rfl⟩⟩; refine ⟨_, rfl, ?_⟩) | (go_at_call 16; (with_reducible refine (digest_Sum.calls k (⟨#[97]⟩ : ByteArray) t103 _ A3.out).mono ?_); rintro e w' ⟨rfl, ⟨nd, rfl⟩⟩) | (go_at_call 16; (with_reducible refine (digest_Sum.calls k (⟨#[102, 111, 111, 98, 97, 114]⟩ : ByteArray) t104 _ A5.out).mono ?_); rintro e w' ⟨rfl, ⟨nd, rfl⟩⟩))
        go_ret
        exact ⟨by first | rfl | (simp [errW_none, errW_some] <;> rfl) | (simp [*, errW_none, errW_some] <;> rfl), by repeat (first | (with_reducible first | exact HB.out | apply below_alloc | apply pw_below_drewN | apply below_drew1) | exact HB.out)⟩
    · rw [if_neg c4] at H
      have c4b0 : (t103 == 3826002220) = false := beq_eq_false_iff_ne.mpr c4
      have c4b1 : (t103 != 3826002220) = true := bne_iff_ne.mpr c4
      obtain rfl := Option.some.inj H
      go_enter Try.func15, Try.ntmps15
      go_wp2_with (first | ((with_reducible refine gate_callee (f := 16) rfl ?_); refine goesL_ (some 1) rfl rfl Try.func16 (by kernel_rfl) rfl #[.string (⟨#[]⟩ : ByteArray)] rfl (by (try simp only [List.map_toArray, List.map_cons, List.map_nil]); first | done | rfl | (simp only [List.length_drop, List.length_take]; rfl)) ?_; (with_reducible refine (digest_Sum.calls k (⟨#[]⟩ : ByteArray) t102 _ A1.out).mono ?_); rintro e w' ⟨rfl, ⟨nd, rfl⟩⟩; refine ⟨_, rfl, ?_⟩) | (go_at_call 16; (with_reducible refine (digest_Sum.calls k (⟨#[97]⟩ : ByteArray) t103 _ A3.out).mono ?_); rintro e w' ⟨rfl, ⟨nd, rfl⟩⟩))
      go_ret
      exact ⟨by first | rfl | (simp [errW_none, errW_some] <;> rfl) | (simp [*, errW_none, errW_some] <;> rfl), by repeat (first | (with_reducible first | exact HB.out | apply below_alloc | apply pw_below_drewN | apply below_drew1) | exact HB.out)⟩
  · rw [if_neg c2] at H
    have c2b0 : (t102 == 2166136261) = false := beq_eq_false_iff_ne.mpr c2
    have c2b1 : (t102 != 2166136261) = true := bne_iff_ne.mpr c2
    obtain rfl := Option.some.inj H
    go_enter Try.func15, Try.ntmps15
    go_wp2_with (first | ((with_reducible refine gate_callee (f := 16) rfl ?_); refine goesL_ (some 1) rfl rfl Try.func16 (by kernel_rfl) rfl #[.string (⟨#[]⟩ : ByteArray)] rfl (by (try simp only [List.map_toArray, List.map_cons, List.map_nil]); first | done | rfl | (simp only [List.length_drop, List.length_take]; rfl)) ?_; (with_reducible refine (digest_Sum.calls k (⟨#[]⟩ : ByteArray) t102 _ A1.out).mono ?_); rintro e w' ⟨rfl, ⟨nd, rfl⟩⟩; refine ⟨_, rfl, ?_⟩))
    go_ret
    exact ⟨by first | rfl | (simp [errW_none, errW_some] <;> rfl) | (simp [*, errW_none, errW_some] <;> rfl), by repeat (first | (with_reducible first | exact HB.out | apply below_alloc | apply pw_below_drewN | apply below_drew1) | exact HB.out)⟩

/-! ### oxbowref07_Extend: function 19 -/
def oxbowref07_Extend.l0 : Nat → ByteArray → Int → Int → Option (Int)
  | 0, _, _, _ => none
  | k + 1, x1, x5, x6 => if x6 < (x1.size : Int) then (if 0 ≤ x6 then (oxbowref07_Extend.l0 k x1 (Int.tmod (wrap64 ((wrap64 ((wrap64 (x5 - (Int.tmod x5 256))) + (wrap64 (Go.bits .xor .u8 ((Int.tmod x5 256) % 256) (bt x1 x6))))) * 16777619)) 4294967296) (wrap64 (x6 + 1))) else (none)) else (some ((x5) % 4294967296))
def oxbowref07_Extend.f (k : Nat) (a0 : Int) (a1 : ByteArray) : Option (Int) := oxbowref07_Extend.l0 k a1 (wrap64 (a0)) 0
theorem oxbowref07_Extend.mono_l : ∀ k, (∀ y0 y1 y2, LeO (oxbowref07_Extend.l0 k y0 y1 y2) (oxbowref07_Extend.l0 (k + 1) y0 y1 y2))
  | 0 => fun _ _ _ r h => by simp [oxbowref07_Extend.l0] at h
  | k + 1 => by
    have ih0 := oxbowref07_Extend.mono_l k
    · intro y0 y1 y2
      unfold oxbowref07_Extend.l0
      repeat' first
      | (with_reducible exact ih0 _ _ _)
      | (with_reducible exact LeO.refl _)
      | (with_reducible exact LeO.none _)
      | (with_reducible refine LeO.ite ?_ ?_)
      | (with_reducible refine LeO.bind ?_ (fun _ => ?_))
      | exact ih0 _ _ _
      | exact LeO.none _
      | refine LeO.ite ?_ ?_
      | refine LeO.bind ?_ (fun _ => ?_)
theorem oxbowref07_Extend.mono : ∀ a0 a1 k, LeO (oxbowref07_Extend.f k a0 a1) (oxbowref07_Extend.f (k + 1) a0 a1) := by
  intro a0 a1 k
  have ih0 := oxbowref07_Extend.mono_l k
  unfold oxbowref07_Extend.f
  repeat' first
      | (with_reducible exact ih0 _ _ _)
      | (with_reducible exact LeO.refl _)
      | (with_reducible exact LeO.none _)
      | (with_reducible refine LeO.ite ?_ ?_)
      | (with_reducible refine LeO.bind ?_ (fun _ => ?_))
      | exact ih0 _ _ _
      | exact LeO.none _
      | refine LeO.ite ?_ ?_
      | refine LeO.bind ?_ (fun _ => ?_)
set_option maxHeartbeats 8000000 in
set_option maxRecDepth 100000 in
theorem oxbowref07_Extend.calls (k : Nat) (a0 : Int) (a1 : ByteArray) (r : Int) (w : World) (h : oxbowref07_Extend.f k a0 a1 = some r) :
    Calls Try.prog 19 #[.int .u32 a0, .string a1] w fun e w' => e = .returned (.int .u32 r) ∧ Drawn0 w w' := by
  have H : (oxbowref07_Extend.l0 k a1 (wrap64 (a0)) 0) = some r := h
  clear h
  have H' := Aside0.mk H
  clear H
  go_enter Try.func19, Try.ntmps19
  go_wp2
  go_loopg [5, 6] k (fun kq v5 v6 w' => ∃ (x5_1 : Int) (x6_1 : Int), v5 = .int .i64 x5_1 ∧ v6 = .int .i64 x6_1 ∧ Aside0 (oxbowref07_Extend.l0 kq a1 x5_1 x6_1 = some r) ∧ Aside0 (kq ≤ k) ∧ Drawn0 w w')
  case atStart => exact ⟨(wrap64 (a0)), (0), (by first | rfl | (simp; done) | (simp [*]; done)), (by first | rfl | (simp; done) | (simp [*]; done)), H', ⟨Nat.le_refl _⟩, by repeat (first | exact Drawn0.refl _ | apply Drawn0.step)⟩
  case round =>
    clear H'
    try clear c1
    try clear p2
    obtain ⟨x5_1, x6_1, rfl, rfl, HA, HK1, ⟨m1, rfl⟩⟩ := hrel
    cases gk with
    | zero => exact absurd HA.out (by simp [oxbowref07_Extend.l0])
    | succ k1 =>
      have H := HA.out
      clear HA
      simp only [oxbowref07_Extend.l0] at H
      by_cases c3 : x6_1 < (a1.size : Int)
      · rw [if_pos c3] at H
        have c3b0 : decide (x6_1 < (a1.size : Int)) = true := decide_eq_true c3
        clear c3
        by_cases c4 : 0 ≤ x6_1
        · rw [if_pos c4] at H
          have c4b0 : decide (0 ≤ x6_1) = true := decide_eq_true c4
          clear c4
          have H' := Aside0.mk H
          clear H
          have p5 : 0 ≤ (x6_1 : Int) := of_decide_eq_true (by first | (with_reducible assumption) | assumption)
          have q5 : x6_1 < (a1.size : Int) := of_decide_eq_true (by first | (with_reducible assumption) | assumption)
          have hx5 := bt_at a1 x6_1
          replace p5 := eq_true p5
          replace q5 := eq_true q5
          go_wp2
          go_roundg k1
          case measure => have := HK1.out; omega
          case rel => exact ⟨(Int.tmod (wrap64 ((wrap64 ((wrap64 (x5_1 - (Int.tmod x5_1 256))) + (wrap64 (Go.bits .xor .u8 ((Int.tmod x5_1 256) % 256) (bt a1 x6_1))))) * 16777619)) 4294967296), (wrap64 (x6_1 + 1)), (by first | rfl | (simp; done) | (simp [*]; done)), (by first | rfl | (simp; done) | (simp [*]; done)), H', ⟨by have := HK1.out; omega⟩, by repeat (first | exact Drawn0.refl _ | apply Drawn0.step)⟩
        · rw [if_neg c4] at H
          exact absurd H (by simp)
      · rw [if_neg c3] at H
        have c3b0 : decide (x6_1 < (a1.size : Int)) = false := decide_eq_false c3
        clear c3
        obtain rfl := Option.some.inj H
        go_wp2
        go_ret
        exact ⟨by first | rfl | (simp; done) | (simp [*]; done), by repeat (first | exact Drawn0.refl _ | apply Drawn0.step)⟩

/-! ### oxbowref07_Sum: function 17 -/
def oxbowref07_Sum.f (k : Nat) (a0 : ByteArray) : Option (Int) := (oxbowref07_Extend.f k 2166136261 a0).bind fun t106 => (some t106)
theorem oxbowref07_Sum.mono : ∀ a0 k, LeO (oxbowref07_Sum.f k a0) (oxbowref07_Sum.f (k + 1) a0) := by
  intro a0 k
  unfold oxbowref07_Sum.f
  repeat' first
      | (with_reducible exact oxbowref07_Extend.mono _ _ _)
      | (with_reducible exact LeO.refl _)
      | (with_reducible exact LeO.none _)
      | (with_reducible refine LeO.ite ?_ ?_)
      | (with_reducible refine LeO.bind ?_ (fun _ => ?_))
      | exact oxbowref07_Extend.mono _ _ _
      | exact LeO.none _
      | refine LeO.ite ?_ ?_
      | refine LeO.bind ?_ (fun _ => ?_)
set_option maxHeartbeats 8000000 in
set_option maxRecDepth 100000 in
theorem oxbowref07_Sum.calls (k : Nat) (a0 : ByteArray) (r : Int) (w : World) (h : oxbowref07_Sum.f k a0 = some r) :
    Calls Try.prog 17 #[.string a0] w fun e w' => e = .returned (.int .u32 r) ∧ Drawn0 w w' := by
  have H : ((oxbowref07_Extend.f k 2166136261 a0).bind fun t106 => (some t106)) = some r := h
  clear h
  replace H := Option.bind_eq_some_iff.mp H
  obtain ⟨t106, A20, H⟩ := H
  replace H : (some t106) = some r := H
  have A2 := Aside0.mk A20
  clear A20
  obtain rfl := Option.some.inj H
  go_enter Try.func17, Try.ntmps17
  go_wp2_with (first | ((with_reducible refine gate_callee (f := 19) rfl ?_); refine goesL_ (some 4) rfl rfl Try.func19 (by kernel_rfl) rfl #[.int .u32 2166136261, .string a0] rfl (by (try simp only [List.map_toArray, List.map_cons, List.map_nil]); first | done | rfl | (simp only [List.length_drop, List.length_take]; rfl)) ?_; (with_reducible refine (oxbowref07_Extend.calls k 2166136261 a0 t106 _ A2.out).mono ?_); rintro e w' ⟨rfl, ⟨nd, rfl⟩⟩; refine ⟨_, rfl, ?_⟩))
  go_ret
  exact ⟨by first | rfl | (simp; done) | (simp [*]; done), by repeat (first | exact Drawn0.refl _ | apply Drawn0.step)⟩

/-! ### oxbowref07_Name: function 21 -/
def oxbowref07_Name.f (a0 : Int) : Option (ByteArray) := some (strOfNums (([(wrap64 (Int.tdiv (wrap64 (a0)) 16777216)) % 256, (Int.tmod (wrap64 (Int.tdiv (wrap64 (a0)) 65536)) 256) % 256, (Int.tmod (wrap64 (Int.tdiv (wrap64 (a0)) 256)) 256) % 256, (Int.tmod (wrap64 (a0)) 256) % 256] : List Int)))
set_option maxHeartbeats 8000000 in
set_option maxRecDepth 100000 in
theorem oxbowref07_Name.calls (a0 : Int) (r : ByteArray) (w : World) (h : oxbowref07_Name.f a0 = some r) :
    Calls Try.prog 21 #[.int .u32 a0] w fun e w' => e = .returned (.string r) ∧ Below w.heap.size w w' := by
  have HB := Aside0.mk (Below.refl w.heap.size w)
  have H : (some (strOfNums (([(wrap64 (Int.tdiv (wrap64 (a0)) 16777216)) % 256, (Int.tmod (wrap64 (Int.tdiv (wrap64 (a0)) 65536)) 256) % 256, (Int.tmod (wrap64 (Int.tdiv (wrap64 (a0)) 256)) 256) % 256, (Int.tmod (wrap64 (a0)) 256) % 256] : List Int)))) = some r := h
  clear h
  obtain ⟨y107, hy107⟩ : ∃ y_ : List Int, y_ = (([(wrap64 (Int.tdiv (wrap64 (a0)) 16777216)) % 256, (Int.tmod (wrap64 (Int.tdiv (wrap64 (a0)) 65536)) 256) % 256, (Int.tmod (wrap64 (Int.tdiv (wrap64 (a0)) 256)) 256) % 256, (Int.tmod (wrap64 (a0)) 256) % 256] : List Int)) := ⟨_, rfl⟩
  replace H : (some (strOfNums y107)) = some r := by first | (rw [hy107]; with_reducible exact H) | (have H2_ := (Option.bind_some _ _).symm.trans H; rw [hy107]; with_reducible exact H2_) | (have H2_ := (Option.bind_some _ _).symm.trans H; with_reducible exact H2_) | with_reducible exact H | (rw [hy107]; exact H) | exact H
  have Ny107 := Aside0.mk hy107
  clear hy107
  obtain rfl := Option.some.inj H
  go_enter Try.func21, Try.ntmps21
  go_wp2_with (first | ((with_reducible refine gate_dst (N := 20) rfl ?_); refine Kd.R_lit (Kd.int .u8) _ 5 ?hg (N := 20) ?hd (xs := ([(wrap64 (Int.tdiv (wrap64 (a0)) 16777216)) % 256, (Int.tmod (wrap64 (Int.tdiv (wrap64 (a0)) 65536)) 256) % 256, (Int.tmod (wrap64 (Int.tdiv (wrap64 (a0)) 256)) 256) % 256, (Int.tmod (wrap64 (a0)) 256) % 256] : List Int)) (inner := [.int .u8 ((wrap64 (Int.tdiv (wrap64 (a0)) 16777216)) % 256), .int .u8 ((Int.tmod (wrap64 (Int.tdiv (wrap64 (a0)) 65536)) 256) % 256), .int .u8 ((Int.tmod (wrap64 (Int.tdiv (wrap64 (a0)) 256)) 256) % 256), .int .u8 ((Int.tmod (wrap64 (a0)) 256) % 256)]) (ok := fun _ => True) (okp := fun _ => True) ?hr ?hp (fun _ hk => hk) trivial (Below.refl _ _) (Nat.le_refl _) (by simp) ?_; (case hd => rfl); (case hg => rfl); (case hr => first | (go_simp; done) | (go_simp; rfl)); (case hp => exact (Reps.one (show Kd.M (Kd.int .u8) _ _ _ ((wrap64 (Int.tdiv (wrap64 (a0)) 16777216)) % 256) [.int .u8 ((wrap64 (Int.tdiv (wrap64 (a0)) 16777216)) % 256)] from rfl) (Reps.one (show Kd.M (Kd.int .u8) _ _ _ ((Int.tmod (wrap64 (Int.tdiv (wrap64 (a0)) 65536)) 256) % 256) [.int .u8 ((Int.tmod (wrap64 (Int.tdiv (wrap64 (a0)) 65536)) 256) % 256)] from rfl) (Reps.one (show Kd.M (Kd.int .u8) _ _ _ ((Int.tmod (wrap64 (Int.tdiv (wrap64 (a0)) 256)) 256) % 256) [.int .u8 ((Int.tmod (wrap64 (Int.tdiv (wrap64 (a0)) 256)) 256) % 256)] from rfl) (Reps.one (show Kd.M (Kd.int .u8) _ _ _ ((Int.tmod (wrap64 (a0)) 256) % 256) [.int .u8 ((Int.tmod (wrap64 (a0)) 256) % 256)] from rfl) (Reps.none _ _)))))); intro v108 w2 ho3 hb hg_ hnew_; clear hg_ hnew_; (first | rw [← Ny107.out] at ho3 | (simp only [Int.reduceToNat] at ho3; rw [← Ny107.out] at ho3)); have n0_ := Aside0.mk (Kd.R_lower ho3 (below_size (by repeat (first | (with_reducible first | exact HB.out | apply below_alloc | apply pw_below_drewN | apply below_drew1) | exact HB.out)))); have n1_ := Aside0.mk (below_step (by repeat (first | (with_reducible first | exact HB.out | apply below_alloc | apply pw_below_drewN | apply below_drew1) | exact HB.out)) hb); clear HB; have HO109 := n0_; have HB := n1_; clear n0_ n1_; clear hb ho3; have hcv4 := own_string (P := Try.prog) Try.underlying30 Try.underlying5 Try.underlying9 (Kd.own_of_R HO109.out)))
  go_ret
  exact ⟨by first | rfl | (simp [errW_none, errW_some] <;> rfl) | (simp [*, errW_none, errW_some] <;> rfl), by repeat (first | (with_reducible first | exact HB.out | apply below_alloc | apply pw_below_drewN | apply below_drew1) | exact HB.out)⟩

/-! ### oxbowlaw07_DigestSums: function 3 -/
def oxbowlaw07_DigestSums.f (k : Nat) (a0 : Int) (a1 : ByteArray) : Option (Bool) := (oxbowlaw07_live.f k).bind fun t110 => (if t110 = true then ((digest_Sum.f k a1).bind fun t111 => ((oxbowref07_Sum.f k a1).bind fun t112 => (if t111 = t112 then ((digest_Extend.f k a0 a1).bind fun t113 => ((oxbowref07_Extend.f k a0 a1).bind fun t114 => (if t113 = t114 then ((digest_Name.f a0).bind fun t115 => ((oxbowref07_Name.f a0).bind fun t116 => (some (t115.toList == t116.toList)))) else (some false)))) else (some false)))) else (some false))
theorem oxbowlaw07_DigestSums.mono : ∀ a0 a1 k, LeO (oxbowlaw07_DigestSums.f k a0 a1) (oxbowlaw07_DigestSums.f (k + 1) a0 a1) := by
  intro a0 a1 k
  unfold oxbowlaw07_DigestSums.f
  repeat' first
      | (with_reducible exact digest_Extend.mono _ _ _)
      | (with_reducible exact digest_Sum.mono _ _)
      | (with_reducible exact oxbowlaw07_live.mono _)
      | (with_reducible exact oxbowref07_Extend.mono _ _ _)
      | (with_reducible exact oxbowref07_Sum.mono _ _)
      | (with_reducible exact LeO.refl _)
      | (with_reducible exact LeO.none _)
      | (with_reducible refine LeO.ite ?_ ?_)
      | (with_reducible refine LeO.bind ?_ (fun _ => ?_))
      | exact digest_Extend.mono _ _ _
      | exact digest_Sum.mono _ _
      | exact oxbowlaw07_live.mono _
      | exact oxbowref07_Extend.mono _ _ _
      | exact oxbowref07_Sum.mono _ _
      | exact LeO.none _
      | refine LeO.ite ?_ ?_
      | refine LeO.bind ?_ (fun _ => ?_)
set_option maxHeartbeats 8000000 in
set_option maxRecDepth 100000 in
theorem oxbowlaw07_DigestSums.calls (k : Nat) (a0 : Int) (a1 : ByteArray) (r : Bool) (w : World) (h : oxbowlaw07_DigestSums.f k a0 a1 = some r) :
    Calls Try.prog 3 #[.int .u32 a0, .string a1] w fun e w' => e = .returned (.bool r) ∧ Below w.heap.size w w' := by
  have HB := Aside0.mk (Below.refl w.heap.size w)
  have H : ((oxbowlaw07_live.f k).bind fun t110 => (if t110 = true then ((digest_Sum.f k a1).bind fun t111 => ((oxbowref07_Sum.f k a1).bind fun t112 => (if t111 = t112 then ((digest_Extend.f k a0 a1).bind fun t113 => ((oxbowref07_Extend.f k a0 a1).bind fun t114 => (if t113 = t114 then ((digest_Name.f a0).bind fun t115 => ((oxbowref07_Name.f a0).bind fun t116 => (some (t115.toList == t116.toList)))) else (some false)))) else (some false)))) else (some false))) = some r := h
  clear h
  replace H := Option.bind_eq_some_iff.mp H
  obtain ⟨t110, A30, H⟩ := H
  replace H : (if t110 = true then ((digest_Sum.f k a1).bind fun t111 => ((oxbowref07_Sum.f k a1).bind fun t112 => (if t111 = t112 then ((digest_Extend.f k a0 a1).bind fun t113 => ((oxbowref07_Extend.f k a0 a1).bind fun t114 => (if t113 = t114 then ((digest_Name.f a0).bind fun t115 => ((oxbowref07_Name.f a0).bind fun t116 => (some (t115.toList == t116.toList)))) else (some false)))) else (some false)))) else (some false)) = some r := H
  have A3 := Aside0.mk A30
  clear A30
  by_cases c4 : t110 = true
  · subst c4
    have H1 : ((digest_Sum.f k a1).bind fun t111 => ((oxbowref07_Sum.f k a1).bind fun t112 => (if t111 = t112 then ((digest_Extend.f k a0 a1).bind fun t113 => ((oxbowref07_Extend.f k a0 a1).bind fun t114 => (if t113 = t114 then ((digest_Name.f a0).bind fun t115 => ((oxbowref07_Name.f a0).bind fun t116 => (some (t115.toList == t116.toList)))) else (some false)))) else (some false)))) = some r := by rw [if_pos rfl] at H; exact H
    clear H
    have H := H1
    clear H1
    replace H := Option.bind_eq_some_iff.mp H
    obtain ⟨t111, A50, H⟩ := H
    replace H : ((oxbowref07_Sum.f k a1).bind fun t112 => (if t111 = t112 then ((digest_Extend.f k a0 a1).bind fun t113 => ((oxbowref07_Extend.f k a0 a1).bind fun t114 => (if t113 = t114 then ((digest_Name.f a0).bind fun t115 => ((oxbowref07_Name.f a0).bind fun t116 => (some (t115.toList == t116.toList)))) else (some false)))) else (some false))) = some r := H
    have A5 := Aside0.mk A50
    clear A50
    replace H := Option.bind_eq_some_iff.mp H
    obtain ⟨t112, A60, H⟩ := H
    replace H : (if t111 = t112 then ((digest_Extend.f k a0 a1).bind fun t113 => ((oxbowref07_Extend.f k a0 a1).bind fun t114 => (if t113 = t114 then ((digest_Name.f a0).bind fun t115 => ((oxbowref07_Name.f a0).bind fun t116 => (some (t115.toList == t116.toList)))) else (some false)))) else (some false)) = some r := H
    have A6 := Aside0.mk A60
    clear A60
    by_cases c7 : t111 = t112
    · rw [if_pos c7] at H
      have c7b0 : (t111 == t112) = true := beq_iff_eq.mpr c7
      have c7b1 : (t111 != t112) = false := bne_eq_false_iff_eq.mpr c7
      clear c7
      replace H := Option.bind_eq_some_iff.mp H
      obtain ⟨t113, A80, H⟩ := H
      replace H : ((oxbowref07_Extend.f k a0 a1).bind fun t114 => (if t113 = t114 then ((digest_Name.f a0).bind fun t115 => ((oxbowref07_Name.f a0).bind fun t116 => (some (t115.toList == t116.toList)))) else (some false))) = some r := H
      have A8 := Aside0.mk A80
      clear A80
      replace H := Option.bind_eq_some_iff.mp H
      obtain ⟨t114, A90, H⟩ := H
      replace H : (if t113 = t114 then ((digest_Name.f a0).bind fun t115 => ((oxbowref07_Name.f a0).bind fun t116 => (some (t115.toList == t116.toList)))) else (some false)) = some r := H
      have A9 := Aside0.mk A90
      clear A90
      by_cases c10 : t113 = t114
      · rw [if_pos c10] at H
        have c10b0 : (t113 == t114) = true := beq_iff_eq.mpr c10
        have c10b1 : (t113 != t114) = false := bne_eq_false_iff_eq.mpr c10
        clear c10
        replace H := Option.bind_eq_some_iff.mp H
        obtain ⟨t115, A110, H⟩ := H
        replace H : ((oxbowref07_Name.f a0).bind fun t116 => (some (t115.toList == t116.toList))) = some r := H
        have A11 := Aside0.mk A110
        clear A110
        replace H := Option.bind_eq_some_iff.mp H
        obtain ⟨t116, A120, H⟩ := H
        replace H : (some (t115.toList == t116.toList)) = some r := H
        have A12 := Aside0.mk A120
        clear A120
        obtain rfl := Option.some.inj H
        go_enter Try.func3, Try.ntmps3
        go_wp2_with (first | ((with_reducible refine gate_callee (f := 15) rfl ?_); refine goesL_ (some 5) rfl rfl Try.func15 (by kernel_rfl) rfl #[] rfl (by (try simp only [List.map_toArray, List.map_cons, List.map_nil]); first | done | rfl | (simp only [List.length_drop, List.length_take]; rfl)) ?_; (with_reducible refine (oxbowlaw07_live.calls k  true _ A3.out).mono ?_); rintro e w13 ⟨rfl, hb⟩; refine ⟨_, rfl, ?_⟩; have n0_ := Aside0.mk (below_step (by repeat (first | (with_reducible first | exact HB.out | apply below_alloc | apply pw_below_drewN | apply below_drew1) | exact HB.out)) hb); clear HB; have HB := n0_; clear n0_; (try clear hb); (try clear hb2); (try clear hk); (try clear hi)) | (go_at_call 16; (with_reducible refine (digest_Sum.calls k a1 t111 _ A5.out).mono ?_); rintro e w' ⟨rfl, ⟨nd, rfl⟩⟩) | (go_at_call 17; (with_reducible refine (oxbowref07_Sum.calls k a1 t112 _ A6.out).mono ?_); rintro e w' ⟨rfl, ⟨nd, rfl⟩⟩) | (go_at_call 18; (with_reducible refine (digest_Extend.calls k a0 a1 t113 _ A8.out).mono ?_); rintro e w' ⟨rfl, ⟨nd, rfl⟩⟩) | (go_at_call 19; (with_reducible refine (oxbowref07_Extend.calls k a0 a1 t114 _ A9.out).mono ?_); rintro e w' ⟨rfl, ⟨nd, rfl⟩⟩) | (go_at_call 20; (with_reducible refine (digest_Name.calls a0 t115 _ A11.out).mono ?_); rintro e w14 ⟨rfl, hb⟩; have n0_ := Aside0.mk (below_step (by repeat (first | (with_reducible first | exact HB.out | apply below_alloc | apply pw_below_drewN | apply below_drew1) | exact HB.out)) hb); clear HB; have HB := n0_; clear n0_; (try clear hb); (try clear hb2); (try clear hk); (try clear hi)) | (go_at_call 21; (with_reducible refine (oxbowref07_Name.calls a0 t116 _ A12.out).mono ?_); rintro e w15 ⟨rfl, hb⟩; have n0_ := Aside0.mk (below_step (by repeat (first | (with_reducible first | exact HB.out | apply below_alloc | apply pw_below_drewN | apply below_drew1) | exact HB.out)) hb); clear HB; have HB := n0_; clear n0_; (try clear hb); (try clear hb2); (try clear hk); (try clear hi)))
        go_ret
        exact ⟨by first | rfl | (simp [errW_none, errW_some] <;> rfl) | (simp [*, errW_none, errW_some] <;> rfl), by repeat (first | (with_reducible first | exact HB.out | apply below_alloc | apply pw_below_drewN | apply below_drew1) | exact HB.out)⟩
      · rw [if_neg c10] at H
        have c10b0 : (t113 == t114) = false := beq_eq_false_iff_ne.mpr c10
        have c10b1 : (t113 != t114) = true := bne_iff_ne.mpr c10
        obtain rfl := Option.some.inj H
        go_enter Try.func3, Try.ntmps3
        go_wp2_with (first | ((with_reducible refine gate_callee (f := 15) rfl ?_); refine goesL_ (some 5) rfl rfl Try.func15 (by kernel_rfl) rfl #[] rfl (by (try simp only [List.map_toArray, List.map_cons, List.map_nil]); first | done | rfl | (simp only [List.length_drop, List.length_take]; rfl)) ?_; (with_reducible refine (oxbowlaw07_live.calls k  true _ A3.out).mono ?_); rintro e w16 ⟨rfl, hb⟩; refine ⟨_, rfl, ?_⟩; have n0_ := Aside0.mk (below_step (by repeat (first | (with_reducible first | exact HB.out | apply below_alloc | apply pw_below_drewN | apply below_drew1) | exact HB.out)) hb); clear HB; have HB := n0_; clear n0_; (try clear hb); (try clear hb2); (try clear hk); (try clear hi)) | (go_at_call 16; (with_reducible refine (digest_Sum.calls k a1 t111 _ A5.out).mono ?_); rintro e w' ⟨rfl, ⟨nd, rfl⟩⟩) | (go_at_call 17; (with_reducible refine (oxbowref07_Sum.calls k a1 t112 _ A6.out).mono ?_); rintro e w' ⟨rfl, ⟨nd, rfl⟩⟩) | (go_at_call 18; (with_reducible refine (digest_Extend.calls k a0 a1 t113 _ A8.out).mono ?_); rintro e w' ⟨rfl, ⟨nd, rfl⟩⟩) | (go_at_call 19; (with_reducible refine (oxbowref07_Extend.calls k a0 a1 t114 _ A9.out).mono ?_); rintro e w' ⟨rfl, ⟨nd, rfl⟩⟩))
        go_ret
        exact ⟨by first | rfl | (simp [errW_none, errW_some] <;> rfl) | (simp [*, errW_none, errW_some] <;> rfl), by repeat (first | (with_reducible first | exact HB.out | apply below_alloc | apply pw_below_drewN | apply below_drew1) | exact HB.out)⟩
    · rw [if_neg c7] at H
      have c7b0 : (t111 == t112) = false := beq_eq_false_iff_ne.mpr c7
      have c7b1 : (t111 != t112) = true := bne_iff_ne.mpr c7
      obtain rfl := Option.some.inj H
      go_enter Try.func3, Try.ntmps3
      go_wp2_with (first | ((with_reducible refine gate_callee (f := 15) rfl ?_); refine goesL_ (some 5) rfl rfl Try.func15 (by kernel_rfl) rfl #[] rfl (by (try simp only [List.map_toArray, List.map_cons, List.map_nil]); first | done | rfl | (simp only [List.length_drop, List.length_take]; rfl)) ?_; (with_reducible refine (oxbowlaw07_live.calls k  true _ A3.out).mono ?_); rintro e w17 ⟨rfl, hb⟩; refine ⟨_, rfl, ?_⟩; have n0_ := Aside0.mk (below_step (by repeat (first | (with_reducible first | exact HB.out | apply below_alloc | apply pw_below_drewN | apply below_drew1) | exact HB.out)) hb); clear HB; have HB := n0_; clear n0_; (try clear hb); (try clear hb2); (try clear hk); (try clear hi)) | (go_at_call 16; (with_reducible refine (digest_Sum.calls k a1 t111 _ A5.out).mono ?_); rintro e w' ⟨rfl, ⟨nd, rfl⟩⟩) | (go_at_call 17; (with_reducible refine (oxbowref07_Sum.calls k a1 t112 _ A6.out).mono ?_); rintro e w' ⟨rfl, ⟨nd, rfl⟩⟩))
      go_ret
      exact ⟨by first | rfl | (simp [errW_none, errW_some] <;> rfl) | (simp [*, errW_none, errW_some] <;> rfl), by repeat (first | (with_reducible first | exact HB.out | apply below_alloc | apply pw_below_drewN | apply below_drew1) | exact HB.out)⟩
  · replace c4 := Bool.eq_false_iff.mpr c4
    subst c4
    have H1 : (some false) = some r := by rw [if_neg (show ¬ (false = true) by decide)] at H; exact H
    clear H
    have H := H1
    clear H1
    obtain rfl := Option.some.inj H
    go_enter Try.func3, Try.ntmps3
    go_wp2_with (first | ((with_reducible refine gate_callee (f := 15) rfl ?_); refine goesL_ (some 5) rfl rfl Try.func15 (by kernel_rfl) rfl #[] rfl (by (try simp only [List.map_toArray, List.map_cons, List.map_nil]); first | done | rfl | (simp only [List.length_drop, List.length_take]; rfl)) ?_; (with_reducible refine (oxbowlaw07_live.calls k  false _ A3.out).mono ?_); rintro e w18 ⟨rfl, hb⟩; refine ⟨_, rfl, ?_⟩; have n0_ := Aside0.mk (below_step (by repeat (first | (with_reducible first | exact HB.out | apply below_alloc | apply pw_below_drewN | apply below_drew1) | exact HB.out)) hb); clear HB; have HB := n0_; clear n0_; (try clear hb); (try clear hb2); (try clear hk); (try clear hi)))
    go_ret
    exact ⟨by first | rfl | (simp [errW_none, errW_some] <;> rfl) | (simp [*, errW_none, errW_some] <;> rfl), by repeat (first | (with_reducible first | exact HB.out | apply below_alloc | apply pw_below_drewN | apply below_drew1) | exact HB.out)⟩

/-- THE ONE PURE STATEMENT of oxbowlaw07_DigestSums: yours. -/
def oxbowlaw07_DigestSums.Pure : Prop := ∀ (a0 : Int) (a1 : ByteArray), (Lit.int .u32 a0).wf = true → a1.size ≤ 140737488351232 → ∃ k, oxbowlaw07_DigestSums.f k a0 a1 = some true
theorem oxbowlaw07_DigestSums.walk (P : oxbowlaw07_DigestSums.Pure) (a0 : Int) (a1 : ByteArray) (w : World) (w0 : (Lit.int .u32 a0).wf = true) (w1 : a1.size ≤ 140737488351232) :
    Calls Try.prog 3 #[.int .u32 a0, .string a1] w fun e w' => e = .returned (.bool true) ∧ Below w.heap.size w w' := by
  obtain ⟨k, h⟩ := P a0 a1 w0 w1
  refine (oxbowlaw07_DigestSums.calls k a0 a1 true w h).mono ?_
  rintro e w' ⟨rfl, hd⟩
  exact ⟨rfl, hd⟩

/-! ### oxbowlaw07_DigestPieces: function 4 -/
def oxbowlaw07_DigestPieces.l0 : Nat → ByteArray → List Int → Int → Int → Int → Option (Bool)
  | 0, _, _, _, _, _ => none
  | k + 1, x0, x1, x5, x6, x7 => if x7 < (x1.length : Int) then (if 0 ≤ x7 then (if (rd x1 x7) > x6 then (if (rd x1 x7) ≤ (x0.size : Int) then (if 0 ≤ x6 then (if x6 ≤ (rd x1 x7) then ((digest_Extend.f k x5 (x0.extract (x6 : Int).toNat ((rd x1 x7) : Int).toNat)).bind fun t121 => (oxbowlaw07_DigestPieces.l0 k x0 x1 t121 (rd x1 x7) (wrap64 (x7 + 1)))) else (none)) else (none)) else (oxbowlaw07_DigestPieces.l0 k x0 x1 x5 x6 (wrap64 (x7 + 1)))) else (oxbowlaw07_DigestPieces.l0 k x0 x1 x5 x6 (wrap64 (x7 + 1)))) else (none)) else ((oxbowlaw07_live.f k).bind fun t123 => (if t123 = true then (if 0 ≤ x6 then (if x6 ≤ (x0.size : Int) then ((digest_Extend.f k x5 (x0.extract (x6 : Int).toNat x0.size)).bind fun t124 => ((digest_Sum.f k x0).bind fun t125 => (some (t124 == t125)))) else (none)) else (none)) else (some false)))
def oxbowlaw07_DigestPieces.f (k : Nat) (a0 : ByteArray) (l1 : List Int) : Option (Bool) := (digest_Sum.f k (⟨#[]⟩ : ByteArray)).bind fun t117 => (oxbowlaw07_DigestPieces.l0 k a0 l1 t117 0 0)
theorem oxbowlaw07_DigestPieces.mono_l : ∀ k, (∀ y0 y1 y2 y3 y4, LeO (oxbowlaw07_DigestPieces.l0 k y0 y1 y2 y3 y4) (oxbowlaw07_DigestPieces.l0 (k + 1) y0 y1 y2 y3 y4))
  | 0 => fun _ _ _ _ _ r h => by simp [oxbowlaw07_DigestPieces.l0] at h
  | k + 1 => by
    have ih0 := oxbowlaw07_DigestPieces.mono_l k
    · intro y0 y1 y2 y3 y4
      unfold oxbowlaw07_DigestPieces.l0
      repeat' first
      | (with_reducible exact ih0 _ _ _ _ _)
      | (with_reducible exact digest_Extend.mono _ _ _)
      | (with_reducible exact digest_Sum.mono _ _)
      | (with_reducible exact oxbowlaw07_live.mono _)
      | (with_reducible exact LeO.refl _)
      | (with_reducible exact LeO.none _)
      | (with_reducible refine LeO.ite ?_ ?_)
      | (with_reducible refine LeO.bind ?_ (fun _ => ?_))
      | exact ih0 _ _ _ _ _
      | exact digest_Extend.mono _ _ _
      | exact digest_Sum.mono _ _
      | exact oxbowlaw07_live.mono _
      | exact LeO.none _
      | refine LeO.ite ?_ ?_
      | refine LeO.bind ?_ (fun _ => ?_)
theorem oxbowlaw07_DigestPieces.mono : ∀ a0 a1 k, LeO (oxbowlaw07_DigestPieces.f k a0 a1) (oxbowlaw07_DigestPieces.f (k + 1) a0 a1) := by
  intro a0 a1 k
  have ih0 := oxbowlaw07_DigestPieces.mono_l k
  unfold oxbowlaw07_DigestPieces.f
  repeat' first
      | (with_reducible exact ih0 _ _ _ _ _)
      | (with_reducible exact digest_Extend.mono _ _ _)
      | (with_reducible exact digest_Sum.mono _ _)
      | (with_reducible exact oxbowlaw07_live.mono _)
      | (with_reducible exact LeO.refl _)
      | (with_reducible exact LeO.none _)
      | (with_reducible refine LeO.ite ?_ ?_)
      | (with_reducible refine LeO.bind ?_ (fun _ => ?_))
      | exact ih0 _ _ _ _ _
      | exact digest_Extend.mono _ _ _
      | exact digest_Sum.mono _ _
      | exact oxbowlaw07_live.mono _
      | exact LeO.none _
      | refine LeO.ite ?_ ?_
      | refine LeO.bind ?_ (fun _ => ?_)
set_option maxHeartbeats 8000000 in
set_option maxRecDepth 100000 in
theorem oxbowlaw07_DigestPieces.calls (k : Nat) (a0 : ByteArray) (A1 : Option Addr) (c1 : Nat) (l1 : List Int) (r : Bool) (w : World) (hr1 : Kd.C (Kd.int .i64) w A1 l1.length l1) (hc1 : l1.length ≤ c1) (h : oxbowlaw07_DigestPieces.f k a0 l1 = some r) :
    Calls Try.prog 4 #[.string a0, .slice A1 l1.length c1] w fun e w' => e = .returned (.bool r) ∧ Below w.heap.size w w' := by
  have HR1 := Aside0.mk hr1
  have HC1 := Aside0.mk hc1
  clear hr1 hc1
  have HB := Aside0.mk (Below.refl w.heap.size w)
  have H : ((digest_Sum.f k (⟨#[]⟩ : ByteArray)).bind fun t117 => (oxbowlaw07_DigestPieces.l0 k a0 l1 t117 0 0)) = some r := h
  clear h
  replace H := Option.bind_eq_some_iff.mp H
  obtain ⟨t117, A30, H⟩ := H
  replace H : (oxbowlaw07_DigestPieces.l0 k a0 l1 t117 0 0) = some r := H
  have A3 := Aside0.mk A30
  clear A30
  have H' := Aside0.mk H
  clear H
  go_enter Try.func4, Try.ntmps4
  go_wp2_with (first | ((with_reducible refine gate_callee (f := 16) rfl ?_); refine goesL_ (some 8) rfl rfl Try.func16 (by kernel_rfl) rfl #[.string (⟨#[]⟩ : ByteArray)] rfl (by (try simp only [List.map_toArray, List.map_cons, List.map_nil]); first | done | rfl | (simp only [List.length_drop, List.length_take]; rfl)) ?_; (with_reducible refine (digest_Sum.calls k (⟨#[]⟩ : ByteArray) t117 _ A3.out).mono ?_); rintro e w' ⟨rfl, ⟨nd, rfl⟩⟩; refine ⟨_, rfl, ?_⟩))
  go_loopg [5, 6, 7] k (fun kq v5 v6 v7 w' => ∃ (x5_1 : Int) (x6_1 : Int) (x7_1 : Int), v5 = .int .u32 x5_1 ∧ v6 = .int .i64 x6_1 ∧ v7 = .int .i64 x7_1 ∧ Aside0 (oxbowlaw07_DigestPieces.l0 kq a0 l1 x5_1 x6_1 x7_1 = some r) ∧ Aside0 (kq ≤ k) ∧ Aside0 (Below w.heap.size w w'))
  case atStart => exact ⟨(t117), (0), (0), (by first | rfl | (simp; done) | (simp [*]; done)), (by first | rfl | (simp; done) | (simp [*]; done)), (by first | rfl | (simp; done) | (simp [*]; done)), H', ⟨Nat.le_refl _⟩, ⟨by repeat (first | (with_reducible first | exact HB.out | apply below_alloc | apply pw_below_drewN | apply below_drew1) | exact HB.out)⟩⟩
  case round =>
    clear H'
    try clear c1
    try clear p2
    obtain ⟨x5_1, x6_1, x7_1, rfl, rfl, rfl, HA, HK1, HB⟩ := hrel
    cases gk with
    | zero => exact absurd HA.out (by simp [oxbowlaw07_DigestPieces.l0])
    | succ k1 =>
      have H := HA.out
      clear HA
      simp only [oxbowlaw07_DigestPieces.l0] at H
      by_cases c4 : x7_1 < (l1.length : Int)
      · rw [if_pos c4] at H
        have c4b0 : decide (x7_1 < (l1.length : Int)) = true := decide_eq_true c4
        clear c4
        by_cases c5 : 0 ≤ x7_1
        · rw [if_pos c5] at H
          have c5b0 : decide (0 ≤ x7_1) = true := decide_eq_true c5
          clear c5
          by_cases c6 : (rd l1 x7_1) > x6_1
          · rw [if_pos c6] at H
            have c6b0 : decide (x6_1 < (rd l1 x7_1)) = true := decide_eq_true c6
            clear c6
            by_cases c7 : (rd l1 x7_1) ≤ (a0.size : Int)
            · rw [if_pos c7] at H
              have c7b0 : decide ((rd l1 x7_1) ≤ (a0.size : Int)) = true := decide_eq_true c7
              clear c7
              by_cases c8 : 0 ≤ x6_1
              · rw [if_pos c8] at H
                have c8b0 := eq_true c8
                have c8b1 : decide (0 ≤ x6_1) = true := decide_eq_true c8
                clear c8
                by_cases c9 : x6_1 ≤ (rd l1 x7_1)
                · rw [if_pos c9] at H
                  have c9b0 := eq_true c9
                  have c9b1 : decide (x6_1 ≤ (rd l1 x7_1)) = true := decide_eq_true c9
                  clear c9
                  have c10b0 := eq_true (of_decide_eq_true (by first | (with_reducible assumption) | assumption) : (rd l1 x7_1) ≤ (a0.size : Int))
                  replace H := Option.bind_eq_some_iff.mp H
                  obtain ⟨t121, A110, H⟩ := H
                  replace H : (oxbowlaw07_DigestPieces.l0 k1 a0 l1 t121 (rd l1 x7_1) (wrap64 (x7_1 + 1))) = some r := H
                  have A11 := Aside0.mk A110
                  clear A110
                  have H' := Aside0.mk H
                  clear H
                  have p118 : 0 ≤ (x7_1 : Int) := of_decide_eq_true (by first | (with_reducible assumption) | assumption)
                  have q118 : x7_1 < (l1.length : Int) := of_decide_eq_true (by first | (with_reducible assumption) | assumption)
                  obtain ⟨ad118, e118, hx118_0⟩ := Kd.at_int HR1.out x7_1 p118 q118
                  cases e118
                  replace hx118_0 := (HB.out.cell (World.block_lt_of_cell? w _ hx118_0)).trans hx118_0
                  replace p118 := eq_true p118
                  replace q118 := eq_true q118
                  have p119 : 0 ≤ (x7_1 : Int) := of_decide_eq_true (by first | (with_reducible assumption) | assumption)
                  have q119 : x7_1 < (l1.length : Int) := of_decide_eq_true (by first | (with_reducible assumption) | assumption)
                  obtain ⟨ad119, e119, hx119_0⟩ := Kd.at_int HR1.out x7_1 p119 q119
                  obtain rfl : ad118 = ad119 := (by injection e119)
                  replace hx119_0 := (HB.out.cell (World.block_lt_of_cell? w _ hx119_0)).trans hx119_0
                  replace p119 := eq_true p119
                  replace q119 := eq_true q119
                  have p120 : 0 ≤ (x7_1 : Int) := of_decide_eq_true (by first | (with_reducible assumption) | assumption)
                  have q120 : x7_1 < (l1.length : Int) := of_decide_eq_true (by first | (with_reducible assumption) | assumption)
                  obtain ⟨ad120, e120, hx120_0⟩ := Kd.at_int HR1.out x7_1 p120 q120
                  obtain rfl : ad118 = ad120 := (by injection e120)
                  replace hx120_0 := (HB.out.cell (World.block_lt_of_cell? w _ hx120_0)).trans hx120_0
                  replace p120 := eq_true p120
                  replace q120 := eq_true q120
                  go_wp2_with (first | ((with_reducible refine gate_callee (f := 18) rfl ?_); refine goesL_ (some 38) rfl rfl Try.func18 (by kernel_rfl) rfl #[.int .u32 x5_1, .string (a0.extract (x6_1 : Int).toNat ((rd l1 x7_1) : Int).toNat)] rfl (by (try simp only [List.map_toArray, List.map_cons, List.map_nil]); first | done | rfl | (simp only [List.length_drop, List.length_take]; rfl)) ?_; (with_reducible refine (digest_Extend.calls k1 x5_1 (a0.extract (x6_1 : Int).toNat ((rd l1 x7_1) : Int).toNat) t121 _ A11.out).mono ?_); rintro e w' ⟨rfl, ⟨nd, rfl⟩⟩; refine ⟨_, rfl, ?_⟩; have p122 : 0 ≤ (x7_1 : Int) := of_decide_eq_true (by first | (with_reducible assumption) | assumption); have q122 : x7_1 < (l1.length : Int) := of_decide_eq_true (by first | (with_reducible assumption) | assumption); obtain ⟨ad122, e122, hx122_0⟩ := Kd.at_int HR1.out x7_1 p122 q122; obtain rfl : ad118 = ad122 := (by injection e122); replace hx122_0 := (HB.out.cell (World.block_lt_of_cell? w _ hx122_0)).trans hx122_0; replace p122 := eq_true p122; replace q122 := eq_true q122))
                  go_roundg k1
                  case measure => have := HK1.out; omega
                  case rel => exact ⟨(t121), (rd l1 x7_1), (wrap64 (x7_1 + 1)), (by first | rfl | (simp; done) | (simp [*]; done)), (by first | rfl | (simp; done) | (simp [*]; done)), (by first | rfl | (simp; done) | (simp [*]; done)), H', ⟨by have := HK1.out; omega⟩, ⟨by repeat (first | (with_reducible first | exact HB.out | apply below_alloc | apply pw_below_drewN | apply below_drew1) | exact HB.out)⟩⟩
                · rw [if_neg c9] at H
                  exact absurd H (by simp)
              · rw [if_neg c8] at H
                exact absurd H (by simp)
            · rw [if_neg c7] at H
              have c7b0 : decide ((rd l1 x7_1) ≤ (a0.size : Int)) = false := decide_eq_false c7
              clear c7
              have H' := Aside0.mk H
              clear H
              have p118 : 0 ≤ (x7_1 : Int) := of_decide_eq_true (by first | (with_reducible assumption) | assumption)
              have q118 : x7_1 < (l1.length : Int) := of_decide_eq_true (by first | (with_reducible assumption) | assumption)
              obtain ⟨ad118, e118, hx118_0⟩ := Kd.at_int HR1.out x7_1 p118 q118
              cases e118
              replace hx118_0 := (HB.out.cell (World.block_lt_of_cell? w _ hx118_0)).trans hx118_0
              replace p118 := eq_true p118
              replace q118 := eq_true q118
              have p119 : 0 ≤ (x7_1 : Int) := of_decide_eq_true (by first | (with_reducible assumption) | assumption)
              have q119 : x7_1 < (l1.length : Int) := of_decide_eq_true (by first | (with_reducible assumption) | assumption)
              obtain ⟨ad119, e119, hx119_0⟩ := Kd.at_int HR1.out x7_1 p119 q119
              obtain rfl : ad118 = ad119 := (by injection e119)
              replace hx119_0 := (HB.out.cell (World.block_lt_of_cell? w _ hx119_0)).trans hx119_0
              replace p119 := eq_true p119
              replace q119 := eq_true q119
              go_wp2
              go_roundg k1
              case measure => have := HK1.out; omega
              case rel => exact ⟨(x5_1), (x6_1), (wrap64 (x7_1 + 1)), (by first | rfl | (simp; done) | (simp [*]; done)), (by first | rfl | (simp; done) | (simp [*]; done)), (by first | rfl | (simp; done) | (simp [*]; done)), H', ⟨by have := HK1.out; omega⟩, ⟨by repeat (first | (with_reducible first | exact HB.out | apply below_alloc | apply pw_below_drewN | apply below_drew1) | exact HB.out)⟩⟩
          · rw [if_neg c6] at H
            have c6b0 : decide (x6_1 < (rd l1 x7_1)) = false := decide_eq_false c6
            clear c6
            have H' := Aside0.mk H
            clear H
            have p118 : 0 ≤ (x7_1 : Int) := of_decide_eq_true (by first | (with_reducible assumption) | assumption)
            have q118 : x7_1 < (l1.length : Int) := of_decide_eq_true (by first | (with_reducible assumption) | assumption)
            obtain ⟨ad118, e118, hx118_0⟩ := Kd.at_int HR1.out x7_1 p118 q118
            cases e118
            replace hx118_0 := (HB.out.cell (World.block_lt_of_cell? w _ hx118_0)).trans hx118_0
            replace p118 := eq_true p118
            replace q118 := eq_true q118
            go_wp2
            go_roundg k1
            case measure => have := HK1.out; omega
            case rel => exact ⟨(x5_1), (x6_1), (wrap64 (x7_1 + 1)), (by first | rfl | (simp; done) | (simp [*]; done)), (by first | rfl | (simp; done) | (simp [*]; done)), (by first | rfl | (simp; done) | (simp [*]; done)), H', ⟨by have := HK1.out; omega⟩, ⟨by repeat (first | (with_reducible first | exact HB.out | apply below_alloc | apply pw_below_drewN | apply below_drew1) | exact HB.out)⟩⟩
        · rw [if_neg c5] at H
          exact absurd H (by simp)
      · rw [if_neg c4] at H
        have c4b0 : decide (x7_1 < (l1.length : Int)) = false := decide_eq_false c4
        clear c4
        replace H := Option.bind_eq_some_iff.mp H
        obtain ⟨t123, A120, H⟩ := H
        replace H : (if t123 = true then (if 0 ≤ x6_1 then (if x6_1 ≤ (a0.size : Int) then ((digest_Extend.f k1 x5_1 (a0.extract (x6_1 : Int).toNat a0.size)).bind fun t124 => ((digest_Sum.f k1 a0).bind fun t125 => (some (t124 == t125)))) else (none)) else (none)) else (some false)) = some r := H
        have A12 := Aside0.mk A120
        clear A120
        by_cases c13 : t123 = true
        · subst c13
          have H1 : (if 0 ≤ x6_1 then (if x6_1 ≤ (a0.size : Int) then ((digest_Extend.f k1 x5_1 (a0.extract (x6_1 : Int).toNat a0.size)).bind fun t124 => ((digest_Sum.f k1 a0).bind fun t125 => (some (t124 == t125)))) else (none)) else (none)) = some r := by rw [if_pos rfl] at H; exact H
          clear H
          have H := H1
          clear H1
          by_cases c14 : 0 ≤ x6_1
          · rw [if_pos c14] at H
            have c14b0 := eq_true c14
            have c14b1 : decide (0 ≤ x6_1) = true := decide_eq_true c14
            clear c14
            by_cases c15 : x6_1 ≤ (a0.size : Int)
            · rw [if_pos c15] at H
              have c15b0 := eq_true c15
              have c15b1 : decide (x6_1 ≤ (a0.size : Int)) = true := decide_eq_true c15
              clear c15
              replace H := Option.bind_eq_some_iff.mp H
              obtain ⟨t124, A160, H⟩ := H
              replace H : ((digest_Sum.f k1 a0).bind fun t125 => (some (t124 == t125))) = some r := H
              have A16 := Aside0.mk A160
              clear A160
              replace H := Option.bind_eq_some_iff.mp H
              obtain ⟨t125, A170, H⟩ := H
              replace H : (some (t124 == t125)) = some r := H
              have A17 := Aside0.mk A170
              clear A170
              obtain rfl := Option.some.inj H
              go_wp2_with (first | ((with_reducible refine gate_callee (f := 15) rfl ?_); refine goesL_ (some 43) rfl rfl Try.func15 (by kernel_rfl) rfl #[] rfl (by (try simp only [List.map_toArray, List.map_cons, List.map_nil]); first | done | rfl | (simp only [List.length_drop, List.length_take]; rfl)) ?_; (with_reducible refine (oxbowlaw07_live.calls k1  true _ A12.out).mono ?_); rintro e w18 ⟨rfl, hb⟩; refine ⟨_, rfl, ?_⟩; have n0_ := Aside0.mk (below_step (by repeat (first | (with_reducible first | exact HB.out | apply below_alloc | apply pw_below_drewN | apply below_drew1) | exact HB.out)) hb); clear HB; have HB := n0_; clear n0_; (try clear hb); (try clear hb2); (try clear hk); (try clear hi)) | (go_at_call 18; (with_reducible refine (digest_Extend.calls k1 x5_1 (a0.extract (x6_1 : Int).toNat a0.size) t124 _ A16.out).mono ?_); rintro e w' ⟨rfl, ⟨nd, rfl⟩⟩) | (go_at_call 16; (with_reducible refine (digest_Sum.calls k1 a0 t125 _ A17.out).mono ?_); rintro e w' ⟨rfl, ⟨nd, rfl⟩⟩))
              go_ret
              exact ⟨by first | rfl | (simp [errW_none, errW_some] <;> rfl) | (simp [*, errW_none, errW_some] <;> rfl), by repeat (first | (with_reducible first | exact HB.out | apply below_alloc | apply pw_below_drewN | apply below_drew1) | exact HB.out)⟩
            · rw [if_neg c15] at H
              exact absurd H (by simp)
          · rw [if_neg c14] at H
            exact absurd H (by simp)
        · replace c13 := Bool.eq_false_iff.mpr c13
          subst c13
          have H1 : (some false) = some r := by rw [if_neg (show ¬ (false = true) by decide)] at H; exact H
          clear H
          have H := H1
          clear H1
          obtain rfl := Option.some.inj H
          go_wp2_with (first | ((with_reducible refine gate_callee (f := 15) rfl ?_); refine goesL_ (some 43) rfl rfl Try.func15 (by kernel_rfl) rfl #[] rfl (by (try simp only [List.map_toArray, List.map_cons, List.map_nil]); first | done | rfl | (simp only [List.length_drop, List.length_take]; rfl)) ?_; (with_reducible refine (oxbowlaw07_live.calls k1  false _ A12.out).mono ?_); rintro e w19 ⟨rfl, hb⟩; refine ⟨_, rfl, ?_⟩; have n0_ := Aside0.mk (below_step (by repeat (first | (with_reducible first | exact HB.out | apply below_alloc | apply pw_below_drewN | apply below_drew1) | exact HB.out)) hb); clear HB; have HB := n0_; clear n0_; (try clear hb); (try clear hb2); (try clear hk); (try clear hi)))
          go_ret
          exact ⟨by first | rfl | (simp [errW_none, errW_some] <;> rfl) | (simp [*, errW_none, errW_some] <;> rfl), by repeat (first | (with_reducible first | exact HB.out | apply below_alloc | apply pw_below_drewN | apply below_drew1) | exact HB.out)⟩

/-- THE ONE PURE STATEMENT of oxbowlaw07_DigestPieces: yours. -/
def oxbowlaw07_DigestPieces.Pure : Prop := ∀ (a0 : ByteArray) (l1 : List Int), a0.size ≤ 140737488351232 → l1.length ≤ maxLen → l1.length * 8 ≤ 140737488351232 → (∀ x ∈ l1, (Lit.int .i64 x).wf = true) → ∃ k, oxbowlaw07_DigestPieces.f k a0 l1 = some true
theorem oxbowlaw07_DigestPieces.walk (P : oxbowlaw07_DigestPieces.Pure) (a0 : ByteArray) (a1 : Option Addr) (len1 cap1 : Nat) (z1 : List Int) (w : World) (w0 : a0.size ≤ 140737488351232) (w1 : (a1 = none ∧ len1 = 0 ∧ cap1 = 0 ∧ z1 = []) ∨ ∃ x, a1 = some x ∧ len1 ≤ cap1 ∧ cap1 ≤ maxLen ∧ z1.length = cap1 ∧ (∀ i, i < z1.length → w.cell? (x.add i) = some (.int .i64 (z1.getD i 0))) ∧ ∀ n ∈ z1, (Lit.int .i64 n).wf = true) (y1 : len1 * 8 ≤ 140737488351232) :
    Calls Try.prog 4 #[.string a0, .slice a1 len1 cap1] w fun e w' => e = .returned (.bool true) ∧ Below w.heap.size w w' := by
  obtain ⟨l1, rfl, hr1, hm1, hw1, hc1⟩ := ReadsInt.ofRowC w1
  obtain ⟨k, h⟩ := P a0 l1 w0 hm1 y1 hw1
  refine (oxbowlaw07_DigestPieces.calls k a0 _ _ l1 true w (Kd.C_of_reads (d := (0 : Int)) (h1 := fun _ => rfl) hr1) hc1 h).mono ?_
  rintro e w' ⟨rfl, hd⟩
  exact ⟨rfl, hd⟩

-- NOT PRINTED: function 5 (oxbowlaw07_DigestApart)

/-! ### oxbowlaw07_DigestMeets: function 6 -/
def oxbowlaw07_DigestMeets.f (k : Nat) (a0 : ByteArray) : Option (Bool) := (oxbowlaw07_live.f k).bind fun t129 => (if t129 = true then (if 10 + a0.size ≤ 9223372036854775807 then ((digest_Sum.f k ((⟨#[99, 111, 115, 116, 97, 114, 114, 105, 110, 103]⟩ : ByteArray) ++ a0)).bind fun t130 => (if 6 + a0.size ≤ 9223372036854775807 then ((digest_Sum.f k ((⟨#[108, 105, 113, 117, 105, 100]⟩ : ByteArray) ++ a0)).bind fun t131 => (if t130 = t131 then (if 9 + a0.size ≤ 9223372036854775807 then ((digest_Sum.f k ((⟨#[100, 101, 99, 108, 105, 110, 97, 116, 101]⟩ : ByteArray) ++ a0)).bind fun t132 => ((digest_Sum.f k ((⟨#[109, 97, 99, 97, 108, 108, 117, 109, 115]⟩ : ByteArray) ++ a0)).bind fun t133 => (some (t132 == t133)))) else (none)) else (some false))) else (none))) else (none)) else (some false))
theorem oxbowlaw07_DigestMeets.mono : ∀ a0 k, LeO (oxbowlaw07_DigestMeets.f k a0) (oxbowlaw07_DigestMeets.f (k + 1) a0) := by
  intro a0 k
  unfold oxbowlaw07_DigestMeets.f
  repeat' first
      | (with_reducible exact digest_Sum.mono _ _)
      | (with_reducible exact oxbowlaw07_live.mono _)
      | (with_reducible exact LeO.refl _)
      | (with_reducible exact LeO.none _)
      | (with_reducible refine LeO.ite ?_ ?_)
      | (with_reducible refine LeO.bind ?_ (fun _ => ?_))
      | exact digest_Sum.mono _ _
      | exact oxbowlaw07_live.mono _
      | exact LeO.none _
      | refine LeO.ite ?_ ?_
      | refine LeO.bind ?_ (fun _ => ?_)
set_option maxHeartbeats 8000000 in
set_option maxRecDepth 100000 in
theorem oxbowlaw07_DigestMeets.calls (k : Nat) (a0 : ByteArray) (r : Bool) (w : World) (h : oxbowlaw07_DigestMeets.f k a0 = some r) :
    Calls Try.prog 6 #[.string a0] w fun e w' => e = .returned (.bool r) ∧ Below w.heap.size w w' := by
  have HB := Aside0.mk (Below.refl w.heap.size w)
  have H : ((oxbowlaw07_live.f k).bind fun t129 => (if t129 = true then (if 10 + a0.size ≤ 9223372036854775807 then ((digest_Sum.f k ((⟨#[99, 111, 115, 116, 97, 114, 114, 105, 110, 103]⟩ : ByteArray) ++ a0)).bind fun t130 => (if 6 + a0.size ≤ 9223372036854775807 then ((digest_Sum.f k ((⟨#[108, 105, 113, 117, 105, 100]⟩ : ByteArray) ++ a0)).bind fun t131 => (if t130 = t131 then (if 9 + a0.size ≤ 9223372036854775807 then ((digest_Sum.f k ((⟨#[100, 101, 99, 108, 105, 110, 97, 116, 101]⟩ : ByteArray) ++ a0)).bind fun t132 => ((digest_Sum.f k ((⟨#[109, 97, 99, 97, 108, 108, 117, 109, 115]⟩ : ByteArray) ++ a0)).bind fun t133 => (some (t132 == t133)))) else (none)) else (some false))) else (none))) else (none)) else (some false))) = some r := h
  clear h
  replace H := Option.bind_eq_some_iff.mp H
  obtain ⟨t129, A20, H⟩ := H
  replace H : (if t129 = true then (if 10 + a0.size ≤ 9223372036854775807 then ((digest_Sum.f k ((⟨#[99, 111, 115, 116, 97, 114, 114, 105, 110, 103]⟩ : ByteArray) ++ a0)).bind fun t130 => (if 6 + a0.size ≤ 9223372036854775807 then ((digest_Sum.f k ((⟨#[108, 105, 113, 117, 105, 100]⟩ : ByteArray) ++ a0)).bind fun t131 => (if t130 = t131 then (if 9 + a0.size ≤ 9223372036854775807 then ((digest_Sum.f k ((⟨#[100, 101, 99, 108, 105, 110, 97, 116, 101]⟩ : ByteArray) ++ a0)).bind fun t132 => ((digest_Sum.f k ((⟨#[109, 97, 99, 97, 108, 108, 117, 109, 115]⟩ : ByteArray) ++ a0)).bind fun t133 => (some (t132 == t133)))) else (none)) else (some false))) else (none))) else (none)) else (some false)) = some r := H
  have A2 := Aside0.mk A20
  clear A20
  by_cases c3 : t129 = true
  · subst c3
    have H1 : (if 10 + a0.size ≤ 9223372036854775807 then ((digest_Sum.f k ((⟨#[99, 111, 115, 116, 97, 114, 114, 105, 110, 103]⟩ : ByteArray) ++ a0)).bind fun t130 => (if 6 + a0.size ≤ 9223372036854775807 then ((digest_Sum.f k ((⟨#[108, 105, 113, 117, 105, 100]⟩ : ByteArray) ++ a0)).bind fun t131 => (if t130 = t131 then (if 9 + a0.size ≤ 9223372036854775807 then ((digest_Sum.f k ((⟨#[100, 101, 99, 108, 105, 110, 97, 116, 101]⟩ : ByteArray) ++ a0)).bind fun t132 => ((digest_Sum.f k ((⟨#[109, 97, 99, 97, 108, 108, 117, 109, 115]⟩ : ByteArray) ++ a0)).bind fun t133 => (some (t132 == t133)))) else (none)) else (some false))) else (none))) else (none)) = some r := by rw [if_pos rfl] at H; exact H
    clear H
    have H := H1
    clear H1
    by_cases c4 : 10 + a0.size ≤ 9223372036854775807
    · rw [if_pos c4] at H
      have c4b0 := eq_true c4
      have c4b1 : decide (10 + a0.size ≤ 9223372036854775807) = true := decide_eq_true c4
      try have c4b2 : (9223372036854775807 < 10 + a0.size) = False := eq_false (Nat.not_lt.2 c4)
      replace H := Option.bind_eq_some_iff.mp H
      obtain ⟨t130, A50, H⟩ := H
      replace H : (if 6 + a0.size ≤ 9223372036854775807 then ((digest_Sum.f k ((⟨#[108, 105, 113, 117, 105, 100]⟩ : ByteArray) ++ a0)).bind fun t131 => (if t130 = t131 then (if 9 + a0.size ≤ 9223372036854775807 then ((digest_Sum.f k ((⟨#[100, 101, 99, 108, 105, 110, 97, 116, 101]⟩ : ByteArray) ++ a0)).bind fun t132 => ((digest_Sum.f k ((⟨#[109, 97, 99, 97, 108, 108, 117, 109, 115]⟩ : ByteArray) ++ a0)).bind fun t133 => (some (t132 == t133)))) else (none)) else (some false))) else (none)) = some r := H
      have A5 := Aside0.mk A50
      clear A50
      by_cases c6 : 6 + a0.size ≤ 9223372036854775807
      · rw [if_pos c6] at H
        have c6b0 := eq_true c6
        have c6b1 : decide (6 + a0.size ≤ 9223372036854775807) = true := decide_eq_true c6
        try have c6b2 : (9223372036854775807 < 6 + a0.size) = False := eq_false (Nat.not_lt.2 c6)
        replace H := Option.bind_eq_some_iff.mp H
        obtain ⟨t131, A70, H⟩ := H
        replace H : (if t130 = t131 then (if 9 + a0.size ≤ 9223372036854775807 then ((digest_Sum.f k ((⟨#[100, 101, 99, 108, 105, 110, 97, 116, 101]⟩ : ByteArray) ++ a0)).bind fun t132 => ((digest_Sum.f k ((⟨#[109, 97, 99, 97, 108, 108, 117, 109, 115]⟩ : ByteArray) ++ a0)).bind fun t133 => (some (t132 == t133)))) else (none)) else (some false)) = some r := H
        have A7 := Aside0.mk A70
        clear A70
        by_cases c8 : t130 = t131
        · rw [if_pos c8] at H
          have c8b0 : (t130 == t131) = true := beq_iff_eq.mpr c8
          have c8b1 : (t130 != t131) = false := bne_eq_false_iff_eq.mpr c8
          clear c8
          by_cases c9 : 9 + a0.size ≤ 9223372036854775807
          · rw [if_pos c9] at H
            have c9b0 := eq_true c9
            have c9b1 : decide (9 + a0.size ≤ 9223372036854775807) = true := decide_eq_true c9
            try have c9b2 : (9223372036854775807 < 9 + a0.size) = False := eq_false (Nat.not_lt.2 c9)
            replace H := Option.bind_eq_some_iff.mp H
            obtain ⟨t132, A100, H⟩ := H
            replace H : ((digest_Sum.f k ((⟨#[109, 97, 99, 97, 108, 108, 117, 109, 115]⟩ : ByteArray) ++ a0)).bind fun t133 => (some (t132 == t133))) = some r := H
            have A10 := Aside0.mk A100
            clear A100
            replace H := Option.bind_eq_some_iff.mp H
            obtain ⟨t133, A110, H⟩ := H
            replace H : (some (t132 == t133)) = some r := H
            have A11 := Aside0.mk A110
            clear A110
            obtain rfl := Option.some.inj H
            go_enter Try.func6, Try.ntmps6
            go_wp2_with (first | ((with_reducible refine gate_callee (f := 15) rfl ?_); refine goesL_ (some 3) rfl rfl Try.func15 (by kernel_rfl) rfl #[] rfl (by (try simp only [List.map_toArray, List.map_cons, List.map_nil]); first | done | rfl | (simp only [List.length_drop, List.length_take]; rfl)) ?_; (with_reducible refine (oxbowlaw07_live.calls k  true _ A2.out).mono ?_); rintro e w12 ⟨rfl, hb⟩; refine ⟨_, rfl, ?_⟩; have n0_ := Aside0.mk (below_step (by repeat (first | (with_reducible first | exact HB.out | apply below_alloc | apply pw_below_drewN | apply below_drew1) | exact HB.out)) hb); clear HB; have HB := n0_; clear n0_; (try clear hb); (try clear hb2); (try clear hk); (try clear hi)) | (go_at_call 16; (with_reducible refine (digest_Sum.calls k ((⟨#[99, 111, 115, 116, 97, 114, 114, 105, 110, 103]⟩ : ByteArray) ++ a0) t130 _ A5.out).mono ?_); rintro e w' ⟨rfl, ⟨nd, rfl⟩⟩) | (go_at_call 16; (with_reducible refine (digest_Sum.calls k ((⟨#[108, 105, 113, 117, 105, 100]⟩ : ByteArray) ++ a0) t131 _ A7.out).mono ?_); rintro e w' ⟨rfl, ⟨nd, rfl⟩⟩) | (go_at_call 16; (with_reducible refine (digest_Sum.calls k ((⟨#[100, 101, 99, 108, 105, 110, 97, 116, 101]⟩ : ByteArray) ++ a0) t132 _ A10.out).mono ?_); rintro e w' ⟨rfl, ⟨nd, rfl⟩⟩) | (go_at_call 16; (with_reducible refine (digest_Sum.calls k ((⟨#[109, 97, 99, 97, 108, 108, 117, 109, 115]⟩ : ByteArray) ++ a0) t133 _ A11.out).mono ?_); rintro e w' ⟨rfl, ⟨nd, rfl⟩⟩))
            go_ret
            exact ⟨by first | rfl | (simp [errW_none, errW_some] <;> rfl) | (simp [*, errW_none, errW_some] <;> rfl), by repeat (first | (with_reducible first | exact HB.out | apply below_alloc | apply pw_below_drewN | apply below_drew1) | exact HB.out)⟩
          · rw [if_neg c9] at H
            exact absurd H (by simp)
        · rw [if_neg c8] at H
          have c8b0 : (t130 == t131) = false := beq_eq_false_iff_ne.mpr c8
          have c8b1 : (t130 != t131) = true := bne_iff_ne.mpr c8
          obtain rfl := Option.some.inj H
          go_enter Try.func6, Try.ntmps6
          go_wp2_with (first | ((with_reducible refine gate_callee (f := 15) rfl ?_); refine goesL_ (some 3) rfl rfl Try.func15 (by kernel_rfl) rfl #[] rfl (by (try simp only [List.map_toArray, List.map_cons, List.map_nil]); first | done | rfl | (simp only [List.length_drop, List.length_take]; rfl)) ?_; (with_reducible refine (oxbowlaw07_live.calls k  true _ A2.out).mono ?_); rintro e w13 ⟨rfl, hb⟩; refine ⟨_, rfl, ?_⟩; have n0_ := Aside0.mk (below_step (by repeat (first | (with_reducible first | exact HB.out | apply below_alloc | apply pw_below_drewN | apply below_drew1) | exact HB.out)) hb); clear HB; have HB := n0_; clear n0_; (try clear hb); (try clear hb2); (try clear hk); (try clear hi)) | (go_at_call 16; (with_reducible refine (digest_Sum.calls k ((⟨#[99, 111, 115, 116, 97, 114, 114, 105, 110, 103]⟩ : ByteArray) ++ a0) t130 _ A5.out).mono ?_); rintro e w' ⟨rfl, ⟨nd, rfl⟩⟩) | (go_at_call 16; (with_reducible refine (digest_Sum.calls k ((⟨#[108, 105, 113, 117, 105, 100]⟩ : ByteArray) ++ a0) t131 _ A7.out).mono ?_); rintro e w' ⟨rfl, ⟨nd, rfl⟩⟩))
          go_ret
          exact ⟨by first | rfl | (simp [errW_none, errW_some] <;> rfl) | (simp [*, errW_none, errW_some] <;> rfl), by repeat (first | (with_reducible first | exact HB.out | apply below_alloc | apply pw_below_drewN | apply below_drew1) | exact HB.out)⟩
      · rw [if_neg c6] at H
        exact absurd H (by simp)
    · rw [if_neg c4] at H
      exact absurd H (by simp)
  · replace c3 := Bool.eq_false_iff.mpr c3
    subst c3
    have H1 : (some false) = some r := by rw [if_neg (show ¬ (false = true) by decide)] at H; exact H
    clear H
    have H := H1
    clear H1
    obtain rfl := Option.some.inj H
    go_enter Try.func6, Try.ntmps6
    go_wp2_with (first | ((with_reducible refine gate_callee (f := 15) rfl ?_); refine goesL_ (some 3) rfl rfl Try.func15 (by kernel_rfl) rfl #[] rfl (by (try simp only [List.map_toArray, List.map_cons, List.map_nil]); first | done | rfl | (simp only [List.length_drop, List.length_take]; rfl)) ?_; (with_reducible refine (oxbowlaw07_live.calls k  false _ A2.out).mono ?_); rintro e w14 ⟨rfl, hb⟩; refine ⟨_, rfl, ?_⟩; have n0_ := Aside0.mk (below_step (by repeat (first | (with_reducible first | exact HB.out | apply below_alloc | apply pw_below_drewN | apply below_drew1) | exact HB.out)) hb); clear HB; have HB := n0_; clear n0_; (try clear hb); (try clear hb2); (try clear hk); (try clear hi)))
    go_ret
    exact ⟨by first | rfl | (simp [errW_none, errW_some] <;> rfl) | (simp [*, errW_none, errW_some] <;> rfl), by repeat (first | (with_reducible first | exact HB.out | apply below_alloc | apply pw_below_drewN | apply below_drew1) | exact HB.out)⟩

/-- THE ONE PURE STATEMENT of oxbowlaw07_DigestMeets: yours. -/
def oxbowlaw07_DigestMeets.Pure : Prop := ∀ (a0 : ByteArray), a0.size ≤ 140737488351232 → ∃ k, oxbowlaw07_DigestMeets.f k a0 = some true
theorem oxbowlaw07_DigestMeets.walk (P : oxbowlaw07_DigestMeets.Pure) (a0 : ByteArray) (w : World) (w0 : a0.size ≤ 140737488351232) :
    Calls Try.prog 6 #[.string a0] w fun e w' => e = .returned (.bool true) ∧ Below w.heap.size w w' := by
  obtain ⟨k, h⟩ := P a0 w0
  refine (oxbowlaw07_DigestMeets.calls k a0 true w h).mono ?_
  rintro e w' ⟨rfl, hd⟩
  exact ⟨rfl, hd⟩

end Go.Proofs.Ytknbccaineblpaa.HDig
