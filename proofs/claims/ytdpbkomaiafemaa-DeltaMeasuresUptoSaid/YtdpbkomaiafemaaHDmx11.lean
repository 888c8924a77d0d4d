-- Written by hprint.py over the kit's print.py; contracts of some functions by hand.
import Derived.Test.YtdpbkomaiafemaaHDmx0
import Derived.Test.YtdpbkomaiafemaaHDmx10
namespace Go.Proofs.Ytdpbkomaiafemaa.HDm
open Go.RowKit Go.Proofs.YtdpbkomaiafemaaW.PrintWords Go.Proofs.YtdpbkomaiafemaaW.PrintLast Go.Proofs.YtdpbkomaiafemaaW.PrintMore
attribute [local go_sem] max2_int min2_int max_two min_two max_three min_three max_four min_four   -- for this text's walks alone
set_option linter.unusedVariables false
set_option linter.unusedSimpArgs false

/-! ### oxbowref09_Built: function 45 -/
mutual
def oxbowref09_Built.l0 : Nat → List (S36) → ByteArray → Int → Int → List ByteArray → List Bool → Option ((List (S36)))
 | 0, _, _, _, _, _, _ => none
 | k + 1, x3, x4, x5, x6, x220000, x220001 => if x6 ≤ (x220001.length : Int) then (if 0 ≤ x6 then (if x6 < (x220000.length : Int) then (if x4.size + (rdOf ByteArray.empty x220000 x6).size ≤ 9223372036854775807 then (if x6 < (x220001.length : Int) then (oxbowref09_Built.j1 k x3 (x4 ++ (rdOf ByteArray.empty x220000 x6)) x5 x6 (rdOf false x220001 x6) x220000 x220001) else (oxbowref09_Built.j1 k x3 (x4 ++ (rdOf ByteArray.empty x220000 x6)) x5 x6 false x220000 x220001)) else (none)) else (none)) else (none)) else (some x3)
def oxbowref09_Built.j1 : Nat → List (S36) → ByteArray → Int → Int → Bool → List ByteArray → List Bool → Option ((List (S36)))
 | 0, _, _, _, _, _, _, _ => none
 | k + 1, x3, x4, x5, x6, x32, x220000, x220001 => if x32 = true then (oxbowref09_Built.l0 k x3 x4 (wrap64 (x5 + 1)) (wrap64 (x6 + 1)) x220000 x220001) else (if x4.toList = ([] : List UInt8) then (oxbowref09_Built.j2 k x3 x5 x6 x220000 x220001) else ((oxbowref09_put.f x3 2 0 x4).bind fun t222 => (oxbowref09_Built.j2 k t222 x5 x6 x220000 x220001)))
def oxbowref09_Built.j2 : Nat → List (S36) → Int → Int → List ByteArray → List Bool → Option ((List (S36)))
 | 0, _, _, _, _, _ => none
 | k + 1, x3, x5, x6, x220000, x220001 => if x5 > 0 then ((oxbowref09_put.f x3 3 x5 (⟨#[]⟩ : ByteArray)).bind fun t225 => (if x6 < (x220001.length : Int) then ((oxbowref09_put.f t225 1 1 (⟨#[]⟩ : ByteArray)).bind fun t228 => (oxbowref09_Built.l0 k t228 (⟨#[]⟩ : ByteArray) 0 (wrap64 (x6 + 1)) x220000 x220001)) else (oxbowref09_Built.l0 k t225 (⟨#[]⟩ : ByteArray) 0 (wrap64 (x6 + 1)) x220000 x220001))) else (if x6 < (x220001.length : Int) then ((oxbowref09_put.f x3 1 1 (⟨#[]⟩ : ByteArray)).bind fun t231 => (oxbowref09_Built.l0 k t231 (⟨#[]⟩ : ByteArray) 0 (wrap64 (x6 + 1)) x220000 x220001)) else (oxbowref09_Built.l0 k x3 (⟨#[]⟩ : ByteArray) 0 (wrap64 (x6 + 1)) x220000 x220001))
end
def oxbowref09_Built.f (k : Nat) (l0_0 : List ByteArray) (l0_1 : List Bool) : Option ((List (S36))) := oxbowref09_Built.l0 k ([] : List (S36)) (⟨#[]⟩ : ByteArray) 0 0 l0_0 l0_1
theorem oxbowref09_Built.mono_l : ∀ k, (∀ y0 y1 y2 y3 y4 y5, LeO (oxbowref09_Built.l0 k y0 y1 y2 y3 y4 y5) (oxbowref09_Built.l0 (k + 1) y0 y1 y2 y3 y4 y5)) ∧ (∀ y0 y1 y2 y3 y4 y5 y6, LeO (oxbowref09_Built.j1 k y0 y1 y2 y3 y4 y5 y6) (oxbowref09_Built.j1 (k + 1) y0 y1 y2 y3 y4 y5 y6)) ∧ (∀ y0 y1 y2 y3 y4, LeO (oxbowref09_Built.j2 k y0 y1 y2 y3 y4) (oxbowref09_Built.j2 (k + 1) y0 y1 y2 y3 y4))
 | 0 => ⟨fun _ _ _ _ _ _ r h => by simp [oxbowref09_Built.l0] at h, fun _ _ _ _ _ _ _ r h => by simp [oxbowref09_Built.j1] at h, fun _ _ _ _ _ r h => by simp [oxbowref09_Built.j2] at h⟩
 | k + 1 => by
  obtain ⟨ih0, ih1, ih2⟩ := oxbowref09_Built.mono_l k
  refine ⟨?_, ?_, ?_⟩
  ·intro y0 y1 y2 y3 y4 y5
   unfold oxbowref09_Built.l0
   repeat' first
   | (with_reducible exact ih0 _ _ _ _ _ _)
   | (with_reducible exact ih1 _ _ _ _ _ _ _)
   | (with_reducible exact ih2 _ _ _ _ _)
   | (with_reducible exact LeO.refl _)
   | (with_reducible exact LeO.none _)
   | (with_reducible refine LeO.ite ?_ ?_)
   | (with_reducible refine LeO.bind ?_ (fun _ => ?_))
   | exact ih0 _ _ _ _ _ _
   | exact ih1 _ _ _ _ _ _ _
   | exact ih2 _ _ _ _ _
   | exact LeO.none _
   | refine LeO.ite ?_ ?_
   | refine LeO.bind ?_ (fun _ => ?_)
  ·intro y0 y1 y2 y3 y4 y5 y6
   unfold oxbowref09_Built.j1
   repeat' first
   | (with_reducible exact ih0 _ _ _ _ _ _)
   | (with_reducible exact ih1 _ _ _ _ _ _ _)
   | (with_reducible exact ih2 _ _ _ _ _)
   | (with_reducible exact LeO.refl _)
   | (with_reducible exact LeO.none _)
   | (with_reducible refine LeO.ite ?_ ?_)
   | (with_reducible refine LeO.bind ?_ (fun _ => ?_))
   | exact ih0 _ _ _ _ _ _
   | exact ih1 _ _ _ _ _ _ _
   | exact ih2 _ _ _ _ _
   | exact LeO.none _
   | refine LeO.ite ?_ ?_
   | refine LeO.bind ?_ (fun _ => ?_)
  ·intro y0 y1 y2 y3 y4
   unfold oxbowref09_Built.j2
   repeat' first
   | (with_reducible exact ih0 _ _ _ _ _ _)
   | (with_reducible exact ih1 _ _ _ _ _ _ _)
   | (with_reducible exact ih2 _ _ _ _ _)
   | (with_reducible exact LeO.refl _)
   | (with_reducible exact LeO.none _)
   | (with_reducible refine LeO.ite ?_ ?_)
   | (with_reducible refine LeO.bind ?_ (fun _ => ?_))
   | exact ih0 _ _ _ _ _ _
   | exact ih1 _ _ _ _ _ _ _
   | exact ih2 _ _ _ _ _
   | exact LeO.none _
   | refine LeO.ite ?_ ?_
   | refine LeO.bind ?_ (fun _ => ?_)
theorem oxbowref09_Built.mono : ∀ a0 a1 k, LeO (oxbowref09_Built.f k a0 a1) (oxbowref09_Built.f (k + 1) a0 a1) := by
 intro a0 a1 k
 obtain ⟨ih0, ih1, ih2⟩ := oxbowref09_Built.mono_l k
 unfold oxbowref09_Built.f
 repeat' first
   | (with_reducible exact ih0 _ _ _ _ _ _)
   | (with_reducible exact ih1 _ _ _ _ _ _ _)
   | (with_reducible exact ih2 _ _ _ _ _)
   | (with_reducible exact LeO.refl _)
   | (with_reducible exact LeO.none _)
   | (with_reducible refine LeO.ite ?_ ?_)
   | (with_reducible refine LeO.bind ?_ (fun _ => ?_))
   | exact ih0 _ _ _ _ _ _
   | exact ih1 _ _ _ _ _ _ _
   | exact ih2 _ _ _ _ _
   | exact LeO.none _
   | refine LeO.ite ?_ ?_
   | refine LeO.bind ?_ (fun _ => ?_)
set_option maxHeartbeats 8000000 in
set_option maxRecDepth 100000 in
theorem oxbowref09_Built.calls (k : Nat) (A0_0 : Option Addr) (c0_0 : Nat) (l0_0 : List ByteArray) (A0_1 : Option Addr) (c0_1 : Nat) (l0_1 : List Bool) (r : List (S36)) (w : World) (hr0_0 : Kd.C Kd.string w A0_0 l0_0.length l0_0) (hc0_0 : l0_0.length ≤ c0_0) (hr0_1 : Kd.C Kd.bool w A0_1 l0_1.length l0_1) (hc0_1 : l0_1.length ≤ c0_1) (h : oxbowref09_Built.f k l0_0 l0_1 = some r) :
  Calls Try.prog 45 #[.agg #[.slice A0_0 l0_0.length c0_0, .slice A0_1 l0_1.length c0_1]] w fun e w' => ∃ v0_ : Value, e = .returned (v0_) ∧ Kd.R k36 36 w' w.heap.size (fun _ => True) v0_ r ∧ Below w.heap.size w w' := by
 have hu62 := Try.underlying62
 have hu36 := Try.underlying36
 have HR0_0 := Aside0.mk hr0_0
 have HC0_0 := Aside0.mk hc0_0
 clear hr0_0 hc0_0
 have HR0_1 := Aside0.mk hr0_1
 have HC0_1 := Aside0.mk hc0_1
 clear hr0_1 hc0_1
 have HB := Aside0.mk (Below.refl w.heap.size w)
 have H : (oxbowref09_Built.l0 k ([] : List (S36)) (⟨#[]⟩ : ByteArray) 0 0 l0_0 l0_1) = some r := h
 clear h
 have H' := Aside0.mk H
 clear H
 go_enter Try.func45, Try.ntmps45
 go_wp2_with (first | ((with_reducible refine gate_dst (N := 1) rfl ?_); refine box_event ?hg (N := 1) ?hd (cs := #[.slice A0_0 l0_0.length c0_0, .slice A0_1 l0_1.length c0_1]) (t := 62) ?hr ?_; (case hd => rfl); (case hg => rfl); (case hr => first | (go_simp; done) | (go_simp; rfl)); intro gb219 hg w2 hbox hb; have n0_ := Aside0.mk (below_step (by repeat (first | (with_reducible first | exact HB.out | apply below_alloc | apply pw_below_drewN | apply below_drew1) | exact HB.out)) hb); have n1_ := Aside0.mk (hbox); have n2_ := Aside0.mk ((by rw [hg]; exact (below_size (by repeat (first | (with_reducible first | exact HB.out | apply below_alloc | apply pw_below_drewN | apply below_drew1) | exact HB.out))) : w.heap.size ≤ gb219)); have n3_ := Aside0.mk ((by rw [hg]; exact (below_size (by repeat (first | (with_reducible first | exact HB.out | apply below_alloc | apply pw_below_drewN | apply below_drew1) | exact HB.out))) : w.heap.size ≤ gb219)); clear HB; have HB := n0_; have BK219 := n1_; have GW219 := n2_; have GE219 := n3_; clear n0_ n1_ n2_ n3_; clear hb hbox hg))
 go_loopg [3, 4, 5, 6] k (fun kq v3 v4 v5 v6 w' => ∃ (x3_1 : List (S36)) (x4_1 : ByteArray) (x5_1 : Int) (x6_1 : Int), v4 = .string x4_1 ∧ v5 = .int .i64 x5_1 ∧ v6 = .int .i64 x6_1 ∧ Aside0 (oxbowref09_Built.l0 kq x3_1 x4_1 x5_1 x6_1 l0_0 l0_1 = some r) ∧ Aside0 (kq ≤ k) ∧ Aside0 (Kd.R k36 36 w' w.heap.size (fun _ => True) v3 x3_1) ∧ Aside0 (w'.heap[gb219]? = some (.cells #[(.slice A0_0 l0_0.length c0_0), (.slice A0_1 l0_1.length c0_1)] 62 (0, 0))) ∧ Aside0 (Below w.heap.size w w'))
 case atStart => exact ⟨(([] : List (S36))), ((⟨#[]⟩ : ByteArray)), (0), (0), (by first | rfl | (simp; done) | (simp [*]; done) | (simp; (generalize ByteArray.toList _ = l_); cases l_ <;> rfl)), (by first | rfl | (simp; done) | (simp [*]; done) | (simp; (generalize ByteArray.toList _ = l_); cases l_ <;> rfl)), (by first | rfl | (simp; done) | (simp [*]; done) | (simp; (generalize ByteArray.toList _ = l_); cases l_ <;> rfl)), H', ⟨Nat.le_refl _⟩, ⟨by first | exact Kd.R_nil _ _ _ _ _ | exact Kd.N_nil _ _ _ _ _ | exact Kd.V_nil _ _ _ _ _ | exact Kd.Q_nil _ _ _ _ _ | exact Kd.S_nil _ _ _ _ _⟩, ⟨by (with_reducible repeat (first | refine blk_drewN ?_ _ | refine blk_drew ?_ | refine blk_alloc ?_ _)); exact BK219.out⟩, ⟨by repeat (first | (with_reducible first | exact HB.out | apply below_alloc | apply pw_below_drewN | apply below_drew1 | refine below_set ?_ GE219.out) | exact HB.out)⟩⟩
 case round =>
  clear H'
  try clear p2
  obtain ⟨x3_1, x4_1, x5_1, x6_1, rfl, rfl, rfl, HA, HK1, HO_3, BK219, HB⟩ := hrel
  cases gk with
  | zero => exact absurd HA.out (by simp [oxbowref09_Built.l0])
  | succ k1 =>
   have H := HA.out
   clear HA
   simp only [oxbowref09_Built.l0] at H
   by_cases c3 : x6_1 ≤ (l0_1.length : Int)
   ·rw [if_pos c3] at H
    have c3b0 : decide (x6_1 ≤ (l0_1.length : Int)) = true := decide_eq_true c3
    clear c3
    by_cases c4 : 0 ≤ x6_1
    ·rw [if_pos c4] at H
     have c4b0 : decide (0 ≤ x6_1) = true := decide_eq_true c4
     clear c4
     by_cases c5 : x6_1 < (l0_0.length : Int)
     ·rw [if_pos c5] at H
      have c5b0 : decide (x6_1 < (l0_0.length : Int)) = true := decide_eq_true c5
      clear c5
      by_cases c6 : x4_1.size + (rdOf ByteArray.empty l0_0 x6_1).size ≤ 9223372036854775807
      ·rw [if_pos c6] at H
       have c6b0 := eq_true c6
       have c6b1 : decide (x4_1.size + (rdOf ByteArray.empty l0_0 x6_1).size ≤ 9223372036854775807) = true := decide_eq_true c6
       try have c6b2 : (9223372036854775807 < x4_1.size + (rdOf ByteArray.empty l0_0 x6_1).size) = False := eq_false (Nat.not_lt.2 c6)
       have HC7 := Aside0.mk H
       clear H
       have hcz8_0 : wr.cell? ⟨gb219, 0, none⟩ = some (.slice A0_0 l0_0.length c0_0) := (blk_cell BK219.out 0).trans rfl
       have hcz8_1 : wr.cell? ⟨gb219, 1, none⟩ = some (.slice A0_1 l0_1.length c0_1) := (blk_cell BK219.out 1).trans rfl
       have hfz8_0 := blk_frozen BK219.out 0
       have hfz8_1 := blk_frozen BK219.out 1
       have p220 : 0 ≤ (x6_1 : Int) := of_decide_eq_true (by first | (with_reducible assumption) | assumption)
       have q220 : x6_1 < (l0_0.length : Int) := of_decide_eq_true (by first | (with_reducible assumption) | assumption)
       obtain ⟨ad220, e220, hx220_0⟩ := Kd.at_string HR0_0.out x6_1 p220 q220
       cases e220
       replace hx220_0 := (HB.out.cell (World.block_lt_of_cell? w _ hx220_0)).trans hx220_0
       replace p220 := eq_true p220
       replace q220 := eq_true q220
       go_upto_region 8 with (fail)
       go_cut [32] (fun v32 wc => ∃ (kq : Nat) (x32_6 : Bool), v32 = .bool x32_6 ∧ Aside0 (oxbowref09_Built.j1 kq x3_1 (x4_1 ++ (rdOf ByteArray.empty l0_0 x6_1)) x5_1 x6_1 x32_6 l0_0 l0_1 = some r) ∧ Aside0 (kq ≤ k1) ∧ Aside0 (Kd.R k36 36 wc w.heap.size (fun _ => True) u3 x3_1) ∧ Aside0 (wc.heap[gb219]? = some (.cells #[(.slice (some ad220) l0_0.length c0_0), (.slice A0_1 l0_1.length c0_1)] 62 (0, 0))) ∧ Aside0 (Below w.heap.size w wc))
       case first =>
        have H := HC7.out
        clear HC7
        by_cases c9 : x6_1 < (l0_1.length : Int)
        ·rw [if_pos c9] at H
         have c9b0 : decide (x6_1 < (l0_1.length : Int)) = true := decide_eq_true c9
         clear c9
         (first | rw [c9b0] | (simp only [i64_w, i32_w]; rw [c9b0]) | skip)
         have H' := Aside0.mk H
         clear H
         have hcz10_0 : wr.cell? ⟨gb219, 0, none⟩ = some (.slice (some ad220) l0_0.length c0_0) := (blk_cell BK219.out 0).trans rfl
         have hcz10_1 : wr.cell? ⟨gb219, 1, none⟩ = some (.slice A0_1 l0_1.length c0_1) := (blk_cell BK219.out 1).trans rfl
         have hfz10_0 := blk_frozen BK219.out 0
         have hfz10_1 := blk_frozen BK219.out 1
         have p221 : 0 ≤ (x6_1 : Int) := of_decide_eq_true (by first | (with_reducible assumption) | assumption)
         have q221 : x6_1 < (l0_1.length : Int) := of_decide_eq_true (by first | (with_reducible assumption) | assumption)
         obtain ⟨ad221, e221, hx221_0⟩ := Kd.at_bool HR0_1.out x6_1 p221 q221
         cases e221
         replace hx221_0 := (HB.out.cell (World.block_lt_of_cell? w _ hx221_0)).trans hx221_0
         replace p221 := eq_true p221
         replace q221 := eq_true q221
         go_wp2
         go_meet
         case rel => exact ⟨_, (rdOf false l0_1 x6_1), (by first | rfl | (simp; done) | (simp [*]; done) | (simp; (generalize ByteArray.toList _ = l_); cases l_ <;> rfl)), H', ⟨by have := HK1.out; first | omega | exact Nat.le_refl _⟩, ⟨by (with_reducible repeat (first | apply Kd.R_alloc | apply Kd.R_drewN | apply Kd.R_drew)); exact HO_3.out⟩, ⟨by (with_reducible repeat (first | refine blk_drewN ?_ _ | refine blk_drew ?_ | refine blk_alloc ?_ _)); exact BK219.out⟩, ⟨by repeat (first | (with_reducible first | exact HB.out | apply below_alloc | apply pw_below_drewN | apply below_drew1 | refine below_set ?_ GE219.out) | exact HB.out)⟩⟩
        ·rw [if_neg c9] at H
         have c9b0 : decide (x6_1 < (l0_1.length : Int)) = false := decide_eq_false c9
         clear c9
         (first | rw [c9b0] | (simp only [i64_w, i32_w]; rw [c9b0]) | skip)
         have H' := Aside0.mk H
         clear H
         have hcz11_0 : wr.cell? ⟨gb219, 0, none⟩ = some (.slice (some ad220) l0_0.length c0_0) := (blk_cell BK219.out 0).trans rfl
         have hcz11_1 : wr.cell? ⟨gb219, 1, none⟩ = some (.slice A0_1 l0_1.length c0_1) := (blk_cell BK219.out 1).trans rfl
         have hfz11_0 := blk_frozen BK219.out 0
         have hfz11_1 := blk_frozen BK219.out 1
         go_wp2
         go_meet
         case rel => exact ⟨_, (false), (by first | rfl | (simp; done) | (simp [*]; done) | (simp; (generalize ByteArray.toList _ = l_); cases l_ <;> rfl)), H', ⟨by have := HK1.out; first | omega | exact Nat.le_refl _⟩, ⟨by (with_reducible repeat (first | apply Kd.R_alloc | apply Kd.R_drewN | apply Kd.R_drew)); exact HO_3.out⟩, ⟨by (with_reducible repeat (first | refine blk_drewN ?_ _ | refine blk_drew ?_ | refine blk_alloc ?_ _)); exact BK219.out⟩, ⟨by repeat (first | (with_reducible first | exact HB.out | apply below_alloc | apply pw_below_drewN | apply below_drew1 | refine below_set ?_ GE219.out) | exact HB.out)⟩⟩
       case rest =>
        clear HC7
        try clear p2
        try clear q2
        try clear hx2
        try clear c3
        try clear c3b0
        try clear c4
        try clear c4b0
        try clear c5
        try clear c5b0
        try clear c6
        try clear c6b0
        try clear c6b1
        try clear c6b2
        try clear c9
        try clear c9b0
        try clear hcz10_0
        try clear hcz10_1
        try clear hcz11_0
        try clear hcz11_1
        try clear hcz8_0
        try clear hcz8_1
        try clear hfz10_0
        try clear hfz10_1
        try clear hfz11_0
        try clear hfz11_1
        try clear hfz8_0
        try clear hfz8_1
        try clear hx220_0
        try clear hx221_0
        try clear p2
        try clear p220
        try clear p221
        try clear q220
        try clear q221
        obtain ⟨kq, x32_6, rfl, HA, HJ6, HO_3, BK219, HB⟩ := hcut
        cases kq with
        | zero => exact absurd HA.out (by simp [oxbowref09_Built.j1])
        | succ kj6 =>
         have H := HA.out
         clear HA
         simp only [oxbowref09_Built.j1] at H
         by_cases c12 : x32_6 = true
         ·subst c12
          have H1 : (oxbowref09_Built.l0 kj6 x3_1 (x4_1 ++ (rdOf ByteArray.empty l0_0 x6_1)) (wrap64 (x5_1 + 1)) (wrap64 (x6_1 + 1)) l0_0 l0_1) = some r := by rw [if_pos rfl] at H; exact H
          clear H
          have H := H1
          clear H1
          have H' := Aside0.mk H
          clear H
          go_wp2
          go_roundg kj6
          case measure => have := HK1.out; have := HJ6.out; omega
          case rel => exact ⟨(x3_1), ((x4_1 ++ (rdOf ByteArray.empty l0_0 x6_1))), (wrap64 (x5_1 + 1)), (wrap64 (x6_1 + 1)), (by first | rfl | (simp; done) | (simp [*]; done) | (simp; (generalize ByteArray.toList _ = l_); cases l_ <;> rfl)), (by first | rfl | (simp; done) | (simp [*]; done) | (simp; (generalize ByteArray.toList _ = l_); cases l_ <;> rfl)), (by first | rfl | (simp; done) | (simp [*]; done) | (simp; (generalize ByteArray.toList _ = l_); cases l_ <;> rfl)), H', ⟨by have := HK1.out; have := HJ6.out; omega⟩, ⟨by (with_reducible repeat (first | apply Kd.R_alloc | apply Kd.R_drewN | apply Kd.R_drew)); exact HO_3.out⟩, ⟨by (with_reducible repeat (first | refine blk_drewN ?_ _ | refine blk_drew ?_ | refine blk_alloc ?_ _)); exact BK219.out⟩, ⟨by repeat (first | (with_reducible first | exact HB.out | apply below_alloc | apply pw_below_drewN | apply below_drew1 | refine below_set ?_ GE219.out) | exact HB.out)⟩⟩
         ·replace c12 := Bool.eq_false_iff.mpr c12
          subst c12
          have H1 : (if (x4_1 ++ (rdOf ByteArray.empty l0_0 x6_1)).toList = ([] : List UInt8) then (oxbowref09_Built.j2 kj6 x3_1 x5_1 x6_1 l0_0 l0_1) else ((oxbowref09_put.f x3_1 2 0 (x4_1 ++ (rdOf ByteArray.empty l0_0 x6_1))).bind fun t222 => (oxbowref09_Built.j2 kj6 t222 x5_1 x6_1 l0_0 l0_1))) = some r := by rw [if_neg (show ¬ (false = true) by decide)] at H; exact H
          clear H
          have H := H1
          clear H1
          have HC13 := Aside0.mk H
          clear H
          go_upto_if 36 with (fail)
          go_cut [3] (fun v3 wc => ∃ (kq : Nat) (x3_12 : List (S36)), Aside0 (oxbowref09_Built.j2 kq x3_12 x5_1 x6_1 l0_0 l0_1 = some r) ∧ Aside0 (kq ≤ kj6) ∧ Aside0 (Kd.R k36 36 wc w.heap.size (fun _ => True) v3 x3_12) ∧ Aside0 (wc.heap[gb219]? = some (.cells #[(.slice (some ad220) l0_0.length c0_0), (.slice A0_1 l0_1.length c0_1)] 62 (0, 0))) ∧ Aside0 (Below w.heap.size w wc))
          case first =>
           have H := HC13.out
           clear HC13
           by_cases c14 : (x4_1 ++ (rdOf ByteArray.empty l0_0 x6_1)).toList = ([] : List UInt8)
           ·rw [if_pos c14] at H
            have c14b0 : ((x4_1 ++ (rdOf ByteArray.empty l0_0 x6_1)).toList == ([] : List UInt8)) = true := beq_iff_eq.mpr c14
            have c14b1 : ((x4_1 ++ (rdOf ByteArray.empty l0_0 x6_1)).toList != ([] : List UInt8)) = false := bne_eq_false_iff_eq.mpr c14
            have c14b2 : ((x4_1 ++ (rdOf ByteArray.empty l0_0 x6_1)).toList.isEmpty) = true := (by first | (rw [List.isEmpty_iff]; exact beq_iff_eq.mp c14b0) | (rw [List.isEmpty_eq_false_iff]; exact beq_eq_false_iff_ne.mp c14b0))
            clear c14
            (first | (rw [c14b2]; simp only [Bool.not_true, Bool.not_false]) | rw [c14b0] | (simp only [i64_w, i32_w]; rw [c14b0]) | skip)
            have H' := Aside0.mk H
            clear H
            go_wp2
            go_meet
            case rel => exact ⟨_, (x3_1), H', ⟨by have := HK1.out; have := HJ6.out; first | omega | exact Nat.le_refl _⟩, ⟨by (with_reducible repeat (first | apply Kd.R_alloc | apply Kd.R_drewN | apply Kd.R_drew)); exact HO_3.out⟩, ⟨by (with_reducible repeat (first | refine blk_drewN ?_ _ | refine blk_drew ?_ | refine blk_alloc ?_ _)); exact BK219.out⟩, ⟨by repeat (first | (with_reducible first | exact HB.out | apply below_alloc | apply pw_below_drewN | apply below_drew1 | refine below_set ?_ GE219.out) | exact HB.out)⟩⟩
           ·rw [if_neg c14] at H
            have c14b0 : ((x4_1 ++ (rdOf ByteArray.empty l0_0 x6_1)).toList == ([] : List UInt8)) = false := beq_eq_false_iff_ne.mpr c14
            have c14b1 : ((x4_1 ++ (rdOf ByteArray.empty l0_0 x6_1)).toList != ([] : List UInt8)) = true := bne_iff_ne.mpr c14
            have c14b2 : ((x4_1 ++ (rdOf ByteArray.empty l0_0 x6_1)).toList.isEmpty) = false := (by first | (rw [List.isEmpty_iff]; exact beq_iff_eq.mp c14b0) | (rw [List.isEmpty_eq_false_iff]; exact beq_eq_false_iff_ne.mp c14b0))
            (first | (rw [c14b2]; simp only [Bool.not_true, Bool.not_false]) | rw [c14b0] | (simp only [i64_w, i32_w]; rw [c14b0]) | skip)
            replace H := Option.bind_eq_some_iff.mp H
            obtain ⟨t222, A150, H⟩ := H
            replace H : (oxbowref09_Built.j2 kj6 t222 x5_1 x6_1 l0_0 l0_1) = some r := H
            have A15 := Aside0.mk A150
            clear A150
            have H' := Aside0.mk H
            clear H
            obtain ⟨Ao16, co16, eo16⟩ := Kd.R_slice HO_3.out
            subst eo16
            go_wp2_with (first | ((with_reducible refine gate_callee (f := 70) rfl ?_); refine goesL_ (some 40) rfl rfl Try.func70 (by kernel_rfl) rfl #[.slice Ao16 x3_1.length co16, .agg #[.int .i64 2, .int .i64 0, .string (x4_1 ++ (rdOf ByteArray.empty l0_0 x6_1))]] rfl (by (try simp only [List.map_toArray, List.map_cons, List.map_nil]); first | done | rfl | (simp only [List.length_drop, List.length_take]; rfl)) ?_; (with_reducible refine (oxbowref09_put.calls (fun k_ => some k_ = (.slice Ao16 x3_1.length co16 : Value).ownBlock) (.slice Ao16 x3_1.length co16) x3_1 2 0 (x4_1 ++ (rdOf ByteArray.empty l0_0 x6_1)) t222 w _ ?side1 ?side2 A15.out).mono ?_); (case side1 => repeat (first | (with_reducible first | exact HB.out | apply below_alloc | apply pw_below_drewN | apply below_drew1 | refine below_set ?_ GE219.out) | exact HB.out)); (case side2 => exact Kd.R_tight rfl HO_3.out); rintro e w17 ⟨v223, rfl, ho0, hb, hkp⟩; refine ⟨_, rfl, ?_⟩; have n0_ := Aside0.mk (blk_kept (by (with_reducible repeat (first | refine blk_drewN ?_ _ | refine blk_drew ?_ | refine blk_alloc ?_ _)); exact BK219.out) hkp (fun hs_ => (fun e_ => (Kd.R_ne HO_3.out BK219.out (by decide)) e_) hs_)); have n1_ := Aside0.mk (Kd.R_mono (ok' := fun k_ => True) ho0 (fun k_ hk_ => trivial)); have n2_ := Aside0.mk (hb); clear BK219; clear HB; clear HO_3; have BK219 := n0_; have HO224 := n1_; have HB := n2_; clear n0_ n1_ n2_; (try clear hb); (try clear hkp); (try clear ho0)))
            go_meet
            case rel => exact ⟨_, (t222), H', ⟨by have := HK1.out; have := HJ6.out; first | omega | exact Nat.le_refl _⟩, ⟨by (with_reducible repeat (first | apply Kd.R_alloc | apply Kd.R_drewN | apply Kd.R_drew)); exact HO224.out⟩, ⟨by (with_reducible repeat (first | refine blk_drewN ?_ _ | refine blk_drew ?_ | refine blk_alloc ?_ _)); exact BK219.out⟩, ⟨by repeat (first | (with_reducible first | exact HB.out | apply below_alloc | apply pw_below_drewN | apply below_drew1 | refine below_set ?_ GE219.out) | exact HB.out)⟩⟩
          case rest =>
           clear HC13
           try clear c1
           try clear p2
           try clear q2
           try clear hx2
           try clear c3
           try clear c3b0
           try clear c4
           try clear c4b0
           try clear c5
           try clear c5b0
           try clear c6
           try clear c6b0
           try clear c6b1
           try clear c6b2
           try clear p6
           try clear c7
           try clear c9
           try clear c9b0
           try clear c12
           try clear c14
           try clear c14b0
           try clear c14b1
           try clear hcz10_0
           try clear hcz10_1
           try clear hcz11_0
           try clear hcz11_1
           try clear hcz8_0
           try clear hcz8_1
           try clear hfz10_0
           try clear hfz10_1
           try clear hfz11_0
           try clear hfz11_1
           try clear hfz8_0
           try clear hfz8_1
           try clear hx220_0
           try clear hx221_0
           try clear p2
           try clear p220
           try clear p221
           try clear q2
           try clear q220
           try clear q221
           obtain ⟨kq, x3_12, HA, HJ12, HO_3, BK219, HB⟩ := hcut
           cases kq with
           | zero => exact absurd HA.out (by simp [oxbowref09_Built.j2])
           | succ kj12 =>
            have H := HA.out
            clear HA
            simp only [oxbowref09_Built.j2] at H
            by_cases c18 : x5_1 > 0
            ·rw [if_pos c18] at H
             have c18b0 : decide (0 < x5_1) = true := decide_eq_true c18
             clear c18
             replace H := Option.bind_eq_some_iff.mp H
             obtain ⟨t225, A190, H⟩ := H
             replace H : (if x6_1 < (l0_1.length : Int) then ((oxbowref09_put.f t225 1 1 (⟨#[]⟩ : ByteArray)).bind fun t228 => (oxbowref09_Built.l0 kj12 t228 (⟨#[]⟩ : ByteArray) 0 (wrap64 (x6_1 + 1)) l0_0 l0_1)) else (oxbowref09_Built.l0 kj12 t225 (⟨#[]⟩ : ByteArray) 0 (wrap64 (x6_1 + 1)) l0_0 l0_1)) = some r := H
             have A19 := Aside0.mk A190
             clear A190
             by_cases c20 : x6_1 < (l0_1.length : Int)
             ·rw [if_pos c20] at H
              have c20b0 : decide (x6_1 < (l0_1.length : Int)) = true := decide_eq_true c20
              clear c20
              replace H := Option.bind_eq_some_iff.mp H
              obtain ⟨t228, A210, H⟩ := H
              replace H : (oxbowref09_Built.l0 kj12 t228 (⟨#[]⟩ : ByteArray) 0 (wrap64 (x6_1 + 1)) l0_0 l0_1) = some r := H
              have A21 := Aside0.mk A210
              clear A210
              have H' := Aside0.mk H
              clear H
              obtain ⟨Ao22, co22, eo22⟩ := Kd.R_slice HO_3.out
              subst eo22
              go_wp2_with (first | ((with_reducible refine gate_callee (f := 70) rfl ?_); refine goesL_ (some 46) rfl rfl Try.func70 (by kernel_rfl) rfl #[.slice Ao22 x3_12.length co22, .agg #[.int .i64 3, .int .i64 x5_1, .string (⟨#[]⟩ : ByteArray)]] rfl (by (try simp only [List.map_toArray, List.map_cons, List.map_nil]); first | done | rfl | (simp only [List.length_drop, List.length_take]; rfl)) ?_; (with_reducible refine (oxbowref09_put.calls (fun k_ => some k_ = (.slice Ao22 x3_12.length co22 : Value).ownBlock) (.slice Ao22 x3_12.length co22) x3_12 3 x5_1 (⟨#[]⟩ : ByteArray) t225 w _ ?side1 ?side2 A19.out).mono ?_); (case side1 => repeat (first | (with_reducible first | exact HB.out | apply below_alloc | apply pw_below_drewN | apply below_drew1 | refine below_set ?_ GE219.out) | exact HB.out)); (case side2 => exact Kd.R_tight rfl HO_3.out); rintro e w23 ⟨v226, rfl, ho0, hb, hkp⟩; refine ⟨_, rfl, ?_⟩; have n0_ := Aside0.mk (blk_kept (by (with_reducible repeat (first | refine blk_drewN ?_ _ | refine blk_drew ?_ | refine blk_alloc ?_ _)); exact BK219.out) hkp (fun hs_ => (fun e_ => (Kd.R_ne HO_3.out BK219.out (by decide)) e_) hs_)); have n1_ := Aside0.mk (Kd.R_mono (ok' := fun k_ => True) ho0 (fun k_ hk_ => trivial)); have n2_ := Aside0.mk (hb); clear BK219; clear HB; clear HO_3; have BK219 := n0_; have HO227 := n1_; have HB := n2_; clear n0_ n1_ n2_; (try clear hb); (try clear hkp); (try clear ho0); have hcz24_0 : w23.cell? ⟨gb219, 0, none⟩ = some (.slice (some ad220) l0_0.length c0_0) := (blk_cell BK219.out 0).trans rfl; have hcz24_1 : w23.cell? ⟨gb219, 1, none⟩ = some (.slice A0_1 l0_1.length c0_1) := (blk_cell BK219.out 1).trans rfl; have hfz24_0 := blk_frozen BK219.out 0; have hfz24_1 := blk_frozen BK219.out 1; obtain ⟨Ao25, co25, eo25⟩ := Kd.R_slice HO227.out; subst eo25) | ((with_reducible refine gate_callee (f := 70) rfl ?_); refine goesL_ (some 54) rfl rfl Try.func70 (by kernel_rfl) rfl #[.slice Ao25 t225.length co25, .agg #[.int .i64 1, .int .i64 1, .string (⟨#[]⟩ : ByteArray)]] rfl (by (try simp only [List.map_toArray, List.map_cons, List.map_nil]); first | done | rfl | (simp only [List.length_drop, List.length_take]; rfl)) ?_; (with_reducible refine (oxbowref09_put.calls (fun k_ => some k_ = (.slice Ao25 t225.length co25 : Value).ownBlock) (.slice Ao25 t225.length co25) t225 1 1 (⟨#[]⟩ : ByteArray) t228 w _ ?side1 ?side2 A21.out).mono ?_); (case side1 => repeat (first | (with_reducible first | exact HB.out | apply below_alloc | apply pw_below_drewN | apply below_drew1 | refine below_set ?_ GE219.out) | exact HB.out)); (case side2 => exact Kd.R_tight rfl HO227.out); rintro e w26 ⟨v229, rfl, ho0, hb, hkp⟩; refine ⟨_, rfl, ?_⟩; have n0_ := Aside0.mk (blk_kept (by (with_reducible repeat (first | refine blk_drewN ?_ _ | refine blk_drew ?_ | refine blk_alloc ?_ _)); exact BK219.out) hkp (fun hs_ => (fun e_ => (Kd.R_ne HO227.out BK219.out (by decide)) e_) hs_)); have n1_ := Aside0.mk (Kd.R_mono (ok' := fun k_ => True) ho0 (fun k_ hk_ => trivial)); have n2_ := Aside0.mk (hb); clear BK219; clear HB; clear HO227; have BK219 := n0_; have HO230 := n1_; have HB := n2_; clear n0_ n1_ n2_; (try clear hb); (try clear hkp); (try clear ho0)))
              go_roundg kj12
              case measure => have := HK1.out; have := HJ6.out; have := HJ12.out; omega
              case rel => exact ⟨(t228), ((⟨#[]⟩ : ByteArray)), (0), (wrap64 (x6_1 + 1)), (by first | rfl | (simp; done) | (simp [*]; done) | (simp; (generalize ByteArray.toList _ = l_); cases l_ <;> rfl)), (by first | rfl | (simp; done) | (simp [*]; done) | (simp; (generalize ByteArray.toList _ = l_); cases l_ <;> rfl)), (by first | rfl | (simp; done) | (simp [*]; done) | (simp; (generalize ByteArray.toList _ = l_); cases l_ <;> rfl)), H', ⟨by have := HK1.out; have := HJ6.out; have := HJ12.out; omega⟩, ⟨by (with_reducible repeat (first | apply Kd.R_alloc | apply Kd.R_drewN | apply Kd.R_drew)); exact HO230.out⟩, ⟨by (with_reducible repeat (first | refine blk_drewN ?_ _ | refine blk_drew ?_ | refine blk_alloc ?_ _)); exact BK219.out⟩, ⟨by repeat (first | (with_reducible first | exact HB.out | apply below_alloc | apply pw_below_drewN | apply below_drew1 | refine below_set ?_ GE219.out) | exact HB.out)⟩⟩
             ·rw [if_neg c20] at H
              have c20b0 : decide (x6_1 < (l0_1.length : Int)) = false := decide_eq_false c20
              clear c20
              have H' := Aside0.mk H
              clear H
              obtain ⟨Ao27, co27, eo27⟩ := Kd.R_slice HO_3.out
              subst eo27
              go_wp2_with (first | ((with_reducible refine gate_callee (f := 70) rfl ?_); refine goesL_ (some 46) rfl rfl Try.func70 (by kernel_rfl) rfl #[.slice Ao27 x3_12.length co27, .agg #[.int .i64 3, .int .i64 x5_1, .string (⟨#[]⟩ : ByteArray)]] rfl (by (try simp only [List.map_toArray, List.map_cons, List.map_nil]); first | done | rfl | (simp only [List.length_drop, List.length_take]; rfl)) ?_; (with_reducible refine (oxbowref09_put.calls (fun k_ => some k_ = (.slice Ao27 x3_12.length co27 : Value).ownBlock) (.slice Ao27 x3_12.length co27) x3_12 3 x5_1 (⟨#[]⟩ : ByteArray) t225 w _ ?side1 ?side2 A19.out).mono ?_); (case side1 => repeat (first | (with_reducible first | exact HB.out | apply below_alloc | apply pw_below_drewN | apply below_drew1 | refine below_set ?_ GE219.out) | exact HB.out)); (case side2 => exact Kd.R_tight rfl HO_3.out); rintro e w28 ⟨v226, rfl, ho0, hb, hkp⟩; refine ⟨_, rfl, ?_⟩; have n0_ := Aside0.mk (blk_kept (by (with_reducible repeat (first | refine blk_drewN ?_ _ | refine blk_drew ?_ | refine blk_alloc ?_ _)); exact BK219.out) hkp (fun hs_ => (fun e_ => (Kd.R_ne HO_3.out BK219.out (by decide)) e_) hs_)); have n1_ := Aside0.mk (Kd.R_mono (ok' := fun k_ => True) ho0 (fun k_ hk_ => trivial)); have n2_ := Aside0.mk (hb); clear BK219; clear HB; clear HO_3; have BK219 := n0_; have HO227 := n1_; have HB := n2_; clear n0_ n1_ n2_; (try clear hb); (try clear hkp); (try clear ho0); have hcz29_0 : w28.cell? ⟨gb219, 0, none⟩ = some (.slice (some ad220) l0_0.length c0_0) := (blk_cell BK219.out 0).trans rfl; have hcz29_1 : w28.cell? ⟨gb219, 1, none⟩ = some (.slice A0_1 l0_1.length c0_1) := (blk_cell BK219.out 1).trans rfl; have hfz29_0 := blk_frozen BK219.out 0; have hfz29_1 := blk_frozen BK219.out 1))
              go_roundg kj12
              case measure => have := HK1.out; have := HJ6.out; have := HJ12.out; omega
              case rel => exact ⟨(t225), ((⟨#[]⟩ : ByteArray)), (0), (wrap64 (x6_1 + 1)), (by first | rfl | (simp; done) | (simp [*]; done) | (simp; (generalize ByteArray.toList _ = l_); cases l_ <;> rfl)), (by first | rfl | (simp; done) | (simp [*]; done) | (simp; (generalize ByteArray.toList _ = l_); cases l_ <;> rfl)), (by first | rfl | (simp; done) | (simp [*]; done) | (simp; (generalize ByteArray.toList _ = l_); cases l_ <;> rfl)), H', ⟨by have := HK1.out; have := HJ6.out; have := HJ12.out; omega⟩, ⟨by (with_reducible repeat (first | apply Kd.R_alloc | apply Kd.R_drewN | apply Kd.R_drew)); exact HO227.out⟩, ⟨by (with_reducible repeat (first | refine blk_drewN ?_ _ | refine blk_drew ?_ | refine blk_alloc ?_ _)); exact BK219.out⟩, ⟨by repeat (first | (with_reducible first | exact HB.out | apply below_alloc | apply pw_below_drewN | apply below_drew1 | refine below_set ?_ GE219.out) | exact HB.out)⟩⟩
            ·rw [if_neg c18] at H
             have c18b0 : decide (0 < x5_1) = false := decide_eq_false c18
             clear c18
             by_cases c30 : x6_1 < (l0_1.length : Int)
             ·rw [if_pos c30] at H
              have c30b0 : decide (x6_1 < (l0_1.length : Int)) = true := decide_eq_true c30
              clear c30
              replace H := Option.bind_eq_some_iff.mp H
              obtain ⟨t231, A310, H⟩ := H
              replace H : (oxbowref09_Built.l0 kj12 t231 (⟨#[]⟩ : ByteArray) 0 (wrap64 (x6_1 + 1)) l0_0 l0_1) = some r := H
              have A31 := Aside0.mk A310
              clear A310
              have H' := Aside0.mk H
              clear H
              have hcz32_0 : wc.cell? ⟨gb219, 0, none⟩ = some (.slice (some ad220) l0_0.length c0_0) := (blk_cell BK219.out 0).trans rfl
              have hcz32_1 : wc.cell? ⟨gb219, 1, none⟩ = some (.slice A0_1 l0_1.length c0_1) := (blk_cell BK219.out 1).trans rfl
              have hfz32_0 := blk_frozen BK219.out 0
              have hfz32_1 := blk_frozen BK219.out 1
              obtain ⟨Ao33, co33, eo33⟩ := Kd.R_slice HO_3.out
              subst eo33
              go_wp2_with (first | ((with_reducible refine gate_callee (f := 70) rfl ?_); refine goesL_ (some 54) rfl rfl Try.func70 (by kernel_rfl) rfl #[.slice Ao33 x3_12.length co33, .agg #[.int .i64 1, .int .i64 1, .string (⟨#[]⟩ : ByteArray)]] rfl (by (try simp only [List.map_toArray, List.map_cons, List.map_nil]); first | done | rfl | (simp only [List.length_drop, List.length_take]; rfl)) ?_; (with_reducible refine (oxbowref09_put.calls (fun k_ => some k_ = (.slice Ao33 x3_12.length co33 : Value).ownBlock) (.slice Ao33 x3_12.length co33) x3_12 1 1 (⟨#[]⟩ : ByteArray) t231 w _ ?side1 ?side2 A31.out).mono ?_); (case side1 => repeat (first | (with_reducible first | exact HB.out | apply below_alloc | apply pw_below_drewN | apply below_drew1 | refine below_set ?_ GE219.out) | exact HB.out)); (case side2 => exact Kd.R_tight rfl HO_3.out); rintro e w34 ⟨v232, rfl, ho0, hb, hkp⟩; refine ⟨_, rfl, ?_⟩; have n0_ := Aside0.mk (blk_kept (by (with_reducible repeat (first | refine blk_drewN ?_ _ | refine blk_drew ?_ | refine blk_alloc ?_ _)); exact BK219.out) hkp (fun hs_ => (fun e_ => (Kd.R_ne HO_3.out BK219.out (by decide)) e_) hs_)); have n1_ := Aside0.mk (Kd.R_mono (ok' := fun k_ => True) ho0 (fun k_ hk_ => trivial)); have n2_ := Aside0.mk (hb); clear BK219; clear HB; clear HO_3; have BK219 := n0_; have HO233 := n1_; have HB := n2_; clear n0_ n1_ n2_; (try clear hb); (try clear hkp); (try clear ho0)))
              go_roundg kj12
              case measure => have := HK1.out; have := HJ6.out; have := HJ12.out; omega
              case rel => exact ⟨(t231), ((⟨#[]⟩ : ByteArray)), (0), (wrap64 (x6_1 + 1)), (by first | rfl | (simp; done) | (simp [*]; done) | (simp; (generalize ByteArray.toList _ = l_); cases l_ <;> rfl)), (by first | rfl | (simp; done) | (simp [*]; done) | (simp; (generalize ByteArray.toList _ = l_); cases l_ <;> rfl)), (by first | rfl | (simp; done) | (simp [*]; done) | (simp; (generalize ByteArray.toList _ = l_); cases l_ <;> rfl)), H', ⟨by have := HK1.out; have := HJ6.out; have := HJ12.out; omega⟩, ⟨by (with_reducible repeat (first | apply Kd.R_alloc | apply Kd.R_drewN | apply Kd.R_drew)); exact HO233.out⟩, ⟨by (with_reducible repeat (first | refine blk_drewN ?_ _ | refine blk_drew ?_ | refine blk_alloc ?_ _)); exact BK219.out⟩, ⟨by repeat (first | (with_reducible first | exact HB.out | apply below_alloc | apply pw_below_drewN | apply below_drew1 | refine below_set ?_ GE219.out) | exact HB.out)⟩⟩
             ·rw [if_neg c30] at H
              have c30b0 : decide (x6_1 < (l0_1.length : Int)) = false := decide_eq_false c30
              clear c30
              have H' := Aside0.mk H
              clear H
              have hcz35_0 : wc.cell? ⟨gb219, 0, none⟩ = some (.slice (some ad220) l0_0.length c0_0) := (blk_cell BK219.out 0).trans rfl
              have hcz35_1 : wc.cell? ⟨gb219, 1, none⟩ = some (.slice A0_1 l0_1.length c0_1) := (blk_cell BK219.out 1).trans rfl
              have hfz35_0 := blk_frozen BK219.out 0
              have hfz35_1 := blk_frozen BK219.out 1
              go_wp2
              go_roundg kj12
              case measure => have := HK1.out; have := HJ6.out; have := HJ12.out; omega
              case rel => exact ⟨(x3_12), ((⟨#[]⟩ : ByteArray)), (0), (wrap64 (x6_1 + 1)), (by first | rfl | (simp; done) | (simp [*]; done) | (simp; (generalize ByteArray.toList _ = l_); cases l_ <;> rfl)), (by first | rfl | (simp; done) | (simp [*]; done) | (simp; (generalize ByteArray.toList _ = l_); cases l_ <;> rfl)), (by first | rfl | (simp; done) | (simp [*]; done) | (simp; (generalize ByteArray.toList _ = l_); cases l_ <;> rfl)), H', ⟨by have := HK1.out; have := HJ6.out; have := HJ12.out; omega⟩, ⟨by (with_reducible repeat (first | apply Kd.R_alloc | apply Kd.R_drewN | apply Kd.R_drew)); exact HO_3.out⟩, ⟨by (with_reducible repeat (first | refine blk_drewN ?_ _ | refine blk_drew ?_ | refine blk_alloc ?_ _)); exact BK219.out⟩, ⟨by repeat (first | (with_reducible first | exact HB.out | apply below_alloc | apply pw_below_drewN | apply below_drew1 | refine below_set ?_ GE219.out) | exact HB.out)⟩⟩
      ·rw [if_neg c6] at H
       exact absurd H (by simp)
     ·rw [if_neg c5] at H
      exact absurd H (by simp)
    ·rw [if_neg c4] at H
     exact absurd H (by simp)
   ·rw [if_neg c3] at H
    have c3b0 : decide (x6_1 ≤ (l0_1.length : Int)) = false := decide_eq_false c3
    clear c3
    obtain rfl := Option.some.inj H
    have hcz36_0 : wr.cell? ⟨gb219, 0, none⟩ = some (.slice A0_0 l0_0.length c0_0) := (blk_cell BK219.out 0).trans rfl
    have hcz36_1 : wr.cell? ⟨gb219, 1, none⟩ = some (.slice A0_1 l0_1.length c0_1) := (blk_cell BK219.out 1).trans rfl
    have hfz36_0 := blk_frozen BK219.out 0
    have hfz36_1 := blk_frozen BK219.out 1
    go_wp2
    go_ret
    exact ⟨_, by first | rfl | (simp [errW_none, errW_some] <;> rfl) | (simp [*, errW_none, errW_some] <;> rfl), by (with_reducible repeat (first | apply Kd.R_alloc | apply Kd.R_drewN | apply Kd.R_drew)); exact HO_3.out, by repeat (first | (with_reducible first | exact HB.out | apply below_alloc | apply pw_below_drewN | apply below_drew1 | refine below_set ?_ GE219.out) | exact HB.out)⟩

end Go.Proofs.Ytdpbkomaiafemaa.HDm
