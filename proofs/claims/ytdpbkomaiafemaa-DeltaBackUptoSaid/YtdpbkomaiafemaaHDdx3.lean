-- Written by hprint.py over the kit's print.py; contracts of some functions by hand.
import Derived.Test.YtdpbkomaiafemaaHDdx0
import Derived.Test.YtdpbkomaiafemaaHDdx2
namespace Go.Proofs.Ytdpbkomaiafemaa.HDd
open Go.RowKit Go.Proofs.YtdpbkomaiafemaaW.PrintWords Go.Proofs.YtdpbkomaiafemaaW.PrintLast Go.Proofs.YtdpbkomaiafemaaW.PrintMore
attribute [local go_sem] max2_int min2_int max_two min_two max_three min_three max_four min_four   -- for this text's walks alone
set_option linter.unusedVariables false
set_option linter.unusedSimpArgs false

/-! ### delta_kind: function 68 -/
def delta_kind.f (k : Nat) (a0 a1 : Int) (a2 : ByteArray) : Option Value :=
  if ((a0 == 1) && ((a2.toList == ([] : List UInt8)) && decide (1 ≤ a1) && decide (a1 ≤ 1000))) = true then some (.iface 88 (.int .i64 a1))
  else if ((a0 == 3) && ((a2.toList == ([] : List UInt8)) && decide (1 ≤ a1) && decide (a1 ≤ 1000))) = true then some (.iface 89 (.int .i64 a1))
  else if ((a0 == 2) && (a1 == 0)) = true then (text_Len.f k a2).bind fun n => if 0 < n then some (.iface 90 (.string a2)) else some .nilIface
  else some .nilIface
theorem delta_kind.mono : ∀ a0 a1 a2 k, LeO (delta_kind.f k a0 a1 a2) (delta_kind.f (k + 1) a0 a1 a2) := by
  intro a0 a1 a2 k
  unfold delta_kind.f
  exact LeO.ite (LeO.refl _) (LeO.ite (LeO.refl _) (LeO.ite (LeO.bind (text_Len.mono _ _) (fun _ => LeO.refl _)) (LeO.refl _)))
/-- What it is, as a number: 1 keep, 3 remove, 2 put, 0 none. -/
def delta_kind.tag (k : Nat) (a0 a1 : Int) (a2 : ByteArray) : Option Int :=
  if ((a0 == 1) && ((a2.toList == ([] : List UInt8)) && decide (1 ≤ a1) && decide (a1 ≤ 1000))) = true then some 1
  else if ((a0 == 3) && ((a2.toList == ([] : List UInt8)) && decide (1 ≤ a1) && decide (a1 ≤ 1000))) = true then some 3
  else if ((a0 == 2) && (a1 == 0)) = true then (text_Len.f k a2).bind fun n => if 0 < n then some 2 else some 0
  else some 0
def delta_kind.val (g a1 : Int) (a2 : ByteArray) : Value := if g = 1 then .iface 88 (.int .i64 a1) else if g = 3 then .iface 89 (.int .i64 a1) else if g = 2 then .iface 90 (.string a2) else .nilIface
theorem delta_kind.tag_mono : ∀ a0 a1 a2 k, LeO (delta_kind.tag k a0 a1 a2) (delta_kind.tag (k + 1) a0 a1 a2) := by
  intro a0 a1 a2 k
  unfold delta_kind.tag
  exact LeO.ite (LeO.refl _) (LeO.ite (LeO.refl _) (LeO.ite (LeO.bind (text_Len.mono _ _) (fun _ => LeO.refl _)) (LeO.refl _)))
theorem delta_kind.of_tag {k : Nat} {a0 a1 : Int} {a2 : ByteArray} {g : Int} (h : delta_kind.tag k a0 a1 a2 = some g) : delta_kind.f k a0 a1 a2 = some (delta_kind.val g a1 a2) ∧ (g = 1 ∨ g = 3 ∨ g = 2 ∨ g = 0) := by
  unfold delta_kind.tag at h
  unfold delta_kind.f
  split at h
  · rename_i c; obtain rfl := Option.some.inj h; rw [if_pos c]; exact ⟨rfl, .inl rfl⟩
  · rename_i c
    rw [if_neg c]
    split at h
    · rename_i c; obtain rfl := Option.some.inj h; rw [if_pos c]; exact ⟨rfl, .inr (.inl rfl)⟩
    · rename_i c
      rw [if_neg c]
      split at h
      · rename_i c
        rw [if_pos c]
        obtain ⟨n, hn, h⟩ := Option.bind_eq_some_iff.mp h
        rw [hn]
        by_cases c4 : 0 < n
        · rw [if_pos c4] at h; obtain rfl := Option.some.inj h
          exact ⟨by show (if 0 < n then _ else _) = _; rw [if_pos c4]; rfl, .inr (.inr (.inl rfl))⟩
        · rw [if_neg c4] at h; obtain rfl := Option.some.inj h
          exact ⟨by show (if 0 < n then _ else _) = _; rw [if_neg c4]; rfl, .inr (.inr (.inr rfl))⟩
      · rename_i c; obtain rfl := Option.some.inj h; rw [if_neg c]; exact ⟨rfl, .inr (.inr (.inr rfl))⟩
set_option maxHeartbeats 8000000 in
set_option maxRecDepth 100000 in
theorem delta_kind.calls (k : Nat) (a0 a1 : Int) (a2 : ByteArray) (v : Value) (w : World) (h : delta_kind.f k a0 a1 a2 = some v) :
    Calls Try.prog 68 #[.agg #[.int .i64 a0, .int .i64 a1, .string a2]] w fun e w' => e = .returned v ∧ Below w.heap.size w w' := by
  have hu36 := Try.underlying36
  have HB := Aside0.mk (Below.refl w.heap.size w)
  unfold delta_kind.f at h
  cases b1 : (a2.toList == ([] : List UInt8)) with
  | false =>
    by_cases d1 : a0 = 1
    · subst d1
      simp [b1] at h
      subst h
      go_enter Try.func68, Try.ntmps68
      go_wp2_with (first | ((with_reducible refine gate_dst (N := 1) rfl ?_); refine box_event ?hg (N := 1) ?hd (cs := #[.int .i64 1, .int .i64 a1, .string a2]) (t := 36) ?hr ?_; (case hd => rfl); (case hg => rfl); (case hr => first | (go_simp; done) | (go_simp; rfl)); intro gb hg w1 hbox hb; have HB1 := Aside0.mk (below_step HB.out hb); have BK := Aside0.mk hbox; have hz0 : w1.cell? ⟨gb, 0, none⟩ = some (.int .i64 1) := (blk_cell BK.out 0).trans rfl; have hz1 : w1.cell? ⟨gb, 1, none⟩ = some (.int .i64 a1) := (blk_cell BK.out 1).trans rfl; have hz2 : w1.cell? ⟨gb, 2, none⟩ = some (.string a2) := (blk_cell BK.out 2).trans rfl; clear hb hbox hg))
      skip
      go_ret
      exact ⟨rfl, HB1.out⟩
    · by_cases d3 : a0 = 3
      · subst d3
        simp [b1] at h
        subst h
        go_enter Try.func68, Try.ntmps68
        go_wp2_with (first | ((with_reducible refine gate_dst (N := 1) rfl ?_); refine box_event ?hg (N := 1) ?hd (cs := #[.int .i64 3, .int .i64 a1, .string a2]) (t := 36) ?hr ?_; (case hd => rfl); (case hg => rfl); (case hr => first | (go_simp; done) | (go_simp; rfl)); intro gb hg w1 hbox hb; have HB1 := Aside0.mk (below_step HB.out hb); have BK := Aside0.mk hbox; have hz0 : w1.cell? ⟨gb, 0, none⟩ = some (.int .i64 3) := (blk_cell BK.out 0).trans rfl; have hz1 : w1.cell? ⟨gb, 1, none⟩ = some (.int .i64 a1) := (blk_cell BK.out 1).trans rfl; have hz2 : w1.cell? ⟨gb, 2, none⟩ = some (.string a2) := (blk_cell BK.out 2).trans rfl; clear hb hbox hg))
        skip
        go_ret
        exact ⟨rfl, HB1.out⟩
      · by_cases d2 : a0 = 2
        · subst d2
          by_cases d7 : a1 = 0
          · have b7 : (a1 == 0) = true := beq_iff_eq.mpr d7
            rw [d7] at h
            simp only [b1, Bool.false_and, Bool.and_false, beq_self_eq_true, Bool.and_self, show ((2 : Int) == 1) = false from rfl, show ((2 : Int) == 3) = false from rfl, if_true, Bool.false_eq_true, if_false] at h
            obtain ⟨n, hn, h⟩ := Option.bind_eq_some_iff.mp h
            have HN := Aside0.mk hn
            clear hn
            by_cases d8 : 0 < n
            · have b8 : decide (0 < n) = true := decide_eq_true d8
              rw [if_pos d8] at h
              obtain rfl := Option.some.inj h
              clear d7
              go_enter Try.func68, Try.ntmps68
              go_wp2_with (first | ((with_reducible refine gate_dst (N := 1) rfl ?_); refine box_event ?hg (N := 1) ?hd (cs := #[.int .i64 2, .int .i64 a1, .string a2]) (t := 36) ?hr ?_; (case hd => rfl); (case hg => rfl); (case hr => first | (go_simp; done) | (go_simp; rfl)); intro gb hg w1 hbox hb; have HB1 := Aside0.mk (below_step HB.out hb); have BK := Aside0.mk hbox; have hz0 : w1.cell? ⟨gb, 0, none⟩ = some (.int .i64 2) := (blk_cell BK.out 0).trans rfl; have hz1 : w1.cell? ⟨gb, 1, none⟩ = some (.int .i64 a1) := (blk_cell BK.out 1).trans rfl; have hz2 : w1.cell? ⟨gb, 2, none⟩ = some (.string a2) := (blk_cell BK.out 2).trans rfl; clear hb hbox hg) | (go_at_call 69; (with_reducible refine (text_Len.calls k a2 n _ HN.out).mono ?_); rintro e w2 ⟨rfl, hb⟩; have HB2 := Aside0.mk (below_step HB1.out hb); have hy2 := (hb.cell (World.block_lt_of_cell? _ _ hz2)).trans hz2; clear hb))
              skip
              go_ret
              exact ⟨rfl, HB2.out⟩
            · have b8 : decide (0 < n) = false := decide_eq_false d8
              rw [if_neg d8] at h
              obtain rfl := Option.some.inj h
              clear d7
              go_enter Try.func68, Try.ntmps68
              go_wp2_with (first | ((with_reducible refine gate_dst (N := 1) rfl ?_); refine box_event ?hg (N := 1) ?hd (cs := #[.int .i64 2, .int .i64 a1, .string a2]) (t := 36) ?hr ?_; (case hd => rfl); (case hg => rfl); (case hr => first | (go_simp; done) | (go_simp; rfl)); intro gb hg w1 hbox hb; have HB1 := Aside0.mk (below_step HB.out hb); have BK := Aside0.mk hbox; have hz0 : w1.cell? ⟨gb, 0, none⟩ = some (.int .i64 2) := (blk_cell BK.out 0).trans rfl; have hz1 : w1.cell? ⟨gb, 1, none⟩ = some (.int .i64 a1) := (blk_cell BK.out 1).trans rfl; have hz2 : w1.cell? ⟨gb, 2, none⟩ = some (.string a2) := (blk_cell BK.out 2).trans rfl; clear hb hbox hg) | (go_at_call 69; (with_reducible refine (text_Len.calls k a2 n _ HN.out).mono ?_); rintro e w2 ⟨rfl, hb⟩; have HB2 := Aside0.mk (below_step HB1.out hb); have hy2 := (hb.cell (World.block_lt_of_cell? _ _ hz2)).trans hz2; clear hb))
              skip
              go_ret
              exact ⟨rfl, HB2.out⟩
          · have b7 : (a1 == 0) = false := beq_eq_false_iff_ne.mpr d7
            simp [b7, b1] at h
            subst h
            go_enter Try.func68, Try.ntmps68
            go_wp2_with (first | ((with_reducible refine gate_dst (N := 1) rfl ?_); refine box_event ?hg (N := 1) ?hd (cs := #[.int .i64 2, .int .i64 a1, .string a2]) (t := 36) ?hr ?_; (case hd => rfl); (case hg => rfl); (case hr => first | (go_simp; done) | (go_simp; rfl)); intro gb hg w1 hbox hb; have HB1 := Aside0.mk (below_step HB.out hb); have BK := Aside0.mk hbox; have hz0 : w1.cell? ⟨gb, 0, none⟩ = some (.int .i64 2) := (blk_cell BK.out 0).trans rfl; have hz1 : w1.cell? ⟨gb, 1, none⟩ = some (.int .i64 a1) := (blk_cell BK.out 1).trans rfl; have hz2 : w1.cell? ⟨gb, 2, none⟩ = some (.string a2) := (blk_cell BK.out 2).trans rfl; clear hb hbox hg))
            skip
            go_ret
            exact ⟨rfl, HB1.out⟩
        · have e1 : (a0 == 1) = false := beq_eq_false_iff_ne.mpr d1
          have e2 : (a0 == 2) = false := beq_eq_false_iff_ne.mpr d2
          have e3 : (a0 == 3) = false := beq_eq_false_iff_ne.mpr d3
          simp [e1, e2, e3] at h
          subst h
          go_enter Try.func68, Try.ntmps68
          go_wp2_with (first | ((with_reducible refine gate_dst (N := 1) rfl ?_); refine box_event ?hg (N := 1) ?hd (cs := #[.int .i64 a0, .int .i64 a1, .string a2]) (t := 36) ?hr ?_; (case hd => rfl); (case hg => rfl); (case hr => first | (go_simp; done) | (go_simp; rfl)); intro gb hg w1 hbox hb; have HB1 := Aside0.mk (below_step HB.out hb); have BK := Aside0.mk hbox; have hz0 : w1.cell? ⟨gb, 0, none⟩ = some (.int .i64 a0) := (blk_cell BK.out 0).trans rfl; have hz1 : w1.cell? ⟨gb, 1, none⟩ = some (.int .i64 a1) := (blk_cell BK.out 1).trans rfl; have hz2 : w1.cell? ⟨gb, 2, none⟩ = some (.string a2) := (blk_cell BK.out 2).trans rfl; clear hb hbox hg))
          skip
          go_ret
          exact ⟨rfl, HB1.out⟩
  | true =>
    cases b2 : decide (1 ≤ a1) with
    | false =>
      by_cases d1 : a0 = 1
      · subst d1
        simp [b2] at h
        subst h
        go_enter Try.func68, Try.ntmps68
        go_wp2_with (first | ((with_reducible refine gate_dst (N := 1) rfl ?_); refine box_event ?hg (N := 1) ?hd (cs := #[.int .i64 1, .int .i64 a1, .string a2]) (t := 36) ?hr ?_; (case hd => rfl); (case hg => rfl); (case hr => first | (go_simp; done) | (go_simp; rfl)); intro gb hg w1 hbox hb; have HB1 := Aside0.mk (below_step HB.out hb); have BK := Aside0.mk hbox; have hz0 : w1.cell? ⟨gb, 0, none⟩ = some (.int .i64 1) := (blk_cell BK.out 0).trans rfl; have hz1 : w1.cell? ⟨gb, 1, none⟩ = some (.int .i64 a1) := (blk_cell BK.out 1).trans rfl; have hz2 : w1.cell? ⟨gb, 2, none⟩ = some (.string a2) := (blk_cell BK.out 2).trans rfl; clear hb hbox hg))
        skip
        go_ret
        exact ⟨rfl, HB1.out⟩
      · by_cases d3 : a0 = 3
        · subst d3
          simp [b2] at h
          subst h
          go_enter Try.func68, Try.ntmps68
          go_wp2_with (first | ((with_reducible refine gate_dst (N := 1) rfl ?_); refine box_event ?hg (N := 1) ?hd (cs := #[.int .i64 3, .int .i64 a1, .string a2]) (t := 36) ?hr ?_; (case hd => rfl); (case hg => rfl); (case hr => first | (go_simp; done) | (go_simp; rfl)); intro gb hg w1 hbox hb; have HB1 := Aside0.mk (below_step HB.out hb); have BK := Aside0.mk hbox; have hz0 : w1.cell? ⟨gb, 0, none⟩ = some (.int .i64 3) := (blk_cell BK.out 0).trans rfl; have hz1 : w1.cell? ⟨gb, 1, none⟩ = some (.int .i64 a1) := (blk_cell BK.out 1).trans rfl; have hz2 : w1.cell? ⟨gb, 2, none⟩ = some (.string a2) := (blk_cell BK.out 2).trans rfl; clear hb hbox hg))
          skip
          go_ret
          exact ⟨rfl, HB1.out⟩
        · by_cases d2 : a0 = 2
          · subst d2
            by_cases d7 : a1 = 0
            · have b7 : (a1 == 0) = true := beq_iff_eq.mpr d7
              rw [d7] at h
              simp only [b2, Bool.false_and, Bool.and_false, beq_self_eq_true, Bool.and_self, show ((2 : Int) == 1) = false from rfl, show ((2 : Int) == 3) = false from rfl, if_true, Bool.false_eq_true, if_false] at h
              obtain ⟨n, hn, h⟩ := Option.bind_eq_some_iff.mp h
              have HN := Aside0.mk hn
              clear hn
              by_cases d8 : 0 < n
              · have b8 : decide (0 < n) = true := decide_eq_true d8
                rw [if_pos d8] at h
                obtain rfl := Option.some.inj h
                clear d7
                go_enter Try.func68, Try.ntmps68
                go_wp2_with (first | ((with_reducible refine gate_dst (N := 1) rfl ?_); refine box_event ?hg (N := 1) ?hd (cs := #[.int .i64 2, .int .i64 a1, .string a2]) (t := 36) ?hr ?_; (case hd => rfl); (case hg => rfl); (case hr => first | (go_simp; done) | (go_simp; rfl)); intro gb hg w1 hbox hb; have HB1 := Aside0.mk (below_step HB.out hb); have BK := Aside0.mk hbox; have hz0 : w1.cell? ⟨gb, 0, none⟩ = some (.int .i64 2) := (blk_cell BK.out 0).trans rfl; have hz1 : w1.cell? ⟨gb, 1, none⟩ = some (.int .i64 a1) := (blk_cell BK.out 1).trans rfl; have hz2 : w1.cell? ⟨gb, 2, none⟩ = some (.string a2) := (blk_cell BK.out 2).trans rfl; clear hb hbox hg) | (go_at_call 69; (with_reducible refine (text_Len.calls k a2 n _ HN.out).mono ?_); rintro e w2 ⟨rfl, hb⟩; have HB2 := Aside0.mk (below_step HB1.out hb); have hy2 := (hb.cell (World.block_lt_of_cell? _ _ hz2)).trans hz2; clear hb))
                skip
                go_ret
                exact ⟨rfl, HB2.out⟩
              · have b8 : decide (0 < n) = false := decide_eq_false d8
                rw [if_neg d8] at h
                obtain rfl := Option.some.inj h
                clear d7
                go_enter Try.func68, Try.ntmps68
                go_wp2_with (first | ((with_reducible refine gate_dst (N := 1) rfl ?_); refine box_event ?hg (N := 1) ?hd (cs := #[.int .i64 2, .int .i64 a1, .string a2]) (t := 36) ?hr ?_; (case hd => rfl); (case hg => rfl); (case hr => first | (go_simp; done) | (go_simp; rfl)); intro gb hg w1 hbox hb; have HB1 := Aside0.mk (below_step HB.out hb); have BK := Aside0.mk hbox; have hz0 : w1.cell? ⟨gb, 0, none⟩ = some (.int .i64 2) := (blk_cell BK.out 0).trans rfl; have hz1 : w1.cell? ⟨gb, 1, none⟩ = some (.int .i64 a1) := (blk_cell BK.out 1).trans rfl; have hz2 : w1.cell? ⟨gb, 2, none⟩ = some (.string a2) := (blk_cell BK.out 2).trans rfl; clear hb hbox hg) | (go_at_call 69; (with_reducible refine (text_Len.calls k a2 n _ HN.out).mono ?_); rintro e w2 ⟨rfl, hb⟩; have HB2 := Aside0.mk (below_step HB1.out hb); have hy2 := (hb.cell (World.block_lt_of_cell? _ _ hz2)).trans hz2; clear hb))
                skip
                go_ret
                exact ⟨rfl, HB2.out⟩
            · have b7 : (a1 == 0) = false := beq_eq_false_iff_ne.mpr d7
              simp [b7, b2] at h
              subst h
              go_enter Try.func68, Try.ntmps68
              go_wp2_with (first | ((with_reducible refine gate_dst (N := 1) rfl ?_); refine box_event ?hg (N := 1) ?hd (cs := #[.int .i64 2, .int .i64 a1, .string a2]) (t := 36) ?hr ?_; (case hd => rfl); (case hg => rfl); (case hr => first | (go_simp; done) | (go_simp; rfl)); intro gb hg w1 hbox hb; have HB1 := Aside0.mk (below_step HB.out hb); have BK := Aside0.mk hbox; have hz0 : w1.cell? ⟨gb, 0, none⟩ = some (.int .i64 2) := (blk_cell BK.out 0).trans rfl; have hz1 : w1.cell? ⟨gb, 1, none⟩ = some (.int .i64 a1) := (blk_cell BK.out 1).trans rfl; have hz2 : w1.cell? ⟨gb, 2, none⟩ = some (.string a2) := (blk_cell BK.out 2).trans rfl; clear hb hbox hg))
              skip
              go_ret
              exact ⟨rfl, HB1.out⟩
          · have e1 : (a0 == 1) = false := beq_eq_false_iff_ne.mpr d1
            have e2 : (a0 == 2) = false := beq_eq_false_iff_ne.mpr d2
            have e3 : (a0 == 3) = false := beq_eq_false_iff_ne.mpr d3
            simp [e1, e2, e3] at h
            subst h
            go_enter Try.func68, Try.ntmps68
            go_wp2_with (first | ((with_reducible refine gate_dst (N := 1) rfl ?_); refine box_event ?hg (N := 1) ?hd (cs := #[.int .i64 a0, .int .i64 a1, .string a2]) (t := 36) ?hr ?_; (case hd => rfl); (case hg => rfl); (case hr => first | (go_simp; done) | (go_simp; rfl)); intro gb hg w1 hbox hb; have HB1 := Aside0.mk (below_step HB.out hb); have BK := Aside0.mk hbox; have hz0 : w1.cell? ⟨gb, 0, none⟩ = some (.int .i64 a0) := (blk_cell BK.out 0).trans rfl; have hz1 : w1.cell? ⟨gb, 1, none⟩ = some (.int .i64 a1) := (blk_cell BK.out 1).trans rfl; have hz2 : w1.cell? ⟨gb, 2, none⟩ = some (.string a2) := (blk_cell BK.out 2).trans rfl; clear hb hbox hg))
            skip
            go_ret
            exact ⟨rfl, HB1.out⟩
    | true =>
      cases b3 : decide (a1 ≤ 1000) with
      | false =>
        by_cases d1 : a0 = 1
        · subst d1
          simp [b3] at h
          subst h
          go_enter Try.func68, Try.ntmps68
          go_wp2_with (first | ((with_reducible refine gate_dst (N := 1) rfl ?_); refine box_event ?hg (N := 1) ?hd (cs := #[.int .i64 1, .int .i64 a1, .string a2]) (t := 36) ?hr ?_; (case hd => rfl); (case hg => rfl); (case hr => first | (go_simp; done) | (go_simp; rfl)); intro gb hg w1 hbox hb; have HB1 := Aside0.mk (below_step HB.out hb); have BK := Aside0.mk hbox; have hz0 : w1.cell? ⟨gb, 0, none⟩ = some (.int .i64 1) := (blk_cell BK.out 0).trans rfl; have hz1 : w1.cell? ⟨gb, 1, none⟩ = some (.int .i64 a1) := (blk_cell BK.out 1).trans rfl; have hz2 : w1.cell? ⟨gb, 2, none⟩ = some (.string a2) := (blk_cell BK.out 2).trans rfl; clear hb hbox hg))
          skip
          go_ret
          exact ⟨rfl, HB1.out⟩
        · by_cases d3 : a0 = 3
          · subst d3
            simp [b3] at h
            subst h
            go_enter Try.func68, Try.ntmps68
            go_wp2_with (first | ((with_reducible refine gate_dst (N := 1) rfl ?_); refine box_event ?hg (N := 1) ?hd (cs := #[.int .i64 3, .int .i64 a1, .string a2]) (t := 36) ?hr ?_; (case hd => rfl); (case hg => rfl); (case hr => first | (go_simp; done) | (go_simp; rfl)); intro gb hg w1 hbox hb; have HB1 := Aside0.mk (below_step HB.out hb); have BK := Aside0.mk hbox; have hz0 : w1.cell? ⟨gb, 0, none⟩ = some (.int .i64 3) := (blk_cell BK.out 0).trans rfl; have hz1 : w1.cell? ⟨gb, 1, none⟩ = some (.int .i64 a1) := (blk_cell BK.out 1).trans rfl; have hz2 : w1.cell? ⟨gb, 2, none⟩ = some (.string a2) := (blk_cell BK.out 2).trans rfl; clear hb hbox hg))
            skip
            go_ret
            exact ⟨rfl, HB1.out⟩
          · by_cases d2 : a0 = 2
            · subst d2
              by_cases d7 : a1 = 0
              · subst d7
                exact absurd b2 (by decide)
              · have b7 : (a1 == 0) = false := beq_eq_false_iff_ne.mpr d7
                simp [b7, b3] at h
                subst h
                go_enter Try.func68, Try.ntmps68
                go_wp2_with (first | ((with_reducible refine gate_dst (N := 1) rfl ?_); refine box_event ?hg (N := 1) ?hd (cs := #[.int .i64 2, .int .i64 a1, .string a2]) (t := 36) ?hr ?_; (case hd => rfl); (case hg => rfl); (case hr => first | (go_simp; done) | (go_simp; rfl)); intro gb hg w1 hbox hb; have HB1 := Aside0.mk (below_step HB.out hb); have BK := Aside0.mk hbox; have hz0 : w1.cell? ⟨gb, 0, none⟩ = some (.int .i64 2) := (blk_cell BK.out 0).trans rfl; have hz1 : w1.cell? ⟨gb, 1, none⟩ = some (.int .i64 a1) := (blk_cell BK.out 1).trans rfl; have hz2 : w1.cell? ⟨gb, 2, none⟩ = some (.string a2) := (blk_cell BK.out 2).trans rfl; clear hb hbox hg))
                skip
                go_ret
                exact ⟨rfl, HB1.out⟩
            · have e1 : (a0 == 1) = false := beq_eq_false_iff_ne.mpr d1
              have e2 : (a0 == 2) = false := beq_eq_false_iff_ne.mpr d2
              have e3 : (a0 == 3) = false := beq_eq_false_iff_ne.mpr d3
              simp [e1, e2, e3] at h
              subst h
              go_enter Try.func68, Try.ntmps68
              go_wp2_with (first | ((with_reducible refine gate_dst (N := 1) rfl ?_); refine box_event ?hg (N := 1) ?hd (cs := #[.int .i64 a0, .int .i64 a1, .string a2]) (t := 36) ?hr ?_; (case hd => rfl); (case hg => rfl); (case hr => first | (go_simp; done) | (go_simp; rfl)); intro gb hg w1 hbox hb; have HB1 := Aside0.mk (below_step HB.out hb); have BK := Aside0.mk hbox; have hz0 : w1.cell? ⟨gb, 0, none⟩ = some (.int .i64 a0) := (blk_cell BK.out 0).trans rfl; have hz1 : w1.cell? ⟨gb, 1, none⟩ = some (.int .i64 a1) := (blk_cell BK.out 1).trans rfl; have hz2 : w1.cell? ⟨gb, 2, none⟩ = some (.string a2) := (blk_cell BK.out 2).trans rfl; clear hb hbox hg))
              skip
              go_ret
              exact ⟨rfl, HB1.out⟩
      | true =>
        by_cases d1 : a0 = 1
        · subst d1
          simp [b1, b2, b3] at h
          subst h
          go_enter Try.func68, Try.ntmps68
          go_wp2_with (first | ((with_reducible refine gate_dst (N := 1) rfl ?_); refine box_event ?hg (N := 1) ?hd (cs := #[.int .i64 1, .int .i64 a1, .string a2]) (t := 36) ?hr ?_; (case hd => rfl); (case hg => rfl); (case hr => first | (go_simp; done) | (go_simp; rfl)); intro gb hg w1 hbox hb; have HB1 := Aside0.mk (below_step HB.out hb); have BK := Aside0.mk hbox; have hz0 : w1.cell? ⟨gb, 0, none⟩ = some (.int .i64 1) := (blk_cell BK.out 0).trans rfl; have hz1 : w1.cell? ⟨gb, 1, none⟩ = some (.int .i64 a1) := (blk_cell BK.out 1).trans rfl; have hz2 : w1.cell? ⟨gb, 2, none⟩ = some (.string a2) := (blk_cell BK.out 2).trans rfl; clear hb hbox hg))
          skip
          go_ret
          exact ⟨rfl, HB1.out⟩
        · by_cases d3 : a0 = 3
          · subst d3
            simp [b1, b2, b3] at h
            subst h
            go_enter Try.func68, Try.ntmps68
            go_wp2_with (first | ((with_reducible refine gate_dst (N := 1) rfl ?_); refine box_event ?hg (N := 1) ?hd (cs := #[.int .i64 3, .int .i64 a1, .string a2]) (t := 36) ?hr ?_; (case hd => rfl); (case hg => rfl); (case hr => first | (go_simp; done) | (go_simp; rfl)); intro gb hg w1 hbox hb; have HB1 := Aside0.mk (below_step HB.out hb); have BK := Aside0.mk hbox; have hz0 : w1.cell? ⟨gb, 0, none⟩ = some (.int .i64 3) := (blk_cell BK.out 0).trans rfl; have hz1 : w1.cell? ⟨gb, 1, none⟩ = some (.int .i64 a1) := (blk_cell BK.out 1).trans rfl; have hz2 : w1.cell? ⟨gb, 2, none⟩ = some (.string a2) := (blk_cell BK.out 2).trans rfl; clear hb hbox hg))
            skip
            go_ret
            exact ⟨rfl, HB1.out⟩
          · by_cases d2 : a0 = 2
            · subst d2
              by_cases d7 : a1 = 0
              · subst d7
                exact absurd b2 (by decide)
              · have b7 : (a1 == 0) = false := beq_eq_false_iff_ne.mpr d7
                simp [b7, b1, b2, b3] at h
                subst h
                go_enter Try.func68, Try.ntmps68
                go_wp2_with (first | ((with_reducible refine gate_dst (N := 1) rfl ?_); refine box_event ?hg (N := 1) ?hd (cs := #[.int .i64 2, .int .i64 a1, .string a2]) (t := 36) ?hr ?_; (case hd => rfl); (case hg => rfl); (case hr => first | (go_simp; done) | (go_simp; rfl)); intro gb hg w1 hbox hb; have HB1 := Aside0.mk (below_step HB.out hb); have BK := Aside0.mk hbox; have hz0 : w1.cell? ⟨gb, 0, none⟩ = some (.int .i64 2) := (blk_cell BK.out 0).trans rfl; have hz1 : w1.cell? ⟨gb, 1, none⟩ = some (.int .i64 a1) := (blk_cell BK.out 1).trans rfl; have hz2 : w1.cell? ⟨gb, 2, none⟩ = some (.string a2) := (blk_cell BK.out 2).trans rfl; clear hb hbox hg))
                skip
                go_ret
                exact ⟨rfl, HB1.out⟩
            · have e1 : (a0 == 1) = false := beq_eq_false_iff_ne.mpr d1
              have e2 : (a0 == 2) = false := beq_eq_false_iff_ne.mpr d2
              have e3 : (a0 == 3) = false := beq_eq_false_iff_ne.mpr d3
              simp [e1, e2, e3] at h
              subst h
              go_enter Try.func68, Try.ntmps68
              go_wp2_with (first | ((with_reducible refine gate_dst (N := 1) rfl ?_); refine box_event ?hg (N := 1) ?hd (cs := #[.int .i64 a0, .int .i64 a1, .string a2]) (t := 36) ?hr ?_; (case hd => rfl); (case hg => rfl); (case hr => first | (go_simp; done) | (go_simp; rfl)); intro gb hg w1 hbox hb; have HB1 := Aside0.mk (below_step HB.out hb); have BK := Aside0.mk hbox; have hz0 : w1.cell? ⟨gb, 0, none⟩ = some (.int .i64 a0) := (blk_cell BK.out 0).trans rfl; have hz1 : w1.cell? ⟨gb, 1, none⟩ = some (.int .i64 a1) := (blk_cell BK.out 1).trans rfl; have hz2 : w1.cell? ⟨gb, 2, none⟩ = some (.string a2) := (blk_cell BK.out 2).trans rfl; clear hb hbox hg))
              skip
              go_ret
              exact ⟨rfl, HB1.out⟩


/-! ### delta_lengths: function 42 -/
def delta_lengths.l0 : Nat → List S36 → Int → Int → Int → Option (Int × Int × Int)
  | 0, _, _, _, _ => none
  | k + 1, l, b, t, i => if i < (l.length : Int) then (if 0 ≤ i then ((delta_kind.tag k (rd_T36 l i).f0 (rd_T36 l i).f1 (rd_T36 l i).f2).bind fun g => if g = 1 then delta_lengths.l0 k l (wrap64 (b + (rd_T36 l i).f1)) (wrap64 (t + (rd_T36 l i).f1)) (wrap64 (i + 1)) else if g = 3 then delta_lengths.l0 k l (wrap64 (b + (rd_T36 l i).f1)) t (wrap64 (i + 1)) else if g = 2 then ((text_Len.f k (rd_T36 l i).f2).bind fun n => delta_lengths.l0 k l b (wrap64 (t + n)) (wrap64 (i + 1))) else some (0, 0, 90)) else none) else (if 1000 < b then some (0, 0, 91) else if 1000 < t then some (0, 0, 91) else some (b, t, 0))
def delta_lengths.f (k : Nat) (l0 : List S36) : Option (Int × Int × Int) := if (l0.length : Int) > 3000 then some (0, 0, 90) else delta_lengths.l0 k l0 0 0 0
theorem delta_lengths.mono_l : ∀ k, (∀ y0 y1 y2 y3, LeO (delta_lengths.l0 k y0 y1 y2 y3) (delta_lengths.l0 (k + 1) y0 y1 y2 y3))
  | 0 => fun _ _ _ _ r h => by simp [delta_lengths.l0] at h
  | k + 1 => by
    have ih := delta_lengths.mono_l k
    intro y0 y1 y2 y3
    unfold delta_lengths.l0
    exact LeO.ite (LeO.ite (LeO.bind (delta_kind.tag_mono _ _ _ _) (fun _ => LeO.ite (ih _ _ _ _) (LeO.ite (ih _ _ _ _) (LeO.ite (LeO.bind (text_Len.mono _ _) (fun _ => ih _ _ _ _)) (LeO.refl _))))) (LeO.refl _)) (LeO.refl _)
theorem delta_lengths.mono : ∀ a0 k, LeO (delta_lengths.f k a0) (delta_lengths.f (k + 1) a0) := by
  intro a0 k
  unfold delta_lengths.f
  exact LeO.ite (LeO.refl _) (delta_lengths.mono_l k _ _ _ _)
set_option maxHeartbeats 8000000 in
set_option maxRecDepth 100000 in
theorem delta_lengths.calls (k : Nat) (A0 : Option Addr) (c0 : Nat) (l0 : List (S36)) (r1 r2 r3 : Int) (w : World) (hr0 : Kd.C k36 w A0 l0.length l0) (hc0 : l0.length ≤ c0) (h : delta_lengths.f k l0 = some (r1, r2, r3)) :
    Calls Try.prog 42 #[.slice A0 l0.length c0] w fun e w' => e = .returned (.tuple #[.int .i64 r1, .int .i64 r2, .int .i64 r3]) ∧ Below w.heap.size w w' := by
  have hu36 := Try.underlying36
  have hta88_88 : ∀ (v : Value) (W : World), (Instr.typeAssert (.iface 88 v) 20 88 true).run Try.prog W = .ok (.tuple #[v, .bool true]) W := fun v W => by rfl
  have hta89_88 : ∀ (v : Value) (W : World), (Instr.typeAssert (.iface 89 v) 20 88 true).run Try.prog W = .ok (.tuple #[.int .i64 0, .bool false]) W := fun v W => by rfl
  have hta89_89 : ∀ (v : Value) (W : World), (Instr.typeAssert (.iface 89 v) 20 89 true).run Try.prog W = .ok (.tuple #[v, .bool true]) W := fun v W => by rfl
  have hta90_88 : ∀ (v : Value) (W : World), (Instr.typeAssert (.iface 90 v) 20 88 true).run Try.prog W = .ok (.tuple #[.int .i64 0, .bool false]) W := fun v W => by rfl
  have hta90_89 : ∀ (v : Value) (W : World), (Instr.typeAssert (.iface 90 v) 20 89 true).run Try.prog W = .ok (.tuple #[.int .i64 0, .bool false]) W := fun v W => by rfl
  have hta90_90 : ∀ (v : Value) (W : World), (Instr.typeAssert (.iface 90 v) 20 90 true).run Try.prog W = .ok (.tuple #[v, .bool true]) W := fun v W => by rfl
  have htan_88 : ∀ (W : World), (Instr.typeAssert .nilIface 20 88 true).run Try.prog W = .ok (.tuple #[.int .i64 0, .bool false]) W := fun W => by rfl
  have htan_89 : ∀ (W : World), (Instr.typeAssert .nilIface 20 89 true).run Try.prog W = .ok (.tuple #[.int .i64 0, .bool false]) W := fun W => by rfl
  have htan_90 : ∀ (W : World), (Instr.typeAssert .nilIface 20 90 true).run Try.prog W = .ok (.tuple #[.string (⟨#[]⟩ : ByteArray), .bool false]) W := fun W => by rfl
  have HR0 := Aside0.mk hr0
  clear hr0 hc0
  have HB := Aside0.mk (Below.refl w.heap.size w)
  unfold delta_lengths.f at h
  by_cases c2 : (l0.length : Int) > 3000
  · rw [if_pos c2] at h
    have c2b0 : decide (3000 < (l0.length : Int)) = true := decide_eq_true c2
    have c2b1 : decide (3000 < l0.length) = true := decide_eq_true (by omega)
    clear c2
    obtain ⟨rfl, rfl, rfl⟩ : _ = r1 ∧ _ = r2 ∧ _ = r3 := by simpa using h
    go_enter Try.func42, Try.ntmps42
    go_wp2
    go_ret3
    exact ⟨rfl, by repeat (first | (with_reducible first | exact HB.out | apply below_alloc | apply pw_below_drewN | apply below_drew1) | exact HB.out)⟩
  · rw [if_neg c2] at h
    have c2b0 : decide (3000 < (l0.length : Int)) = false := decide_eq_false c2
    have c2b1 : decide (3000 < l0.length) = false := decide_eq_false (by omega)
    have LN := Aside0.mk c2
    clear c2
    have H0 := Aside0.mk h
    clear h
    go_enter Try.func42, Try.ntmps42
    go_wp2
    go_loopg [5, 6, 18] k (fun kq v5 v6 v18 w' => ∃ (b t i : Int), v5 = .int .i64 b ∧ v6 = .int .i64 t ∧ v18 = .int .i64 i ∧ Aside0 (delta_lengths.l0 kq l0 b t i = some (r1, r2, r3)) ∧ Aside0 (kq ≤ k) ∧ Aside0 (Below w.heap.size w w'))
    case atStart => exact ⟨0, 0, 0, rfl, rfl, rfl, H0, ⟨Nat.le_refl _⟩, ⟨by repeat (first | (with_reducible first | exact HB.out | apply below_alloc | apply pw_below_drewN | apply below_drew1) | exact HB.out)⟩⟩
    case round =>
      clear H0 HB c2b0 c2b1
      obtain ⟨b, t, i, rfl, rfl, rfl, HA, HK, HB⟩ := hrel
      cases gk with
      | zero => exact absurd HA.out (by simp [delta_lengths.l0])
      | succ k1 =>
        have H := HA.out
        clear HA
        simp only [delta_lengths.l0] at H
        by_cases c4 : i < (l0.length : Int)
        · rw [if_pos c4] at H
          have c4b : decide (i < (l0.length : Int)) = true := decide_eq_true c4
          by_cases c5 : 0 ≤ i
          · rw [if_pos c5] at H
            obtain ⟨g, hg0, H⟩ := Option.bind_eq_some_iff.mp H
            have HT := Aside0.mk H
            clear H
            obtain ⟨hv, hg⟩ := delta_kind.of_tag hg0
            clear hg0
            obtain ⟨ad, ead, hx0, hx1, hx2⟩ := at_T36 HR0.out i c5 c4
            cases ead
            replace hx0 := (HB.out.cell (World.block_lt_of_cell? w _ hx0)).trans hx0
            replace hx1 := (HB.out.cell (World.block_lt_of_cell? w _ hx1)).trans hx1
            replace hx2 := (HB.out.cell (World.block_lt_of_cell? w _ hx2)).trans hx2
            have p9 := eq_true c5
            have q9 := eq_true c4
            clear c4 c5
            rcases hg with hg | hg | hg | hg
            · subst hg
              simp only [delta_kind.val, if_true, if_false, show ¬ ((3 : Int) = 1) by decide, show ¬ ((2 : Int) = 1) by decide, show ¬ ((2 : Int) = 3) by decide, show ¬ ((0 : Int) = 1) by decide, show ¬ ((0 : Int) = 3) by decide, show ¬ ((0 : Int) = 2) by decide] at hv
              have HV := Aside0.mk hv
              clear hv
              have H := HT.out
              clear HT
              rw [if_pos rfl] at H
              have H' := Aside0.mk H
              clear H
              go_wp2_with (first | ((with_reducible refine gate_dst (N := 8) rfl ?_); refine box_event ?hg (N := 8) ?hd (cs := #[.int .i64 0, .int .i64 0, .string (⟨#[]⟩ : ByteArray)]) (t := 36) ?hr ?_; (case hd => rfl); (case hg => rfl); (case hr => first | (go_simp; done) | (go_simp; rfl)); intro gb hg w7 hbox hb; have HB7 := Aside0.mk (below_step HB.out hb); have GE : Aside0 (w.heap.size ≤ gb) := ⟨by rw [hg]; exact HB.out.size⟩; have BK := Aside0.mk hbox; clear hb hbox hg; have hz0 : w7.cell? ⟨gb, 0, none⟩ = some (.int .i64 0) := (blk_cell BK.out 0).trans rfl; have hz1 : w7.cell? ⟨gb, 1, none⟩ = some (.int .i64 0) := (blk_cell BK.out 1).trans rfl; have hz2 : w7.cell? ⟨gb, 2, none⟩ = some (.string (⟨#[]⟩ : ByteArray)) := (blk_cell BK.out 2).trans rfl; have hf0 := blk_frozen BK.out 0; have hf1 := blk_frozen BK.out 1; have hf2 := blk_frozen BK.out 2) | ((with_reducible refine gate_callee (f := 68) rfl ?_); refine goesL_ (some 23) rfl rfl Try.func68 (by kernel_rfl) rfl #[.agg #[.int .i64 (rd_T36 l0 i).f0, .int .i64 (rd_T36 l0 i).f1, .string (rd_T36 l0 i).f2]] rfl (by (try simp only [List.map_toArray, List.map_cons, List.map_nil]); first | done | rfl) ?_; (with_reducible refine (delta_kind.calls k1 (rd_T36 l0 i).f0 (rd_T36 l0 i).f1 (rd_T36 l0 i).f2 _ _ HV.out).mono ?_); rintro e w9 ⟨rfl, hb⟩; refine ⟨_, rfl, ?_⟩; have HB9 := Aside0.mk (below_step (below_set (below_set (below_set HB7.out GE.out) GE.out) GE.out) hb); clear hb))
              go_roundg k1
              case measure => have := HK.out; omega
              case rel => exact ⟨wrap64 (b + (rd_T36 l0 i).f1), wrap64 (t + (rd_T36 l0 i).f1), wrap64 (i + 1), rfl, rfl, rfl, H', ⟨by have := HK.out; omega⟩, HB9⟩
            · subst hg
              simp only [delta_kind.val, if_true, if_false, show ¬ ((3 : Int) = 1) by decide, show ¬ ((2 : Int) = 1) by decide, show ¬ ((2 : Int) = 3) by decide, show ¬ ((0 : Int) = 1) by decide, show ¬ ((0 : Int) = 3) by decide, show ¬ ((0 : Int) = 2) by decide] at hv
              have HV := Aside0.mk hv
              clear hv
              have H := HT.out
              clear HT
              rw [if_neg (by decide), if_pos rfl] at H
              have H' := Aside0.mk H
              clear H
              go_wp2_with (first | ((with_reducible refine gate_dst (N := 8) rfl ?_); refine box_event ?hg (N := 8) ?hd (cs := #[.int .i64 0, .int .i64 0, .string (⟨#[]⟩ : ByteArray)]) (t := 36) ?hr ?_; (case hd => rfl); (case hg => rfl); (case hr => first | (go_simp; done) | (go_simp; rfl)); intro gb hg w7 hbox hb; have HB7 := Aside0.mk (below_step HB.out hb); have GE : Aside0 (w.heap.size ≤ gb) := ⟨by rw [hg]; exact HB.out.size⟩; have BK := Aside0.mk hbox; clear hb hbox hg; have hz0 : w7.cell? ⟨gb, 0, none⟩ = some (.int .i64 0) := (blk_cell BK.out 0).trans rfl; have hz1 : w7.cell? ⟨gb, 1, none⟩ = some (.int .i64 0) := (blk_cell BK.out 1).trans rfl; have hz2 : w7.cell? ⟨gb, 2, none⟩ = some (.string (⟨#[]⟩ : ByteArray)) := (blk_cell BK.out 2).trans rfl; have hf0 := blk_frozen BK.out 0; have hf1 := blk_frozen BK.out 1; have hf2 := blk_frozen BK.out 2) | ((with_reducible refine gate_callee (f := 68) rfl ?_); refine goesL_ (some 23) rfl rfl Try.func68 (by kernel_rfl) rfl #[.agg #[.int .i64 (rd_T36 l0 i).f0, .int .i64 (rd_T36 l0 i).f1, .string (rd_T36 l0 i).f2]] rfl (by (try simp only [List.map_toArray, List.map_cons, List.map_nil]); first | done | rfl) ?_; (with_reducible refine (delta_kind.calls k1 (rd_T36 l0 i).f0 (rd_T36 l0 i).f1 (rd_T36 l0 i).f2 _ _ HV.out).mono ?_); rintro e w9 ⟨rfl, hb⟩; refine ⟨_, rfl, ?_⟩; have HB9 := Aside0.mk (below_step (below_set (below_set (below_set HB7.out GE.out) GE.out) GE.out) hb); clear hb))
              go_roundg k1
              case measure => have := HK.out; omega
              case rel => exact ⟨wrap64 (b + (rd_T36 l0 i).f1), t, wrap64 (i + 1), rfl, rfl, rfl, H', ⟨by have := HK.out; omega⟩, HB9⟩
            · subst hg
              simp only [delta_kind.val, if_true, if_false, show ¬ ((3 : Int) = 1) by decide, show ¬ ((2 : Int) = 1) by decide, show ¬ ((2 : Int) = 3) by decide, show ¬ ((0 : Int) = 1) by decide, show ¬ ((0 : Int) = 3) by decide, show ¬ ((0 : Int) = 2) by decide] at hv
              have HV := Aside0.mk hv
              clear hv
              have H := HT.out
              clear HT
              rw [if_neg (by decide), if_neg (by decide), if_pos rfl] at H
              obtain ⟨n, hn, H⟩ := Option.bind_eq_some_iff.mp H
              have HN := Aside0.mk hn
              have H' := Aside0.mk H
              clear H hn
              go_wp2_with (first | ((with_reducible refine gate_dst (N := 8) rfl ?_); refine box_event ?hg (N := 8) ?hd (cs := #[.int .i64 0, .int .i64 0, .string (⟨#[]⟩ : ByteArray)]) (t := 36) ?hr ?_; (case hd => rfl); (case hg => rfl); (case hr => first | (go_simp; done) | (go_simp; rfl)); intro gb hg w7 hbox hb; have HB7 := Aside0.mk (below_step HB.out hb); have GE : Aside0 (w.heap.size ≤ gb) := ⟨by rw [hg]; exact HB.out.size⟩; have BK := Aside0.mk hbox; clear hb hbox hg; have hz0 : w7.cell? ⟨gb, 0, none⟩ = some (.int .i64 0) := (blk_cell BK.out 0).trans rfl; have hz1 : w7.cell? ⟨gb, 1, none⟩ = some (.int .i64 0) := (blk_cell BK.out 1).trans rfl; have hz2 : w7.cell? ⟨gb, 2, none⟩ = some (.string (⟨#[]⟩ : ByteArray)) := (blk_cell BK.out 2).trans rfl; have hf0 := blk_frozen BK.out 0; have hf1 := blk_frozen BK.out 1; have hf2 := blk_frozen BK.out 2) | ((with_reducible refine gate_callee (f := 68) rfl ?_); refine goesL_ (some 23) rfl rfl Try.func68 (by kernel_rfl) rfl #[.agg #[.int .i64 (rd_T36 l0 i).f0, .int .i64 (rd_T36 l0 i).f1, .string (rd_T36 l0 i).f2]] rfl (by (try simp only [List.map_toArray, List.map_cons, List.map_nil]); first | done | rfl) ?_; (with_reducible refine (delta_kind.calls k1 (rd_T36 l0 i).f0 (rd_T36 l0 i).f1 (rd_T36 l0 i).f2 _ _ HV.out).mono ?_); rintro e w9 ⟨rfl, hb⟩; refine ⟨_, rfl, ?_⟩; have HB9 := Aside0.mk (below_step (below_set (below_set (below_set HB7.out GE.out) GE.out) GE.out) hb); clear hb) | ((with_reducible refine gate_callee (f := 69) rfl ?_); refine goesL_ (some 44) rfl rfl Try.func69 (by kernel_rfl) rfl #[.string (rd_T36 l0 i).f2] rfl (by (try simp only [List.map_toArray, List.map_cons, List.map_nil]); first | done | rfl) ?_; (with_reducible refine (text_Len.calls k1 (rd_T36 l0 i).f2 n _ HN.out).mono ?_); rintro e w11 ⟨rfl, hb⟩; refine ⟨_, rfl, ?_⟩; have HB11 := Aside0.mk (below_step HB9.out hb); clear hb))
              go_roundg k1
              case measure => have := HK.out; omega
              case rel => exact ⟨b, wrap64 (t + n), wrap64 (i + 1), rfl, rfl, rfl, H', ⟨by have := HK.out; omega⟩, HB11⟩
            · subst hg
              simp only [delta_kind.val, if_true, if_false, show ¬ ((3 : Int) = 1) by decide, show ¬ ((2 : Int) = 1) by decide, show ¬ ((2 : Int) = 3) by decide, show ¬ ((0 : Int) = 1) by decide, show ¬ ((0 : Int) = 3) by decide, show ¬ ((0 : Int) = 2) by decide] at hv
              have HV := Aside0.mk hv
              clear hv
              have H := HT.out
              clear HT
              rw [if_neg (by decide), if_neg (by decide), if_neg (by decide)] at H
              obtain ⟨rfl, rfl, rfl⟩ : _ = r1 ∧ _ = r2 ∧ _ = r3 := by simpa using H
              clear H
              go_wp2_with (first | ((with_reducible refine gate_dst (N := 8) rfl ?_); refine box_event ?hg (N := 8) ?hd (cs := #[.int .i64 0, .int .i64 0, .string (⟨#[]⟩ : ByteArray)]) (t := 36) ?hr ?_; (case hd => rfl); (case hg => rfl); (case hr => first | (go_simp; done) | (go_simp; rfl)); intro gb hg w7 hbox hb; have HB7 := Aside0.mk (below_step HB.out hb); have GE : Aside0 (w.heap.size ≤ gb) := ⟨by rw [hg]; exact HB.out.size⟩; have BK := Aside0.mk hbox; clear hb hbox hg; have hz0 : w7.cell? ⟨gb, 0, none⟩ = some (.int .i64 0) := (blk_cell BK.out 0).trans rfl; have hz1 : w7.cell? ⟨gb, 1, none⟩ = some (.int .i64 0) := (blk_cell BK.out 1).trans rfl; have hz2 : w7.cell? ⟨gb, 2, none⟩ = some (.string (⟨#[]⟩ : ByteArray)) := (blk_cell BK.out 2).trans rfl; have hf0 := blk_frozen BK.out 0; have hf1 := blk_frozen BK.out 1; have hf2 := blk_frozen BK.out 2) | ((with_reducible refine gate_callee (f := 68) rfl ?_); refine goesL_ (some 23) rfl rfl Try.func68 (by kernel_rfl) rfl #[.agg #[.int .i64 (rd_T36 l0 i).f0, .int .i64 (rd_T36 l0 i).f1, .string (rd_T36 l0 i).f2]] rfl (by (try simp only [List.map_toArray, List.map_cons, List.map_nil]); first | done | rfl) ?_; (with_reducible refine (delta_kind.calls k1 (rd_T36 l0 i).f0 (rd_T36 l0 i).f1 (rd_T36 l0 i).f2 _ _ HV.out).mono ?_); rintro e w9 ⟨rfl, hb⟩; refine ⟨_, rfl, ?_⟩; have HB9 := Aside0.mk (below_step (below_set (below_set (below_set HB7.out GE.out) GE.out) GE.out) hb); clear hb))
              go_ret3
              exact ⟨rfl, HB9.out⟩
          · rw [if_neg c5] at H
            exact absurd H (by simp)
        · rw [if_neg c4] at H
          have c4b : decide (i < (l0.length : Int)) = false := decide_eq_false c4
          clear c4
          by_cases c6 : 1000 < b
          · rw [if_pos c6] at H
            have c6b := decide_eq_true c6
            obtain ⟨rfl, rfl, rfl⟩ : _ = r1 ∧ _ = r2 ∧ _ = r3 := by simpa using H
            clear H c6
            go_wp2
            go_ret3
            exact ⟨rfl, by repeat (first | (with_reducible first | exact HB.out | apply below_alloc | apply pw_below_drewN | apply below_drew1) | exact HB.out)⟩
          · rw [if_neg c6] at H
            have c6b := decide_eq_false c6
            clear c6
            by_cases c7 : 1000 < t
            · rw [if_pos c7] at H
              have c7b := decide_eq_true c7
              obtain ⟨rfl, rfl, rfl⟩ : _ = r1 ∧ _ = r2 ∧ _ = r3 := by simpa using H
              clear H c7
              go_wp2
              go_ret3
              exact ⟨rfl, by repeat (first | (with_reducible first | exact HB.out | apply below_alloc | apply pw_below_drewN | apply below_drew1) | exact HB.out)⟩
            · rw [if_neg c7] at H
              have c7b := decide_eq_false c7
              obtain ⟨rfl, rfl, rfl⟩ : _ = r1 ∧ _ = r2 ∧ _ = r3 := by simpa using H
              clear H c7
              go_wp2
              go_ret3
              exact ⟨rfl, by repeat (first | (with_reducible first | exact HB.out | apply below_alloc | apply pw_below_drewN | apply below_drew1) | exact HB.out)⟩


/-! ### delta_Check: function 18 -/
def delta_Check.f (k : Nat) (l0 : List (S36)) : Option (Int) := (delta_lengths.f k l0).bind fun bt112 => (some bt112.2.2)
theorem delta_Check.mono : ∀ a0 k, LeO (delta_Check.f k a0) (delta_Check.f (k + 1) a0) := by
  intro a0 k
  unfold delta_Check.f
  repeat' first
      | (with_reducible exact delta_lengths.mono _ _)
      | (with_reducible exact LeO.refl _)
      | (with_reducible exact LeO.none _)
      | (with_reducible refine LeO.ite ?_ ?_)
      | (with_reducible refine LeO.bind ?_ (fun _ => ?_))
      | exact delta_lengths.mono _ _
      | exact LeO.none _
      | refine LeO.ite ?_ ?_
      | refine LeO.bind ?_ (fun _ => ?_)
set_option maxHeartbeats 8000000 in
set_option maxRecDepth 100000 in
theorem delta_Check.calls (k : Nat) (A0 : Option Addr) (c0 : Nat) (l0 : List (S36)) (r : Int) (w : World) (hr0 : Kd.C k36 w A0 l0.length l0) (hc0 : l0.length ≤ c0) (h : delta_Check.f k l0 = some r) :
    Calls Try.prog 18 #[.slice A0 l0.length c0] w fun e w' => e = .returned (.int .i64 r) ∧ Below w.heap.size w w' := by
  have HR0 := Aside0.mk hr0
  have HC0 := Aside0.mk hc0
  clear hr0 hc0
  have HB := Aside0.mk (Below.refl w.heap.size w)
  have H : ((delta_lengths.f k l0).bind fun bt112 => (some bt112.2.2)) = some r := h
  clear h
  replace H := Option.bind_eq_some_iff.mp H
  obtain ⟨⟨t112, t113, t114⟩, A20, H⟩ := H
  replace H : (some t114) = some r := H
  have A2 := Aside0.mk A20
  clear A20
  obtain rfl := Option.some.inj H
  go_enter Try.func18, Try.ntmps18
  go_wp2_with (first | ((with_reducible refine gate_callee (f := 42) rfl ?_); refine goesL_ (some 8) rfl rfl Try.func42 (by kernel_rfl) rfl #[.slice A0 l0.length c0] rfl (by (try simp only [List.map_toArray, List.map_cons, List.map_nil]); first | done | rfl | (simp only [List.length_drop, List.length_take]; rfl)) ?_; (with_reducible refine (delta_lengths.calls k _ _ l0 t112 t113 t114 _ ?side1 ?side2 A2.out).mono ?_); (case side1 => repeat (first | exact HR0.out | (with_reducible refine Kd.C_alloc ?_ _) | (with_reducible refine Kd.C_drewN ?_ _) | (with_reducible refine Kd.C_drew ?_))); (case side2 => exact HC0.out); rintro e w3 ⟨rfl, hb⟩; refine ⟨_, rfl, ?_⟩; have n0_ := Aside0.mk (below_step (by repeat (first | (with_reducible first | exact HB.out | apply below_alloc | apply pw_below_drewN | apply below_drew1) | exact HB.out)) hb); clear HB; have HB := n0_; clear n0_; (try clear hb); (try clear hb2); (try clear hk); (try clear hi)))
  go_ret
  exact ⟨by first | rfl | (simp [errW_none, errW_some] <;> rfl) | (simp [*, errW_none, errW_some] <;> rfl), by repeat (first | (with_reducible first | exact HB.out | apply below_alloc | apply pw_below_drewN | apply below_drew1) | exact HB.out)⟩

/-! ### pack_put: function 71 -/
def pack_put.l0 : Nat → List Int → Int → Option (List Int)
  | 0, _, _ => none
  | k + 1, x0, x1 => if x1 ≥ 128 then (if x0.length < 140737488355328 then (pack_put.l0 k (x0 ++ [Go.bits .or .u8 ((x1) % 256) 128]) (x1 / 128)) else (none)) else (if x0.length < 140737488355328 then (some (x0 ++ [(x1) % 256])) else (none))
def pack_put.f (k : Nat) (l0 : List Int) (a1 : Int) : Option (List Int) := pack_put.l0 k l0 a1
theorem pack_put.mono_l : ∀ k, (∀ y0 y1, LeO (pack_put.l0 k y0 y1) (pack_put.l0 (k + 1) y0 y1))
  | 0 => fun _ _ r h => by simp [pack_put.l0] at h
  | k + 1 => by
    have ih0 := pack_put.mono_l k
    · intro y0 y1
      unfold pack_put.l0
      repeat' first
      | (with_reducible exact ih0 _ _)
      | (with_reducible exact LeO.refl _)
      | (with_reducible exact LeO.none _)
      | (with_reducible refine LeO.ite ?_ ?_)
      | (with_reducible refine LeO.bind ?_ (fun _ => ?_))
      | exact ih0 _ _
      | exact LeO.none _
      | refine LeO.ite ?_ ?_
      | refine LeO.bind ?_ (fun _ => ?_)
theorem pack_put.mono : ∀ a0 a1 k, LeO (pack_put.f k a0 a1) (pack_put.f (k + 1) a0 a1) := by
  intro a0 a1 k
  have ih0 := pack_put.mono_l k
  unfold pack_put.f
  repeat' first
      | (with_reducible exact ih0 _ _)
      | (with_reducible exact LeO.refl _)
      | (with_reducible exact LeO.none _)
      | (with_reducible refine LeO.ite ?_ ?_)
      | (with_reducible refine LeO.bind ?_ (fun _ => ?_))
      | exact ih0 _ _
      | exact LeO.none _
      | refine LeO.ite ?_ ?_
      | refine LeO.bind ?_ (fun _ => ?_)
set_option maxHeartbeats 8000000 in
set_option maxRecDepth 100000 in
theorem pack_put.calls (k : Nat) (P0_ : Nat → Prop) (u9000_ : Value) (l0 : List Int) (a1 : Int) (r : List Int) (w0 w : World) (hB : Below w0.heap.size w0 w) (ho0 : Kd.R (Kd.int .u8) 5 w w0.heap.size P0_ u9000_ l0) (h : pack_put.f k l0 a1 = some r) :
    Calls Try.prog 71 #[u9000_, .int .u64 a1] w fun e w' => ∃ v0_ : Value, e = .returned (v0_) ∧ Kd.R (Kd.int .u8) 5 w' w0.heap.size (fun k_ => (P0_ k_ ∨ w.heap.size ≤ k_)) v0_ r ∧ Below w0.heap.size w0 w' ∧ Kept w w' (fun k_ => P0_ k_) := by
  have HO0 := Aside0.mk (show Kd.R (Kd.int .u8) 5 w w0.heap.size (fun k_ => (P0_ k_ ∨ w.heap.size ≤ k_)) u9000_ l0 from Kd.R_mono ho0 (fun k_ hk => (.inl hk)))
  have HK := Aside0.mk (Kept.refl w (fun k_ => P0_ k_))
  have HW0 := Aside0.mk hB.size
  have HB := Aside0.mk hB
  clear hB
  have H : (pack_put.l0 k l0 a1) = some r := h
  clear h
  have H' := Aside0.mk H
  clear H
  go_enter Try.func71, Try.ntmps71
  go_wp2
  go_loopg [0, 1] k (fun kq v0 v1 w' => ∃ (x0_1 : List Int) (x1_1 : Int), v1 = .int .u64 x1_1 ∧ Aside0 (pack_put.l0 kq x0_1 x1_1 = some r) ∧ Aside0 (kq ≤ k) ∧ Aside0 (Kd.R (Kd.int .u8) 5 w' w0.heap.size (fun k_ => (P0_ k_ ∨ w.heap.size ≤ k_)) v0 x0_1) ∧ Aside0 (Kept w w' (fun k_ => P0_ k_)) ∧ Aside0 (Below w0.heap.size w0 w'))
  case atStart => exact ⟨(l0), (a1), (by first | rfl | (simp; done) | (simp [*]; done) | (simp; (generalize ByteArray.toList _ = l_); cases l_ <;> rfl)), H', ⟨Nat.le_refl _⟩, ⟨by (with_reducible repeat (first | apply Kd.R_alloc | apply Kd.R_drewN | apply Kd.R_drew)); exact HO0.out⟩, ⟨by repeat (first | (with_reducible first | exact HK.out | apply Kept.alloc | apply Kept.drewN | apply Kept.drew) | exact HK.out)⟩, ⟨by repeat (first | (with_reducible first | exact HB.out | apply below_alloc | apply pw_below_drewN | apply below_drew1) | exact HB.out)⟩⟩
  case round =>
    clear H'
    try clear p2
    obtain ⟨x0_1, x1_1, rfl, HA, HK1, HO_0, HK, HB⟩ := hrel
    cases gk with
    | zero => exact absurd HA.out (by simp [pack_put.l0])
    | succ k1 =>
      have H := HA.out
      clear HA
      simp only [pack_put.l0] at H
      by_cases c3 : x1_1 ≥ 128
      · rw [if_pos c3] at H
        have c3b0 : decide (128 ≤ x1_1) = true := decide_eq_true c3
        clear c3
        by_cases c4 : x0_1.length < 140737488355328
        · rw [if_pos c4] at H
          have LMc4 := Aside0.mk c4
          clear c4
          obtain ⟨y115, hy115⟩ : ∃ y_ : List Int, y_ = (x0_1 ++ [Go.bits .or .u8 ((x1_1) % 256) 128]) := ⟨_, rfl⟩
          replace H : (pack_put.l0 k1 y115 (x1_1 / 128)) = some r := by first | (rw [hy115]; with_reducible exact H) | (have H2_ := (Option.bind_some _ _).symm.trans H; rw [hy115]; with_reducible exact H2_) | (have H2_ := (Option.bind_some _ _).symm.trans H; with_reducible exact H2_) | with_reducible exact H | (rw [hy115]; exact H) | exact H
          have Ny115 := Aside0.mk hy115
          clear hy115
          have H' := Aside0.mk H
          clear H
          go_wp2_with (first | ((with_reducible refine gate_builtin (b := .append) (xs := #[.tmp 9, .tmp 13]) rfl ?_); at_builtin; refine Kd.R_append (Kd.int .u8) (w0 := w0) w0.heap.size rfl (.tmp 9) (.tmp 13) 77 5 (.int .u8 0) 1 rfl Try.underlying77 info5 rfl (by decide) (by omega) u0 x0_1 (Go.bits .or .u8 ((x1_1) % 256) 128) [.int .u8 (Go.bits .or .u8 ((x1_1) % 256) 128)] (fun k_ => (P0_ k_ ∨ w.heap.size ≤ k_)) (fun _ => False) rfl rfl ?aP (fun _ hk => hk.elim) ?aF ?aO ?aB ?aS ?aL ?_; (case aP => exact rfl); (case aB => exact (by repeat (first | (with_reducible first | exact HB.out | apply below_alloc | apply pw_below_drewN | apply below_drew1) | exact HB.out))); (case aF => exact (fun k_ hk => (.inr (Nat.le_trans (by first | exact HK.out.1 | exact (show Kept w _ (fun k_ => P0_ k_) from by repeat (first | (with_reducible first | exact HK.out | apply Kept.alloc | apply Kept.drewN | apply Kept.drew) | exact HK.out)).1) hk)))); (case aO => exact (by (with_reducible repeat (first | apply Kd.R_alloc | apply Kd.R_drewN | apply Kd.R_drew)); exact HO_0.out)); (case aS => exact (below_size (by repeat (first | (with_reducible first | exact HB.out | apply below_alloc | apply pw_below_drewN | apply below_drew1) | exact HB.out)))); (case aL => have := LMc4.out; omega); intro v116 w5 ho hb hg hat; rw [← Ny115.out] at ho; have n0_ := Aside0.mk (hb); have n1_ := Aside0.mk (Kept.of_grown (S := (fun k_ => P0_ k_)) hg (by repeat (first | (with_reducible first | exact HK.out | apply Kept.alloc | apply Kept.drewN | apply Kept.drew) | exact HK.out)) (fun k_ e_ => (HO_0.out.1 k_ e_))); have n2_ := Aside0.mk (ho); clear HB; clear HK; clear HO_0; have HB := n0_; have HK := n1_; have HO117 := n2_; clear n0_ n1_ n2_; clear ho hb hg hat))
          go_roundg k1
          case measure => have := HK1.out; omega
          case rel => exact ⟨(y115), (x1_1 / 128), (by first | rfl | (simp; done) | (simp [*]; done) | (simp; (generalize ByteArray.toList _ = l_); cases l_ <;> rfl)), H', ⟨by have := HK1.out; omega⟩, ⟨by (with_reducible repeat (first | apply Kd.R_alloc | apply Kd.R_drewN | apply Kd.R_drew)); exact HO117.out⟩, ⟨by repeat (first | (with_reducible first | exact HK.out | apply Kept.alloc | apply Kept.drewN | apply Kept.drew) | exact HK.out)⟩, ⟨by repeat (first | (with_reducible first | exact HB.out | apply below_alloc | apply pw_below_drewN | apply below_drew1) | exact HB.out)⟩⟩
        · rw [if_neg c4] at H
          exact absurd H (by simp)
      · rw [if_neg c3] at H
        have c3b0 : decide (128 ≤ x1_1) = false := decide_eq_false c3
        clear c3
        by_cases c6 : x0_1.length < 140737488355328
        · rw [if_pos c6] at H
          have LMc6 := Aside0.mk c6
          clear c6
          obtain ⟨y118, hy118⟩ : ∃ y_ : List Int, y_ = (x0_1 ++ [(x1_1) % 256]) := ⟨_, rfl⟩
          replace H : (some y118) = some r := by first | (rw [hy118]; with_reducible exact H) | (have H2_ := (Option.bind_some _ _).symm.trans H; rw [hy118]; with_reducible exact H2_) | (have H2_ := (Option.bind_some _ _).symm.trans H; with_reducible exact H2_) | with_reducible exact H | (rw [hy118]; exact H) | exact H
          have Ny118 := Aside0.mk hy118
          clear hy118
          obtain rfl := Option.some.inj H
          go_wp2_with (first | ((with_reducible refine gate_builtin (b := .append) (xs := #[.tmp 15, .tmp 18]) rfl ?_); at_builtin; refine Kd.R_append (Kd.int .u8) (w0 := w0) w0.heap.size rfl (.tmp 15) (.tmp 18) 77 5 (.int .u8 0) 1 rfl Try.underlying77 info5 rfl (by decide) (by omega) u0 x0_1 ((x1_1) % 256) [.int .u8 ((x1_1) % 256)] (fun k_ => (P0_ k_ ∨ w.heap.size ≤ k_)) (fun _ => False) rfl rfl ?aP (fun _ hk => hk.elim) ?aF ?aO ?aB ?aS ?aL ?_; (case aP => exact rfl); (case aB => exact (by repeat (first | (with_reducible first | exact HB.out | apply below_alloc | apply pw_below_drewN | apply below_drew1) | exact HB.out))); (case aF => exact (fun k_ hk => (.inr (Nat.le_trans (by first | exact HK.out.1 | exact (show Kept w _ (fun k_ => P0_ k_) from by repeat (first | (with_reducible first | exact HK.out | apply Kept.alloc | apply Kept.drewN | apply Kept.drew) | exact HK.out)).1) hk)))); (case aO => exact (by (with_reducible repeat (first | apply Kd.R_alloc | apply Kd.R_drewN | apply Kd.R_drew)); exact HO_0.out)); (case aS => exact (below_size (by repeat (first | (with_reducible first | exact HB.out | apply below_alloc | apply pw_below_drewN | apply below_drew1) | exact HB.out)))); (case aL => have := LMc6.out; omega); intro v119 w7 ho hb hg hat; rw [← Ny118.out] at ho; have n0_ := Aside0.mk (hb); have n1_ := Aside0.mk (Kept.of_grown (S := (fun k_ => P0_ k_)) hg (by repeat (first | (with_reducible first | exact HK.out | apply Kept.alloc | apply Kept.drewN | apply Kept.drew) | exact HK.out)) (fun k_ e_ => (HO_0.out.1 k_ e_))); have n2_ := Aside0.mk (ho); clear HB; clear HK; clear HO_0; have HB := n0_; have HK := n1_; have HO120 := n2_; clear n0_ n1_ n2_; clear ho hb hg hat))
          go_ret
          exact ⟨_, by first | rfl | (simp [errW_none, errW_some] <;> rfl) | (simp [*, errW_none, errW_some] <;> rfl), by (with_reducible repeat (first | apply Kd.R_alloc | apply Kd.R_drewN | apply Kd.R_drew)); exact HO120.out, by repeat (first | (with_reducible first | exact HB.out | apply below_alloc | apply pw_below_drewN | apply below_drew1) | exact HB.out), by repeat (first | (with_reducible first | exact HK.out | apply Kept.alloc | apply Kept.drewN | apply Kept.drew) | exact HK.out)⟩
        · rw [if_neg c6] at H
          exact absurd H (by simp)

/-! ### pack_Num: function 53 -/
def pack_Num.f (k : Nat) (a0 : Int) : Option (ByteArray × Int) := if a0 < 0 then (some ((⟨#[]⟩ : ByteArray), 20)) else (if a0 > 1125899906842624 then (some ((⟨#[]⟩ : ByteArray), 20)) else ((pack_put.f k ([] : List Int) (IntKind.u64.wrap (a0))).bind fun t121 => (some (strOfNums t121, 0))))
theorem pack_Num.mono : ∀ a0 k, LeO (pack_Num.f k a0) (pack_Num.f (k + 1) a0) := by
  intro a0 k
  unfold pack_Num.f
  repeat' first
      | (with_reducible exact pack_put.mono _ _ _)
      | (with_reducible exact LeO.refl _)
      | (with_reducible exact LeO.none _)
      | (with_reducible refine LeO.ite ?_ ?_)
      | (with_reducible refine LeO.bind ?_ (fun _ => ?_))
      | exact pack_put.mono _ _ _
      | exact LeO.none _
      | refine LeO.ite ?_ ?_
      | refine LeO.bind ?_ (fun _ => ?_)
set_option maxHeartbeats 8000000 in
set_option maxRecDepth 100000 in
theorem pack_Num.calls (k : Nat) (a0 : Int) (r1 : ByteArray) (r2 : Int) (w : World) (h : pack_Num.f k a0 = some (r1, r2)) :
    Calls Try.prog 53 #[.int .i64 a0] w fun e w' => e = .returned (.tuple #[.string r1, .int .i64 r2]) ∧ Below w.heap.size w w' := by
  have HB := Aside0.mk (Below.refl w.heap.size w)
  have H : (if a0 < 0 then (some ((⟨#[]⟩ : ByteArray), 20)) else (if a0 > 1125899906842624 then (some ((⟨#[]⟩ : ByteArray), 20)) else ((pack_put.f k ([] : List Int) (IntKind.u64.wrap (a0))).bind fun t121 => (some (strOfNums t121, 0))))) = some (r1, r2) := h
  clear h
  by_cases c2 : a0 < 0
  · rw [if_pos c2] at H
    have c2b0 : decide (a0 < 0) = true := decide_eq_true c2
    clear c2
    simp only [Option.some.injEq, Prod.mk.injEq] at H
    obtain ⟨rfl, rfl⟩ := H
    go_enter Try.func53, Try.ntmps53
    go_wp2
    go_ret2
    exact ⟨by first | rfl | (simp [errW_none, errW_some] <;> rfl) | (simp [*, errW_none, errW_some] <;> rfl), by repeat (first | (with_reducible first | exact HB.out | apply below_alloc | apply pw_below_drewN | apply below_drew1) | exact HB.out)⟩
  · rw [if_neg c2] at H
    have c2b0 : decide (a0 < 0) = false := decide_eq_false c2
    clear c2
    by_cases c3 : a0 > 1125899906842624
    · rw [if_pos c3] at H
      have c3b0 : decide (1125899906842624 < a0) = true := decide_eq_true c3
      clear c3
      simp only [Option.some.injEq, Prod.mk.injEq] at H
      obtain ⟨rfl, rfl⟩ := H
      go_enter Try.func53, Try.ntmps53
      go_wp2
      go_ret2
      exact ⟨by first | rfl | (simp [errW_none, errW_some] <;> rfl) | (simp [*, errW_none, errW_some] <;> rfl), by repeat (first | (with_reducible first | exact HB.out | apply below_alloc | apply pw_below_drewN | apply below_drew1) | exact HB.out)⟩
    · rw [if_neg c3] at H
      have c3b0 : decide (1125899906842624 < a0) = false := decide_eq_false c3
      clear c3
      replace H := Option.bind_eq_some_iff.mp H
      obtain ⟨t121, A40, H⟩ := H
      replace H : (some (strOfNums t121, 0)) = some (r1, r2) := H
      have A4 := Aside0.mk A40
      clear A40
      simp only [Option.some.injEq, Prod.mk.injEq] at H
      obtain ⟨rfl, rfl⟩ := H
      go_enter Try.func53, Try.ntmps53
      go_wp2_with (first | ((with_reducible refine gate_callee (f := 71) rfl ?_); refine goesL_ (some 12) rfl rfl Try.func71 (by kernel_rfl) rfl #[.slice none 0 0, .int .u64 (IntKind.u64.wrap (a0))] rfl (by (try simp only [List.map_toArray, List.map_cons, List.map_nil]); first | done | rfl | (simp only [List.length_drop, List.length_take]; rfl)) ?_; (refine (pack_put.calls k (fun k_ => some k_ = (.slice none 0 0 : Value).ownBlock) (.slice none 0 0) ([] : List Int) (IntKind.u64.wrap (a0)) t121 w _ ?side1 ?side2 A4.out).mono ?_); (case side1 => repeat (first | (with_reducible first | exact HB.out | apply below_alloc | apply pw_below_drewN | apply below_drew1) | exact HB.out)); (case side2 => exact Kd.R_nil _ _ _ _ _); rintro e w5 ⟨v122, rfl, ho0, hb, hkp⟩; refine ⟨_, rfl, ?_⟩; have n0_ := Aside0.mk (Kd.R_mono (ok' := fun k_ => True) ho0 (fun k_ hk_ => trivial)); have n1_ := Aside0.mk (hb); clear HB; have HO123 := n0_; have HB := n1_; clear n0_ n1_; (try clear hb); (try clear hkp); (try clear ho0); have hcv6 := own_string (P := Try.prog) Try.underlying77 Try.underlying5 Try.underlying9 (Kd.own_of_R HO123.out)))
      go_ret2
      exact ⟨by first | rfl | (simp [errW_none, errW_some] <;> rfl) | (simp [*, errW_none, errW_some] <;> rfl), by repeat (first | (with_reducible first | exact HB.out | apply below_alloc | apply pw_below_drewN | apply below_drew1) | exact HB.out)⟩

/-! ### pack_Text: function 54 -/
def pack_Text.f (k : Nat) (a0 : ByteArray) : Option (ByteArray × Int) := if (a0.size : Int) > 20000 then (some ((⟨#[]⟩ : ByteArray), 2)) else ((pack_put.f k ([] : List Int) (a0.size : Int)).bind fun t124 => (if (strOfNums t124).size + a0.size ≤ 9223372036854775807 then (some ((strOfNums t124) ++ a0, 0)) else (none)))
theorem pack_Text.mono : ∀ a0 k, LeO (pack_Text.f k a0) (pack_Text.f (k + 1) a0) := by
  intro a0 k
  unfold pack_Text.f
  repeat' first
      | (with_reducible exact pack_put.mono _ _ _)
      | (with_reducible exact LeO.refl _)
      | (with_reducible exact LeO.none _)
      | (with_reducible refine LeO.ite ?_ ?_)
      | (with_reducible refine LeO.bind ?_ (fun _ => ?_))
      | exact pack_put.mono _ _ _
      | exact LeO.none _
      | refine LeO.ite ?_ ?_
      | refine LeO.bind ?_ (fun _ => ?_)
set_option maxHeartbeats 8000000 in
set_option maxRecDepth 100000 in
theorem pack_Text.calls (k : Nat) (a0 : ByteArray) (r1 : ByteArray) (r2 : Int) (w : World) (h : pack_Text.f k a0 = some (r1, r2)) :
    Calls Try.prog 54 #[.string a0] w fun e w' => e = .returned (.tuple #[.string r1, .int .i64 r2]) ∧ Below w.heap.size w w' := by
  have HB := Aside0.mk (Below.refl w.heap.size w)
  have H : (if (a0.size : Int) > 20000 then (some ((⟨#[]⟩ : ByteArray), 2)) else ((pack_put.f k ([] : List Int) (a0.size : Int)).bind fun t124 => (if (strOfNums t124).size + a0.size ≤ 9223372036854775807 then (some ((strOfNums t124) ++ a0, 0)) else (none)))) = some (r1, r2) := h
  clear h
  by_cases c2 : (a0.size : Int) > 20000
  · rw [if_pos c2] at H
    have c2b0 : decide (20000 < (a0.size : Int)) = true := decide_eq_true c2
    have c2b1 : decide (20000 < a0.size) = true := decide_eq_true (by omega)
    clear c2
    simp only [Option.some.injEq, Prod.mk.injEq] at H
    obtain ⟨rfl, rfl⟩ := H
    go_enter Try.func54, Try.ntmps54
    go_wp2
    go_ret2
    exact ⟨by first | rfl | (simp [errW_none, errW_some] <;> rfl) | (simp [*, errW_none, errW_some] <;> rfl), by repeat (first | (with_reducible first | exact HB.out | apply below_alloc | apply pw_below_drewN | apply below_drew1) | exact HB.out)⟩
  · rw [if_neg c2] at H
    have c2b0 : decide (20000 < (a0.size : Int)) = false := decide_eq_false c2
    have c2b1 : decide (20000 < a0.size) = false := decide_eq_false (by omega)
    clear c2
    replace H := Option.bind_eq_some_iff.mp H
    obtain ⟨t124, A30, H⟩ := H
    replace H : (if (strOfNums t124).size + a0.size ≤ 9223372036854775807 then (some ((strOfNums t124) ++ a0, 0)) else (none)) = some (r1, r2) := H
    have A3 := Aside0.mk A30
    clear A30
    by_cases c4 : (strOfNums t124).size + a0.size ≤ 9223372036854775807
    · rw [if_pos c4] at H
      have c4b0 := eq_true c4
      have c4b1 : decide ((strOfNums t124).size + a0.size ≤ 9223372036854775807) = true := decide_eq_true c4
      try have c4b2 : (9223372036854775807 < (strOfNums t124).size + a0.size) = False := eq_false (Nat.not_lt.2 c4)
      simp only [Option.some.injEq, Prod.mk.injEq] at H
      obtain ⟨rfl, rfl⟩ := H
      go_enter Try.func54, Try.ntmps54
      go_wp2_with (first | ((with_reducible refine gate_callee (f := 71) rfl ?_); refine goesL_ (some 10) rfl rfl Try.func71 (by kernel_rfl) rfl #[.slice none 0 0, .int .u64 (a0.size : Int)] rfl (by (try simp only [List.map_toArray, List.map_cons, List.map_nil]); first | done | rfl | (simp only [List.length_drop, List.length_take]; rfl)) ?_; (refine (pack_put.calls k (fun k_ => some k_ = (.slice none 0 0 : Value).ownBlock) (.slice none 0 0) ([] : List Int) (a0.size : Int) t124 w _ ?side1 ?side2 A3.out).mono ?_); (case side1 => repeat (first | (with_reducible first | exact HB.out | apply below_alloc | apply pw_below_drewN | apply below_drew1) | exact HB.out)); (case side2 => exact Kd.R_nil _ _ _ _ _); rintro e w5 ⟨v125, rfl, ho0, hb, hkp⟩; refine ⟨_, rfl, ?_⟩; have n0_ := Aside0.mk (Kd.R_mono (ok' := fun k_ => True) ho0 (fun k_ hk_ => trivial)); have n1_ := Aside0.mk (hb); clear HB; have HO126 := n0_; have HB := n1_; clear n0_ n1_; (try clear hb); (try clear hkp); (try clear ho0); have hcv6 := own_string (P := Try.prog) Try.underlying77 Try.underlying5 Try.underlying9 (Kd.own_of_R HO126.out)))
      go_ret2
      exact ⟨by first | rfl | (simp [errW_none, errW_some] <;> rfl) | (simp [*, errW_none, errW_some] <;> rfl), by repeat (first | (with_reducible first | exact HB.out | apply below_alloc | apply pw_below_drewN | apply below_drew1) | exact HB.out)⟩
    · rw [if_neg c4] at H
      exact absurd H (by simp)

/-! ### delta_Encode: function 33 -/
theorem delta_Encode.info : (Try.prog.info? 5).map (fun i => (i.zero, i.size, i.bytes)) = some (some (.int .u8 0), 1, 1) := by kernel_rfl
/-- The bytes behind an operation's kind. -/
def delta_Encode.part (k : Nat) (x : S36) : Option (ByteArray × Int) := if x.f0 = 2 then pack_Text.f k x.f2 else pack_Num.f k x.f1
def delta_Encode.l0 : Nat → List S36 → ByteArray → Int → Option (ByteArray × Int)
  | 0, _, _, _ => none
  | k + 1, l, out, i => if i < (l.length : Int) then (if 0 ≤ i then ((pack_Num.f k (rd_T36 l i).f0).bind fun b => (if out.size + b.1.size ≤ 140737488355328 then ((delta_Encode.part k (rd_T36 l i)).bind fun c => (if (out ++ b.1).size + c.1.size ≤ 140737488355328 then delta_Encode.l0 k l ((out ++ b.1) ++ c.1) (wrap64 (i + 1)) else none)) else none)) else none) else some (out, 0)
def delta_Encode.f (k : Nat) (l0 : List S36) : Option (ByteArray × Int) := (delta_Check.f k l0).bind fun e => if e = 0 then ((pack_Num.f k (l0.length : Int)).bind fun b => (if b.1.size ≤ 140737488355328 then delta_Encode.l0 k l0 b.1 0 else none)) else some ((⟨#[]⟩ : ByteArray), e)
theorem delta_Encode.part_mono (x : S36) (k : Nat) : LeO (delta_Encode.part k x) (delta_Encode.part (k + 1) x) := by
  unfold delta_Encode.part
  exact LeO.ite (pack_Text.mono _ _) (pack_Num.mono _ _)
theorem delta_Encode.mono_l : ∀ k, (∀ y0 y1 y2, LeO (delta_Encode.l0 k y0 y1 y2) (delta_Encode.l0 (k + 1) y0 y1 y2))
  | 0 => fun _ _ _ r h => by simp [delta_Encode.l0] at h
  | k + 1 => by
    have ih := delta_Encode.mono_l k
    intro y0 y1 y2
    unfold delta_Encode.l0
    exact LeO.ite (LeO.ite (LeO.bind (pack_Num.mono _ _) (fun _ => LeO.ite (LeO.bind (delta_Encode.part_mono _ _) (fun _ => LeO.ite (ih _ _ _) (LeO.refl _))) (LeO.refl _))) (LeO.refl _)) (LeO.refl _)
theorem delta_Encode.mono : ∀ a0 k, LeO (delta_Encode.f k a0) (delta_Encode.f (k + 1) a0) := by
  intro a0 k
  unfold delta_Encode.f
  exact LeO.bind (delta_Check.mono _ _) (fun _ => LeO.ite (LeO.bind (pack_Num.mono _ _) (fun _ => LeO.ite (delta_Encode.mono_l k _ _ _) (LeO.refl _))) (LeO.refl _))
theorem delta_Encode.own_lt {w : World} {B : Nat} {v : Value} {xs : List Value} (h : Byt.OwnM w B 5 v xs) : ∀ k, v.ownBlock = some k → k < w.heap.size := by
  obtain ⟨g, cap, cur, m, rfl, _, hh, _⟩ := h
  intro k hk
  have : g = k := by simpa [Value.ownBlock] using hk
  subst this
  exact blk_lt hh
/-- An element has been copied into a block of its own. -/
theorem delta_Encode.boxed {w0 wr w7 : World} {gb : Nat} {v : Value} {xs : List Value} (x : S36) (HB : Below w0.heap.size w0 wr) (HO : Byt.OwnM wr w0.heap.size 5 v xs) (hg : gb = wr.heap.size)
    (hbox : w7.heap[gb]? = some (.cells #[.int .i64 0, .int .i64 0, .string ⟨#[]⟩] 36 (0, 0))) (hb : Below wr.heap.size wr w7) :
    Below w0.heap.size w0 (((w7.setCell ⟨gb, 0, none⟩ (.int .i64 x.f0)).setCell ⟨gb, 1, none⟩ (.int .i64 x.f1)).setCell ⟨gb, 2, none⟩ (.string x.f2)) ∧ Byt.OwnM (((w7.setCell ⟨gb, 0, none⟩ (.int .i64 x.f0)).setCell ⟨gb, 1, none⟩ (.int .i64 x.f1)).setCell ⟨gb, 2, none⟩ (.string x.f2)) w0.heap.size 5 v xs ∧ (((w7.setCell ⟨gb, 0, none⟩ (.int .i64 x.f0)).setCell ⟨gb, 1, none⟩ (.int .i64 x.f1)).setCell ⟨gb, 2, none⟩ (.string x.f2)).heap[gb]? = some (.cells #[.int .i64 x.f0, .int .i64 x.f1, .string x.f2] 36 (0, 0)) ∧ some gb ≠ v.ownBlock := by
  have GE : w0.heap.size ≤ gb := by rw [hg]; exact HB.size
  have GW : wr.heap.size ≤ gb := by omega
  have hlt := delta_Encode.own_lt HO
  refine ⟨below_set (below_set (below_set (below_step HB hb) GE) GE) GE, Byt.OwnM.below HO (below_set (below_set (below_set hb GW) GW) GW), blk_put (blk_put (blk_put hbox 0 (.int .i64 x.f0) rfl) 1 (.int .i64 x.f1) rfl) 2 (.string x.f2) rfl, ?_⟩
  intro he
  have := hlt gb he.symm
  omega
set_option maxHeartbeats 8000000 in
set_option maxRecDepth 100000 in
theorem delta_Encode.calls (k : Nat) (A0 : Option Addr) (c0 : Nat) (l0 : List (S36)) (r1 : ByteArray) (r2 : Int) (w : World) (hr0 : Kd.C k36 w A0 l0.length l0) (hc0 : l0.length ≤ c0) (h : delta_Encode.f k l0 = some (r1, r2)) :
    Calls Try.prog 33 #[.slice A0 l0.length c0] w fun e w' => e = .returned (.tuple #[.string r1, .int .i64 r2]) ∧ Below w.heap.size w w' := by
  have hu36 := Try.underlying36
  have HR0 := Aside0.mk hr0
  have HC0 := Aside0.mk hc0
  unfold delta_Encode.f at h
  have h_ := Option.bind_eq_some_iff.mp h
  clear h
  obtain ⟨e, he, h⟩ := h_
  have HE := Aside0.mk he
  clear he hr0 hc0
  by_cases d : e = 0
  · rw [if_pos d] at h
    subst d
    have h_ := Option.bind_eq_some_iff.mp h
    clear h
    obtain ⟨⟨t, e0⟩, h1, h2⟩ := h_
    simp only at h2
    by_cases c3 : t.size ≤ 140737488355328
    case neg => rw [if_neg c3] at h2; cases h2
    rw [if_pos c3] at h2
    have A3 := Aside0.mk h1
    have H' := Aside0.mk h2
    have LT := Aside0.mk c3
    clear h1 h2 c3
    go_enter Try.func33, Try.ntmps33
    go_wp2_with (first | ((with_reducible refine gate_callee (f := 18) rfl ?_); refine goesL_ (some 13) rfl rfl Try.func18 (by kernel_rfl) rfl #[.slice A0 l0.length c0] rfl (by (try simp only [List.map_toArray, List.map_cons, List.map_nil]); first | done | rfl) ?_; (with_reducible refine (delta_Check.calls k A0 c0 l0 _ w HR0.out HC0.out HE.out).mono ?_); rintro e w1 ⟨rfl, hb⟩; refine ⟨_, rfl, ?_⟩; have HB1 := Aside0.mk hb; clear hb) | ((with_reducible refine gate_callee (f := 53) rfl ?_); refine goesL_ (some 20) rfl rfl Try.func53 (by kernel_rfl) rfl #[.int .i64 (l0.length : Int)] rfl (by (try simp only [List.map_toArray, List.map_cons, List.map_nil]); first | done | rfl) ?_; (with_reducible refine (pack_Num.calls k (l0.length : Int) t e0 _ A3.out).mono ?_); rintro e w4 ⟨rfl, hb⟩; refine ⟨_, rfl, ?_⟩; have HB4 := Aside0.mk (below_step HB1.out hb); clear hb) | ((with_reducible refine gate_dst (N := 24) rfl ?_); refine Byt.wpList_bytes rfl 9 77 (.tmp 23) rfl w.heap.size 5 Try.underlying9 Try.underlying77 Try.underlying5 t rfl ?cL ?cB ?_; (case cL => have := LT.out; unfold maxLen; omega); (case cB => exact HB4.out.size); intro v6 w6 hO _ hb; have HO := Aside0.mk hO; have HB6 := Aside0.mk (below_step HB4.out hb); clear hO hb))
    go_loopg [7, 27] k (fun kq v7 vi w' => ∃ (out : ByteArray) (i : Int), vi = .int .i64 i ∧ Aside0 (delta_Encode.l0 kq l0 out i = some (r1, r2)) ∧ Aside0 (kq ≤ k) ∧ Aside0 (Byt.OwnM w' w.heap.size 5 v7 (Lib.strCells out)) ∧ Aside0 (Below w.heap.size w w'))
    case atStart => exact ⟨t, 0, rfl, H', ⟨Nat.le_refl _⟩, HO, HB6⟩
    case round =>
      clear H' HO HB6 HB4 HB1
      obtain ⟨out, i, rfl, HA, HK, HO, HB⟩ := hrel
      cases gk with
      | zero => exact absurd HA.out (by simp [delta_Encode.l0])
      | succ k1 =>
        have H := HA.out
        clear HA
        simp only [delta_Encode.l0] at H
        by_cases c4 : i < (l0.length : Int)
        · rw [if_pos c4] at H
          have c4b : decide (i < (l0.length : Int)) = true := decide_eq_true c4
          by_cases c5 : 0 ≤ i
          · rw [if_pos c5] at H
            obtain ⟨ad, ead, hx0, hx1, hx2⟩ := at_T36 HR0.out i c5 c4
            cases ead
            obtain ⟨x, Nx_⟩ : ∃ y_ : S36, y_ = rd_T36 l0 i := ⟨_, rfl⟩
            rw [← Nx_] at H hx0 hx1 hx2
            have X0 := Aside0.mk hx0
            have X1 := Aside0.mk hx1
            have X2 := Aside0.mk hx2
            replace hx0 := (HB.out.cell (World.block_lt_of_cell? w _ hx0)).trans hx0
            replace hx1 := (HB.out.cell (World.block_lt_of_cell? w _ hx1)).trans hx1
            replace hx2 := (HB.out.cell (World.block_lt_of_cell? w _ hx2)).trans hx2
            have Nx := Aside0.mk Nx_
            clear Nx_
            have p9 := eq_true c5
            have q9 := eq_true c4
            clear c4 c5
            have H_ := Option.bind_eq_some_iff.mp H
            clear H
            obtain ⟨⟨t1, e1⟩, h4, H⟩ := H_
            simp only at H
            have A4 := Aside0.mk h4
            clear h4
            by_cases c6 : out.size + t1.size ≤ 140737488355328
            case neg => rw [if_neg c6] at H; cases H
            rw [if_pos c6] at H
            have L6 := Aside0.mk c6
            clear c6
            have H_ := Option.bind_eq_some_iff.mp H
            clear H
            obtain ⟨⟨t2, e2⟩, h5, H⟩ := H_
            simp only at H
            by_cases c7 : (out ++ t1).size + t2.size ≤ 140737488355328
            case neg => rw [if_neg c7] at H; cases H
            rw [if_pos c7] at H
            have L7 := Aside0.mk c7
            clear c7
            have H' := Aside0.mk H
            clear H
            unfold delta_Encode.part at h5
            by_cases d2 : x.f0 = 2
            · rw [if_pos d2] at h5
              have A5 := Aside0.mk h5
              have d2b : (x.f0 == 2) = true := beq_iff_eq.mpr d2
              clear h5 d2
              go_wp2_with (first | ((with_reducible refine gate_dst (N := 9) rfl ?_); refine box_event ?hg (N := 9) ?hd (cs := #[.int .i64 0, .int .i64 0, .string (⟨#[]⟩ : ByteArray)]) (t := 36) ?hr ?_; (case hd => rfl); (case hg => rfl); (case hr => first | (go_simp; done) | (go_simp; rfl)); intro gb hg w7 hbox hb; obtain ⟨hBx, hOx, hXx, hnx⟩ := delta_Encode.boxed x HB.out HO.out hg hbox hb; have HBx := Aside0.mk hBx; have HOx := Aside0.mk hOx; have HXx := Aside0.mk hXx; have HNX := Aside0.mk hnx; have BK := Aside0.mk hbox; clear hb hbox hg hBx hOx hXx hnx; have hz0 : w7.cell? ⟨gb, 0, none⟩ = some (.int .i64 0) := (blk_cell BK.out 0).trans rfl; have hz1 : w7.cell? ⟨gb, 1, none⟩ = some (.int .i64 0) := (blk_cell BK.out 1).trans rfl; have hz2 : w7.cell? ⟨gb, 2, none⟩ = some (.string (⟨#[]⟩ : ByteArray)) := (blk_cell BK.out 2).trans rfl; have hf0 := blk_frozen BK.out 0; have hf1 := blk_frozen BK.out 1; have hf2 := blk_frozen BK.out 2) | ((with_reducible refine gate_callee (f := 53) rfl ?_); refine goesL_ (some 34) rfl rfl Try.func53 (by kernel_rfl) rfl #[.int .i64 x.f0] rfl (by (try simp only [List.map_toArray, List.map_cons, List.map_nil]); first | done | rfl) ?_; (with_reducible refine (pack_Num.calls k1 x.f0 t1 e1 _ A4.out).mono ?_); rintro e w9 ⟨rfl, hb⟩; refine ⟨_, rfl, ?_⟩; have HB9 := Aside0.mk (below_step HBx.out hb); have HO9 := Aside0.mk (Byt.OwnM.below HOx.out hb); have HX9 := Aside0.mk (blk_below HXx.out hb); clear hb; have y9_0 := (blk_cell HX9.out 0).trans rfl; have y9_1 := (blk_cell HX9.out 1).trans rfl; have y9_2 := (blk_cell HX9.out 2).trans rfl) | ((with_reducible refine gate_dst (N := 39) rfl ?_); refine Byt.wpList_append_M rfl (.tmp 37) (.tmp 38) 77 9 rfl w.heap.size 5 Try.underlying77 Try.underlying9 delta_Encode.info _ (Lib.strCells (out)) rfl HO9.out t1 rfl ?cLa ?cBa ?_; (case cLa => have := L6.out; rw [Lib.strCells_length]; omega); (case cBa => exact HB9.out.size); intro v10 w10 hO hg; rw [← Byt.strCells_append] at hO; have HB10 := Aside0.mk (pw_below_grown HB9.out _ HB9.out.size hg (fun k_ hk => Byt.OwnM.base_le HO9.out k_ hk)); have HO10 := Aside0.mk hO; have HX10 := Aside0.mk (blk_grown HX9.out hg HNX.out); clear hO hg; have y10_0 := (blk_cell HX10.out 0).trans rfl; have y10_1 := (blk_cell HX10.out 1).trans rfl; have y10_2 := (blk_cell HX10.out 2).trans rfl) | ((with_reducible refine gate_callee (f := 54) rfl ?_); refine goesL_ (some 46) rfl rfl Try.func54 (by kernel_rfl) rfl #[.string x.f2] rfl (by (try simp only [List.map_toArray, List.map_cons, List.map_nil]); first | done | rfl) ?_; (with_reducible refine (pack_Text.calls k1 x.f2 t2 e2 _ A5.out).mono ?_); rintro e w11 ⟨rfl, hb⟩; refine ⟨_, rfl, ?_⟩; have HB11 := Aside0.mk (below_step HB10.out hb); have HO11 := Aside0.mk (Byt.OwnM.below HO10.out hb); clear hb) | ((with_reducible refine gate_dst (N := 57) rfl ?_); refine Byt.wpList_append_M rfl (.tmp 55) (.tmp 56) 77 9 rfl w.heap.size 5 Try.underlying77 Try.underlying9 delta_Encode.info _ (Lib.strCells (out ++ t1)) rfl HO11.out t2 rfl ?cLb ?cBb ?_; (case cLb => have := L7.out; rw [Lib.strCells_length]; omega); (case cBb => exact HB11.out.size); intro v12 w12 hO hg; rw [← Byt.strCells_append] at hO; have HB12 := Aside0.mk (pw_below_grown HB11.out _ HB11.out.size hg (fun k_ hk => Byt.OwnM.base_le HO11.out k_ hk)); have HO12 := Aside0.mk hO; clear hO hg))
              go_roundg k1
              case measure => have := HK.out; omega
              case rel => exact ⟨_, wrap64 (i + 1), rfl, H', ⟨by have := HK.out; omega⟩, HO12, HB12⟩
            · rw [if_neg d2] at h5
              have A5 := Aside0.mk h5
              have d2b : (x.f0 == 2) = false := beq_eq_false_iff_ne.mpr d2
              clear h5 d2
              go_wp2_with (first | ((with_reducible refine gate_dst (N := 9) rfl ?_); refine box_event ?hg (N := 9) ?hd (cs := #[.int .i64 0, .int .i64 0, .string (⟨#[]⟩ : ByteArray)]) (t := 36) ?hr ?_; (case hd => rfl); (case hg => rfl); (case hr => first | (go_simp; done) | (go_simp; rfl)); intro gb hg w7 hbox hb; obtain ⟨hBx, hOx, hXx, hnx⟩ := delta_Encode.boxed x HB.out HO.out hg hbox hb; have HBx := Aside0.mk hBx; have HOx := Aside0.mk hOx; have HXx := Aside0.mk hXx; have HNX := Aside0.mk hnx; have BK := Aside0.mk hbox; clear hb hbox hg hBx hOx hXx hnx; have hz0 : w7.cell? ⟨gb, 0, none⟩ = some (.int .i64 0) := (blk_cell BK.out 0).trans rfl; have hz1 : w7.cell? ⟨gb, 1, none⟩ = some (.int .i64 0) := (blk_cell BK.out 1).trans rfl; have hz2 : w7.cell? ⟨gb, 2, none⟩ = some (.string (⟨#[]⟩ : ByteArray)) := (blk_cell BK.out 2).trans rfl; have hf0 := blk_frozen BK.out 0; have hf1 := blk_frozen BK.out 1; have hf2 := blk_frozen BK.out 2) | ((with_reducible refine gate_callee (f := 53) rfl ?_); refine goesL_ (some 34) rfl rfl Try.func53 (by kernel_rfl) rfl #[.int .i64 x.f0] rfl (by (try simp only [List.map_toArray, List.map_cons, List.map_nil]); first | done | rfl) ?_; (with_reducible refine (pack_Num.calls k1 x.f0 t1 e1 _ A4.out).mono ?_); rintro e w9 ⟨rfl, hb⟩; refine ⟨_, rfl, ?_⟩; have HB9 := Aside0.mk (below_step HBx.out hb); have HO9 := Aside0.mk (Byt.OwnM.below HOx.out hb); have HX9 := Aside0.mk (blk_below HXx.out hb); clear hb; have y9_0 := (blk_cell HX9.out 0).trans rfl; have y9_1 := (blk_cell HX9.out 1).trans rfl; have y9_2 := (blk_cell HX9.out 2).trans rfl) | ((with_reducible refine gate_dst (N := 39) rfl ?_); refine Byt.wpList_append_M rfl (.tmp 37) (.tmp 38) 77 9 rfl w.heap.size 5 Try.underlying77 Try.underlying9 delta_Encode.info _ (Lib.strCells (out)) rfl HO9.out t1 rfl ?cLa ?cBa ?_; (case cLa => have := L6.out; rw [Lib.strCells_length]; omega); (case cBa => exact HB9.out.size); intro v10 w10 hO hg; rw [← Byt.strCells_append] at hO; have HB10 := Aside0.mk (pw_below_grown HB9.out _ HB9.out.size hg (fun k_ hk => Byt.OwnM.base_le HO9.out k_ hk)); have HO10 := Aside0.mk hO; have HX10 := Aside0.mk (blk_grown HX9.out hg HNX.out); clear hO hg; have y10_0 := (blk_cell HX10.out 0).trans rfl; have y10_1 := (blk_cell HX10.out 1).trans rfl; have y10_2 := (blk_cell HX10.out 2).trans rfl) | ((with_reducible refine gate_callee (f := 53) rfl ?_); refine goesL_ (some 52) rfl rfl Try.func53 (by kernel_rfl) rfl #[.int .i64 x.f1] rfl (by (try simp only [List.map_toArray, List.map_cons, List.map_nil]); first | done | rfl) ?_; (with_reducible refine (pack_Num.calls k1 x.f1 t2 e2 _ A5.out).mono ?_); rintro e w11 ⟨rfl, hb⟩; refine ⟨_, rfl, ?_⟩; have HB11 := Aside0.mk (below_step HB10.out hb); have HO11 := Aside0.mk (Byt.OwnM.below HO10.out hb); clear hb) | ((with_reducible refine gate_dst (N := 57) rfl ?_); refine Byt.wpList_append_M rfl (.tmp 55) (.tmp 56) 77 9 rfl w.heap.size 5 Try.underlying77 Try.underlying9 delta_Encode.info _ (Lib.strCells (out ++ t1)) rfl HO11.out t2 rfl ?cLb ?cBb ?_; (case cLb => have := L7.out; rw [Lib.strCells_length]; omega); (case cBb => exact HB11.out.size); intro v12 w12 hO hg; rw [← Byt.strCells_append] at hO; have HB12 := Aside0.mk (pw_below_grown HB11.out _ HB11.out.size hg (fun k_ hk => Byt.OwnM.base_le HO11.out k_ hk)); have HO12 := Aside0.mk hO; clear hO hg))
              go_roundg k1
              case measure => have := HK.out; omega
              case rel => exact ⟨_, wrap64 (i + 1), rfl, H', ⟨by have := HK.out; omega⟩, HO12, HB12⟩
          · rw [if_neg c5] at H
            cases H
        · rw [if_neg c4] at H
          have c4b : decide (i < (l0.length : Int)) = false := decide_eq_false c4
          clear c4
          have H_ := Prod.mk.inj (Option.some.inj H)
          clear H
          obtain ⟨rfl, rfl⟩ := H_
          have hcv := Byt.OwnM.toString (P := Try.prog) Try.underlying77 Try.underlying5 Try.underlying9 HO.out
          go_wp2
          go_ret2
          exact ⟨rfl, HB.out⟩
  · rw [if_neg d] at h
    have h_ := Prod.mk.inj (Option.some.inj h)
    clear h
    obtain ⟨rfl, rfl⟩ := h_
    have db : (e != 0) = true := by rw [bne_iff_ne]; exact d
    have db2 : (e == 0) = false := beq_eq_false_iff_ne.mpr d
    clear d
    go_enter Try.func33, Try.ntmps33
    go_wp2_with (first | ((with_reducible refine gate_callee (f := 18) rfl ?_); refine goesL_ (some 13) rfl rfl Try.func18 (by kernel_rfl) rfl #[.slice A0 l0.length c0] rfl (by (try simp only [List.map_toArray, List.map_cons, List.map_nil]); first | done | rfl) ?_; (with_reducible refine (delta_Check.calls k A0 c0 l0 _ w HR0.out HC0.out HE.out).mono ?_); rintro e w1 ⟨rfl, hb⟩; refine ⟨_, rfl, ?_⟩; have HB1 := Aside0.mk hb; clear hb))
    go_ret2
    exact ⟨rfl, HB1.out⟩


/-! ### delta_Base: function 19 -/
def delta_Base.f (k : Nat) (l0 : List (S36)) : Option (Int × Int) := (delta_lengths.f k l0).bind fun bt127 => (some (bt127.1, bt127.2.2))
theorem delta_Base.mono : ∀ a0 k, LeO (delta_Base.f k a0) (delta_Base.f (k + 1) a0) := by
  intro a0 k
  unfold delta_Base.f
  repeat' first
      | (with_reducible exact delta_lengths.mono _ _)
      | (with_reducible exact LeO.refl _)
      | (with_reducible exact LeO.none _)
      | (with_reducible refine LeO.ite ?_ ?_)
      | (with_reducible refine LeO.bind ?_ (fun _ => ?_))
      | exact delta_lengths.mono _ _
      | exact LeO.none _
      | refine LeO.ite ?_ ?_
      | refine LeO.bind ?_ (fun _ => ?_)
set_option maxHeartbeats 8000000 in
set_option maxRecDepth 100000 in
theorem delta_Base.calls (k : Nat) (A0 : Option Addr) (c0 : Nat) (l0 : List (S36)) (r1 : Int) (r2 : Int) (w : World) (hr0 : Kd.C k36 w A0 l0.length l0) (hc0 : l0.length ≤ c0) (h : delta_Base.f k l0 = some (r1, r2)) :
    Calls Try.prog 19 #[.slice A0 l0.length c0] w fun e w' => e = .returned (.tuple #[.int .i64 r1, .int .i64 r2]) ∧ Below w.heap.size w w' := by
  have HR0 := Aside0.mk hr0
  have HC0 := Aside0.mk hc0
  clear hr0 hc0
  have HB := Aside0.mk (Below.refl w.heap.size w)
  have H : ((delta_lengths.f k l0).bind fun bt127 => (some (bt127.1, bt127.2.2))) = some (r1, r2) := h
  clear h
  replace H := Option.bind_eq_some_iff.mp H
  obtain ⟨⟨t127, t128, t129⟩, A20, H⟩ := H
  replace H : (some (t127, t129)) = some (r1, r2) := H
  have A2 := Aside0.mk A20
  clear A20
  simp only [Option.some.injEq, Prod.mk.injEq] at H
  obtain ⟨rfl, rfl⟩ := H
  go_enter Try.func19, Try.ntmps19
  go_wp2_with (first | ((with_reducible refine gate_callee (f := 42) rfl ?_); refine goesL_ (some 9) rfl rfl Try.func42 (by kernel_rfl) rfl #[.slice A0 l0.length c0] rfl (by (try simp only [List.map_toArray, List.map_cons, List.map_nil]); first | done | rfl | (simp only [List.length_drop, List.length_take]; rfl)) ?_; (with_reducible refine (delta_lengths.calls k _ _ l0 t127 t128 t129 _ ?side1 ?side2 A2.out).mono ?_); (case side1 => repeat (first | exact HR0.out | (with_reducible refine Kd.C_alloc ?_ _) | (with_reducible refine Kd.C_drewN ?_ _) | (with_reducible refine Kd.C_drew ?_))); (case side2 => exact HC0.out); rintro e w3 ⟨rfl, hb⟩; refine ⟨_, rfl, ?_⟩; have n0_ := Aside0.mk (below_step (by repeat (first | (with_reducible first | exact HB.out | apply below_alloc | apply pw_below_drewN | apply below_drew1) | exact HB.out)) hb); clear HB; have HB := n0_; clear n0_; (try clear hb); (try clear hb2); (try clear hk); (try clear hi)))
  go_ret2
  exact ⟨by first | rfl | (simp [errW_none, errW_some] <;> rfl) | (simp [*, errW_none, errW_some] <;> rfl), by repeat (first | (with_reducible first | exact HB.out | apply below_alloc | apply pw_below_drewN | apply below_drew1) | exact HB.out)⟩

end Go.Proofs.Ytdpbkomaiafemaa.HDd
