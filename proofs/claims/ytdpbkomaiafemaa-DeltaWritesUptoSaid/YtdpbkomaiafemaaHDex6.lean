-- Written by hprint.py over the kit's print.py; contracts of some functions by hand.
import Derived.Test.YtdpbkomaiafemaaHDex0
import Derived.Test.YtdpbkomaiafemaaHDex5
namespace Go.Proofs.Ytdpbkomaiafemaa.HDe
open Go.RowKit Go.Proofs.YtdpbkomaiafemaaW.PrintWords Go.Proofs.YtdpbkomaiafemaaW.PrintLast Go.Proofs.YtdpbkomaiafemaaW.PrintMore
attribute [local go_sem] max2_int min2_int max_two min_two max_three min_three max_four min_four   -- for this text's walks alone
set_option linter.unusedVariables false
set_option linter.unusedSimpArgs false

/-! ### delta_kind: function 68 -/
def delta_kind.f (k : Nat) (a0 a1 : Int) (a2 : ByteArray) : Option Value :=
  if ((a0 == 1) && ((a2.toList == ([] : List UInt8)) && decide (1 ≤ a1) && decide (a1 ≤ 1000))) = true then some (.iface 88 (.int .i64 a1))
  else if ((a0 == 3) && ((a2.toList == ([] : List UInt8)) && decide (1 ≤ a1) && decide (a1 ≤ 1000))) = true then some (.iface 89 (.int .i64 a1))
  else if ((a0 == 2) && (a1 == 0)) = true then (text_Len.f k a2).bind fun n => if 0 < n then some (.iface 90 (.string a2)) else some .nilIface
  else some .nilIface
theorem delta_kind.mono : ∀ a0 a1 a2 k, LeO (delta_kind.f k a0 a1 a2) (delta_kind.f (k + 1) a0 a1 a2) := by
  intro a0 a1 a2 k
  unfold delta_kind.f
  exact LeO.ite (LeO.refl _) (LeO.ite (LeO.refl _) (LeO.ite (LeO.bind (text_Len.mono _ _) (fun _ => LeO.refl _)) (LeO.refl _)))
/-- What it is, as a number: 1 keep, 3 remove, 2 put, 0 none. -/
def delta_kind.tag (k : Nat) (a0 a1 : Int) (a2 : ByteArray) : Option Int :=
  if ((a0 == 1) && ((a2.toList == ([] : List UInt8)) && decide (1 ≤ a1) && decide (a1 ≤ 1000))) = true then some 1
  else if ((a0 == 3) && ((a2.toList == ([] : List UInt8)) && decide (1 ≤ a1) && decide (a1 ≤ 1000))) = true then some 3
  else if ((a0 == 2) && (a1 == 0)) = true then (text_Len.f k a2).bind fun n => if 0 < n then some 2 else some 0
  else some 0
def delta_kind.val (g a1 : Int) (a2 : ByteArray) : Value := if g = 1 then .iface 88 (.int .i64 a1) else if g = 3 then .iface 89 (.int .i64 a1) else if g = 2 then .iface 90 (.string a2) else .nilIface
theorem delta_kind.tag_mono : ∀ a0 a1 a2 k, LeO (delta_kind.tag k a0 a1 a2) (delta_kind.tag (k + 1) a0 a1 a2) := by
  intro a0 a1 a2 k
  unfold delta_kind.tag
  exact LeO.ite (LeO.refl _) (LeO.ite (LeO.refl _) (LeO.ite (LeO.bind (text_Len.mono _ _) (fun _ => LeO.refl _)) (LeO.refl _)))
theorem delta_kind.of_tag {k : Nat} {a0 a1 : Int} {a2 : ByteArray} {g : Int} (h : delta_kind.tag k a0 a1 a2 = some g) : delta_kind.f k a0 a1 a2 = some (delta_kind.val g a1 a2) ∧ (g = 1 ∨ g = 3 ∨ g = 2 ∨ g = 0) := by
  unfold delta_kind.tag at h
  unfold delta_kind.f
  split at h
  · rename_i c; obtain rfl := Option.some.inj h; rw [if_pos c]; exact ⟨rfl, .inl rfl⟩
  · rename_i c
    rw [if_neg c]
    split at h
    · rename_i c; obtain rfl := Option.some.inj h; rw [if_pos c]; exact ⟨rfl, .inr (.inl rfl)⟩
    · rename_i c
      rw [if_neg c]
      split at h
      · rename_i c
        rw [if_pos c]
        obtain ⟨n, hn, h⟩ := Option.bind_eq_some_iff.mp h
        rw [hn]
        by_cases c4 : 0 < n
        · rw [if_pos c4] at h; obtain rfl := Option.some.inj h
          exact ⟨by show (if 0 < n then _ else _) = _; rw [if_pos c4]; rfl, .inr (.inr (.inl rfl))⟩
        · rw [if_neg c4] at h; obtain rfl := Option.some.inj h
          exact ⟨by show (if 0 < n then _ else _) = _; rw [if_neg c4]; rfl, .inr (.inr (.inr rfl))⟩
      · rename_i c; obtain rfl := Option.some.inj h; rw [if_neg c]; exact ⟨rfl, .inr (.inr (.inr rfl))⟩
set_option maxHeartbeats 8000000 in
set_option maxRecDepth 100000 in
theorem delta_kind.calls (k : Nat) (a0 a1 : Int) (a2 : ByteArray) (v : Value) (w : World) (h : delta_kind.f k a0 a1 a2 = some v) :
    Calls Try.prog 68 #[.agg #[.int .i64 a0, .int .i64 a1, .string a2]] w fun e w' => e = .returned v ∧ Below w.heap.size w w' := by
  have hu36 := Try.underlying36
  have HB := Aside0.mk (Below.refl w.heap.size w)
  unfold delta_kind.f at h
  cases b1 : (a2.toList == ([] : List UInt8)) with
  | false =>
    by_cases d1 : a0 = 1
    · subst d1
      simp [b1] at h
      subst h
      go_enter Try.func68, Try.ntmps68
      go_wp2_with (first | ((with_reducible refine gate_dst (N := 1) rfl ?_); refine box_event ?hg (N := 1) ?hd (cs := #[.int .i64 1, .int .i64 a1, .string a2]) (t := 36) ?hr ?_; (case hd => rfl); (case hg => rfl); (case hr => first | (go_simp; done) | (go_simp; rfl)); intro gb hg w1 hbox hb; have HB1 := Aside0.mk (below_step HB.out hb); have BK := Aside0.mk hbox; have hz0 : w1.cell? ⟨gb, 0, none⟩ = some (.int .i64 1) := (blk_cell BK.out 0).trans rfl; have hz1 : w1.cell? ⟨gb, 1, none⟩ = some (.int .i64 a1) := (blk_cell BK.out 1).trans rfl; have hz2 : w1.cell? ⟨gb, 2, none⟩ = some (.string a2) := (blk_cell BK.out 2).trans rfl; clear hb hbox hg))
      skip
      go_ret
      exact ⟨rfl, HB1.out⟩
    · by_cases d3 : a0 = 3
      · subst d3
        simp [b1] at h
        subst h
        go_enter Try.func68, Try.ntmps68
        go_wp2_with (first | ((with_reducible refine gate_dst (N := 1) rfl ?_); refine box_event ?hg (N := 1) ?hd (cs := #[.int .i64 3, .int .i64 a1, .string a2]) (t := 36) ?hr ?_; (case hd => rfl); (case hg => rfl); (case hr => first | (go_simp; done) | (go_simp; rfl)); intro gb hg w1 hbox hb; have HB1 := Aside0.mk (below_step HB.out hb); have BK := Aside0.mk hbox; have hz0 : w1.cell? ⟨gb, 0, none⟩ = some (.int .i64 3) := (blk_cell BK.out 0).trans rfl; have hz1 : w1.cell? ⟨gb, 1, none⟩ = some (.int .i64 a1) := (blk_cell BK.out 1).trans rfl; have hz2 : w1.cell? ⟨gb, 2, none⟩ = some (.string a2) := (blk_cell BK.out 2).trans rfl; clear hb hbox hg))
        skip
        go_ret
        exact ⟨rfl, HB1.out⟩
      · by_cases d2 : a0 = 2
        · subst d2
          by_cases d7 : a1 = 0
          · have b7 : (a1 == 0) = true := beq_iff_eq.mpr d7
            rw [d7] at h
            simp only [b1, Bool.false_and, Bool.and_false, beq_self_eq_true, Bool.and_self, show ((2 : Int) == 1) = false from rfl, show ((2 : Int) == 3) = false from rfl, if_true, Bool.false_eq_true, if_false] at h
            obtain ⟨n, hn, h⟩ := Option.bind_eq_some_iff.mp h
            have HN := Aside0.mk hn
            clear hn
            by_cases d8 : 0 < n
            · have b8 : decide (0 < n) = true := decide_eq_true d8
              rw [if_pos d8] at h
              obtain rfl := Option.some.inj h
              clear d7
              go_enter Try.func68, Try.ntmps68
              go_wp2_with (first | ((with_reducible refine gate_dst (N := 1) rfl ?_); refine box_event ?hg (N := 1) ?hd (cs := #[.int .i64 2, .int .i64 a1, .string a2]) (t := 36) ?hr ?_; (case hd => rfl); (case hg => rfl); (case hr => first | (go_simp; done) | (go_simp; rfl)); intro gb hg w1 hbox hb; have HB1 := Aside0.mk (below_step HB.out hb); have BK := Aside0.mk hbox; have hz0 : w1.cell? ⟨gb, 0, none⟩ = some (.int .i64 2) := (blk_cell BK.out 0).trans rfl; have hz1 : w1.cell? ⟨gb, 1, none⟩ = some (.int .i64 a1) := (blk_cell BK.out 1).trans rfl; have hz2 : w1.cell? ⟨gb, 2, none⟩ = some (.string a2) := (blk_cell BK.out 2).trans rfl; clear hb hbox hg) | (go_at_call 69; (with_reducible refine (text_Len.calls k a2 n _ HN.out).mono ?_); rintro e w2 ⟨rfl, hb⟩; have HB2 := Aside0.mk (below_step HB1.out hb); have hy2 := (hb.cell (World.block_lt_of_cell? _ _ hz2)).trans hz2; clear hb))
              skip
              go_ret
              exact ⟨rfl, HB2.out⟩
            · have b8 : decide (0 < n) = false := decide_eq_false d8
              rw [if_neg d8] at h
              obtain rfl := Option.some.inj h
              clear d7
              go_enter Try.func68, Try.ntmps68
              go_wp2_with (first | ((with_reducible refine gate_dst (N := 1) rfl ?_); refine box_event ?hg (N := 1) ?hd (cs := #[.int .i64 2, .int .i64 a1, .string a2]) (t := 36) ?hr ?_; (case hd => rfl); (case hg => rfl); (case hr => first | (go_simp; done) | (go_simp; rfl)); intro gb hg w1 hbox hb; have HB1 := Aside0.mk (below_step HB.out hb); have BK := Aside0.mk hbox; have hz0 : w1.cell? ⟨gb, 0, none⟩ = some (.int .i64 2) := (blk_cell BK.out 0).trans rfl; have hz1 : w1.cell? ⟨gb, 1, none⟩ = some (.int .i64 a1) := (blk_cell BK.out 1).trans rfl; have hz2 : w1.cell? ⟨gb, 2, none⟩ = some (.string a2) := (blk_cell BK.out 2).trans rfl; clear hb hbox hg) | (go_at_call 69; (with_reducible refine (text_Len.calls k a2 n _ HN.out).mono ?_); rintro e w2 ⟨rfl, hb⟩; have HB2 := Aside0.mk (below_step HB1.out hb); have hy2 := (hb.cell (World.block_lt_of_cell? _ _ hz2)).trans hz2; clear hb))
              skip
              go_ret
              exact ⟨rfl, HB2.out⟩
          · have b7 : (a1 == 0) = false := beq_eq_false_iff_ne.mpr d7
            simp [b7, b1] at h
            subst h
            go_enter Try.func68, Try.ntmps68
            go_wp2_with (first | ((with_reducible refine gate_dst (N := 1) rfl ?_); refine box_event ?hg (N := 1) ?hd (cs := #[.int .i64 2, .int .i64 a1, .string a2]) (t := 36) ?hr ?_; (case hd => rfl); (case hg => rfl); (case hr => first | (go_simp; done) | (go_simp; rfl)); intro gb hg w1 hbox hb; have HB1 := Aside0.mk (below_step HB.out hb); have BK := Aside0.mk hbox; have hz0 : w1.cell? ⟨gb, 0, none⟩ = some (.int .i64 2) := (blk_cell BK.out 0).trans rfl; have hz1 : w1.cell? ⟨gb, 1, none⟩ = some (.int .i64 a1) := (blk_cell BK.out 1).trans rfl; have hz2 : w1.cell? ⟨gb, 2, none⟩ = some (.string a2) := (blk_cell BK.out 2).trans rfl; clear hb hbox hg))
            skip
            go_ret
            exact ⟨rfl, HB1.out⟩
        · have e1 : (a0 == 1) = false := beq_eq_false_iff_ne.mpr d1
          have e2 : (a0 == 2) = false := beq_eq_false_iff_ne.mpr d2
          have e3 : (a0 == 3) = false := beq_eq_false_iff_ne.mpr d3
          simp [e1, e2, e3] at h
          subst h
          go_enter Try.func68, Try.ntmps68
          go_wp2_with (first | ((with_reducible refine gate_dst (N := 1) rfl ?_); refine box_event ?hg (N := 1) ?hd (cs := #[.int .i64 a0, .int .i64 a1, .string a2]) (t := 36) ?hr ?_; (case hd => rfl); (case hg => rfl); (case hr => first | (go_simp; done) | (go_simp; rfl)); intro gb hg w1 hbox hb; have HB1 := Aside0.mk (below_step HB.out hb); have BK := Aside0.mk hbox; have hz0 : w1.cell? ⟨gb, 0, none⟩ = some (.int .i64 a0) := (blk_cell BK.out 0).trans rfl; have hz1 : w1.cell? ⟨gb, 1, none⟩ = some (.int .i64 a1) := (blk_cell BK.out 1).trans rfl; have hz2 : w1.cell? ⟨gb, 2, none⟩ = some (.string a2) := (blk_cell BK.out 2).trans rfl; clear hb hbox hg))
          skip
          go_ret
          exact ⟨rfl, HB1.out⟩
  | true =>
    cases b2 : decide (1 ≤ a1) with
    | false =>
      by_cases d1 : a0 = 1
      · subst d1
        simp [b2] at h
        subst h
        go_enter Try.func68, Try.ntmps68
        go_wp2_with (first | ((with_reducible refine gate_dst (N := 1) rfl ?_); refine box_event ?hg (N := 1) ?hd (cs := #[.int .i64 1, .int .i64 a1, .string a2]) (t := 36) ?hr ?_; (case hd => rfl); (case hg => rfl); (case hr => first | (go_simp; done) | (go_simp; rfl)); intro gb hg w1 hbox hb; have HB1 := Aside0.mk (below_step HB.out hb); have BK := Aside0.mk hbox; have hz0 : w1.cell? ⟨gb, 0, none⟩ = some (.int .i64 1) := (blk_cell BK.out 0).trans rfl; have hz1 : w1.cell? ⟨gb, 1, none⟩ = some (.int .i64 a1) := (blk_cell BK.out 1).trans rfl; have hz2 : w1.cell? ⟨gb, 2, none⟩ = some (.string a2) := (blk_cell BK.out 2).trans rfl; clear hb hbox hg))
        skip
        go_ret
        exact ⟨rfl, HB1.out⟩
      · by_cases d3 : a0 = 3
        · subst d3
          simp [b2] at h
          subst h
          go_enter Try.func68, Try.ntmps68
          go_wp2_with (first | ((with_reducible refine gate_dst (N := 1) rfl ?_); refine box_event ?hg (N := 1) ?hd (cs := #[.int .i64 3, .int .i64 a1, .string a2]) (t := 36) ?hr ?_; (case hd => rfl); (case hg => rfl); (case hr => first | (go_simp; done) | (go_simp; rfl)); intro gb hg w1 hbox hb; have HB1 := Aside0.mk (below_step HB.out hb); have BK := Aside0.mk hbox; have hz0 : w1.cell? ⟨gb, 0, none⟩ = some (.int .i64 3) := (blk_cell BK.out 0).trans rfl; have hz1 : w1.cell? ⟨gb, 1, none⟩ = some (.int .i64 a1) := (blk_cell BK.out 1).trans rfl; have hz2 : w1.cell? ⟨gb, 2, none⟩ = some (.string a2) := (blk_cell BK.out 2).trans rfl; clear hb hbox hg))
          skip
          go_ret
          exact ⟨rfl, HB1.out⟩
        · by_cases d2 : a0 = 2
          · subst d2
            by_cases d7 : a1 = 0
            · have b7 : (a1 == 0) = true := beq_iff_eq.mpr d7
              rw [d7] at h
              simp only [b2, Bool.false_and, Bool.and_false, beq_self_eq_true, Bool.and_self, show ((2 : Int) == 1) = false from rfl, show ((2 : Int) == 3) = false from rfl, if_true, Bool.false_eq_true, if_false] at h
              obtain ⟨n, hn, h⟩ := Option.bind_eq_some_iff.mp h
              have HN := Aside0.mk hn
              clear hn
              by_cases d8 : 0 < n
              · have b8 : decide (0 < n) = true := decide_eq_true d8
                rw [if_pos d8] at h
                obtain rfl := Option.some.inj h
                clear d7
                go_enter Try.func68, Try.ntmps68
                go_wp2_with (first | ((with_reducible refine gate_dst (N := 1) rfl ?_); refine box_event ?hg (N := 1) ?hd (cs := #[.int .i64 2, .int .i64 a1, .string a2]) (t := 36) ?hr ?_; (case hd => rfl); (case hg => rfl); (case hr => first | (go_simp; done) | (go_simp; rfl)); intro gb hg w1 hbox hb; have HB1 := Aside0.mk (below_step HB.out hb); have BK := Aside0.mk hbox; have hz0 : w1.cell? ⟨gb, 0, none⟩ = some (.int .i64 2) := (blk_cell BK.out 0).trans rfl; have hz1 : w1.cell? ⟨gb, 1, none⟩ = some (.int .i64 a1) := (blk_cell BK.out 1).trans rfl; have hz2 : w1.cell? ⟨gb, 2, none⟩ = some (.string a2) := (blk_cell BK.out 2).trans rfl; clear hb hbox hg) | (go_at_call 69; (with_reducible refine (text_Len.calls k a2 n _ HN.out).mono ?_); rintro e w2 ⟨rfl, hb⟩; have HB2 := Aside0.mk (below_step HB1.out hb); have hy2 := (hb.cell (World.block_lt_of_cell? _ _ hz2)).trans hz2; clear hb))
                skip
                go_ret
                exact ⟨rfl, HB2.out⟩
              · have b8 : decide (0 < n) = false := decide_eq_false d8
                rw [if_neg d8] at h
                obtain rfl := Option.some.inj h
                clear d7
                go_enter Try.func68, Try.ntmps68
                go_wp2_with (first | ((with_reducible refine gate_dst (N := 1) rfl ?_); refine box_event ?hg (N := 1) ?hd (cs := #[.int .i64 2, .int .i64 a1, .string a2]) (t := 36) ?hr ?_; (case hd => rfl); (case hg => rfl); (case hr => first | (go_simp; done) | (go_simp; rfl)); intro gb hg w1 hbox hb; have HB1 := Aside0.mk (below_step HB.out hb); have BK := Aside0.mk hbox; have hz0 : w1.cell? ⟨gb, 0, none⟩ = some (.int .i64 2) := (blk_cell BK.out 0).trans rfl; have hz1 : w1.cell? ⟨gb, 1, none⟩ = some (.int .i64 a1) := (blk_cell BK.out 1).trans rfl; have hz2 : w1.cell? ⟨gb, 2, none⟩ = some (.string a2) := (blk_cell BK.out 2).trans rfl; clear hb hbox hg) | (go_at_call 69; (with_reducible refine (text_Len.calls k a2 n _ HN.out).mono ?_); rintro e w2 ⟨rfl, hb⟩; have HB2 := Aside0.mk (below_step HB1.out hb); have hy2 := (hb.cell (World.block_lt_of_cell? _ _ hz2)).trans hz2; clear hb))
                skip
                go_ret
                exact ⟨rfl, HB2.out⟩
            · have b7 : (a1 == 0) = false := beq_eq_false_iff_ne.mpr d7
              simp [b7, b2] at h
              subst h
              go_enter Try.func68, Try.ntmps68
              go_wp2_with (first | ((with_reducible refine gate_dst (N := 1) rfl ?_); refine box_event ?hg (N := 1) ?hd (cs := #[.int .i64 2, .int .i64 a1, .string a2]) (t := 36) ?hr ?_; (case hd => rfl); (case hg => rfl); (case hr => first | (go_simp; done) | (go_simp; rfl)); intro gb hg w1 hbox hb; have HB1 := Aside0.mk (below_step HB.out hb); have BK := Aside0.mk hbox; have hz0 : w1.cell? ⟨gb, 0, none⟩ = some (.int .i64 2) := (blk_cell BK.out 0).trans rfl; have hz1 : w1.cell? ⟨gb, 1, none⟩ = some (.int .i64 a1) := (blk_cell BK.out 1).trans rfl; have hz2 : w1.cell? ⟨gb, 2, none⟩ = some (.string a2) := (blk_cell BK.out 2).trans rfl; clear hb hbox hg))
              skip
              go_ret
              exact ⟨rfl, HB1.out⟩
          · have e1 : (a0 == 1) = false := beq_eq_false_iff_ne.mpr d1
            have e2 : (a0 == 2) = false := beq_eq_false_iff_ne.mpr d2
            have e3 : (a0 == 3) = false := beq_eq_false_iff_ne.mpr d3
            simp [e1, e2, e3] at h
            subst h
            go_enter Try.func68, Try.ntmps68
            go_wp2_with (first | ((with_reducible refine gate_dst (N := 1) rfl ?_); refine box_event ?hg (N := 1) ?hd (cs := #[.int .i64 a0, .int .i64 a1, .string a2]) (t := 36) ?hr ?_; (case hd => rfl); (case hg => rfl); (case hr => first | (go_simp; done) | (go_simp; rfl)); intro gb hg w1 hbox hb; have HB1 := Aside0.mk (below_step HB.out hb); have BK := Aside0.mk hbox; have hz0 : w1.cell? ⟨gb, 0, none⟩ = some (.int .i64 a0) := (blk_cell BK.out 0).trans rfl; have hz1 : w1.cell? ⟨gb, 1, none⟩ = some (.int .i64 a1) := (blk_cell BK.out 1).trans rfl; have hz2 : w1.cell? ⟨gb, 2, none⟩ = some (.string a2) := (blk_cell BK.out 2).trans rfl; clear hb hbox hg))
            skip
            go_ret
            exact ⟨rfl, HB1.out⟩
    | true =>
      cases b3 : decide (a1 ≤ 1000) with
      | false =>
        by_cases d1 : a0 = 1
        · subst d1
          simp [b3] at h
          subst h
          go_enter Try.func68, Try.ntmps68
          go_wp2_with (first | ((with_reducible refine gate_dst (N := 1) rfl ?_); refine box_event ?hg (N := 1) ?hd (cs := #[.int .i64 1, .int .i64 a1, .string a2]) (t := 36) ?hr ?_; (case hd => rfl); (case hg => rfl); (case hr => first | (go_simp; done) | (go_simp; rfl)); intro gb hg w1 hbox hb; have HB1 := Aside0.mk (below_step HB.out hb); have BK := Aside0.mk hbox; have hz0 : w1.cell? ⟨gb, 0, none⟩ = some (.int .i64 1) := (blk_cell BK.out 0).trans rfl; have hz1 : w1.cell? ⟨gb, 1, none⟩ = some (.int .i64 a1) := (blk_cell BK.out 1).trans rfl; have hz2 : w1.cell? ⟨gb, 2, none⟩ = some (.string a2) := (blk_cell BK.out 2).trans rfl; clear hb hbox hg))
          skip
          go_ret
          exact ⟨rfl, HB1.out⟩
        · by_cases d3 : a0 = 3
          · subst d3
            simp [b3] at h
            subst h
            go_enter Try.func68, Try.ntmps68
            go_wp2_with (first | ((with_reducible refine gate_dst (N := 1) rfl ?_); refine box_event ?hg (N := 1) ?hd (cs := #[.int .i64 3, .int .i64 a1, .string a2]) (t := 36) ?hr ?_; (case hd => rfl); (case hg => rfl); (case hr => first | (go_simp; done) | (go_simp; rfl)); intro gb hg w1 hbox hb; have HB1 := Aside0.mk (below_step HB.out hb); have BK := Aside0.mk hbox; have hz0 : w1.cell? ⟨gb, 0, none⟩ = some (.int .i64 3) := (blk_cell BK.out 0).trans rfl; have hz1 : w1.cell? ⟨gb, 1, none⟩ = some (.int .i64 a1) := (blk_cell BK.out 1).trans rfl; have hz2 : w1.cell? ⟨gb, 2, none⟩ = some (.string a2) := (blk_cell BK.out 2).trans rfl; clear hb hbox hg))
            skip
            go_ret
            exact ⟨rfl, HB1.out⟩
          · by_cases d2 : a0 = 2
            · subst d2
              by_cases d7 : a1 = 0
              · subst d7
                exact absurd b2 (by decide)
              · have b7 : (a1 == 0) = false := beq_eq_false_iff_ne.mpr d7
                simp [b7, b3] at h
                subst h
                go_enter Try.func68, Try.ntmps68
                go_wp2_with (first | ((with_reducible refine gate_dst (N := 1) rfl ?_); refine box_event ?hg (N := 1) ?hd (cs := #[.int .i64 2, .int .i64 a1, .string a2]) (t := 36) ?hr ?_; (case hd => rfl); (case hg => rfl); (case hr => first | (go_simp; done) | (go_simp; rfl)); intro gb hg w1 hbox hb; have HB1 := Aside0.mk (below_step HB.out hb); have BK := Aside0.mk hbox; have hz0 : w1.cell? ⟨gb, 0, none⟩ = some (.int .i64 2) := (blk_cell BK.out 0).trans rfl; have hz1 : w1.cell? ⟨gb, 1, none⟩ = some (.int .i64 a1) := (blk_cell BK.out 1).trans rfl; have hz2 : w1.cell? ⟨gb, 2, none⟩ = some (.string a2) := (blk_cell BK.out 2).trans rfl; clear hb hbox hg))
                skip
                go_ret
                exact ⟨rfl, HB1.out⟩
            · have e1 : (a0 == 1) = false := beq_eq_false_iff_ne.mpr d1
              have e2 : (a0 == 2) = false := beq_eq_false_iff_ne.mpr d2
              have e3 : (a0 == 3) = false := beq_eq_false_iff_ne.mpr d3
              simp [e1, e2, e3] at h
              subst h
              go_enter Try.func68, Try.ntmps68
              go_wp2_with (first | ((with_reducible refine gate_dst (N := 1) rfl ?_); refine box_event ?hg (N := 1) ?hd (cs := #[.int .i64 a0, .int .i64 a1, .string a2]) (t := 36) ?hr ?_; (case hd => rfl); (case hg => rfl); (case hr => first | (go_simp; done) | (go_simp; rfl)); intro gb hg w1 hbox hb; have HB1 := Aside0.mk (below_step HB.out hb); have BK := Aside0.mk hbox; have hz0 : w1.cell? ⟨gb, 0, none⟩ = some (.int .i64 a0) := (blk_cell BK.out 0).trans rfl; have hz1 : w1.cell? ⟨gb, 1, none⟩ = some (.int .i64 a1) := (blk_cell BK.out 1).trans rfl; have hz2 : w1.cell? ⟨gb, 2, none⟩ = some (.string a2) := (blk_cell BK.out 2).trans rfl; clear hb hbox hg))
              skip
              go_ret
              exact ⟨rfl, HB1.out⟩
      | true =>
        by_cases d1 : a0 = 1
        · subst d1
          simp [b1, b2, b3] at h
          subst h
          go_enter Try.func68, Try.ntmps68
          go_wp2_with (first | ((with_reducible refine gate_dst (N := 1) rfl ?_); refine box_event ?hg (N := 1) ?hd (cs := #[.int .i64 1, .int .i64 a1, .string a2]) (t := 36) ?hr ?_; (case hd => rfl); (case hg => rfl); (case hr => first | (go_simp; done) | (go_simp; rfl)); intro gb hg w1 hbox hb; have HB1 := Aside0.mk (below_step HB.out hb); have BK := Aside0.mk hbox; have hz0 : w1.cell? ⟨gb, 0, none⟩ = some (.int .i64 1) := (blk_cell BK.out 0).trans rfl; have hz1 : w1.cell? ⟨gb, 1, none⟩ = some (.int .i64 a1) := (blk_cell BK.out 1).trans rfl; have hz2 : w1.cell? ⟨gb, 2, none⟩ = some (.string a2) := (blk_cell BK.out 2).trans rfl; clear hb hbox hg))
          skip
          go_ret
          exact ⟨rfl, HB1.out⟩
        · by_cases d3 : a0 = 3
          · subst d3
            simp [b1, b2, b3] at h
            subst h
            go_enter Try.func68, Try.ntmps68
            go_wp2_with (first | ((with_reducible refine gate_dst (N := 1) rfl ?_); refine box_event ?hg (N := 1) ?hd (cs := #[.int .i64 3, .int .i64 a1, .string a2]) (t := 36) ?hr ?_; (case hd => rfl); (case hg => rfl); (case hr => first | (go_simp; done) | (go_simp; rfl)); intro gb hg w1 hbox hb; have HB1 := Aside0.mk (below_step HB.out hb); have BK := Aside0.mk hbox; have hz0 : w1.cell? ⟨gb, 0, none⟩ = some (.int .i64 3) := (blk_cell BK.out 0).trans rfl; have hz1 : w1.cell? ⟨gb, 1, none⟩ = some (.int .i64 a1) := (blk_cell BK.out 1).trans rfl; have hz2 : w1.cell? ⟨gb, 2, none⟩ = some (.string a2) := (blk_cell BK.out 2).trans rfl; clear hb hbox hg))
            skip
            go_ret
            exact ⟨rfl, HB1.out⟩
          · by_cases d2 : a0 = 2
            · subst d2
              by_cases d7 : a1 = 0
              · subst d7
                exact absurd b2 (by decide)
              · have b7 : (a1 == 0) = false := beq_eq_false_iff_ne.mpr d7
                simp [b7, b1, b2, b3] at h
                subst h
                go_enter Try.func68, Try.ntmps68
                go_wp2_with (first | ((with_reducible refine gate_dst (N := 1) rfl ?_); refine box_event ?hg (N := 1) ?hd (cs := #[.int .i64 2, .int .i64 a1, .string a2]) (t := 36) ?hr ?_; (case hd => rfl); (case hg => rfl); (case hr => first | (go_simp; done) | (go_simp; rfl)); intro gb hg w1 hbox hb; have HB1 := Aside0.mk (below_step HB.out hb); have BK := Aside0.mk hbox; have hz0 : w1.cell? ⟨gb, 0, none⟩ = some (.int .i64 2) := (blk_cell BK.out 0).trans rfl; have hz1 : w1.cell? ⟨gb, 1, none⟩ = some (.int .i64 a1) := (blk_cell BK.out 1).trans rfl; have hz2 : w1.cell? ⟨gb, 2, none⟩ = some (.string a2) := (blk_cell BK.out 2).trans rfl; clear hb hbox hg))
                skip
                go_ret
                exact ⟨rfl, HB1.out⟩
            · have e1 : (a0 == 1) = false := beq_eq_false_iff_ne.mpr d1
              have e2 : (a0 == 2) = false := beq_eq_false_iff_ne.mpr d2
              have e3 : (a0 == 3) = false := beq_eq_false_iff_ne.mpr d3
              simp [e1, e2, e3] at h
              subst h
              go_enter Try.func68, Try.ntmps68
              go_wp2_with (first | ((with_reducible refine gate_dst (N := 1) rfl ?_); refine box_event ?hg (N := 1) ?hd (cs := #[.int .i64 a0, .int .i64 a1, .string a2]) (t := 36) ?hr ?_; (case hd => rfl); (case hg => rfl); (case hr => first | (go_simp; done) | (go_simp; rfl)); intro gb hg w1 hbox hb; have HB1 := Aside0.mk (below_step HB.out hb); have BK := Aside0.mk hbox; have hz0 : w1.cell? ⟨gb, 0, none⟩ = some (.int .i64 a0) := (blk_cell BK.out 0).trans rfl; have hz1 : w1.cell? ⟨gb, 1, none⟩ = some (.int .i64 a1) := (blk_cell BK.out 1).trans rfl; have hz2 : w1.cell? ⟨gb, 2, none⟩ = some (.string a2) := (blk_cell BK.out 2).trans rfl; clear hb hbox hg))
              skip
              go_ret
              exact ⟨rfl, HB1.out⟩


/-! ### delta_lengths: function 42 -/
def delta_lengths.l0 : Nat → List S36 → Int → Int → Int → Option (Int × Int × Int)
  | 0, _, _, _, _ => none
  | k + 1, l, b, t, i => if i < (l.length : Int) then (if 0 ≤ i then ((delta_kind.tag k (rd_T36 l i).f0 (rd_T36 l i).f1 (rd_T36 l i).f2).bind fun g => if g = 1 then delta_lengths.l0 k l (wrap64 (b + (rd_T36 l i).f1)) (wrap64 (t + (rd_T36 l i).f1)) (wrap64 (i + 1)) else if g = 3 then delta_lengths.l0 k l (wrap64 (b + (rd_T36 l i).f1)) t (wrap64 (i + 1)) else if g = 2 then ((text_Len.f k (rd_T36 l i).f2).bind fun n => delta_lengths.l0 k l b (wrap64 (t + n)) (wrap64 (i + 1))) else some (0, 0, 90)) else none) else (if 1000 < b then some (0, 0, 91) else if 1000 < t then some (0, 0, 91) else some (b, t, 0))
def delta_lengths.f (k : Nat) (l0 : List S36) : Option (Int × Int × Int) := if (l0.length : Int) > 3000 then some (0, 0, 90) else delta_lengths.l0 k l0 0 0 0
theorem delta_lengths.mono_l : ∀ k, (∀ y0 y1 y2 y3, LeO (delta_lengths.l0 k y0 y1 y2 y3) (delta_lengths.l0 (k + 1) y0 y1 y2 y3))
  | 0 => fun _ _ _ _ r h => by simp [delta_lengths.l0] at h
  | k + 1 => by
    have ih := delta_lengths.mono_l k
    intro y0 y1 y2 y3
    unfold delta_lengths.l0
    exact LeO.ite (LeO.ite (LeO.bind (delta_kind.tag_mono _ _ _ _) (fun _ => LeO.ite (ih _ _ _ _) (LeO.ite (ih _ _ _ _) (LeO.ite (LeO.bind (text_Len.mono _ _) (fun _ => ih _ _ _ _)) (LeO.refl _))))) (LeO.refl _)) (LeO.refl _)
theorem delta_lengths.mono : ∀ a0 k, LeO (delta_lengths.f k a0) (delta_lengths.f (k + 1) a0) := by
  intro a0 k
  unfold delta_lengths.f
  exact LeO.ite (LeO.refl _) (delta_lengths.mono_l k _ _ _ _)
set_option maxHeartbeats 8000000 in
set_option maxRecDepth 100000 in
theorem delta_lengths.calls (k : Nat) (A0 : Option Addr) (c0 : Nat) (l0 : List (S36)) (r1 r2 r3 : Int) (w : World) (hr0 : Kd.C k36 w A0 l0.length l0) (hc0 : l0.length ≤ c0) (h : delta_lengths.f k l0 = some (r1, r2, r3)) :
    Calls Try.prog 42 #[.slice A0 l0.length c0] w fun e w' => e = .returned (.tuple #[.int .i64 r1, .int .i64 r2, .int .i64 r3]) ∧ Below w.heap.size w w' := by
  have hu36 := Try.underlying36
  have hta88_88 : ∀ (v : Value) (W : World), (Instr.typeAssert (.iface 88 v) 20 88 true).run Try.prog W = .ok (.tuple #[v, .bool true]) W := fun v W => by rfl
  have hta89_88 : ∀ (v : Value) (W : World), (Instr.typeAssert (.iface 89 v) 20 88 true).run Try.prog W = .ok (.tuple #[.int .i64 0, .bool false]) W := fun v W => by rfl
  have hta89_89 : ∀ (v : Value) (W : World), (Instr.typeAssert (.iface 89 v) 20 89 true).run Try.prog W = .ok (.tuple #[v, .bool true]) W := fun v W => by rfl
  have hta90_88 : ∀ (v : Value) (W : World), (Instr.typeAssert (.iface 90 v) 20 88 true).run Try.prog W = .ok (.tuple #[.int .i64 0, .bool false]) W := fun v W => by rfl
  have hta90_89 : ∀ (v : Value) (W : World), (Instr.typeAssert (.iface 90 v) 20 89 true).run Try.prog W = .ok (.tuple #[.int .i64 0, .bool false]) W := fun v W => by rfl
  have hta90_90 : ∀ (v : Value) (W : World), (Instr.typeAssert (.iface 90 v) 20 90 true).run Try.prog W = .ok (.tuple #[v, .bool true]) W := fun v W => by rfl
  have htan_88 : ∀ (W : World), (Instr.typeAssert .nilIface 20 88 true).run Try.prog W = .ok (.tuple #[.int .i64 0, .bool false]) W := fun W => by rfl
  have htan_89 : ∀ (W : World), (Instr.typeAssert .nilIface 20 89 true).run Try.prog W = .ok (.tuple #[.int .i64 0, .bool false]) W := fun W => by rfl
  have htan_90 : ∀ (W : World), (Instr.typeAssert .nilIface 20 90 true).run Try.prog W = .ok (.tuple #[.string (⟨#[]⟩ : ByteArray), .bool false]) W := fun W => by rfl
  have HR0 := Aside0.mk hr0
  clear hr0 hc0
  have HB := Aside0.mk (Below.refl w.heap.size w)
  unfold delta_lengths.f at h
  by_cases c2 : (l0.length : Int) > 3000
  · rw [if_pos c2] at h
    have c2b0 : decide (3000 < (l0.length : Int)) = true := decide_eq_true c2
    have c2b1 : decide (3000 < l0.length) = true := decide_eq_true (by omega)
    clear c2
    obtain ⟨rfl, rfl, rfl⟩ : _ = r1 ∧ _ = r2 ∧ _ = r3 := by simpa using h
    go_enter Try.func42, Try.ntmps42
    go_wp2
    go_ret3
    exact ⟨rfl, by repeat (first | (with_reducible first | exact HB.out | apply below_alloc | apply pw_below_drewN | apply below_drew1) | exact HB.out)⟩
  · rw [if_neg c2] at h
    have c2b0 : decide (3000 < (l0.length : Int)) = false := decide_eq_false c2
    have c2b1 : decide (3000 < l0.length) = false := decide_eq_false (by omega)
    have LN := Aside0.mk c2
    clear c2
    have H0 := Aside0.mk h
    clear h
    go_enter Try.func42, Try.ntmps42
    go_wp2
    go_loopg [5, 6, 18] k (fun kq v5 v6 v18 w' => ∃ (b t i : Int), v5 = .int .i64 b ∧ v6 = .int .i64 t ∧ v18 = .int .i64 i ∧ Aside0 (delta_lengths.l0 kq l0 b t i = some (r1, r2, r3)) ∧ Aside0 (kq ≤ k) ∧ Aside0 (Below w.heap.size w w'))
    case atStart => exact ⟨0, 0, 0, rfl, rfl, rfl, H0, ⟨Nat.le_refl _⟩, ⟨by repeat (first | (with_reducible first | exact HB.out | apply below_alloc | apply pw_below_drewN | apply below_drew1) | exact HB.out)⟩⟩
    case round =>
      clear H0 HB c2b0 c2b1
      obtain ⟨b, t, i, rfl, rfl, rfl, HA, HK, HB⟩ := hrel
      cases gk with
      | zero => exact absurd HA.out (by simp [delta_lengths.l0])
      | succ k1 =>
        have H := HA.out
        clear HA
        simp only [delta_lengths.l0] at H
        by_cases c4 : i < (l0.length : Int)
        · rw [if_pos c4] at H
          have c4b : decide (i < (l0.length : Int)) = true := decide_eq_true c4
          by_cases c5 : 0 ≤ i
          · rw [if_pos c5] at H
            obtain ⟨g, hg0, H⟩ := Option.bind_eq_some_iff.mp H
            have HT := Aside0.mk H
            clear H
            obtain ⟨hv, hg⟩ := delta_kind.of_tag hg0
            clear hg0
            obtain ⟨ad, ead, hx0, hx1, hx2⟩ := at_T36 HR0.out i c5 c4
            cases ead
            replace hx0 := (HB.out.cell (World.block_lt_of_cell? w _ hx0)).trans hx0
            replace hx1 := (HB.out.cell (World.block_lt_of_cell? w _ hx1)).trans hx1
            replace hx2 := (HB.out.cell (World.block_lt_of_cell? w _ hx2)).trans hx2
            have p9 := eq_true c5
            have q9 := eq_true c4
            clear c4 c5
            rcases hg with hg | hg | hg | hg
            · subst hg
              simp only [delta_kind.val, if_true, if_false, show ¬ ((3 : Int) = 1) by decide, show ¬ ((2 : Int) = 1) by decide, show ¬ ((2 : Int) = 3) by decide, show ¬ ((0 : Int) = 1) by decide, show ¬ ((0 : Int) = 3) by decide, show ¬ ((0 : Int) = 2) by decide] at hv
              have HV := Aside0.mk hv
              clear hv
              have H := HT.out
              clear HT
              rw [if_pos rfl] at H
              have H' := Aside0.mk H
              clear H
              go_wp2_with (first | ((with_reducible refine gate_dst (N := 8) rfl ?_); refine box_event ?hg (N := 8) ?hd (cs := #[.int .i64 0, .int .i64 0, .string (⟨#[]⟩ : ByteArray)]) (t := 36) ?hr ?_; (case hd => rfl); (case hg => rfl); (case hr => first | (go_simp; done) | (go_simp; rfl)); intro gb hg w7 hbox hb; have HB7 := Aside0.mk (below_step HB.out hb); have GE : Aside0 (w.heap.size ≤ gb) := ⟨by rw [hg]; exact HB.out.size⟩; have BK := Aside0.mk hbox; clear hb hbox hg; have hz0 : w7.cell? ⟨gb, 0, none⟩ = some (.int .i64 0) := (blk_cell BK.out 0).trans rfl; have hz1 : w7.cell? ⟨gb, 1, none⟩ = some (.int .i64 0) := (blk_cell BK.out 1).trans rfl; have hz2 : w7.cell? ⟨gb, 2, none⟩ = some (.string (⟨#[]⟩ : ByteArray)) := (blk_cell BK.out 2).trans rfl; have hf0 := blk_frozen BK.out 0; have hf1 := blk_frozen BK.out 1; have hf2 := blk_frozen BK.out 2) | ((with_reducible refine gate_callee (f := 68) rfl ?_); refine goesL_ (some 23) rfl rfl Try.func68 (by kernel_rfl) rfl #[.agg #[.int .i64 (rd_T36 l0 i).f0, .int .i64 (rd_T36 l0 i).f1, .string (rd_T36 l0 i).f2]] rfl (by (try simp only [List.map_toArray, List.map_cons, List.map_nil]); first | done | rfl) ?_; (with_reducible refine (delta_kind.calls k1 (rd_T36 l0 i).f0 (rd_T36 l0 i).f1 (rd_T36 l0 i).f2 _ _ HV.out).mono ?_); rintro e w9 ⟨rfl, hb⟩; refine ⟨_, rfl, ?_⟩; have HB9 := Aside0.mk (below_step (below_set (below_set (below_set HB7.out GE.out) GE.out) GE.out) hb); clear hb))
              go_roundg k1
              case measure => have := HK.out; omega
              case rel => exact ⟨wrap64 (b + (rd_T36 l0 i).f1), wrap64 (t + (rd_T36 l0 i).f1), wrap64 (i + 1), rfl, rfl, rfl, H', ⟨by have := HK.out; omega⟩, HB9⟩
            · subst hg
              simp only [delta_kind.val, if_true, if_false, show ¬ ((3 : Int) = 1) by decide, show ¬ ((2 : Int) = 1) by decide, show ¬ ((2 : Int) = 3) by decide, show ¬ ((0 : Int) = 1) by decide, show ¬ ((0 : Int) = 3) by decide, show ¬ ((0 : Int) = 2) by decide] at hv
              have HV := Aside0.mk hv
              clear hv
              have H := HT.out
              clear HT
              rw [if_neg (by decide), if_pos rfl] at H
              have H' := Aside0.mk H
              clear H
              go_wp2_with (first | ((with_reducible refine gate_dst (N := 8) rfl ?_); refine box_event ?hg (N := 8) ?hd (cs := #[.int .i64 0, .int .i64 0, .string (⟨#[]⟩ : ByteArray)]) (t := 36) ?hr ?_; (case hd => rfl); (case hg => rfl); (case hr => first | (go_simp; done) | (go_simp; rfl)); intro gb hg w7 hbox hb; have HB7 := Aside0.mk (below_step HB.out hb); have GE : Aside0 (w.heap.size ≤ gb) := ⟨by rw [hg]; exact HB.out.size⟩; have BK := Aside0.mk hbox; clear hb hbox hg; have hz0 : w7.cell? ⟨gb, 0, none⟩ = some (.int .i64 0) := (blk_cell BK.out 0).trans rfl; have hz1 : w7.cell? ⟨gb, 1, none⟩ = some (.int .i64 0) := (blk_cell BK.out 1).trans rfl; have hz2 : w7.cell? ⟨gb, 2, none⟩ = some (.string (⟨#[]⟩ : ByteArray)) := (blk_cell BK.out 2).trans rfl; have hf0 := blk_frozen BK.out 0; have hf1 := blk_frozen BK.out 1; have hf2 := blk_frozen BK.out 2) | ((with_reducible refine gate_callee (f := 68) rfl ?_); refine goesL_ (some 23) rfl rfl Try.func68 (by kernel_rfl) rfl #[.agg #[.int .i64 (rd_T36 l0 i).f0, .int .i64 (rd_T36 l0 i).f1, .string (rd_T36 l0 i).f2]] rfl (by (try simp only [List.map_toArray, List.map_cons, List.map_nil]); first | done | rfl) ?_; (with_reducible refine (delta_kind.calls k1 (rd_T36 l0 i).f0 (rd_T36 l0 i).f1 (rd_T36 l0 i).f2 _ _ HV.out).mono ?_); rintro e w9 ⟨rfl, hb⟩; refine ⟨_, rfl, ?_⟩; have HB9 := Aside0.mk (below_step (below_set (below_set (below_set HB7.out GE.out) GE.out) GE.out) hb); clear hb))
              go_roundg k1
              case measure => have := HK.out; omega
              case rel => exact ⟨wrap64 (b + (rd_T36 l0 i).f1), t, wrap64 (i + 1), rfl, rfl, rfl, H', ⟨by have := HK.out; omega⟩, HB9⟩
            · subst hg
              simp only [delta_kind.val, if_true, if_false, show ¬ ((3 : Int) = 1) by decide, show ¬ ((2 : Int) = 1) by decide, show ¬ ((2 : Int) = 3) by decide, show ¬ ((0 : Int) = 1) by decide, show ¬ ((0 : Int) = 3) by decide, show ¬ ((0 : Int) = 2) by decide] at hv
              have HV := Aside0.mk hv
              clear hv
              have H := HT.out
              clear HT
              rw [if_neg (by decide), if_neg (by decide), if_pos rfl] at H
              obtain ⟨n, hn, H⟩ := Option.bind_eq_some_iff.mp H
              have HN := Aside0.mk hn
              have H' := Aside0.mk H
              clear H hn
              go_wp2_with (first | ((with_reducible refine gate_dst (N := 8) rfl ?_); refine box_event ?hg (N := 8) ?hd (cs := #[.int .i64 0, .int .i64 0, .string (⟨#[]⟩ : ByteArray)]) (t := 36) ?hr ?_; (case hd => rfl); (case hg => rfl); (case hr => first | (go_simp; done) | (go_simp; rfl)); intro gb hg w7 hbox hb; have HB7 := Aside0.mk (below_step HB.out hb); have GE : Aside0 (w.heap.size ≤ gb) := ⟨by rw [hg]; exact HB.out.size⟩; have BK := Aside0.mk hbox; clear hb hbox hg; have hz0 : w7.cell? ⟨gb, 0, none⟩ = some (.int .i64 0) := (blk_cell BK.out 0).trans rfl; have hz1 : w7.cell? ⟨gb, 1, none⟩ = some (.int .i64 0) := (blk_cell BK.out 1).trans rfl; have hz2 : w7.cell? ⟨gb, 2, none⟩ = some (.string (⟨#[]⟩ : ByteArray)) := (blk_cell BK.out 2).trans rfl; have hf0 := blk_frozen BK.out 0; have hf1 := blk_frozen BK.out 1; have hf2 := blk_frozen BK.out 2) | ((with_reducible refine gate_callee (f := 68) rfl ?_); refine goesL_ (some 23) rfl rfl Try.func68 (by kernel_rfl) rfl #[.agg #[.int .i64 (rd_T36 l0 i).f0, .int .i64 (rd_T36 l0 i).f1, .string (rd_T36 l0 i).f2]] rfl (by (try simp only [List.map_toArray, List.map_cons, List.map_nil]); first | done | rfl) ?_; (with_reducible refine (delta_kind.calls k1 (rd_T36 l0 i).f0 (rd_T36 l0 i).f1 (rd_T36 l0 i).f2 _ _ HV.out).mono ?_); rintro e w9 ⟨rfl, hb⟩; refine ⟨_, rfl, ?_⟩; have HB9 := Aside0.mk (below_step (below_set (below_set (below_set HB7.out GE.out) GE.out) GE.out) hb); clear hb) | ((with_reducible refine gate_callee (f := 69) rfl ?_); refine goesL_ (some 44) rfl rfl Try.func69 (by kernel_rfl) rfl #[.string (rd_T36 l0 i).f2] rfl (by (try simp only [List.map_toArray, List.map_cons, List.map_nil]); first | done | rfl) ?_; (with_reducible refine (text_Len.calls k1 (rd_T36 l0 i).f2 n _ HN.out).mono ?_); rintro e w11 ⟨rfl, hb⟩; refine ⟨_, rfl, ?_⟩; have HB11 := Aside0.mk (below_step HB9.out hb); clear hb))
              go_roundg k1
              case measure => have := HK.out; omega
              case rel => exact ⟨b, wrap64 (t + n), wrap64 (i + 1), rfl, rfl, rfl, H', ⟨by have := HK.out; omega⟩, HB11⟩
            · subst hg
              simp only [delta_kind.val, if_true, if_false, show ¬ ((3 : Int) = 1) by decide, show ¬ ((2 : Int) = 1) by decide, show ¬ ((2 : Int) = 3) by decide, show ¬ ((0 : Int) = 1) by decide, show ¬ ((0 : Int) = 3) by decide, show ¬ ((0 : Int) = 2) by decide] at hv
              have HV := Aside0.mk hv
              clear hv
              have H := HT.out
              clear HT
              rw [if_neg (by decide), if_neg (by decide), if_neg (by decide)] at H
              obtain ⟨rfl, rfl, rfl⟩ : _ = r1 ∧ _ = r2 ∧ _ = r3 := by simpa using H
              clear H
              go_wp2_with (first | ((with_reducible refine gate_dst (N := 8) rfl ?_); refine box_event ?hg (N := 8) ?hd (cs := #[.int .i64 0, .int .i64 0, .string (⟨#[]⟩ : ByteArray)]) (t := 36) ?hr ?_; (case hd => rfl); (case hg => rfl); (case hr => first | (go_simp; done) | (go_simp; rfl)); intro gb hg w7 hbox hb; have HB7 := Aside0.mk (below_step HB.out hb); have GE : Aside0 (w.heap.size ≤ gb) := ⟨by rw [hg]; exact HB.out.size⟩; have BK := Aside0.mk hbox; clear hb hbox hg; have hz0 : w7.cell? ⟨gb, 0, none⟩ = some (.int .i64 0) := (blk_cell BK.out 0).trans rfl; have hz1 : w7.cell? ⟨gb, 1, none⟩ = some (.int .i64 0) := (blk_cell BK.out 1).trans rfl; have hz2 : w7.cell? ⟨gb, 2, none⟩ = some (.string (⟨#[]⟩ : ByteArray)) := (blk_cell BK.out 2).trans rfl; have hf0 := blk_frozen BK.out 0; have hf1 := blk_frozen BK.out 1; have hf2 := blk_frozen BK.out 2) | ((with_reducible refine gate_callee (f := 68) rfl ?_); refine goesL_ (some 23) rfl rfl Try.func68 (by kernel_rfl) rfl #[.agg #[.int .i64 (rd_T36 l0 i).f0, .int .i64 (rd_T36 l0 i).f1, .string (rd_T36 l0 i).f2]] rfl (by (try simp only [List.map_toArray, List.map_cons, List.map_nil]); first | done | rfl) ?_; (with_reducible refine (delta_kind.calls k1 (rd_T36 l0 i).f0 (rd_T36 l0 i).f1 (rd_T36 l0 i).f2 _ _ HV.out).mono ?_); rintro e w9 ⟨rfl, hb⟩; refine ⟨_, rfl, ?_⟩; have HB9 := Aside0.mk (below_step (below_set (below_set (below_set HB7.out GE.out) GE.out) GE.out) hb); clear hb))
              go_ret3
              exact ⟨rfl, HB9.out⟩
          · rw [if_neg c5] at H
            exact absurd H (by simp)
        · rw [if_neg c4] at H
          have c4b : decide (i < (l0.length : Int)) = false := decide_eq_false c4
          clear c4
          by_cases c6 : 1000 < b
          · rw [if_pos c6] at H
            have c6b := decide_eq_true c6
            obtain ⟨rfl, rfl, rfl⟩ : _ = r1 ∧ _ = r2 ∧ _ = r3 := by simpa using H
            clear H c6
            go_wp2
            go_ret3
            exact ⟨rfl, by repeat (first | (with_reducible first | exact HB.out | apply below_alloc | apply pw_below_drewN | apply below_drew1) | exact HB.out)⟩
          · rw [if_neg c6] at H
            have c6b := decide_eq_false c6
            clear c6
            by_cases c7 : 1000 < t
            · rw [if_pos c7] at H
              have c7b := decide_eq_true c7
              obtain ⟨rfl, rfl, rfl⟩ : _ = r1 ∧ _ = r2 ∧ _ = r3 := by simpa using H
              clear H c7
              go_wp2
              go_ret3
              exact ⟨rfl, by repeat (first | (with_reducible first | exact HB.out | apply below_alloc | apply pw_below_drewN | apply below_drew1) | exact HB.out)⟩
            · rw [if_neg c7] at H
              have c7b := decide_eq_false c7
              obtain ⟨rfl, rfl, rfl⟩ : _ = r1 ∧ _ = r2 ∧ _ = r3 := by simpa using H
              clear H c7
              go_wp2
              go_ret3
              exact ⟨rfl, by repeat (first | (with_reducible first | exact HB.out | apply below_alloc | apply pw_below_drewN | apply below_drew1) | exact HB.out)⟩


/-! ### delta_Check: function 18 -/
def delta_Check.f (k : Nat) (l0 : List (S36)) : Option (Int) := (delta_lengths.f k l0).bind fun bt158 => (some bt158.2.2)
theorem delta_Check.mono : ∀ a0 k, LeO (delta_Check.f k a0) (delta_Check.f (k + 1) a0) := by
  intro a0 k
  unfold delta_Check.f
  repeat' first
      | (with_reducible exact delta_lengths.mono _ _)
      | (with_reducible exact LeO.refl _)
      | (with_reducible exact LeO.none _)
      | (with_reducible refine LeO.ite ?_ ?_)
      | (with_reducible refine LeO.bind ?_ (fun _ => ?_))
      | exact delta_lengths.mono _ _
      | exact LeO.none _
      | refine LeO.ite ?_ ?_
      | refine LeO.bind ?_ (fun _ => ?_)
set_option maxHeartbeats 8000000 in
set_option maxRecDepth 100000 in
theorem delta_Check.calls (k : Nat) (A0 : Option Addr) (c0 : Nat) (l0 : List (S36)) (r : Int) (w : World) (hr0 : Kd.C k36 w A0 l0.length l0) (hc0 : l0.length ≤ c0) (h : delta_Check.f k l0 = some r) :
    Calls Try.prog 18 #[.slice A0 l0.length c0] w fun e w' => e = .returned (.int .i64 r) ∧ Below w.heap.size w w' := by
  have HR0 := Aside0.mk hr0
  have HC0 := Aside0.mk hc0
  clear hr0 hc0
  have HB := Aside0.mk (Below.refl w.heap.size w)
  have H : ((delta_lengths.f k l0).bind fun bt158 => (some bt158.2.2)) = some r := h
  clear h
  replace H := Option.bind_eq_some_iff.mp H
  obtain ⟨⟨t158, t159, t160⟩, A20, H⟩ := H
  replace H : (some t160) = some r := H
  have A2 := Aside0.mk A20
  clear A20
  obtain rfl := Option.some.inj H
  go_enter Try.func18, Try.ntmps18
  go_wp2_with (first | ((with_reducible refine gate_callee (f := 42) rfl ?_); refine goesL_ (some 8) rfl rfl Try.func42 (by kernel_rfl) rfl #[.slice A0 l0.length c0] rfl (by (try simp only [List.map_toArray, List.map_cons, List.map_nil]); first | done | rfl | (simp only [List.length_drop, List.length_take]; rfl)) ?_; (with_reducible refine (delta_lengths.calls k _ _ l0 t158 t159 t160 _ ?side1 ?side2 A2.out).mono ?_); (case side1 => repeat (first | exact HR0.out | (with_reducible refine Kd.C_alloc ?_ _) | (with_reducible refine Kd.C_drewN ?_ _) | (with_reducible refine Kd.C_drew ?_))); (case side2 => exact HC0.out); rintro e w3 ⟨rfl, hb⟩; refine ⟨_, rfl, ?_⟩; have n0_ := Aside0.mk (below_step (by repeat (first | (with_reducible first | exact HB.out | apply below_alloc | apply pw_below_drewN | apply below_drew1) | exact HB.out)) hb); clear HB; have HB := n0_; clear n0_; (try clear hb); (try clear hb2); (try clear hk); (try clear hi)))
  go_ret
  exact ⟨by first | rfl | (simp [errW_none, errW_some] <;> rfl) | (simp [*, errW_none, errW_some] <;> rfl), by repeat (first | (with_reducible first | exact HB.out | apply below_alloc | apply pw_below_drewN | apply below_drew1) | exact HB.out)⟩

/-! ### oxbowlaw09_Copied: function 15 -/
def oxbowlaw09_Copied.f (l0 : List (S36)) : Option ((List (S36))) := if ([] : List (S36)).length + l0.length < 4398046511104 then (some (([] : List (S36)) ++ l0)) else (none)
set_option maxHeartbeats 8000000 in
set_option maxRecDepth 100000 in
theorem oxbowlaw09_Copied.calls (A0 : Option Addr) (c0 : Nat) (l0 : List (S36)) (r : List (S36)) (w : World) (hr0 : Kd.C k36 w A0 l0.length l0) (hc0 : l0.length ≤ c0) (h : oxbowlaw09_Copied.f l0 = some r) :
    Calls Try.prog 15 #[.slice A0 l0.length c0] w fun e w' => ∃ v0_ : Value, e = .returned (v0_) ∧ Kd.R k36 36 w' w.heap.size (fun _ => True) v0_ r ∧ Below w.heap.size w w' := by
  have HR0 := Aside0.mk hr0
  have HC0 := Aside0.mk hc0
  clear hr0 hc0
  have HB := Aside0.mk (Below.refl w.heap.size w)
  have H : (if ([] : List (S36)).length + l0.length < 4398046511104 then (some (([] : List (S36)) ++ l0)) else (none)) = some r := h
  clear h
  by_cases c2 : ([] : List (S36)).length + l0.length < 4398046511104
  · rw [if_pos c2] at H
    have LMc2 := Aside0.mk c2
    clear c2
    obtain ⟨y161, hy161⟩ : ∃ y_ : List (S36), y_ = (([] : List (S36)) ++ l0) := ⟨_, rfl⟩
    replace H : (some y161) = some r := by first | (rw [hy161]; with_reducible exact H) | (have H2_ := (Option.bind_some _ _).symm.trans H; rw [hy161]; with_reducible exact H2_) | (have H2_ := (Option.bind_some _ _).symm.trans H; with_reducible exact H2_) | with_reducible exact H | (rw [hy161]; exact H) | exact H
    have Ny161 := Aside0.mk hy161
    clear hy161
    obtain rfl := Option.some.inj H
    go_enter Try.func15, Try.ntmps15
    go_wp2_with (first | ((with_reducible refine gate_builtin (b := .append) (xs := #[.tmp 4, .tmp 5]) rfl ?_); at_builtin; refine Kd.R_append_rows k36 (w0 := w) w.heap.size rfl (.tmp 4) (.tmp 5) 22 36 (.agg #[(.int .i64 0), (.int .i64 0), (.string ⟨#[]⟩)]) 32 rfl Try.underlying22 info36 rfl (by decide) (by omega) (.slice none 0 0) ([] : List (S36)) l0 _ _ _ (fun _ => True) (fun _ => False) rfl rfl ?aO ?aR (fun _ _ h => h) (fun _ h => h.elim) ?aF ?aB ?aS ?aL ?_; (case aR => repeat (first | exact HR0.out | (with_reducible refine Kd.C_alloc ?_ _) | (with_reducible refine Kd.C_drewN ?_ _) | (with_reducible refine Kd.C_drew ?_))); (case aB => exact (by repeat (first | (with_reducible first | exact HB.out | apply below_alloc | apply pw_below_drewN | apply below_drew1) | exact HB.out))); (case aF => exact (fun _ _ => trivial)); (case aO => exact ((Kd.R_nil _ _ _ _ (fun _ => True)))); (case aS => exact (below_size (by repeat (first | (with_reducible first | exact HB.out | apply below_alloc | apply pw_below_drewN | apply below_drew1) | exact HB.out)))); (case aL => have := LMc2.out; omega); intro v162 w3 ho hb hg hat; rw [← Ny161.out] at ho; have n0_ := Aside0.mk (hb); have n1_ := Aside0.mk (ho); clear HB; have HB := n0_; have HO163 := n1_; clear n0_ n1_; clear ho hb hg hat))
    go_ret
    exact ⟨_, by first | rfl | (simp [errW_none, errW_some] <;> rfl) | (simp [*, errW_none, errW_some] <;> rfl), by (with_reducible repeat (first | apply Kd.R_alloc | apply Kd.R_drewN | apply Kd.R_drew)); exact HO163.out, by repeat (first | (with_reducible first | exact HB.out | apply below_alloc | apply pw_below_drewN | apply below_drew1) | exact HB.out)⟩
  · rw [if_neg c2] at H
    exact absurd H (by simp)

/-! ### delta_Base: function 19 -/
def delta_Base.f (k : Nat) (l0 : List (S36)) : Option (Int × Int) := (delta_lengths.f k l0).bind fun bt164 => (some (bt164.1, bt164.2.2))
theorem delta_Base.mono : ∀ a0 k, LeO (delta_Base.f k a0) (delta_Base.f (k + 1) a0) := by
  intro a0 k
  unfold delta_Base.f
  repeat' first
      | (with_reducible exact delta_lengths.mono _ _)
      | (with_reducible exact LeO.refl _)
      | (with_reducible exact LeO.none _)
      | (with_reducible refine LeO.ite ?_ ?_)
      | (with_reducible refine LeO.bind ?_ (fun _ => ?_))
      | exact delta_lengths.mono _ _
      | exact LeO.none _
      | refine LeO.ite ?_ ?_
      | refine LeO.bind ?_ (fun _ => ?_)
set_option maxHeartbeats 8000000 in
set_option maxRecDepth 100000 in
theorem delta_Base.calls (k : Nat) (A0 : Option Addr) (c0 : Nat) (l0 : List (S36)) (r1 : Int) (r2 : Int) (w : World) (hr0 : Kd.C k36 w A0 l0.length l0) (hc0 : l0.length ≤ c0) (h : delta_Base.f k l0 = some (r1, r2)) :
    Calls Try.prog 19 #[.slice A0 l0.length c0] w fun e w' => e = .returned (.tuple #[.int .i64 r1, .int .i64 r2]) ∧ Below w.heap.size w w' := by
  have HR0 := Aside0.mk hr0
  have HC0 := Aside0.mk hc0
  clear hr0 hc0
  have HB := Aside0.mk (Below.refl w.heap.size w)
  have H : ((delta_lengths.f k l0).bind fun bt164 => (some (bt164.1, bt164.2.2))) = some (r1, r2) := h
  clear h
  replace H := Option.bind_eq_some_iff.mp H
  obtain ⟨⟨t164, t165, t166⟩, A20, H⟩ := H
  replace H : (some (t164, t166)) = some (r1, r2) := H
  have A2 := Aside0.mk A20
  clear A20
  simp only [Option.some.injEq, Prod.mk.injEq] at H
  obtain ⟨rfl, rfl⟩ := H
  go_enter Try.func19, Try.ntmps19
  go_wp2_with (first | ((with_reducible refine gate_callee (f := 42) rfl ?_); refine goesL_ (some 9) rfl rfl Try.func42 (by kernel_rfl) rfl #[.slice A0 l0.length c0] rfl (by (try simp only [List.map_toArray, List.map_cons, List.map_nil]); first | done | rfl | (simp only [List.length_drop, List.length_take]; rfl)) ?_; (with_reducible refine (delta_lengths.calls k _ _ l0 t164 t165 t166 _ ?side1 ?side2 A2.out).mono ?_); (case side1 => repeat (first | exact HR0.out | (with_reducible refine Kd.C_alloc ?_ _) | (with_reducible refine Kd.C_drewN ?_ _) | (with_reducible refine Kd.C_drew ?_))); (case side2 => exact HC0.out); rintro e w3 ⟨rfl, hb⟩; refine ⟨_, rfl, ?_⟩; have n0_ := Aside0.mk (below_step (by repeat (first | (with_reducible first | exact HB.out | apply below_alloc | apply pw_below_drewN | apply below_drew1) | exact HB.out)) hb); clear HB; have HB := n0_; clear n0_; (try clear hb); (try clear hb2); (try clear hk); (try clear hi)))
  go_ret2
  exact ⟨by first | rfl | (simp [errW_none, errW_some] <;> rfl) | (simp [*, errW_none, errW_some] <;> rfl), by repeat (first | (with_reducible first | exact HB.out | apply below_alloc | apply pw_below_drewN | apply below_drew1) | exact HB.out)⟩

/-! ### text_put: function 64 -/
def text_put.l0 : Nat → List Int → Int → Int → Option (List Int)
  | 0, _, _, _ => none
  | k + 1, x0, x1, x6 => if x6 ≥ 0 then (if 0 ≤ (wrap64 (6 * x6)) then (if x0.length < 140737488355328 then (text_put.l0 k (x0 ++ [128 + (shr .i64 x1 (wrap64 (6 * x6))) % 64]) x1 (wrap64 (x6 - 1))) else (none)) else (none)) else (some x0)
def text_put.f (k : Nat) (l0 : List Int) (a1 : Int) : Option (List Int) := (text_size.f a1).bind fun t167 => (if t167 = 1 then (if l0.length < 140737488355328 then (some (l0 ++ [(a1) % 256])) else (none)) else (if 0 ≤ t167 then (if 0 ≤ (wrap64 (6 * (wrap64 (t167 - 1)))) then (if l0.length < 140737488355328 then (text_put.l0 k (l0 ++ [Go.bits .or .u8 ((shr .i64 3840 t167) % 256) ((shr .i64 a1 (wrap64 (6 * (wrap64 (t167 - 1))))) % 256)]) a1 (wrap64 (t167 - 2))) else (none)) else (none)) else (none)))
theorem text_put.mono_l : ∀ k, (∀ y0 y1 y2, LeO (text_put.l0 k y0 y1 y2) (text_put.l0 (k + 1) y0 y1 y2))
  | 0 => fun _ _ _ r h => by simp [text_put.l0] at h
  | k + 1 => by
    have ih0 := text_put.mono_l k
    · intro y0 y1 y2
      unfold text_put.l0
      repeat' first
      | (with_reducible exact ih0 _ _ _)
      | (with_reducible exact LeO.refl _)
      | (with_reducible exact LeO.none _)
      | (with_reducible refine LeO.ite ?_ ?_)
      | (with_reducible refine LeO.bind ?_ (fun _ => ?_))
      | exact ih0 _ _ _
      | exact LeO.none _
      | refine LeO.ite ?_ ?_
      | refine LeO.bind ?_ (fun _ => ?_)
theorem text_put.mono : ∀ a0 a1 k, LeO (text_put.f k a0 a1) (text_put.f (k + 1) a0 a1) := by
  intro a0 a1 k
  have ih0 := text_put.mono_l k
  unfold text_put.f
  repeat' first
      | (with_reducible exact ih0 _ _ _)
      | (with_reducible exact LeO.refl _)
      | (with_reducible exact LeO.none _)
      | (with_reducible refine LeO.ite ?_ ?_)
      | (with_reducible refine LeO.bind ?_ (fun _ => ?_))
      | exact ih0 _ _ _
      | exact LeO.none _
      | refine LeO.ite ?_ ?_
      | refine LeO.bind ?_ (fun _ => ?_)
def text_put.T4 : Bool × List (List Nat × List Nat) := (true, [([], []), ([], []), ([1], [1]), ([2], [2]), ([], []), ([], []), ([5], [5]), ([6], [6]), ([4, 7], [4, 7]), ([8], [8]), ([3, 9], [3, 9]), ([10], [10]), ([0, 11], [0, 11]), ([12, 12, 0, 1, 2, 3, 4, 5, 6, 7, 8, 9, 10, 11, 12], [0, 12])])
def text_put.B4 : List Nat := [0, 0, 2, 6, 0, 0, 32, 96, 240, 496, 1022, 2046, 4095, 8191]
theorem text_put.tab4 : rtab .any (opsOf Try.f64 4) = text_put.T4 := by kernel_rfl
theorem text_put.bits4 : waitsOk text_put.T4.2 text_put.B4 = true := by kernel_rfl
set_option maxHeartbeats 8000000 in
set_option maxRecDepth 100000 in
theorem text_put.calls (k : Nat) (P0_ : Nat → Prop) (u9000_ : Value) (l0 : List Int) (a1 : Int) (r : List Int) (w0 w : World) (hB : Below w0.heap.size w0 w) (ho0 : Kd.R (Kd.int .u8) 5 w w0.heap.size P0_ u9000_ l0) (h : text_put.f k l0 a1 = some r) :
    Calls Try.prog 64 #[u9000_, .int .i64 a1] w fun e w' => ∃ v0_ : Value, e = .returned (v0_) ∧ Kd.R (Kd.int .u8) 5 w' w0.heap.size (fun k_ => (P0_ k_ ∨ w.heap.size ≤ k_)) v0_ r ∧ Below w0.heap.size w0 w' ∧ Kept w w' (fun k_ => P0_ k_) := by
  have HO0 := Aside0.mk (show Kd.R (Kd.int .u8) 5 w w0.heap.size (fun k_ => (P0_ k_ ∨ w.heap.size ≤ k_)) u9000_ l0 from Kd.R_mono ho0 (fun k_ hk => (.inl hk)))
  have HK := Aside0.mk (Kept.refl w (fun k_ => P0_ k_))
  have HW0 := Aside0.mk hB.size
  have HB := Aside0.mk hB
  clear hB
  have H : ((text_size.f a1).bind fun t167 => (if t167 = 1 then (if l0.length < 140737488355328 then (some (l0 ++ [(a1) % 256])) else (none)) else (if 0 ≤ t167 then (if 0 ≤ (wrap64 (6 * (wrap64 (t167 - 1)))) then (if l0.length < 140737488355328 then (text_put.l0 k (l0 ++ [Go.bits .or .u8 ((shr .i64 3840 t167) % 256) ((shr .i64 a1 (wrap64 (6 * (wrap64 (t167 - 1))))) % 256)]) a1 (wrap64 (t167 - 2))) else (none)) else (none)) else (none)))) = some r := h
  clear h
  replace H := Option.bind_eq_some_iff.mp H
  obtain ⟨t167, A30, H⟩ := H
  replace H : (if t167 = 1 then (if l0.length < 140737488355328 then (some (l0 ++ [(a1) % 256])) else (none)) else (if 0 ≤ t167 then (if 0 ≤ (wrap64 (6 * (wrap64 (t167 - 1)))) then (if l0.length < 140737488355328 then (text_put.l0 k (l0 ++ [Go.bits .or .u8 ((shr .i64 3840 t167) % 256) ((shr .i64 a1 (wrap64 (6 * (wrap64 (t167 - 1))))) % 256)]) a1 (wrap64 (t167 - 2))) else (none)) else (none)) else (none))) = some r := H
  have A3 := Aside0.mk A30
  clear A30
  by_cases c4 : t167 = 1
  · rw [if_pos c4] at H
    have c4b0 : (t167 == 1) = true := beq_iff_eq.mpr c4
    have c4b1 : (t167 != 1) = false := bne_eq_false_iff_eq.mpr c4
    clear c4
    by_cases c5 : l0.length < 140737488355328
    · rw [if_pos c5] at H
      have LMc5 := Aside0.mk c5
      clear c5
      obtain ⟨y168, hy168⟩ : ∃ y_ : List Int, y_ = (l0 ++ [(a1) % 256]) := ⟨_, rfl⟩
      replace H : (some y168) = some r := by first | (rw [hy168]; with_reducible exact H) | (have H2_ := (Option.bind_some _ _).symm.trans H; rw [hy168]; with_reducible exact H2_) | (have H2_ := (Option.bind_some _ _).symm.trans H; with_reducible exact H2_) | with_reducible exact H | (rw [hy168]; exact H) | exact H
      have Ny168 := Aside0.mk hy168
      clear hy168
      obtain rfl := Option.some.inj H
      go_enter Try.func64, Try.ntmps64
      go_wp2_with (first | ((with_reducible refine gate_callee (f := 73) rfl ?_); refine goesL_ (some 8) rfl rfl Try.func73 (by kernel_rfl) rfl #[.int .i64 a1] rfl (by (try simp only [List.map_toArray, List.map_cons, List.map_nil]); first | done | rfl | (simp only [List.length_drop, List.length_take]; rfl)) ?_; (with_reducible refine (text_size.calls a1 t167 _ A3.out).mono ?_); rintro e w' ⟨rfl, ⟨nd, rfl⟩⟩; refine ⟨_, rfl, ?_⟩) | ((with_reducible refine gate_builtin (b := .append) (xs := #[.tmp 11, .tmp 14]) rfl ?_); at_builtin; refine Kd.R_append (Kd.int .u8) (w0 := w0) w0.heap.size rfl (.tmp 11) (.tmp 14) 77 5 (.int .u8 0) 1 rfl Try.underlying77 info5 rfl (by decide) (by omega) u9000_ l0 ((a1) % 256) [.int .u8 ((a1) % 256)] (fun k_ => (P0_ k_ ∨ w.heap.size ≤ k_)) (fun _ => False) rfl rfl ?aP (fun _ hk => hk.elim) ?aF ?aO ?aB ?aS ?aL ?_; (case aP => exact rfl); (case aB => exact (by repeat (first | (with_reducible first | exact HB.out | apply below_alloc | apply pw_below_drewN | apply below_drew1) | exact HB.out))); (case aF => exact (fun k_ hk => (.inr (Nat.le_trans (by first | exact HK.out.1 | exact (show Kept w _ (fun k_ => P0_ k_) from by repeat (first | (with_reducible first | exact HK.out | apply Kept.alloc | apply Kept.drewN | apply Kept.drew) | exact HK.out)).1) hk)))); (case aO => exact (by (with_reducible repeat (first | apply Kd.R_alloc | apply Kd.R_drewN | apply Kd.R_drew)); exact HO0.out)); (case aS => exact (below_size (by repeat (first | (with_reducible first | exact HB.out | apply below_alloc | apply pw_below_drewN | apply below_drew1) | exact HB.out)))); (case aL => have := LMc5.out; omega); intro v169 w6 ho hb hg hat; rw [← Ny168.out] at ho; have n0_ := Aside0.mk (hb); have n1_ := Aside0.mk (Kept.of_grown (S := (fun k_ => P0_ k_)) hg (by repeat (first | (with_reducible first | exact HK.out | apply Kept.alloc | apply Kept.drewN | apply Kept.drew) | exact HK.out)) (fun k_ e_ => (HO0.out.1 k_ e_))); have n2_ := Aside0.mk (ho); clear HB; clear HK; clear HO0; have HB := n0_; have HK := n1_; have HO170 := n2_; clear n0_ n1_ n2_; clear ho hb hg hat))
      go_ret
      exact ⟨_, by first | rfl | (simp [errW_none, errW_some] <;> rfl) | (simp [*, errW_none, errW_some] <;> rfl), by (with_reducible repeat (first | apply Kd.R_alloc | apply Kd.R_drewN | apply Kd.R_drew)); exact HO170.out, by repeat (first | (with_reducible first | exact HB.out | apply below_alloc | apply pw_below_drewN | apply below_drew1) | exact HB.out), by repeat (first | (with_reducible first | exact HK.out | apply Kept.alloc | apply Kept.drewN | apply Kept.drew) | exact HK.out)⟩
    · rw [if_neg c5] at H
      exact absurd H (by simp)
  · rw [if_neg c4] at H
    have c4b0 : (t167 == 1) = false := beq_eq_false_iff_ne.mpr c4
    have c4b1 : (t167 != 1) = true := bne_iff_ne.mpr c4
    by_cases c7 : 0 ≤ t167
    · rw [if_pos c7] at H
      have c7b0 := eq_true c7
      have c7b1 : decide (0 ≤ t167) = true := decide_eq_true c7
      clear c7
      obtain ⟨ji8, hji8⟩ : ∃ j_ : Int, (shr .i64 3840 t167) = j_ := ⟨_, rfl⟩
      replace H : (if 0 ≤ (wrap64 (6 * (wrap64 (t167 - 1)))) then (if l0.length < 140737488355328 then (text_put.l0 k (l0 ++ [Go.bits .or .u8 ((ji8) % 256) ((shr .i64 a1 (wrap64 (6 * (wrap64 (t167 - 1))))) % 256)]) a1 (wrap64 (t167 - 2))) else (none)) else (none)) = some r := by first | (rw [hji8] at H; exact H) | (simp only [hji8] at H ⊢; exact H)
      (try rw [hji8] at A3)
      have hji8_ : (3840 / 2 ^ min t167.toNat 64) = ji8 := hji8
      have hji8z : t167 ≤ 64 → (3840 / 2 ^ t167.toNat) = ji8 := shr_small hji8
      obtain ⟨ji9, hji9⟩ : ∃ j_ : Int, (wrap64 (6 * (wrap64 (t167 - 1)))) = j_ := ⟨_, rfl⟩
      replace H : (if 0 ≤ (ji9) then (if l0.length < 140737488355328 then (text_put.l0 k (l0 ++ [Go.bits .or .u8 ((ji8) % 256) ((shr .i64 a1 (ji9)) % 256)]) a1 (wrap64 (t167 - 2))) else (none)) else (none)) = some r := by first | (rw [hji9] at H; exact H) | (simp only [hji9] at H ⊢; exact H)
      (try rw [hji9] at A3)
      have hji9w : (IntKind.i64.wrap (6 * (wrap64 (t167 - 1)))) = ji9 := (i64_w _).trans hji9
      by_cases c10 : 0 ≤ (ji9)
      · rw [if_pos c10] at H
        have c10b0 := eq_true c10
        have c10b1 : decide (0 ≤ (ji9)) = true := decide_eq_true c10
        clear c10
        obtain ⟨ji11, hji11⟩ : ∃ j_ : Int, (shr .i64 a1 (ji9)) = j_ := ⟨_, rfl⟩
        replace H : (if l0.length < 140737488355328 then (text_put.l0 k (l0 ++ [Go.bits .or .u8 ((ji8) % 256) ((ji11) % 256)]) a1 (wrap64 (t167 - 2))) else (none)) = some r := by first | (rw [hji11] at H; exact H) | (simp only [hji11] at H ⊢; exact H)
        (try rw [hji11] at A3)
        have hji11_ : (a1 / 2 ^ min (ji9).toNat 64) = ji11 := hji11
        have hji11z : (ji9) ≤ 64 → (a1 / 2 ^ (ji9).toNat) = ji11 := shr_small hji11
        by_cases c12 : l0.length < 140737488355328
        · rw [if_pos c12] at H
          have LMc12 := Aside0.mk c12
          clear c12
          obtain ⟨y171, hy171⟩ : ∃ y_ : List Int, y_ = (l0 ++ [Go.bits .or .u8 ((ji8) % 256) ((ji11) % 256)]) := ⟨_, rfl⟩
          replace H : (text_put.l0 k y171 a1 (wrap64 (t167 - 2))) = some r := by first | (rw [hy171]; with_reducible exact H) | (have H2_ := (Option.bind_some _ _).symm.trans H; rw [hy171]; with_reducible exact H2_) | (have H2_ := (Option.bind_some _ _).symm.trans H; with_reducible exact H2_) | with_reducible exact H | (rw [hy171]; exact H) | exact H
          have Ny171 := Aside0.mk hy171
          clear hy171
          have H' := Aside0.mk H
          clear H
          go_enter Try.func64, Try.ntmps64
          try go_wp2_with (first | ((with_reducible refine gate_callee (f := 73) rfl ?_); refine goesL_ (some 8) rfl rfl Try.func73 (by kernel_rfl) rfl #[.int .i64 a1] rfl (by (try simp only [List.map_toArray, List.map_cons, List.map_nil]); first | done | rfl | (simp only [List.length_drop, List.length_take]; rfl)) ?_; (with_reducible refine (text_size.calls a1 t167 _ A3.out).mono ?_); rintro e w' ⟨rfl, ⟨nd, rfl⟩⟩; refine ⟨_, rfl, ?_⟩))
          rw [drewN_self w]; generalize hq_ : World.drewN w _ = w13; have n0_ : Aside0 (Kd.R (Kd.int .u8) 5 w13 w0.heap.size (fun k_ => (P0_ k_ ∨ w.heap.size ≤ k_)) u9000_ l0) := ⟨by rw [← hq_]; exact (by (with_reducible repeat (first | apply Kd.R_alloc | apply Kd.R_drewN | apply Kd.R_drew)); exact HO0.out)⟩; have n1_ : Aside0 (Kept w w13 (fun k_ => P0_ k_)) := ⟨by rw [← hq_]; exact (by repeat (first | (with_reducible first | exact HK.out | apply Kept.alloc | apply Kept.drewN | apply Kept.drew) | exact HK.out))⟩; have n2_ : Aside0 (Below w0.heap.size w0 w13) := ⟨by rw [← hq_]; exact (by repeat (first | (with_reducible first | exact HB.out | apply below_alloc | apply pw_below_drewN | apply below_drew1) | exact HB.out))⟩; clear HO0 HK HB hq_; have HO0 := n0_; have HK := n1_; have HB := n2_; clear n0_ n1_ n2_
          have n0_ := Aside0.mk (Kd.R_drew HO0.out)
          have n1_ := Aside0.mk (Kept.drew HK.out)
          have n2_ := Aside0.mk (below_drew1 HB.out)
          clear HO0
          clear HK
          clear HB
          have HO0 := n0_
          have HK := n1_
          have HB := n2_
          clear n0_ n1_ n2_
          refine start_ (n := 14) (S := fun w' => True) (ds := []) #[false, false, false, false, false, false, false, false, false, false, false, false, false, false] (by kernel_rfl) rfl rfl trivial (fun hHeld => ?_); refine with_tabW text_put.tab4 text_put.bits4 (fun HT_ HW_ => ?_)
          generalize w13.drew = w14 at HO0 HK HB hHeld ⊢
          refine pure_ (i := 0) (N := some 16) (v := ?_) (a' := ?_) #[true, false, false, false, false, false, false, false, false, false, false, false, false, false] rfl rfl (any_of HT_.out (by kernel_rfl)) (fun _ _ _ h => h) (Or.inl ⟨by rfl, ?_⟩) ?_ ?_
          rotate_left
          · intro w'
            go_simp
            with_reducible rfl
          rotate_left
          · simp only [Act.put, List.setIfInBounds_toArray, List.set_cons_zero, List.set_cons_succ, i64_w, i32_w]
            rfl
          refine pure_ (i := 1) (N := some 17) (v := ?_) (a' := ?_) #[true, true, false, false, false, false, false, false, false, false, false, false, false, false] rfl rfl (any_of HT_.out (by kernel_rfl)) (fun _ _ _ h => h) (Or.inl ⟨by rfl, ?_⟩) ?_ ?_
          rotate_left
          · intro w'
            go_simp
            with_reducible rfl
          rotate_left
          · simp only [Act.put, List.setIfInBounds_toArray, List.set_cons_zero, List.set_cons_succ, i64_w, i32_w]
            rfl
          refine pure_ (i := 2) (N := some 18) (v := ?_) (a' := ?_) #[true, true, true, false, false, false, false, false, false, false, false, false, false, false] rfl rfl (any_of HT_.out (by kernel_rfl)) (fun _ _ _ h => h) (Or.inl ⟨by rfl, ?_⟩) ?_ ?_
          rotate_left
          · intro w'
            go_simp
            with_reducible rfl
          rotate_left
          · simp only [Act.put, List.setIfInBounds_toArray, List.set_cons_zero, List.set_cons_succ, i64_w, i32_w]
            rfl
          refine pure_ (i := 3) (N := some 19) (v := ?_) (a' := ?_) #[true, true, true, true, false, false, false, false, false, false, false, false, false, false] rfl rfl (any_of HT_.out (by kernel_rfl)) (fun _ _ _ h => h) (Or.inl ⟨by rfl, ?_⟩) ?_ ?_
          rotate_left
          · intro w'
            go_simp
            with_reducible rfl
          rotate_left
          · simp only [Act.put, List.setIfInBounds_toArray, List.set_cons_zero, List.set_cons_succ, i64_w, i32_w]
            rfl
          refine pure_ (i := 4) (N := some 20) (v := ?_) (a' := ?_) #[true, true, true, true, true, false, false, false, false, false, false, false, false, false] rfl rfl (any_of HT_.out (by kernel_rfl)) (fun _ _ _ h => h) (Or.inl ⟨by rfl, ?_⟩) ?_ ?_
          rotate_left
          · intro w'
            go_simp
            with_reducible rfl
          rotate_left
          · simp only [Act.put, List.setIfInBounds_toArray, List.set_cons_zero, List.set_cons_succ, i64_w, i32_w]
            rfl
          refine pure_ (i := 5) (N := some 21) (v := ?_) (a' := ?_) #[true, true, true, true, true, true, false, false, false, false, false, false, false, false] rfl rfl (any_of HT_.out (by kernel_rfl)) (fun _ _ _ h => h) (Or.inl ⟨by rfl, ?_⟩) ?_ ?_
          rotate_left
          · intro w'
            go_simp
            with_reducible rfl
          rotate_left
          · simp only [Act.put, List.setIfInBounds_toArray, List.set_cons_zero, List.set_cons_succ, i64_w, i32_w]
            rfl
          refine pure_ (i := 6) (N := some 22) (v := ?_) (a' := ?_) #[true, true, true, true, true, true, true, false, false, false, false, false, false, false] rfl rfl (any_of HT_.out (by kernel_rfl)) (fun _ _ _ h => h) (Or.inl ⟨by rfl, ?_⟩) ?_ ?_
          rotate_left
          · intro w'
            go_simp
            with_reducible rfl
          rotate_left
          · simp only [Act.put, List.setIfInBounds_toArray, List.set_cons_zero, List.set_cons_succ, i64_w, i32_w]
            rfl
          refine pure_ (i := 7) (N := some 23) (v := ?_) (a' := ?_) #[true, true, true, true, true, true, true, true, false, false, false, false, false, false] rfl rfl (any_of HT_.out (by kernel_rfl)) (fun _ _ _ h => h) (Or.inl ⟨by rfl, ?_⟩) ?_ ?_
          rotate_left
          · intro w'
            go_simp
            with_reducible rfl
          rotate_left
          · simp only [Act.put, List.setIfInBounds_toArray, List.set_cons_zero, List.set_cons_succ, i64_w, i32_w]
            rfl
          refine pure_ (i := 8) (N := some 24) (v := ?_) (a' := ?_) #[true, true, true, true, true, true, true, true, true, false, false, false, false, false] rfl rfl (any_of HT_.out (by kernel_rfl)) (fun _ _ _ h => h) (Or.inl ⟨by rfl, ?_⟩) ?_ ?_
          rotate_left
          · intro w'
            go_simp
            with_reducible rfl
          rotate_left
          · simp only [Act.put, List.setIfInBounds_toArray, List.set_cons_zero, List.set_cons_succ, i64_w, i32_w]
            rfl
          refine pure_ (i := 9) (N := some 25) (v := ?_) (a' := ?_) #[true, true, true, true, true, true, true, true, true, true, false, false, false, false] rfl rfl (any_of HT_.out (by kernel_rfl)) (fun _ _ _ h => h) (Or.inl ⟨by rfl, ?_⟩) ?_ ?_
          rotate_left
          · intro w'
            go_simp
            with_reducible rfl
          rotate_left
          · simp only [Act.put, List.setIfInBounds_toArray, List.set_cons_zero, List.set_cons_succ, i64_w, i32_w]
            rfl
          refine pure_ (i := 10) (N := some 26) (v := ?_) (a' := ?_) #[true, true, true, true, true, true, true, true, true, true, true, false, false, false] rfl rfl (any_of HT_.out (by kernel_rfl)) (fun _ _ _ h => h) (Or.inl ⟨by rfl, ?_⟩) ?_ ?_
          rotate_left
          · intro w'
            go_simp
            with_reducible rfl
          rotate_left
          · simp only [Act.put, List.setIfInBounds_toArray, List.set_cons_zero, List.set_cons_succ, i64_w, i32_w]
            rfl
          refine one_ (i := 11) (N := some 27) #[true, true, true, true, true, true, true, true, true, true, true, true, false, false] rfl rfl (one_of HT_.out (by kernel_rfl)) (by decide) (fun K hK => ?_)
          refine value_ (w1 := ?_) (v := ?_) (by rfl) rfl ?_ ?_
          rotate_left 2
          · go_simp
            constructor
            · rfl
            · rfl
          refine hK.out _ _ trivial (fun hHeld => ?_)
          clear hK K
          refine norm_ (a' := ?_) ?_ ?_
          rotate_left
          · show Act.put _ (some 27) _ = _
            simp only [Act.put, List.setIfInBounds_toArray, List.set_cons_zero, List.set_cons_succ, i64_w, i32_w]
            rfl
          refine one_ (i := 12) (N := some 28) #[true, true, true, true, true, true, true, true, true, true, true, true, true, false] rfl rfl (one_of HT_.out (by kernel_rfl)) (by decide) (fun K hK => ?_)
          refine Kd.R_append_step (Kd.int .u8) (w0 := w0) w0.heap.size (by rfl) (.tmp 16) (.tmp 27) 77 5 (.int .u8 0) 1 rfl Try.underlying77 info5 rfl (by decide) (by omega) u9000_ l0 (Go.bits .or .u8 ((ji8) % 256) ((ji11) % 256)) [.int .u8 (Go.bits .or .u8 ((ji8) % 256) ((ji11) % 256))] (fun k_ => (P0_ k_ ∨ w.heap.size ≤ k_)) (fun _ => False) rfl rfl ?aP (fun _ hk => hk.elim) ?aF ?aO ?aB ?aS ?aL ?_
          (case aP => exact rfl)
          (case aB => exact (by repeat (first | (with_reducible first | exact HB.out | apply below_alloc | apply pw_below_drewN | apply below_drew1) | exact HB.out)))
          (case aF => exact (fun k_ hk => (.inr (Nat.le_trans (by first | exact HK.out.1 | exact (show Kept w _ (fun k_ => P0_ k_) from by repeat (first | (with_reducible first | exact HK.out | apply Kept.alloc | apply Kept.drewN | apply Kept.drew) | exact HK.out)).1) hk))))
          (case aO => exact (by (with_reducible repeat (first | apply Kd.R_alloc | apply Kd.R_drewN | apply Kd.R_drew)); exact HO0.out))
          (case aS => exact (below_size (by repeat (first | (with_reducible first | exact HB.out | apply below_alloc | apply pw_below_drewN | apply below_drew1) | exact HB.out))))
          (case aL => have := LMc12.out; omega)
          intro v172 w15 ho hb hg hat
          rw [← Ny171.out] at ho
          have n0_ := Aside0.mk (hb)
          have n1_ := Aside0.mk (Kept.of_grown (S := (fun k_ => P0_ k_)) hg (by repeat (first | (with_reducible first | exact HK.out | apply Kept.alloc | apply Kept.drewN | apply Kept.drew) | exact HK.out)) (fun k_ e_ => (HO0.out.1 k_ e_)))
          have n2_ := Aside0.mk (ho)
          clear HB
          clear HK
          clear HO0
          have HB := n0_
          have HK := n1_
          have HO173 := n2_
          clear n0_ n1_ n2_
          clear ho hb hg hat
          refine hK.out _ _ trivial (fun hHeld => ?_)
          clear hK K
          refine norm_ (a' := ?_) ?_ ?_
          rotate_left
          · show Act.put _ (some 28) _ = _
            simp only [Act.put, List.setIfInBounds_toArray, List.set_cons_zero, List.set_cons_succ, i64_w, i32_w]
            rfl
          refine pure_ (i := 13) (N := some 0) (v := ?_) (a' := ?_) #[true, true, true, true, true, true, true, true, true, true, true, true, true, true] rfl rfl (any_of HT_.out (by kernel_rfl)) (fun _ _ _ h => h) (Or.inl ⟨by rfl, ?_⟩) ?_ ?_
          rotate_left
          · intro w'
            go_simp
            with_reducible rfl
          rotate_left
          · simp only [Act.put, List.setIfInBounds_toArray, List.set_cons_zero, List.set_cons_succ, i64_w, i32_w]
            rfl
          refine done_ (done_of HT_.out (by kernel_rfl)) ?_
          try go_wp2
          go_loopg [0, 6] k (fun kq v0 v6 w' => ∃ (x0_1 : List Int) (x6_1 : Int), v6 = .int .i64 x6_1 ∧ Aside0 (text_put.l0 kq x0_1 a1 x6_1 = some r) ∧ Aside0 (kq ≤ k) ∧ Aside0 (Kd.R (Kd.int .u8) 5 w' w0.heap.size (fun k_ => (P0_ k_ ∨ w.heap.size ≤ k_)) v0 x0_1) ∧ Aside0 (Kept w w' (fun k_ => P0_ k_)) ∧ Aside0 (Below w0.heap.size w0 w'))
          case atStart => exact ⟨(y171), (wrap64 (t167 - 2)), (by first | rfl | (simp; done) | (simp [*]; done) | (simp; (generalize ByteArray.toList _ = l_); cases l_ <;> rfl)), H', ⟨Nat.le_refl _⟩, ⟨by (with_reducible repeat (first | apply Kd.R_alloc | apply Kd.R_drewN | apply Kd.R_drew)); exact HO173.out⟩, ⟨by repeat (first | (with_reducible first | exact HK.out | apply Kept.alloc | apply Kept.drewN | apply Kept.drew) | exact HK.out)⟩, ⟨by repeat (first | (with_reducible first | exact HB.out | apply below_alloc | apply pw_below_drewN | apply below_drew1) | exact HB.out)⟩⟩
          case round =>
            clear H'
            try clear c1
            try clear p2
            try clear c4
            try clear c4b0
            try clear c4b1
            try clear c5
            try clear c6
            try clear p6
            try clear c7
            try clear c7b0
            try clear c7b1
            try clear c10
            try clear c10b0
            try clear c10b1
            try clear c12
            obtain ⟨x0_1, x6_1, rfl, HA, HK1, HO_0, HK, HB⟩ := hrel
            cases gk with
            | zero => exact absurd HA.out (by simp [text_put.l0])
            | succ k1 =>
              have H := HA.out
              clear HA
              simp only [text_put.l0] at H
              by_cases c16 : x6_1 ≥ 0
              · rw [if_pos c16] at H
                have c16b0 : decide (0 ≤ x6_1) = true := decide_eq_true c16
                clear c16
                obtain ⟨ji17, hji17⟩ : ∃ j_ : Int, (wrap64 (6 * x6_1)) = j_ := ⟨_, rfl⟩
                replace H : (if 0 ≤ (ji17) then (if x0_1.length < 140737488355328 then (text_put.l0 k1 (x0_1 ++ [128 + (shr .i64 a1 (ji17)) % 64]) a1 (wrap64 (x6_1 - 1))) else (none)) else (none)) = some r := by first | (rw [hji17] at H; exact H) | (simp only [hji17] at H ⊢; exact H)
                have hji17w : (IntKind.i64.wrap (6 * x6_1)) = ji17 := (i64_w _).trans hji17
                by_cases c18 : 0 ≤ (ji17)
                · rw [if_pos c18] at H
                  have c18b0 := eq_true c18
                  have c18b1 : decide (0 ≤ (ji17)) = true := decide_eq_true c18
                  clear c18
                  obtain ⟨ji19, hji19⟩ : ∃ j_ : Int, (shr .i64 a1 (ji17)) = j_ := ⟨_, rfl⟩
                  replace H : (if x0_1.length < 140737488355328 then (text_put.l0 k1 (x0_1 ++ [128 + (ji19) % 64]) a1 (wrap64 (x6_1 - 1))) else (none)) = some r := by first | (rw [hji19] at H; exact H) | (simp only [hji19] at H ⊢; exact H)
                  have hji19_ : (a1 / 2 ^ min (ji17).toNat 64) = ji19 := hji19
                  have hji19z : (ji17) ≤ 64 → (a1 / 2 ^ (ji17).toNat) = ji19 := shr_small hji19
                  by_cases c20 : x0_1.length < 140737488355328
                  · rw [if_pos c20] at H
                    have LMc20 := Aside0.mk c20
                    clear c20
                    obtain ⟨y174, hy174⟩ : ∃ y_ : List Int, y_ = (x0_1 ++ [128 + (ji19) % 64]) := ⟨_, rfl⟩
                    replace H : (text_put.l0 k1 y174 a1 (wrap64 (x6_1 - 1))) = some r := by first | (rw [hy174]; with_reducible exact H) | (have H2_ := (Option.bind_some _ _).symm.trans H; rw [hy174]; with_reducible exact H2_) | (have H2_ := (Option.bind_some _ _).symm.trans H; with_reducible exact H2_) | with_reducible exact H | (rw [hy174]; exact H) | exact H
                    have Ny174 := Aside0.mk hy174
                    clear hy174
                    have H' := Aside0.mk H
                    clear H
                    go_wp2_with (first | ((with_reducible refine gate_builtin (b := .append) (xs := #[.tmp 35, .tmp 43]) rfl ?_); at_builtin; refine Kd.R_append (Kd.int .u8) (w0 := w0) w0.heap.size rfl (.tmp 35) (.tmp 43) 77 5 (.int .u8 0) 1 rfl Try.underlying77 info5 rfl (by decide) (by omega) u0 x0_1 (128 + (ji19) % 64) [.int .u8 (128 + (ji19) % 64)] (fun k_ => (P0_ k_ ∨ w.heap.size ≤ k_)) (fun _ => False) rfl rfl ?aP (fun _ hk => hk.elim) ?aF ?aO ?aB ?aS ?aL ?_; (case aP => exact rfl); (case aB => exact (by repeat (first | (with_reducible first | exact HB.out | apply below_alloc | apply pw_below_drewN | apply below_drew1) | exact HB.out))); (case aF => exact (fun k_ hk => (.inr (Nat.le_trans (by first | exact HK.out.1 | exact (show Kept w _ (fun k_ => P0_ k_) from by repeat (first | (with_reducible first | exact HK.out | apply Kept.alloc | apply Kept.drewN | apply Kept.drew) | exact HK.out)).1) hk)))); (case aO => exact (by (with_reducible repeat (first | apply Kd.R_alloc | apply Kd.R_drewN | apply Kd.R_drew)); exact HO_0.out)); (case aS => exact (below_size (by repeat (first | (with_reducible first | exact HB.out | apply below_alloc | apply pw_below_drewN | apply below_drew1) | exact HB.out)))); (case aL => have := LMc20.out; omega); intro v175 w21 ho hb hg hat; rw [← Ny174.out] at ho; have n0_ := Aside0.mk (hb); have n1_ := Aside0.mk (Kept.of_grown (S := (fun k_ => P0_ k_)) hg (by repeat (first | (with_reducible first | exact HK.out | apply Kept.alloc | apply Kept.drewN | apply Kept.drew) | exact HK.out)) (fun k_ e_ => (HO_0.out.1 k_ e_))); have n2_ := Aside0.mk (ho); clear HB; clear HK; clear HO_0; have HB := n0_; have HK := n1_; have HO176 := n2_; clear n0_ n1_ n2_; clear ho hb hg hat))
                    go_roundg k1
                    case measure => have := HK1.out; omega
                    case rel => exact ⟨(y174), (wrap64 (x6_1 - 1)), (by first | rfl | (simp; done) | (simp [*]; done) | (simp; (generalize ByteArray.toList _ = l_); cases l_ <;> rfl)), H', ⟨by have := HK1.out; omega⟩, ⟨by (with_reducible repeat (first | apply Kd.R_alloc | apply Kd.R_drewN | apply Kd.R_drew)); exact HO176.out⟩, ⟨by repeat (first | (with_reducible first | exact HK.out | apply Kept.alloc | apply Kept.drewN | apply Kept.drew) | exact HK.out)⟩, ⟨by repeat (first | (with_reducible first | exact HB.out | apply below_alloc | apply pw_below_drewN | apply below_drew1) | exact HB.out)⟩⟩
                  · rw [if_neg c20] at H
                    exact absurd H (by simp)
                · rw [if_neg c18] at H
                  exact absurd H (by simp)
              · rw [if_neg c16] at H
                have c16b0 : decide (0 ≤ x6_1) = false := decide_eq_false c16
                clear c16
                obtain rfl := Option.some.inj H
                go_wp2
                go_ret
                exact ⟨_, by first | rfl | (simp [errW_none, errW_some] <;> rfl) | (simp only [← hji8, ← hji9, ← hji11]; first | rfl | (simp [errW_none, errW_some] <;> rfl)) | (simp [*, errW_none, errW_some] <;> rfl), by (with_reducible repeat (first | apply Kd.R_alloc | apply Kd.R_drewN | apply Kd.R_drew)); exact HO_0.out, by repeat (first | (with_reducible first | exact HB.out | apply below_alloc | apply pw_below_drewN | apply below_drew1) | exact HB.out), by repeat (first | (with_reducible first | exact HK.out | apply Kept.alloc | apply Kept.drewN | apply Kept.drew) | exact HK.out)⟩
        · rw [if_neg c12] at H
          exact absurd H (by simp)
      · rw [if_neg c10] at H
        exact absurd H (by simp)
    · rw [if_neg c7] at H
      exact absurd H (by simp)

end Go.Proofs.Ytdpbkomaiafemaa.HDe
