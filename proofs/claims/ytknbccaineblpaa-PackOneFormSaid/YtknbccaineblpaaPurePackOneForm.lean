/- What is read, written again, is just the bytes that were read, and without the last of them it is cut off: for every bytes and every place. -/
import Derived.Test.YtknbccaineblpaaHPkx5
import Derived.Test.YtknbccaineblpaaPurePkpl
namespace Go.Proofs.Ytknbccaineblpaa.Pure
open Go.RowKit Go.Proofs.Ytknbccaineblpaa.HPk Go.Proofs.Ytknbccaineblpaa.Pkpk Go.Proofs.Ytknbccaineblpaa.Pk Go.Proofs.YtknbccaineblpaaW.PrintWords Go.Proofs.YtknbccaineblpaaW.PrintLast
set_option linter.unusedSimpArgs false
set_option linter.unusedVariables false

theorem wd_bytes (s : ByteArray) (at_ : Nat) (h : at_ + 4 ≤ s.size) : wd (s[at_].toNat * 16777216 + s[at_ + 1].toNat * 65536 + s[at_ + 2].toNat * 256 + s[at_ + 3].toNat) = (s.data.toList.drop at_).take 4 := by
  rw [Ev.drop_at s at_ (by omega), Ev.drop_at s (at_ + 1) (by omega), Ev.drop_at s (at_ + 1 + 1) (by omega), Ev.drop_at s (at_ + 1 + 1 + 1) (by omega)]
  have h0 := (s[at_]).toNat_lt
  have h1 := (s[at_ + 1]).toNat_lt
  have h2 := (s[at_ + 2]).toNat_lt
  have h3 := (s[at_ + 3]).toNat_lt
  simp only [List.take_succ_cons, List.take_zero, wd]
  rw [show (s[at_].toNat * 16777216 + s[at_ + 1].toNat * 65536 + s[at_ + 2].toNat * 256 + s[at_ + 3].toNat) / 16777216 = s[at_].toNat from by omega,
    show (s[at_].toNat * 16777216 + s[at_ + 1].toNat * 65536 + s[at_ + 2].toNat * 256 + s[at_ + 3].toNat) / 65536 % 256 = s[at_ + 1].toNat from by omega,
    show (s[at_].toNat * 16777216 + s[at_ + 1].toNat * 65536 + s[at_ + 2].toNat * 256 + s[at_ + 3].toNat) / 256 % 256 = s[at_ + 2].toNat from by omega,
    show (s[at_].toNat * 16777216 + s[at_ + 1].toNat * 65536 + s[at_ + 2].toNat * 256 + s[at_ + 3].toNat) % 256 = s[at_ + 3].toNat from by omega,
    ofNat_toNat, ofNat_toNat, ofNat_toNat, ofNat_toNat]
theorem part_eq (s : ByteArray) (at_ j : Nat) (hj : at_ + j ≤ s.size) : (s.extract at_ (at_ + j)).data.toList = (s.data.toList.drop at_).take j := by
  rw [Ev.extract_data, List.drop_take, show at_ + j - at_ = j from by omega]
theorem cut_drop (s : ByteArray) (at_ m : Nat) (hm : at_ ≤ m) : (s.extract 0 m).data.toList.drop at_ = (s.data.toList.drop at_).take (m - at_) := by
  rw [Ev.extract_data, List.drop_zero, List.drop_take]
theorem cut_size (s : ByteArray) (m : Nat) (hm : m ≤ s.size) : (s.extract 0 m).size = m := by rw [ByteArray.size_extract]; omega

theorem j5_in (s : ByteArray) (hs : s.size ≤ 140737488351232) (at_ : Nat) (ha : at_ ≤ s.size) : Ev (fun k => oxbowlaw02_PackOneForm.j5 k s (at_ : Int)) true := by
  have hw := takeWord_in s (by omega) at_ ha
  by_cases h : at_ + 4 ≤ s.size
  · rw [dif_pos h] at hw
    have w4 := Aside0.mk (show wrap64 ((at_ : Int) + 4) = ((at_ + 4 : Nat) : Int) from Ev.wrap_id _ (by omega) (by omega))
    have h0 := (s[at_]).toNat_lt
    have h1 := (s[at_ + 1]).toNat_lt
    have h2 := (s[at_ + 2]).toNat_lt
    have h3 := (s[at_ + 3]).toNat_lt
    have hwd := wd_bytes s at_ h
    have hwe := word_ev (s[at_].toNat * 16777216 + s[at_ + 1].toNat * 65536 + s[at_ + 2].toNat * 256 + s[at_ + 3].toNat) (by omega)
    refine Ev.step (fun k => by simp only [oxbowlaw02_PackOneForm.j5]; rfl) ?_
    refine Ev.bind hw (Ev.bind live_ev (Ev.pos rfl (Ev.pos rfl (Ev.pos (by omega) (Ev.pos (by rw [w4.out]) (Ev.pos (by dsimp only; omega) (Ev.bind (Ev.const hwe) (Ev.pos (by omega) (Ev.pos (by dsimp only; omega) (Ev.const ?_))))))))))
    rw [Ev.toList_data, Ev.toList_data, wdB_data, hwd, Int.toNat_natCast, Int.toNat_natCast, part_eq s at_ 4 h]
    simp
  · rw [dif_neg h] at hw
    refine Ev.step (fun k => by simp only [oxbowlaw02_PackOneForm.j5]; rfl) ?_
    exact Ev.bind hw (Ev.bind live_ev (Ev.pos rfl (Ev.neg (by decide) (Ev.now _))))
theorem j5_out (s : ByteArray) (at_ : Int) (ha : at_ < 0 ∨ (s.size : Int) < at_) : Ev (fun k => oxbowlaw02_PackOneForm.j5 k s at_) true := by
  refine Ev.step (fun k => by simp only [oxbowlaw02_PackOneForm.j5]; rfl) ?_
  exact Ev.bind (takeWord_out s at_ ha) (Ev.bind live_ev (Ev.pos rfl (Ev.neg (by decide) (Ev.now _))))

theorem j2_in (s : ByteArray) (hs : s.size ≤ 140737488351232) (at_ : Nat) (ha : at_ ≤ s.size) : Ev (fun k => oxbowlaw02_PackOneForm.j2 k s (at_ : Int)) true := by
  have ht := takeList_ev s (by omega) at_ ha
  cases h : tl (s.data.toList.drop at_) with
  | error e =>
    rw [h] at ht
    refine Ev.step (fun k => by simp only [oxbowlaw02_PackOneForm.j2]; rfl) ?_
    exact Ev.bind ht (Ev.neg (tl_error h) (j5_in s hs at_ ha))
  | ok x =>
    obtain ⟨ts, j⟩ := x
    rw [h] at ht
    obtain ⟨h1, h2, h3, h4, h5, h6⟩ := tl_one _ _ _ h
    have hcut := tl_cut _ _ _ (j - 1) h (by omega)
    rw [List.length_drop, Ev.len_data] at h5
    have hsub := Aside0.mk (show wrap64 (((at_ + j : Nat) : Int) - 1) = ((at_ + j - 1 : Nat) : Int) by rw [Ev.wrap_id _ (by omega) (by omega)]; omega)
    have hl := list_ev (ts.map mkB)
    rw [if_pos ⟨by simpa using h3, by
      simp only [fits, List.all_map, List.all_eq_true, Function.comp_apply, decide_eq_true_eq]
      intro t ht
      have := h4 t ht
      rw [← Ev.len_data, mkB_data]
      exact this⟩] at hl
    have ht2 := takeList_ev (s.extract 0 (at_ + j - 1)) (by rw [cut_size _ _ (by omega)]; omega) at_ (by rw [cut_size _ _ (by omega)]; omega)
    rw [cut_drop s at_ (at_ + j - 1) (by omega), show at_ + j - 1 - at_ = j - 1 from by omega, hcut] at ht2
    refine Ev.step (fun k => by simp only [oxbowlaw02_PackOneForm.j2]; rfl) ?_
    have ht' : Ev (fun k => pack_TakeList.f k s (at_ : Int)) (ts.map mkB, ((at_ + j : Nat) : Int), (0 : Int)) := ht
    refine Ev.bind ht' (Ev.pos rfl (Ev.neg (by omega) (Ev.neg (show ¬ ((at_ + j : Nat) : Int) ≤ (at_ : Int) by omega) ?_)))
    dsimp only
    rw [show decide (((at_ + j : Nat) : Int) > (s.size : Int)) = false from decide_eq_false (by omega)]
    refine Ev.step (fun k => by simp only [oxbowlaw02_PackOneForm.j3]; rfl) ?_
    refine Ev.neg (by decide) (Ev.bind hl (Ev.pos (by rw [hsub.out]; omega) (Ev.pos (by rw [hsub.out]; omega) ?_)))
    simp only [hsub.out, Int.toNat_natCast]
    refine Ev.bind ht2 (Ev.pos (by omega) (Ev.pos (by omega) (Ev.pos (by omega) (Ev.pos ?_ (Ev.pos trivial ?_)))))
    · rw [Ev.toList_data, Ev.toList_data, lstB_data, dat_mkB, part_eq s at_ j (by omega), h1]
    · have : ((tlR at_ (Except.error 21)).2.2 != (21 : Int)) = false := rfl
      rw [this]
      refine Ev.step (fun k => by simp only [oxbowlaw02_PackOneForm.j4]; rfl) ?_
      exact Ev.neg (by decide) (j5_in s hs at_ ha)
theorem j2_out (s : ByteArray) (at_ : Int) (ha : at_ < 0 ∨ (s.size : Int) < at_) : Ev (fun k => oxbowlaw02_PackOneForm.j2 k s at_) true := by
  refine Ev.step (fun k => by simp only [oxbowlaw02_PackOneForm.j2]; rfl) ?_
  exact Ev.bind (takeList_out s at_ ha) (Ev.neg (by decide) (j5_out s at_ ha))

theorem PackOneForm : oxbowlaw02_PackOneForm.Pure := by
  intro s a hs ha
  refine Ev.rounds ?_
  unfold oxbowlaw02_PackOneForm.f
  by_cases h0 : a < 0 ∨ (s.size : Int) < a
  · exact Ev.bind (takeNum_out s a h0) (Ev.neg (by decide) (j2_out s a h0))
  · obtain ⟨at_, rfl⟩ : ∃ x : Nat, a = (x : Int) := ⟨a.toNat, by omega⟩
    have hle : at_ ≤ s.size := by omega
    have ht := takeNum_ev s (by omega) at_ hle
    cases h : tk 1125899906842624 (s.data.toList.drop at_) 0 0 with
    | error e =>
      rw [h] at ht
      exact Ev.bind ht (Ev.neg (error_ne h) (j2_in s hs at_ hle))
    | ok x =>
      obtain ⟨n, j⟩ := x
      rw [h] at ht
      obtain ⟨h1, h2, h3, h4⟩ := tk_one _ _ _ _ h
      obtain ⟨h5, h6⟩ := tk_le _ _ _ _ h
      have hcut := tk_cut _ _ _ _ _ _ (j - 1) h (by omega)
      rw [List.length_drop, Ev.len_data] at h5
      have hsub := Aside0.mk (show wrap64 (((at_ + j : Nat) : Int) - 1) = ((at_ + j - 1 : Nat) : Int) by rw [Ev.wrap_id _ (by omega) (by omega)]; omega)
      have hn := num_ev n h3
      have ht2 := takeNum_ev (s.extract 0 (at_ + j - 1)) (by rw [cut_size _ _ (by omega)]; omega) at_ (by rw [cut_size _ _ (by omega)]; omega)
      rw [cut_drop s at_ (at_ + j - 1) (by omega), show at_ + j - 1 - at_ = j - 1 from by omega, hcut] at ht2
      have ht' : Ev (fun k => pack_TakeNum.f k s (at_ : Int)) ((n : Int), ((at_ + j : Nat) : Int), (0 : Int)) := ht
      refine Ev.bind ht' (Ev.pos rfl (Ev.neg (by omega) (Ev.neg (show ¬ ((at_ + j : Nat) : Int) ≤ (at_ : Int) by omega) ?_)))
      dsimp only
      rw [show decide (((at_ + j : Nat) : Int) > (s.size : Int)) = false from decide_eq_false (by omega)]
      refine Ev.step (fun k => by simp only [oxbowlaw02_PackOneForm.j0]; rfl) ?_
      refine Ev.neg (by decide) (Ev.bind hn (Ev.pos (by rw [hsub.out]; omega) (Ev.pos (by rw [hsub.out]; omega) ?_)))
      simp only [hsub.out, Int.toNat_natCast]
      refine Ev.bind ht2 (Ev.pos (by omega) (Ev.pos (by omega) (Ev.pos (by omega) (Ev.pos ?_ (Ev.pos trivial ?_)))))
      · rw [Ev.toList_data, Ev.toList_data, Ev.strOf_ints, part_eq s at_ j (by omega), h1]
      · have : ((tkR at_ (Except.error 21)).2.2 != (21 : Int)) = false := rfl
        rw [this]
        refine Ev.step (fun k => by simp only [oxbowlaw02_PackOneForm.j1]; rfl) ?_
        exact Ev.neg (by decide) (j2_in s hs at_ hle)

end Go.Proofs.Ytknbccaineblpaa.Pure
