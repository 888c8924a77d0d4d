-- Written by hprint.py over the kit's print.py; contracts of some functions by hand.
import Derived.Test.YtdpbkomaiafemaaHDdx0
import Derived.Test.YtdpbkomaiafemaaHDdx3
namespace Go.Proofs.Ytdpbkomaiafemaa.HDd
open Go.RowKit Go.Proofs.YtdpbkomaiafemaaW.PrintWords Go.Proofs.YtdpbkomaiafemaaW.PrintLast Go.Proofs.YtdpbkomaiafemaaW.PrintMore
attribute [local go_sem] max2_int min2_int max_two min_two max_three min_three max_four min_four   -- for this text's walks alone
set_option linter.unusedVariables false
set_option linter.unusedSimpArgs false

/-! ### delta_joiner: functions 44, 43 -/
theorem delta_joiner.info : (Try.prog.info? 36).map (fun i => (i.zero, i.size, i.bytes)) = some (some (.agg #[(.int .i64 0), (.int .i64 0), (.string ⟨#[]⟩)]), 3, 32) := by kernel_rfl
/-- The joiner lies in block g, its row is v. -/
def delta_joiner.St (w : World) (B g : Nat) (v : Value) (out : List S36) (ins : ByteArray) (gone kept : Int) : Prop := w.heap[g]? = some (.cells #[v, .string ins, .int .i64 gone, .int .i64 kept] 57 (0, 0)) ∧ Kd.R k36 36 w B (fun k_ => k_ ≠ g) v out ∧ B ≤ g
theorem delta_joiner.own_next {w W : World} {S_ : Nat → Prop} {v v1 : Value} (hv : ∀ k, v.ownBlock = some k → S_ k ∨ w.heap.size ≤ k) (hat : v1.ownBlock = v.ownBlock ∨ ∃ b, v1.ownBlock = some b ∧ W.heap.size ≤ b) (hk : Kept w W S_) : ∀ k, v1.ownBlock = some k → S_ k ∨ w.heap.size ≤ k := by
  intro k h
  rcases hat with hat | ⟨b, hb, hle⟩
  · exact hv k (by rw [← hat]; exact h)
  · rw [hb] at h
    injection h with h
    exact .inr (by have := hk.1; omega)
def delta_joiner_keeps.out (l : List S36) (kept : Int) : List S36 := if 0 < kept then l ++ [⟨1, kept, ⟨#[]⟩⟩] else l
set_option maxHeartbeats 8000000 in
set_option maxRecDepth 100000 in
theorem delta_joiner_keeps.calls (w0 w : World) (S_ : Nat → Prop) (g : Nat) (v : Value) (out : List S36) (ins : ByteArray) (gone kept : Int) (hB : Below w0.heap.size w0 w) (hJ : delta_joiner.St w w0.heap.size g v out ins gone kept) (hV : ∀ k, v.ownBlock = some k → S_ k ∨ w.heap.size ≤ k) (hG : S_ g) (hl : (out.length + 1) * 32 ≤ 140737488355328) :
    Calls Try.prog 44 #[.pointer (some ⟨g, 0, none⟩)] w fun e w' => (∃ u, e = .returned u) ∧ ∃ v', delta_joiner.St w' w0.heap.size g v' (delta_joiner_keeps.out out kept) ins gone (if 0 < kept then 0 else kept) ∧ (∀ k, v'.ownBlock = some k → S_ k ∨ w.heap.size ≤ k) ∧ Kept w w' S_ ∧ Below w0.heap.size w0 w' := by
  have hu36 := Try.underlying36
  obtain ⟨hblk, hR, hge⟩ := hJ
  obtain ⟨A0, c0, rfl⟩ := Kd.R_slice hR
  have BK0 := Aside0.mk hblk
  have HR0 := Aside0.mk hR
  have HB0 := Aside0.mk hB
  have HL0 := Aside0.mk hl
  have GE := Aside0.mk hge
  have SG := Aside0.mk hG
  have VB0 := Aside0.mk hV
  have KP0 := Aside0.mk (Kept.refl w S_)
  have k3 : w.cell? ⟨g, 3, none⟩ = some (.int .i64 kept) := (blk_cell BK0.out 3).trans rfl
  clear hblk hR hB hl hge hG hV
  by_cases d : 0 < kept
  · have db := decide_eq_true d
    go_enter Try.func44, Try.ntmps44
    go_wp2
    obtain ⟨y1, Ny_⟩ : ∃ y_ : List S36, y_ = (out) ++ [(⟨1, kept, ⟨#[]⟩⟩ : S36)] := ⟨_, rfl⟩
    have Ny1 := Aside0.mk Ny_
    clear Ny_
    refine start_ (n := 15) (S := fun w' => w'.cell? ⟨g, 0, none⟩ = some (.slice A0 (out).length c0) ∧ w'.cell? ⟨g, 3, none⟩ = some (.int .i64 kept)) (ds := [14]) #[false, false, false, false, false, false, false, false, false, false, false, false, false, false, false] (by kernel_rfl) rfl rfl ⟨(blk_cell (blk_drew BK0.out) 0).trans rfl, (blk_cell (blk_drew BK0.out) 3).trans rfl⟩ (fun hHeld => ?_)
    generalize hwd : World.drew _ = w101 at hHeld ⊢
    have BK101 : Aside0 (w101.heap[g]? = some (.cells #[.slice A0 (out).length c0, .string ins, .int .i64 gone, .int .i64 kept] 57 (0, 0))) := ⟨by rw [← hwd]; exact blk_drew BK0.out⟩
    have HR101 : Aside0 (Kd.R k36 36 w101 w0.heap.size (fun k_ => k_ ≠ g) (.slice A0 (out).length c0) (out)) := ⟨by rw [← hwd]; exact Kd.R_drew HR0.out⟩
    have HB101 : Aside0 (Below w0.heap.size w0 w101) := ⟨by rw [← hwd]; exact below_drew1 HB0.out⟩
    have KP101 : Aside0 (Kept w w101 S_) := ⟨by rw [← hwd]; exact Kept.drew KP0.out⟩
    clear hwd
    refine pure_ (i := 0) (N := some 7) (v := ?_) (a' := ?_) #[true, false, false, false, false, false, false, false, false, false, false, false, false, false, false] rfl rfl (by kernel_rfl) (fun _ _ _ h => h) (Or.inl ⟨by rfl, ?_⟩) ?_ ?_
    rotate_left
    · intro w'
      go_simp
      with_reducible rfl
    rotate_left
    · simp only [Act.put, List.setIfInBounds_toArray, List.set_cons_zero, List.set_cons_succ, i64_w, i32_w]
      rfl
    refine pure_ (i := 1) (N := some 8) (v := ?_) (a' := ?_) #[true, true, false, false, false, false, false, false, false, false, false, false, false, false, false] rfl rfl (by kernel_rfl) (fun _ _ _ h => h) (Or.inl ⟨by rfl, ?_⟩) ?_ ?_
    rotate_left
    · intro w'
      go_simp
      with_reducible rfl
    rotate_left
    · simp only [Act.put, List.setIfInBounds_toArray, List.set_cons_zero, List.set_cons_succ, i64_w, i32_w]
      rfl
    refine pure_ (i := 2) (N := some 9) (v := ?_) (a' := ?_) #[true, true, true, false, false, false, false, false, false, false, false, false, false, false, false] rfl rfl (by kernel_rfl) (fun _ _ _ h => h) (Or.inl ⟨by rfl, ?_⟩) ?_ ?_
    rotate_left
    · intro w'
      go_simp
      with_reducible rfl
    rotate_left
    · simp only [Act.put, List.setIfInBounds_toArray, List.set_cons_zero, List.set_cons_succ, i64_w, i32_w]
      rfl
    refine pure_ (i := 3) (N := some 10) (v := ?_) (a' := ?_) #[true, true, true, true, false, false, false, false, false, false, false, false, false, false, false] rfl rfl (by kernel_rfl) (fun _ _ _ h => h) (Or.inl ⟨by rfl, ?_⟩) ?_ ?_
    rotate_left
    · intro w'
      go_simp
      with_reducible rfl
    rotate_left
    · simp only [Act.put, List.setIfInBounds_toArray, List.set_cons_zero, List.set_cons_succ, i64_w, i32_w]
      rfl
    refine pure_ (i := 5) (N := some 12) (v := ?_) (a' := ?_) #[true, true, true, true, false, true, false, false, false, false, false, false, false, false, false] rfl rfl (by kernel_rfl) (fun _ _ _ h => h) (Or.inl ⟨by rfl, ?_⟩) ?_ ?_
    rotate_left
    · intro w'
      go_simp
      with_reducible rfl
    rotate_left
    · simp only [Act.put, List.setIfInBounds_toArray, List.set_cons_zero, List.set_cons_succ, i64_w, i32_w]
      rfl
    refine pure_ (i := 6) (N := some 13) (v := ?_) (a' := ?_) #[true, true, true, true, false, true, true, false, false, false, false, false, false, false, false] rfl rfl (by kernel_rfl) (fun _ _ _ h => h) (Or.inl ⟨by rfl, ?_⟩) ?_ ?_
    rotate_left
    · intro w'
      go_simp
      with_reducible rfl
    rotate_left
    · simp only [Act.put, List.setIfInBounds_toArray, List.set_cons_zero, List.set_cons_succ, i64_w, i32_w]
      rfl
    refine pure_ (i := 7) (N := some 14) (v := ?_) (a' := ?_) #[true, true, true, true, false, true, true, true, false, false, false, false, false, false, false] rfl rfl (by kernel_rfl) (fun _ _ _ h => h) (Or.inl ⟨by rfl, ?_⟩) ?_ ?_
    rotate_left
    · intro w'
      go_simp
      with_reducible rfl
    rotate_left
    · simp only [Act.put, List.setIfInBounds_toArray, List.set_cons_zero, List.set_cons_succ, i64_w, i32_w]
      rfl
    refine take_ (i := 4) (N := some 11) (v := ?_) (a' := ?_) #[true, true, true, true, true, true, true, true, false, false, false, false, false, false, false] rfl rfl (by kernel_rfl) (fun _ _ _ h => h) (Or.inl ⟨by rfl, ?_⟩) hHeld ?_ ?_
    rotate_left
    · rintro w' ⟨s0, s1⟩
      go_simp
      with_reducible rfl
    rotate_left
    · simp only [Act.put, List.setIfInBounds_toArray, List.set_cons_zero, List.set_cons_succ, i64_w, i32_w]
      rfl
    refine take_ (i := 8) (N := some 15) (v := ?_) (a' := ?_) #[true, true, true, true, true, true, true, true, true, false, false, false, false, false, false] rfl rfl (by kernel_rfl) (fun _ _ _ h => h) (Or.inl ⟨by rfl, ?_⟩) hHeld ?_ ?_
    rotate_left
    · rintro w' ⟨s0, s1⟩
      go_simp
      with_reducible rfl
    rotate_left
    · simp only [Act.put, List.setIfInBounds_toArray, List.set_cons_zero, List.set_cons_succ, i64_w, i32_w]
      rfl
    refine pure_ (i := 9) (N := some 16) (v := ?_) (a' := ?_) #[true, true, true, true, true, true, true, true, true, true, false, false, false, false, false] rfl rfl (by kernel_rfl) (fun _ _ _ h => h) (Or.inl ⟨by rfl, ?_⟩) ?_ ?_
    rotate_left
    · intro w'
      go_simp
      with_reducible rfl
    rotate_left
    · simp only [Act.put, List.setIfInBounds_toArray, List.set_cons_zero, List.set_cons_succ, i64_w, i32_w]
      rfl
    refine one_ (i := 10) (N := some 17) #[true, true, true, true, true, true, true, true, true, true, true, false, false, false, false] rfl rfl (by kernel_rfl) (by decide) (fun K hK => ?_)
    refine value_ (w1 := ?_) (v := ?_) (by rfl) rfl ?_ ?_
    rotate_left 2
    · go_simp
      constructor
      · rfl
      · rfl
    clear hHeld
    refine hK.out _ _ ⟨(blk_cell (blk_alloc BK101.out _) 0).trans rfl, (blk_cell (blk_alloc BK101.out _) 3).trans rfl⟩ (fun hHeld => ?_)
    clear hK K
    refine norm_ (a' := ?_) ?_ ?_
    rotate_left
    · show Act.put _ (some 17) _ = _
      simp only [Act.put, List.setIfInBounds_toArray, List.set_cons_zero, List.set_cons_succ, i64_w, i32_w]
      rfl
    refine one_ (i := 11) (N := some 18) #[true, true, true, true, true, true, true, true, true, true, true, true, false, false, false] rfl rfl (by kernel_rfl) (by decide) (fun K hK => ?_)
    refine Kd.R_append_step k36 (w0 := w0) (W := w101) w0.heap.size (by rfl) (.tmp 11) (.tmp 17) 22 36 (.agg #[(.int .i64 0), (.int .i64 0), (.string ⟨#[]⟩)]) 32 rfl Try.underlying22 delta_joiner.info rfl (by decide) (by omega) (.slice A0 (out).length c0) (out) (⟨1, kept, ⟨#[]⟩⟩ : S36) [.int .i64 1, .int .i64 kept, .string ⟨#[]⟩] (fun k_ => k_ ≠ g) (fun _ => False) rfl rfl (k36_mkM _ _ _ (⟨1, kept, ⟨#[]⟩⟩ : S36)) (fun _ hk => hk.elim) (fun k_ hk => Kd.freshB BK101.out k_ hk) HR101.out HB101.out HB101.out.size (by have := HL0.out; omega) ?_
    intro v201 w201 ho hb hg hat
    rw [← Ny1.out] at ho
    have BK201 := Aside0.mk (blk_grown (g := g) BK101.out hg (Kd.R_away HR101.out (fun _ hk => hk)))
    have HR201 := Aside0.mk ho
    have HB201 := Aside0.mk hb
    have KP201 := Aside0.mk (Kept.of_grown hg KP101.out VB0.out)
    have VB1 := Aside0.mk (delta_joiner.own_next VB0.out hat KP101.out)
    clear ho hb hg hat
    clear hHeld
    refine hK.out _ _ ⟨(blk_cell BK201.out 0).trans rfl, (blk_cell BK201.out 3).trans rfl⟩ (fun hHeld => ?_)
    clear hK K
    refine norm_ (a' := ?_) ?_ ?_
    rotate_left
    · show Act.put _ (some 18) _ = _
      simp only [Act.put, List.setIfInBounds_toArray, List.set_cons_zero, List.set_cons_succ, i64_w, i32_w]
      rfl
    refine pure_ (i := 12) (N := some 19) (v := ?_) (a' := ?_) #[true, true, true, true, true, true, true, true, true, true, true, true, true, false, false] rfl rfl (by kernel_rfl) (fun _ _ _ h => h) (Or.inl ⟨by rfl, ?_⟩) ?_ ?_
    rotate_left
    · intro w'
      go_simp
      with_reducible rfl
    rotate_left
    · simp only [Act.put, List.setIfInBounds_toArray, List.set_cons_zero, List.set_cons_succ, i64_w, i32_w]
      rfl
    refine pure_ (i := 13) (N := some 20) (v := ?_) (a' := ?_) #[true, true, true, true, true, true, true, true, true, true, true, true, true, true, false] rfl rfl (by kernel_rfl) (fun _ _ _ h => h) (Or.inl ⟨by rfl, ?_⟩) ?_ ?_
    rotate_left
    · intro w'
      go_simp
      with_reducible rfl
    rotate_left
    · simp only [Act.put, List.setIfInBounds_toArray, List.set_cons_zero, List.set_cons_succ, i64_w, i32_w]
      rfl
    refine last_ (i := 14) (N := none) #[true, true, true, true, true, true, true, true, true, true, true, true, true, true, true] rfl rfl (by kernel_rfl) (by decide) (fun K hK => ?_)
    have hfz1 := blk_frozen BK201.out 0
    obtain ⟨A1, c1, hv1⟩ := Kd.R_slice HR201.out
    subst hv1
    refine skip_ (w1 := ?_) (by rfl) rfl ?_ ?_
    rotate_left
    · go_simp
      rfl
    refine hK.out _ _ ?_
    clear hK K
    refine done_ (by kernel_rfl) ?_
    clear hHeld
    have q1_ := blk_put (cs' := #[.slice A1 y1.length c1, .string ins, .int .i64 gone, .int .i64 kept]) BK201.out 0 (.slice A1 y1.length c1) rfl
    have q2_ := Kd.R_far (p := ⟨g, 0, none⟩) HR201.out (fun k hk => hk) (.slice A1 y1.length c1)
    have q3_ := Below.setCell HB201.out GE.out (p := ⟨g, 0, none⟩) (.slice A1 y1.length c1)
    have q4_ := Kept.setCell KP201.out (p := ⟨g, 0, none⟩) (.inl SG.out) (.slice A1 y1.length c1)
    generalize hws : World.setCell w201 ⟨g, 0, none⟩ _ = w1 at q1_ q2_ q3_ q4_ ⊢
    have BK1 := Aside0.mk q1_
    have HR1 := Aside0.mk q2_
    have HB1 := Aside0.mk q3_
    have KP1 := Aside0.mk q4_
    clear q1_ q2_ q3_ q4_ hws
    have k1_0 := (blk_cell BK1.out 0).trans rfl
    have k1_1 := (blk_cell BK1.out 1).trans rfl
    have k1_2 := (blk_cell BK1.out 2).trans rfl
    have k1_3 := (blk_cell BK1.out 3).trans rfl
    have f1_0 := blk_frozen BK1.out 0
    have f1_1 := blk_frozen BK1.out 1
    have f1_2 := blk_frozen BK1.out 2
    have f1_3 := blk_frozen BK1.out 3
    go_wp2
    have BK2 := blk_put (cs' := #[.slice A1 y1.length c1, .string ins, .int .i64 gone, .int .i64 0]) BK1.out 3 (.int .i64 0) rfl
    refine bodyPost_end (results_none rfl _ _ _) rfl ⟨⟨_, rfl⟩, _, ⟨(by first | exact BK2 | (rw [if_pos d]; exact BK2)), ?_, GE.out⟩, VB1.out, Kept.setCell KP1.out (.inl SG.out) _, Below.setCell HB1.out GE.out _⟩
    unfold delta_joiner_keeps.out
    rw [if_pos (by omega), ← Ny1.out]
    exact Kd.R_far HR1.out (fun k hk => hk) _
  · have db := decide_eq_false d
    go_enter Try.func44, Try.ntmps44
    go_wp2
    refine bodyPost_end (results_none rfl _ _ _) rfl ⟨⟨_, rfl⟩, _, ⟨(by first | exact BK0.out | (rw [if_neg d]; exact BK0.out)), ?_, GE.out⟩, VB0.out, KP0.out, HB0.out⟩
    unfold delta_joiner_keeps.out
    rw [if_neg (by omega)]
    exact HR0.out
/-- What the gap leaves: the operations and the keep. -/
def delta_joiner_gap.out (l : List S36) (ins : ByteArray) (gone kept : Int) : List S36 × Int := if ((ins.toList == ([] : List UInt8)) && (gone == 0)) = true then (l, kept) else ((delta_joiner_keeps.out l kept ++ (if (ins.toList == ([] : List UInt8)) = true then [] else [⟨2, 0, ins⟩])) ++ (if 0 < gone then [⟨3, gone, ⟨#[]⟩⟩] else []), if 0 < kept then 0 else kept)
theorem delta_joiner_keeps.out_le (l : List S36) (kept : Int) : (delta_joiner_keeps.out l kept).length ≤ l.length + 1 := by unfold delta_joiner_keeps.out; split <;> simp
theorem delta_joiner_gap.out_le (l : List S36) (ins : ByteArray) (gone kept : Int) : (delta_joiner_gap.out l ins gone kept).1.length ≤ l.length + 3 := by
  have := delta_joiner_keeps.out_le l kept
  unfold delta_joiner_gap.out
  split
  · simp
  · simp only [List.length_append]
    split <;> split <;> simp only [List.length_cons, List.length_nil] <;> omega
theorem delta_joiner_gap.hl1 {out o1 : List S36} {kept : Int} (h : (out.length + 3) * 32 ≤ 140737488355328) (hn : o1 = delta_joiner_keeps.out out kept) : (o1.length + 1) * 32 ≤ 140737488355328 := by
  have := delta_joiner_keeps.out_le out kept
  rw [hn]; omega
theorem delta_joiner_gap.hl2 {out o1 y : List S36} {kept : Int} {x : S36} (h : (out.length + 3) * 32 ≤ 140737488355328) (hn : o1 = delta_joiner_keeps.out out kept) (hy : y = o1 ++ [x]) : (y.length + 1) * 32 ≤ 140737488355328 := by
  have h1 := delta_joiner_keeps.out_le out kept
  have h2 : y.length = o1.length + 1 := by rw [hy, List.length_append]; rfl
  rw [← hn] at h1
  clear hn hy
  omega
set_option maxHeartbeats 16000000 in
set_option maxRecDepth 100000 in
theorem delta_joiner_gap.calls (w0 w : World) (S_ : Nat → Prop) (g : Nat) (v : Value) (out : List S36) (ins : ByteArray) (gone kept : Int) (hB : Below w0.heap.size w0 w) (hJ : delta_joiner.St w w0.heap.size g v out ins gone kept) (hV : ∀ k, v.ownBlock = some k → S_ k ∨ w.heap.size ≤ k) (hG : S_ g) (hl : (out.length + 3) * 32 ≤ 140737488355328) :
    Calls Try.prog 43 #[.pointer (some ⟨g, 0, none⟩)] w fun e w' => (∃ u, e = .returned u) ∧ ∃ v', delta_joiner.St w' w0.heap.size g v' (delta_joiner_gap.out out ins gone kept).1 ⟨#[]⟩ 0 (delta_joiner_gap.out out ins gone kept).2 ∧ (∀ k, v'.ownBlock = some k → S_ k ∨ w.heap.size ≤ k) ∧ Kept w w' S_ ∧ Below w0.heap.size w0 w' := by
  have hu36 := Try.underlying36
  obtain ⟨hblk, hR, hge⟩ := hJ
  obtain ⟨A0, c0, rfl⟩ := Kd.R_slice hR
  have BK0 := Aside0.mk hblk
  have HR0 := Aside0.mk hR
  have HB0 := Aside0.mk hB
  have HL0 := Aside0.mk hl
  have GE := Aside0.mk hge
  have SG := Aside0.mk hG
  have VB0 := Aside0.mk hV
  have KP0 := Aside0.mk (Kept.refl w S_)
  have HLk : Aside0 ((out.length + 1) * 32 ≤ 140737488355328) := ⟨by omega⟩
  have HJ0 : Aside0 (delta_joiner.St w w0.heap.size g _ out ins gone kept) := ⟨⟨hblk, hR, hge⟩⟩
  have k1 : w.cell? ⟨g, 1, none⟩ = some (.string ins) := (blk_cell BK0.out 1).trans rfl
  have k2 : w.cell? ⟨g, 2, none⟩ = some (.int .i64 gone) := (blk_cell BK0.out 2).trans rfl
  clear hblk hR hB hl hge hG hV
  cases b1 : (ins.toList == ([] : List UInt8)) with
  | true =>
    have b1n : (ins.toList != ([] : List UInt8)) = false := by unfold bne; rw [b1]; rfl
    cases b2 : (gone == 0) with
    | true =>
      have e0 : ((ins.toList == ([] : List UInt8)) && (gone == 0)) = true := by rw [b1, b2]; rfl
      have i0 : ins = ⟨#[]⟩ := Ev.ext_data (by rw [← Ev.toList_data]; exact beq_iff_eq.mp b1)
      have g0 : gone = 0 := beq_iff_eq.mp b2
      have e1 : delta_joiner_gap.out out ins gone kept = (out, kept) := by unfold delta_joiner_gap.out; rw [if_pos e0]
      rw [e1]
      go_enter Try.func43, Try.ntmps43
      go_wp2
      refine bodyPost_ret (results_none rfl _ _ _) rfl ⟨⟨_, rfl⟩, _, ⟨by rw [← i0]; have h_ := BK0.out; rw [g0] at h_; exact h_, HR0.out, GE.out⟩, VB0.out, KP0.out, HB0.out⟩
    | false =>
      have e0 : ((ins.toList == ([] : List UInt8)) && (gone == 0)) = false := by rw [b1, b2]; rfl
      by_cases d : 0 < gone
      · have db := decide_eq_true d
        go_enter Try.func43, Try.ntmps43
        go_wp2_with (first | ((with_reducible refine gate_callee (f := 44) rfl ?_); refine goesL_ (some 15) rfl rfl Try.func44 (by kernel_rfl) rfl #[.pointer (some ⟨g, 0, none⟩)] rfl (by (try simp only [List.map_toArray, List.map_cons, List.map_nil]); first | done | rfl) ?_; (with_reducible refine (delta_joiner_keeps.calls w0 w S_ g _ out ins gone kept HB0.out HJ0.out VB0.out SG.out HLk.out).mono ?_); rintro e w1 ⟨⟨u, rfl⟩, v1, ⟨hb1, hR1, _⟩, hV1, hK1, hB1⟩; refine ⟨_, rfl, ?_⟩; obtain ⟨o1, No_⟩ : ∃ y_ : List S36, y_ = delta_joiner_keeps.out out kept := ⟨_, rfl⟩; rw [← No_] at hR1; have No1 := Aside0.mk No_; clear No_; obtain ⟨q1, Nq_⟩ : ∃ y_ : Int, y_ = (if 0 < kept then 0 else kept) := ⟨_, rfl⟩; rw [← Nq_] at hb1; have Nq1 := Aside0.mk Nq_; clear Nq_; obtain ⟨A1, c1, rfl⟩ := Kd.R_slice hR1; have BK1 := Aside0.mk hb1; have HR1 := Aside0.mk hR1; have HB1 := Aside0.mk hB1; have VB1 := Aside0.mk hV1; have KP1 := Aside0.mk hK1; clear hb1 hR1 hB1 hV1 hK1; have k1_1 := (blk_cell BK1.out 1).trans rfl; have k1_2 := (blk_cell BK1.out 2).trans rfl; have f1_1 := blk_frozen BK1.out 1; have f1_2 := blk_frozen BK1.out 2))
        have HL1 := Aside0.mk (delta_joiner_gap.hl1 HL0.out No1.out)
        obtain ⟨y2, Ny_⟩ : ∃ y_ : List S36, y_ = (o1) ++ [(⟨3, gone, ⟨#[]⟩⟩ : S36)] := ⟨_, rfl⟩
        have Ny2 := Aside0.mk Ny_
        clear Ny_
        refine start_ (n := 15) (S := fun w' => w'.cell? ⟨g, 0, none⟩ = some (.slice A1 (o1).length c1) ∧ w'.cell? ⟨g, 2, none⟩ = some (.int .i64 gone)) (ds := [14]) #[false, false, false, false, false, false, false, false, false, false, false, false, false, false, false] (by kernel_rfl) rfl rfl ⟨(blk_cell (blk_drew BK1.out) 0).trans rfl, (blk_cell (blk_drew BK1.out) 2).trans rfl⟩ (fun hHeld => ?_)
        generalize hwd : World.drew _ = w102 at hHeld ⊢
        have BK102 : Aside0 (w102.heap[g]? = some (.cells #[.slice A1 (o1).length c1, .string ins, .int .i64 gone, .int .i64 q1] 57 (0, 0))) := ⟨by rw [← hwd]; exact blk_drew BK1.out⟩
        have HR102 : Aside0 (Kd.R k36 36 w102 w0.heap.size (fun k_ => k_ ≠ g) (.slice A1 (o1).length c1) (o1)) := ⟨by rw [← hwd]; exact Kd.R_drew HR1.out⟩
        have HB102 : Aside0 (Below w0.heap.size w0 w102) := ⟨by rw [← hwd]; exact below_drew1 HB1.out⟩
        have KP102 : Aside0 (Kept w w102 S_) := ⟨by rw [← hwd]; exact Kept.drew KP1.out⟩
        clear hwd
        refine pure_ (i := 0) (N := some 40) (v := ?_) (a' := ?_) #[true, false, false, false, false, false, false, false, false, false, false, false, false, false, false] rfl rfl (by kernel_rfl) (fun _ _ _ h => h) (Or.inl ⟨by rfl, ?_⟩) ?_ ?_
        rotate_left
        · intro w'
          go_simp
          with_reducible rfl
        rotate_left
        · simp only [Act.put, List.setIfInBounds_toArray, List.set_cons_zero, List.set_cons_succ, i64_w, i32_w]
          rfl
        refine pure_ (i := 1) (N := some 41) (v := ?_) (a' := ?_) #[true, true, false, false, false, false, false, false, false, false, false, false, false, false, false] rfl rfl (by kernel_rfl) (fun _ _ _ h => h) (Or.inl ⟨by rfl, ?_⟩) ?_ ?_
        rotate_left
        · intro w'
          go_simp
          with_reducible rfl
        rotate_left
        · simp only [Act.put, List.setIfInBounds_toArray, List.set_cons_zero, List.set_cons_succ, i64_w, i32_w]
          rfl
        refine pure_ (i := 2) (N := some 42) (v := ?_) (a' := ?_) #[true, true, true, false, false, false, false, false, false, false, false, false, false, false, false] rfl rfl (by kernel_rfl) (fun _ _ _ h => h) (Or.inl ⟨by rfl, ?_⟩) ?_ ?_
        rotate_left
        · intro w'
          go_simp
          with_reducible rfl
        rotate_left
        · simp only [Act.put, List.setIfInBounds_toArray, List.set_cons_zero, List.set_cons_succ, i64_w, i32_w]
          rfl
        refine pure_ (i := 3) (N := some 43) (v := ?_) (a' := ?_) #[true, true, true, true, false, false, false, false, false, false, false, false, false, false, false] rfl rfl (by kernel_rfl) (fun _ _ _ h => h) (Or.inl ⟨by rfl, ?_⟩) ?_ ?_
        rotate_left
        · intro w'
          go_simp
          with_reducible rfl
        rotate_left
        · simp only [Act.put, List.setIfInBounds_toArray, List.set_cons_zero, List.set_cons_succ, i64_w, i32_w]
          rfl
        refine pure_ (i := 5) (N := some 45) (v := ?_) (a' := ?_) #[true, true, true, true, false, true, false, false, false, false, false, false, false, false, false] rfl rfl (by kernel_rfl) (fun _ _ _ h => h) (Or.inl ⟨by rfl, ?_⟩) ?_ ?_
        rotate_left
        · intro w'
          go_simp
          with_reducible rfl
        rotate_left
        · simp only [Act.put, List.setIfInBounds_toArray, List.set_cons_zero, List.set_cons_succ, i64_w, i32_w]
          rfl
        refine pure_ (i := 6) (N := some 46) (v := ?_) (a' := ?_) #[true, true, true, true, false, true, true, false, false, false, false, false, false, false, false] rfl rfl (by kernel_rfl) (fun _ _ _ h => h) (Or.inl ⟨by rfl, ?_⟩) ?_ ?_
        rotate_left
        · intro w'
          go_simp
          with_reducible rfl
        rotate_left
        · simp only [Act.put, List.setIfInBounds_toArray, List.set_cons_zero, List.set_cons_succ, i64_w, i32_w]
          rfl
        refine pure_ (i := 7) (N := some 47) (v := ?_) (a' := ?_) #[true, true, true, true, false, true, true, true, false, false, false, false, false, false, false] rfl rfl (by kernel_rfl) (fun _ _ _ h => h) (Or.inl ⟨by rfl, ?_⟩) ?_ ?_
        rotate_left
        · intro w'
          go_simp
          with_reducible rfl
        rotate_left
        · simp only [Act.put, List.setIfInBounds_toArray, List.set_cons_zero, List.set_cons_succ, i64_w, i32_w]
          rfl
        refine take_ (i := 4) (N := some 44) (v := ?_) (a' := ?_) #[true, true, true, true, true, true, true, true, false, false, false, false, false, false, false] rfl rfl (by kernel_rfl) (fun _ _ _ h => h) (Or.inl ⟨by rfl, ?_⟩) hHeld ?_ ?_
        rotate_left
        · rintro w' ⟨s0, s1⟩
          go_simp
          with_reducible rfl
        rotate_left
        · simp only [Act.put, List.setIfInBounds_toArray, List.set_cons_zero, List.set_cons_succ, i64_w, i32_w]
          rfl
        refine take_ (i := 8) (N := some 48) (v := ?_) (a' := ?_) #[true, true, true, true, true, true, true, true, true, false, false, false, false, false, false] rfl rfl (by kernel_rfl) (fun _ _ _ h => h) (Or.inl ⟨by rfl, ?_⟩) hHeld ?_ ?_
        rotate_left
        · rintro w' ⟨s0, s1⟩
          go_simp
          with_reducible rfl
        rotate_left
        · simp only [Act.put, List.setIfInBounds_toArray, List.set_cons_zero, List.set_cons_succ, i64_w, i32_w]
          rfl
        refine pure_ (i := 9) (N := some 49) (v := ?_) (a' := ?_) #[true, true, true, true, true, true, true, true, true, true, false, false, false, false, false] rfl rfl (by kernel_rfl) (fun _ _ _ h => h) (Or.inl ⟨by rfl, ?_⟩) ?_ ?_
        rotate_left
        · intro w'
          go_simp
          with_reducible rfl
        rotate_left
        · simp only [Act.put, List.setIfInBounds_toArray, List.set_cons_zero, List.set_cons_succ, i64_w, i32_w]
          rfl
        refine one_ (i := 10) (N := some 50) #[true, true, true, true, true, true, true, true, true, true, true, false, false, false, false] rfl rfl (by kernel_rfl) (by decide) (fun K hK => ?_)
        refine value_ (w1 := ?_) (v := ?_) (by rfl) rfl ?_ ?_
        rotate_left 2
        · go_simp
          constructor
          · rfl
          · rfl
        clear hHeld
        refine hK.out _ _ ⟨(blk_cell (blk_alloc BK102.out _) 0).trans rfl, (blk_cell (blk_alloc BK102.out _) 2).trans rfl⟩ (fun hHeld => ?_)
        clear hK K
        refine norm_ (a' := ?_) ?_ ?_
        rotate_left
        · show Act.put _ (some 50) _ = _
          simp only [Act.put, List.setIfInBounds_toArray, List.set_cons_zero, List.set_cons_succ, i64_w, i32_w]
          rfl
        refine one_ (i := 11) (N := some 51) #[true, true, true, true, true, true, true, true, true, true, true, true, false, false, false] rfl rfl (by kernel_rfl) (by decide) (fun K hK => ?_)
        refine Kd.R_append_step k36 (w0 := w0) (W := w102) w0.heap.size (by rfl) (.tmp 44) (.tmp 50) 22 36 (.agg #[(.int .i64 0), (.int .i64 0), (.string ⟨#[]⟩)]) 32 rfl Try.underlying22 delta_joiner.info rfl (by decide) (by omega) (.slice A1 (o1).length c1) (o1) (⟨3, gone, ⟨#[]⟩⟩ : S36) [.int .i64 3, .int .i64 gone, .string ⟨#[]⟩] (fun k_ => k_ ≠ g) (fun _ => False) rfl rfl (k36_mkM _ _ _ (⟨3, gone, ⟨#[]⟩⟩ : S36)) (fun _ hk => hk.elim) (fun k_ hk => Kd.freshB BK102.out k_ hk) HR102.out HB102.out HB102.out.size (by have := HL1.out; omega) ?_
        intro v202 w202 ho hb hg hat
        rw [← Ny2.out] at ho
        have BK202 := Aside0.mk (blk_grown (g := g) BK102.out hg (Kd.R_away HR102.out (fun _ hk => hk)))
        have HR202 := Aside0.mk ho
        have HB202 := Aside0.mk hb
        have KP202 := Aside0.mk (Kept.of_grown hg KP102.out VB1.out)
        have VB2 := Aside0.mk (delta_joiner.own_next VB1.out hat KP102.out)
        clear ho hb hg hat
        clear hHeld
        refine hK.out _ _ ⟨(blk_cell BK202.out 0).trans rfl, (blk_cell BK202.out 2).trans rfl⟩ (fun hHeld => ?_)
        clear hK K
        refine norm_ (a' := ?_) ?_ ?_
        rotate_left
        · show Act.put _ (some 51) _ = _
          simp only [Act.put, List.setIfInBounds_toArray, List.set_cons_zero, List.set_cons_succ, i64_w, i32_w]
          rfl
        refine pure_ (i := 12) (N := some 52) (v := ?_) (a' := ?_) #[true, true, true, true, true, true, true, true, true, true, true, true, true, false, false] rfl rfl (by kernel_rfl) (fun _ _ _ h => h) (Or.inl ⟨by rfl, ?_⟩) ?_ ?_
        rotate_left
        · intro w'
          go_simp
          with_reducible rfl
        rotate_left
        · simp only [Act.put, List.setIfInBounds_toArray, List.set_cons_zero, List.set_cons_succ, i64_w, i32_w]
          rfl
        refine pure_ (i := 13) (N := some 53) (v := ?_) (a' := ?_) #[true, true, true, true, true, true, true, true, true, true, true, true, true, true, false] rfl rfl (by kernel_rfl) (fun _ _ _ h => h) (Or.inl ⟨by rfl, ?_⟩) ?_ ?_
        rotate_left
        · intro w'
          go_simp
          with_reducible rfl
        rotate_left
        · simp only [Act.put, List.setIfInBounds_toArray, List.set_cons_zero, List.set_cons_succ, i64_w, i32_w]
          rfl
        refine last_ (i := 14) (N := none) #[true, true, true, true, true, true, true, true, true, true, true, true, true, true, true] rfl rfl (by kernel_rfl) (by decide) (fun K hK => ?_)
        have hfz2 := blk_frozen BK202.out 0
        obtain ⟨A2, c2, hv2⟩ := Kd.R_slice HR202.out
        subst hv2
        refine skip_ (w1 := ?_) (by rfl) rfl ?_ ?_
        rotate_left
        · go_simp
          rfl
        refine hK.out _ _ ?_
        clear hK K
        refine done_ (by kernel_rfl) ?_
        clear hHeld
        have q1_ := blk_put (cs' := #[.slice A2 y2.length c2, .string ins, .int .i64 gone, .int .i64 q1]) BK202.out 0 (.slice A2 y2.length c2) rfl
        have q2_ := Kd.R_far (p := ⟨g, 0, none⟩) HR202.out (fun k hk => hk) (.slice A2 y2.length c2)
        have q3_ := Below.setCell HB202.out GE.out (p := ⟨g, 0, none⟩) (.slice A2 y2.length c2)
        have q4_ := Kept.setCell KP202.out (p := ⟨g, 0, none⟩) (.inl SG.out) (.slice A2 y2.length c2)
        generalize hws : World.setCell w202 ⟨g, 0, none⟩ _ = w2 at q1_ q2_ q3_ q4_ ⊢
        have BK2 := Aside0.mk q1_
        have HR2 := Aside0.mk q2_
        have HB2 := Aside0.mk q3_
        have KP2 := Aside0.mk q4_
        clear q1_ q2_ q3_ q4_ hws
        have k2_0 := (blk_cell BK2.out 0).trans rfl
        have k2_1 := (blk_cell BK2.out 1).trans rfl
        have k2_2 := (blk_cell BK2.out 2).trans rfl
        have k2_3 := (blk_cell BK2.out 3).trans rfl
        have f2_0 := blk_frozen BK2.out 0
        have f2_1 := blk_frozen BK2.out 1
        have f2_2 := blk_frozen BK2.out 2
        have f2_3 := blk_frozen BK2.out 3
        go_wp2
        have z1 := blk_put (cs' := #[.slice A2 y2.length c2, .string ⟨#[]⟩, .int .i64 gone, .int .i64 q1]) BK2.out 1 (.string ⟨#[]⟩) rfl
        have z2 := blk_put (cs' := #[.slice A2 y2.length c2, .string ⟨#[]⟩, .int .i64 0, .int .i64 q1]) z1 2 (.int .i64 0) rfl
        have e1 : (delta_joiner_gap.out out ins gone kept).2 = q1 := by rw [Nq1.out]; unfold delta_joiner_gap.out; rw [if_neg (by rw [e0]; exact Bool.false_ne_true)]
        have e2 : (delta_joiner_gap.out out ins gone kept).1 = y2 := by
          unfold delta_joiner_gap.out; rw [if_neg (by rw [e0]; exact Bool.false_ne_true)]; simp only [b1, if_true, if_false, Bool.false_eq_true, if_pos d]; rw [Ny2.out, No1.out] <;> simp
        rw [e1, e2]
        refine bodyPost_end (results_none rfl _ _ _) rfl ⟨⟨_, rfl⟩, _, ⟨z2, Kd.R_far (Kd.R_far HR2.out (fun k hk => hk) _) (fun k hk => hk) _, GE.out⟩, VB2.out, Kept.setCell (Kept.setCell KP2.out (.inl SG.out) _) (.inl SG.out) _, Below.setCell (Below.setCell HB2.out GE.out _) GE.out _⟩
      · have db := decide_eq_false d
        go_enter Try.func43, Try.ntmps43
        go_wp2_with (first | ((with_reducible refine gate_callee (f := 44) rfl ?_); refine goesL_ (some 15) rfl rfl Try.func44 (by kernel_rfl) rfl #[.pointer (some ⟨g, 0, none⟩)] rfl (by (try simp only [List.map_toArray, List.map_cons, List.map_nil]); first | done | rfl) ?_; (with_reducible refine (delta_joiner_keeps.calls w0 w S_ g _ out ins gone kept HB0.out HJ0.out VB0.out SG.out HLk.out).mono ?_); rintro e w1 ⟨⟨u, rfl⟩, v1, ⟨hb1, hR1, _⟩, hV1, hK1, hB1⟩; refine ⟨_, rfl, ?_⟩; obtain ⟨o1, No_⟩ : ∃ y_ : List S36, y_ = delta_joiner_keeps.out out kept := ⟨_, rfl⟩; rw [← No_] at hR1; have No1 := Aside0.mk No_; clear No_; obtain ⟨q1, Nq_⟩ : ∃ y_ : Int, y_ = (if 0 < kept then 0 else kept) := ⟨_, rfl⟩; rw [← Nq_] at hb1; have Nq1 := Aside0.mk Nq_; clear Nq_; obtain ⟨A1, c1, rfl⟩ := Kd.R_slice hR1; have BK1 := Aside0.mk hb1; have HR1 := Aside0.mk hR1; have HB1 := Aside0.mk hB1; have VB1 := Aside0.mk hV1; have KP1 := Aside0.mk hK1; clear hb1 hR1 hB1 hV1 hK1; have k1_1 := (blk_cell BK1.out 1).trans rfl; have k1_2 := (blk_cell BK1.out 2).trans rfl; have f1_1 := blk_frozen BK1.out 1; have f1_2 := blk_frozen BK1.out 2))
        have HL1 := Aside0.mk (delta_joiner_gap.hl1 HL0.out No1.out)
        go_wp2
        have z1 := blk_put (cs' := #[.slice A1 o1.length c1, .string ⟨#[]⟩, .int .i64 gone, .int .i64 q1]) BK1.out 1 (.string ⟨#[]⟩) rfl
        have z2 := blk_put (cs' := #[.slice A1 o1.length c1, .string ⟨#[]⟩, .int .i64 0, .int .i64 q1]) z1 2 (.int .i64 0) rfl
        have e1 : (delta_joiner_gap.out out ins gone kept).2 = q1 := by rw [Nq1.out]; unfold delta_joiner_gap.out; rw [if_neg (by rw [e0]; exact Bool.false_ne_true)]
        have e2 : (delta_joiner_gap.out out ins gone kept).1 = o1 := by
          unfold delta_joiner_gap.out; rw [if_neg (by rw [e0]; exact Bool.false_ne_true)]; simp only [b1, if_true, if_false, Bool.false_eq_true, if_neg (show ¬ (0 < gone) by omega)]; rw [No1.out] <;> simp
        rw [e1, e2]
        refine bodyPost_end (results_none rfl _ _ _) rfl ⟨⟨_, rfl⟩, _, ⟨z2, Kd.R_far (Kd.R_far HR1.out (fun k hk => hk) _) (fun k hk => hk) _, GE.out⟩, VB1.out, Kept.setCell (Kept.setCell KP1.out (.inl SG.out) _) (.inl SG.out) _, Below.setCell (Below.setCell HB1.out GE.out _) GE.out _⟩
  | false =>
    have b1n : (ins.toList != ([] : List UInt8)) = true := by unfold bne; rw [b1]; rfl
    have e0 : ((ins.toList == ([] : List UInt8)) && (gone == 0)) = false := by rw [b1]; rfl
    by_cases d : 0 < gone
    · have db := decide_eq_true d
      go_enter Try.func43, Try.ntmps43
      go_wp2_with (first | ((with_reducible refine gate_callee (f := 44) rfl ?_); refine goesL_ (some 15) rfl rfl Try.func44 (by kernel_rfl) rfl #[.pointer (some ⟨g, 0, none⟩)] rfl (by (try simp only [List.map_toArray, List.map_cons, List.map_nil]); first | done | rfl) ?_; (with_reducible refine (delta_joiner_keeps.calls w0 w S_ g _ out ins gone kept HB0.out HJ0.out VB0.out SG.out HLk.out).mono ?_); rintro e w1 ⟨⟨u, rfl⟩, v1, ⟨hb1, hR1, _⟩, hV1, hK1, hB1⟩; refine ⟨_, rfl, ?_⟩; obtain ⟨o1, No_⟩ : ∃ y_ : List S36, y_ = delta_joiner_keeps.out out kept := ⟨_, rfl⟩; rw [← No_] at hR1; have No1 := Aside0.mk No_; clear No_; obtain ⟨q1, Nq_⟩ : ∃ y_ : Int, y_ = (if 0 < kept then 0 else kept) := ⟨_, rfl⟩; rw [← Nq_] at hb1; have Nq1 := Aside0.mk Nq_; clear Nq_; obtain ⟨A1, c1, rfl⟩ := Kd.R_slice hR1; have BK1 := Aside0.mk hb1; have HR1 := Aside0.mk hR1; have HB1 := Aside0.mk hB1; have VB1 := Aside0.mk hV1; have KP1 := Aside0.mk hK1; clear hb1 hR1 hB1 hV1 hK1; have k1_1 := (blk_cell BK1.out 1).trans rfl; have k1_2 := (blk_cell BK1.out 2).trans rfl; have f1_1 := blk_frozen BK1.out 1; have f1_2 := blk_frozen BK1.out 2))
      have HL1 := Aside0.mk (delta_joiner_gap.hl1 HL0.out No1.out)
      obtain ⟨y2, Ny_⟩ : ∃ y_ : List S36, y_ = (o1) ++ [(⟨2, 0, ins⟩ : S36)] := ⟨_, rfl⟩
      have Ny2 := Aside0.mk Ny_
      clear Ny_
      refine start_ (n := 15) (S := fun w' => w'.cell? ⟨g, 0, none⟩ = some (.slice A1 (o1).length c1) ∧ w'.cell? ⟨g, 1, none⟩ = some (.string ins)) (ds := [14]) #[false, false, false, false, false, false, false, false, false, false, false, false, false, false, false] (by kernel_rfl) rfl rfl ⟨(blk_cell (blk_drew BK1.out) 0).trans rfl, (blk_cell (blk_drew BK1.out) 1).trans rfl⟩ (fun hHeld => ?_)
      generalize hwd : World.drew _ = w102 at hHeld ⊢
      have BK102 : Aside0 (w102.heap[g]? = some (.cells #[.slice A1 (o1).length c1, .string ins, .int .i64 gone, .int .i64 q1] 57 (0, 0))) := ⟨by rw [← hwd]; exact blk_drew BK1.out⟩
      have HR102 : Aside0 (Kd.R k36 36 w102 w0.heap.size (fun k_ => k_ ≠ g) (.slice A1 (o1).length c1) (o1)) := ⟨by rw [← hwd]; exact Kd.R_drew HR1.out⟩
      have HB102 : Aside0 (Below w0.heap.size w0 w102) := ⟨by rw [← hwd]; exact below_drew1 HB1.out⟩
      have KP102 : Aside0 (Kept w w102 S_) := ⟨by rw [← hwd]; exact Kept.drew KP1.out⟩
      clear hwd
      refine pure_ (i := 0) (N := some 21) (v := ?_) (a' := ?_) #[true, false, false, false, false, false, false, false, false, false, false, false, false, false, false] rfl rfl (by kernel_rfl) (fun _ _ _ h => h) (Or.inl ⟨by rfl, ?_⟩) ?_ ?_
      rotate_left
      · intro w'
        go_simp
        with_reducible rfl
      rotate_left
      · simp only [Act.put, List.setIfInBounds_toArray, List.set_cons_zero, List.set_cons_succ, i64_w, i32_w]
        rfl
      refine pure_ (i := 1) (N := some 22) (v := ?_) (a' := ?_) #[true, true, false, false, false, false, false, false, false, false, false, false, false, false, false] rfl rfl (by kernel_rfl) (fun _ _ _ h => h) (Or.inl ⟨by rfl, ?_⟩) ?_ ?_
      rotate_left
      · intro w'
        go_simp
        with_reducible rfl
      rotate_left
      · simp only [Act.put, List.setIfInBounds_toArray, List.set_cons_zero, List.set_cons_succ, i64_w, i32_w]
        rfl
      refine pure_ (i := 2) (N := some 23) (v := ?_) (a' := ?_) #[true, true, true, false, false, false, false, false, false, false, false, false, false, false, false] rfl rfl (by kernel_rfl) (fun _ _ _ h => h) (Or.inl ⟨by rfl, ?_⟩) ?_ ?_
      rotate_left
      · intro w'
        go_simp
        with_reducible rfl
      rotate_left
      · simp only [Act.put, List.setIfInBounds_toArray, List.set_cons_zero, List.set_cons_succ, i64_w, i32_w]
        rfl
      refine pure_ (i := 3) (N := some 24) (v := ?_) (a' := ?_) #[true, true, true, true, false, false, false, false, false, false, false, false, false, false, false] rfl rfl (by kernel_rfl) (fun _ _ _ h => h) (Or.inl ⟨by rfl, ?_⟩) ?_ ?_
      rotate_left
      · intro w'
        go_simp
        with_reducible rfl
      rotate_left
      · simp only [Act.put, List.setIfInBounds_toArray, List.set_cons_zero, List.set_cons_succ, i64_w, i32_w]
        rfl
      refine pure_ (i := 5) (N := some 26) (v := ?_) (a' := ?_) #[true, true, true, true, false, true, false, false, false, false, false, false, false, false, false] rfl rfl (by kernel_rfl) (fun _ _ _ h => h) (Or.inl ⟨by rfl, ?_⟩) ?_ ?_
      rotate_left
      · intro w'
        go_simp
        with_reducible rfl
      rotate_left
      · simp only [Act.put, List.setIfInBounds_toArray, List.set_cons_zero, List.set_cons_succ, i64_w, i32_w]
        rfl
      refine pure_ (i := 6) (N := some 27) (v := ?_) (a' := ?_) #[true, true, true, true, false, true, true, false, false, false, false, false, false, false, false] rfl rfl (by kernel_rfl) (fun _ _ _ h => h) (Or.inl ⟨by rfl, ?_⟩) ?_ ?_
      rotate_left
      · intro w'
        go_simp
        with_reducible rfl
      rotate_left
      · simp only [Act.put, List.setIfInBounds_toArray, List.set_cons_zero, List.set_cons_succ, i64_w, i32_w]
        rfl
      refine pure_ (i := 7) (N := some 28) (v := ?_) (a' := ?_) #[true, true, true, true, false, true, true, true, false, false, false, false, false, false, false] rfl rfl (by kernel_rfl) (fun _ _ _ h => h) (Or.inl ⟨by rfl, ?_⟩) ?_ ?_
      rotate_left
      · intro w'
        go_simp
        with_reducible rfl
      rotate_left
      · simp only [Act.put, List.setIfInBounds_toArray, List.set_cons_zero, List.set_cons_succ, i64_w, i32_w]
        rfl
      refine take_ (i := 4) (N := some 25) (v := ?_) (a' := ?_) #[true, true, true, true, true, true, true, true, false, false, false, false, false, false, false] rfl rfl (by kernel_rfl) (fun _ _ _ h => h) (Or.inl ⟨by rfl, ?_⟩) hHeld ?_ ?_
      rotate_left
      · rintro w' ⟨s0, s1⟩
        go_simp
        with_reducible rfl
      rotate_left
      · simp only [Act.put, List.setIfInBounds_toArray, List.set_cons_zero, List.set_cons_succ, i64_w, i32_w]
        rfl
      refine take_ (i := 8) (N := some 29) (v := ?_) (a' := ?_) #[true, true, true, true, true, true, true, true, true, false, false, false, false, false, false] rfl rfl (by kernel_rfl) (fun _ _ _ h => h) (Or.inl ⟨by rfl, ?_⟩) hHeld ?_ ?_
      rotate_left
      · rintro w' ⟨s0, s1⟩
        go_simp
        with_reducible rfl
      rotate_left
      · simp only [Act.put, List.setIfInBounds_toArray, List.set_cons_zero, List.set_cons_succ, i64_w, i32_w]
        rfl
      refine pure_ (i := 9) (N := some 30) (v := ?_) (a' := ?_) #[true, true, true, true, true, true, true, true, true, true, false, false, false, false, false] rfl rfl (by kernel_rfl) (fun _ _ _ h => h) (Or.inl ⟨by rfl, ?_⟩) ?_ ?_
      rotate_left
      · intro w'
        go_simp
        with_reducible rfl
      rotate_left
      · simp only [Act.put, List.setIfInBounds_toArray, List.set_cons_zero, List.set_cons_succ, i64_w, i32_w]
        rfl
      refine one_ (i := 10) (N := some 31) #[true, true, true, true, true, true, true, true, true, true, true, false, false, false, false] rfl rfl (by kernel_rfl) (by decide) (fun K hK => ?_)
      refine value_ (w1 := ?_) (v := ?_) (by rfl) rfl ?_ ?_
      rotate_left 2
      · go_simp
        constructor
        · rfl
        · rfl
      clear hHeld
      refine hK.out _ _ ⟨(blk_cell (blk_alloc BK102.out _) 0).trans rfl, (blk_cell (blk_alloc BK102.out _) 1).trans rfl⟩ (fun hHeld => ?_)
      clear hK K
      refine norm_ (a' := ?_) ?_ ?_
      rotate_left
      · show Act.put _ (some 31) _ = _
        simp only [Act.put, List.setIfInBounds_toArray, List.set_cons_zero, List.set_cons_succ, i64_w, i32_w]
        rfl
      refine one_ (i := 11) (N := some 32) #[true, true, true, true, true, true, true, true, true, true, true, true, false, false, false] rfl rfl (by kernel_rfl) (by decide) (fun K hK => ?_)
      refine Kd.R_append_step k36 (w0 := w0) (W := w102) w0.heap.size (by rfl) (.tmp 25) (.tmp 31) 22 36 (.agg #[(.int .i64 0), (.int .i64 0), (.string ⟨#[]⟩)]) 32 rfl Try.underlying22 delta_joiner.info rfl (by decide) (by omega) (.slice A1 (o1).length c1) (o1) (⟨2, 0, ins⟩ : S36) [.int .i64 2, .int .i64 0, .string ins] (fun k_ => k_ ≠ g) (fun _ => False) rfl rfl (k36_mkM _ _ _ (⟨2, 0, ins⟩ : S36)) (fun _ hk => hk.elim) (fun k_ hk => Kd.freshB BK102.out k_ hk) HR102.out HB102.out HB102.out.size (by have := HL1.out; omega) ?_
      intro v202 w202 ho hb hg hat
      rw [← Ny2.out] at ho
      have BK202 := Aside0.mk (blk_grown (g := g) BK102.out hg (Kd.R_away HR102.out (fun _ hk => hk)))
      have HR202 := Aside0.mk ho
      have HB202 := Aside0.mk hb
      have KP202 := Aside0.mk (Kept.of_grown hg KP102.out VB1.out)
      have VB2 := Aside0.mk (delta_joiner.own_next VB1.out hat KP102.out)
      clear ho hb hg hat
      clear hHeld
      refine hK.out _ _ ⟨(blk_cell BK202.out 0).trans rfl, (blk_cell BK202.out 1).trans rfl⟩ (fun hHeld => ?_)
      clear hK K
      refine norm_ (a' := ?_) ?_ ?_
      rotate_left
      · show Act.put _ (some 32) _ = _
        simp only [Act.put, List.setIfInBounds_toArray, List.set_cons_zero, List.set_cons_succ, i64_w, i32_w]
        rfl
      refine pure_ (i := 12) (N := some 33) (v := ?_) (a' := ?_) #[true, true, true, true, true, true, true, true, true, true, true, true, true, false, false] rfl rfl (by kernel_rfl) (fun _ _ _ h => h) (Or.inl ⟨by rfl, ?_⟩) ?_ ?_
      rotate_left
      · intro w'
        go_simp
        with_reducible rfl
      rotate_left
      · simp only [Act.put, List.setIfInBounds_toArray, List.set_cons_zero, List.set_cons_succ, i64_w, i32_w]
        rfl
      refine pure_ (i := 13) (N := some 34) (v := ?_) (a' := ?_) #[true, true, true, true, true, true, true, true, true, true, true, true, true, true, false] rfl rfl (by kernel_rfl) (fun _ _ _ h => h) (Or.inl ⟨by rfl, ?_⟩) ?_ ?_
      rotate_left
      · intro w'
        go_simp
        with_reducible rfl
      rotate_left
      · simp only [Act.put, List.setIfInBounds_toArray, List.set_cons_zero, List.set_cons_succ, i64_w, i32_w]
        rfl
      refine last_ (i := 14) (N := none) #[true, true, true, true, true, true, true, true, true, true, true, true, true, true, true] rfl rfl (by kernel_rfl) (by decide) (fun K hK => ?_)
      have hfz2 := blk_frozen BK202.out 0
      obtain ⟨A2, c2, hv2⟩ := Kd.R_slice HR202.out
      subst hv2
      refine skip_ (w1 := ?_) (by rfl) rfl ?_ ?_
      rotate_left
      · go_simp
        rfl
      refine hK.out _ _ ?_
      clear hK K
      refine done_ (by kernel_rfl) ?_
      clear hHeld
      have q1_ := blk_put (cs' := #[.slice A2 y2.length c2, .string ins, .int .i64 gone, .int .i64 q1]) BK202.out 0 (.slice A2 y2.length c2) rfl
      have q2_ := Kd.R_far (p := ⟨g, 0, none⟩) HR202.out (fun k hk => hk) (.slice A2 y2.length c2)
      have q3_ := Below.setCell HB202.out GE.out (p := ⟨g, 0, none⟩) (.slice A2 y2.length c2)
      have q4_ := Kept.setCell KP202.out (p := ⟨g, 0, none⟩) (.inl SG.out) (.slice A2 y2.length c2)
      generalize hws : World.setCell w202 ⟨g, 0, none⟩ _ = w2 at q1_ q2_ q3_ q4_ ⊢
      have BK2 := Aside0.mk q1_
      have HR2 := Aside0.mk q2_
      have HB2 := Aside0.mk q3_
      have KP2 := Aside0.mk q4_
      clear q1_ q2_ q3_ q4_ hws
      have k2_0 := (blk_cell BK2.out 0).trans rfl
      have k2_1 := (blk_cell BK2.out 1).trans rfl
      have k2_2 := (blk_cell BK2.out 2).trans rfl
      have k2_3 := (blk_cell BK2.out 3).trans rfl
      have f2_0 := blk_frozen BK2.out 0
      have f2_1 := blk_frozen BK2.out 1
      have f2_2 := blk_frozen BK2.out 2
      have f2_3 := blk_frozen BK2.out 3
      have HL2 := Aside0.mk (delta_joiner_gap.hl2 HL0.out No1.out Ny2.out)
      go_wp2
      obtain ⟨y3, Ny_⟩ : ∃ y_ : List S36, y_ = (y2) ++ [(⟨3, gone, ⟨#[]⟩⟩ : S36)] := ⟨_, rfl⟩
      have Ny3 := Aside0.mk Ny_
      clear Ny_
      refine start_ (n := 15) (S := fun w' => w'.cell? ⟨g, 0, none⟩ = some (.slice A2 (y2).length c2) ∧ w'.cell? ⟨g, 2, none⟩ = some (.int .i64 gone)) (ds := [14]) #[false, false, false, false, false, false, false, false, false, false, false, false, false, false, false] (by kernel_rfl) rfl rfl ⟨(blk_cell (blk_drew BK2.out) 0).trans rfl, (blk_cell (blk_drew BK2.out) 2).trans rfl⟩ (fun hHeld => ?_)
      generalize hwd : World.drew _ = w103 at hHeld ⊢
      have BK103 : Aside0 (w103.heap[g]? = some (.cells #[.slice A2 (y2).length c2, .string ins, .int .i64 gone, .int .i64 q1] 57 (0, 0))) := ⟨by rw [← hwd]; exact blk_drew BK2.out⟩
      have HR103 : Aside0 (Kd.R k36 36 w103 w0.heap.size (fun k_ => k_ ≠ g) (.slice A2 (y2).length c2) (y2)) := ⟨by rw [← hwd]; exact Kd.R_drew HR2.out⟩
      have HB103 : Aside0 (Below w0.heap.size w0 w103) := ⟨by rw [← hwd]; exact below_drew1 HB2.out⟩
      have KP103 : Aside0 (Kept w w103 S_) := ⟨by rw [← hwd]; exact Kept.drew KP2.out⟩
      clear hwd
      refine pure_ (i := 0) (N := some 40) (v := ?_) (a' := ?_) #[true, false, false, false, false, false, false, false, false, false, false, false, false, false, false] rfl rfl (by kernel_rfl) (fun _ _ _ h => h) (Or.inl ⟨by rfl, ?_⟩) ?_ ?_
      rotate_left
      · intro w'
        go_simp
        with_reducible rfl
      rotate_left
      · simp only [Act.put, List.setIfInBounds_toArray, List.set_cons_zero, List.set_cons_succ, i64_w, i32_w]
        rfl
      refine pure_ (i := 1) (N := some 41) (v := ?_) (a' := ?_) #[true, true, false, false, false, false, false, false, false, false, false, false, false, false, false] rfl rfl (by kernel_rfl) (fun _ _ _ h => h) (Or.inl ⟨by rfl, ?_⟩) ?_ ?_
      rotate_left
      · intro w'
        go_simp
        with_reducible rfl
      rotate_left
      · simp only [Act.put, List.setIfInBounds_toArray, List.set_cons_zero, List.set_cons_succ, i64_w, i32_w]
        rfl
      refine pure_ (i := 2) (N := some 42) (v := ?_) (a' := ?_) #[true, true, true, false, false, false, false, false, false, false, false, false, false, false, false] rfl rfl (by kernel_rfl) (fun _ _ _ h => h) (Or.inl ⟨by rfl, ?_⟩) ?_ ?_
      rotate_left
      · intro w'
        go_simp
        with_reducible rfl
      rotate_left
      · simp only [Act.put, List.setIfInBounds_toArray, List.set_cons_zero, List.set_cons_succ, i64_w, i32_w]
        rfl
      refine pure_ (i := 3) (N := some 43) (v := ?_) (a' := ?_) #[true, true, true, true, false, false, false, false, false, false, false, false, false, false, false] rfl rfl (by kernel_rfl) (fun _ _ _ h => h) (Or.inl ⟨by rfl, ?_⟩) ?_ ?_
      rotate_left
      · intro w'
        go_simp
        with_reducible rfl
      rotate_left
      · simp only [Act.put, List.setIfInBounds_toArray, List.set_cons_zero, List.set_cons_succ, i64_w, i32_w]
        rfl
      refine pure_ (i := 5) (N := some 45) (v := ?_) (a' := ?_) #[true, true, true, true, false, true, false, false, false, false, false, false, false, false, false] rfl rfl (by kernel_rfl) (fun _ _ _ h => h) (Or.inl ⟨by rfl, ?_⟩) ?_ ?_
      rotate_left
      · intro w'
        go_simp
        with_reducible rfl
      rotate_left
      · simp only [Act.put, List.setIfInBounds_toArray, List.set_cons_zero, List.set_cons_succ, i64_w, i32_w]
        rfl
      refine pure_ (i := 6) (N := some 46) (v := ?_) (a' := ?_) #[true, true, true, true, false, true, true, false, false, false, false, false, false, false, false] rfl rfl (by kernel_rfl) (fun _ _ _ h => h) (Or.inl ⟨by rfl, ?_⟩) ?_ ?_
      rotate_left
      · intro w'
        go_simp
        with_reducible rfl
      rotate_left
      · simp only [Act.put, List.setIfInBounds_toArray, List.set_cons_zero, List.set_cons_succ, i64_w, i32_w]
        rfl
      refine pure_ (i := 7) (N := some 47) (v := ?_) (a' := ?_) #[true, true, true, true, false, true, true, true, false, false, false, false, false, false, false] rfl rfl (by kernel_rfl) (fun _ _ _ h => h) (Or.inl ⟨by rfl, ?_⟩) ?_ ?_
      rotate_left
      · intro w'
        go_simp
        with_reducible rfl
      rotate_left
      · simp only [Act.put, List.setIfInBounds_toArray, List.set_cons_zero, List.set_cons_succ, i64_w, i32_w]
        rfl
      refine take_ (i := 4) (N := some 44) (v := ?_) (a' := ?_) #[true, true, true, true, true, true, true, true, false, false, false, false, false, false, false] rfl rfl (by kernel_rfl) (fun _ _ _ h => h) (Or.inl ⟨by rfl, ?_⟩) hHeld ?_ ?_
      rotate_left
      · rintro w' ⟨s0, s1⟩
        go_simp
        with_reducible rfl
      rotate_left
      · simp only [Act.put, List.setIfInBounds_toArray, List.set_cons_zero, List.set_cons_succ, i64_w, i32_w]
        rfl
      refine take_ (i := 8) (N := some 48) (v := ?_) (a' := ?_) #[true, true, true, true, true, true, true, true, true, false, false, false, false, false, false] rfl rfl (by kernel_rfl) (fun _ _ _ h => h) (Or.inl ⟨by rfl, ?_⟩) hHeld ?_ ?_
      rotate_left
      · rintro w' ⟨s0, s1⟩
        go_simp
        with_reducible rfl
      rotate_left
      · simp only [Act.put, List.setIfInBounds_toArray, List.set_cons_zero, List.set_cons_succ, i64_w, i32_w]
        rfl
      refine pure_ (i := 9) (N := some 49) (v := ?_) (a' := ?_) #[true, true, true, true, true, true, true, true, true, true, false, false, false, false, false] rfl rfl (by kernel_rfl) (fun _ _ _ h => h) (Or.inl ⟨by rfl, ?_⟩) ?_ ?_
      rotate_left
      · intro w'
        go_simp
        with_reducible rfl
      rotate_left
      · simp only [Act.put, List.setIfInBounds_toArray, List.set_cons_zero, List.set_cons_succ, i64_w, i32_w]
        rfl
      refine one_ (i := 10) (N := some 50) #[true, true, true, true, true, true, true, true, true, true, true, false, false, false, false] rfl rfl (by kernel_rfl) (by decide) (fun K hK => ?_)
      refine value_ (w1 := ?_) (v := ?_) (by rfl) rfl ?_ ?_
      rotate_left 2
      · go_simp
        constructor
        · rfl
        · rfl
      clear hHeld
      refine hK.out _ _ ⟨(blk_cell (blk_alloc BK103.out _) 0).trans rfl, (blk_cell (blk_alloc BK103.out _) 2).trans rfl⟩ (fun hHeld => ?_)
      clear hK K
      refine norm_ (a' := ?_) ?_ ?_
      rotate_left
      · show Act.put _ (some 50) _ = _
        simp only [Act.put, List.setIfInBounds_toArray, List.set_cons_zero, List.set_cons_succ, i64_w, i32_w]
        rfl
      refine one_ (i := 11) (N := some 51) #[true, true, true, true, true, true, true, true, true, true, true, true, false, false, false] rfl rfl (by kernel_rfl) (by decide) (fun K hK => ?_)
      refine Kd.R_append_step k36 (w0 := w0) (W := w103) w0.heap.size (by rfl) (.tmp 44) (.tmp 50) 22 36 (.agg #[(.int .i64 0), (.int .i64 0), (.string ⟨#[]⟩)]) 32 rfl Try.underlying22 delta_joiner.info rfl (by decide) (by omega) (.slice A2 (y2).length c2) (y2) (⟨3, gone, ⟨#[]⟩⟩ : S36) [.int .i64 3, .int .i64 gone, .string ⟨#[]⟩] (fun k_ => k_ ≠ g) (fun _ => False) rfl rfl (k36_mkM _ _ _ (⟨3, gone, ⟨#[]⟩⟩ : S36)) (fun _ hk => hk.elim) (fun k_ hk => Kd.freshB BK103.out k_ hk) HR103.out HB103.out HB103.out.size (by have := HL2.out; omega) ?_
      intro v203 w203 ho hb hg hat
      rw [← Ny3.out] at ho
      have BK203 := Aside0.mk (blk_grown (g := g) BK103.out hg (Kd.R_away HR103.out (fun _ hk => hk)))
      have HR203 := Aside0.mk ho
      have HB203 := Aside0.mk hb
      have KP203 := Aside0.mk (Kept.of_grown hg KP103.out VB2.out)
      have VB3 := Aside0.mk (delta_joiner.own_next VB2.out hat KP103.out)
      clear ho hb hg hat
      clear hHeld
      refine hK.out _ _ ⟨(blk_cell BK203.out 0).trans rfl, (blk_cell BK203.out 2).trans rfl⟩ (fun hHeld => ?_)
      clear hK K
      refine norm_ (a' := ?_) ?_ ?_
      rotate_left
      · show Act.put _ (some 51) _ = _
        simp only [Act.put, List.setIfInBounds_toArray, List.set_cons_zero, List.set_cons_succ, i64_w, i32_w]
        rfl
      refine pure_ (i := 12) (N := some 52) (v := ?_) (a' := ?_) #[true, true, true, true, true, true, true, true, true, true, true, true, true, false, false] rfl rfl (by kernel_rfl) (fun _ _ _ h => h) (Or.inl ⟨by rfl, ?_⟩) ?_ ?_
      rotate_left
      · intro w'
        go_simp
        with_reducible rfl
      rotate_left
      · simp only [Act.put, List.setIfInBounds_toArray, List.set_cons_zero, List.set_cons_succ, i64_w, i32_w]
        rfl
      refine pure_ (i := 13) (N := some 53) (v := ?_) (a' := ?_) #[true, true, true, true, true, true, true, true, true, true, true, true, true, true, false] rfl rfl (by kernel_rfl) (fun _ _ _ h => h) (Or.inl ⟨by rfl, ?_⟩) ?_ ?_
      rotate_left
      · intro w'
        go_simp
        with_reducible rfl
      rotate_left
      · simp only [Act.put, List.setIfInBounds_toArray, List.set_cons_zero, List.set_cons_succ, i64_w, i32_w]
        rfl
      refine last_ (i := 14) (N := none) #[true, true, true, true, true, true, true, true, true, true, true, true, true, true, true] rfl rfl (by kernel_rfl) (by decide) (fun K hK => ?_)
      have hfz3 := blk_frozen BK203.out 0
      obtain ⟨A3, c3, hv3⟩ := Kd.R_slice HR203.out
      subst hv3
      refine skip_ (w1 := ?_) (by rfl) rfl ?_ ?_
      rotate_left
      · go_simp
        rfl
      refine hK.out _ _ ?_
      clear hK K
      refine done_ (by kernel_rfl) ?_
      clear hHeld
      have q1_ := blk_put (cs' := #[.slice A3 y3.length c3, .string ins, .int .i64 gone, .int .i64 q1]) BK203.out 0 (.slice A3 y3.length c3) rfl
      have q2_ := Kd.R_far (p := ⟨g, 0, none⟩) HR203.out (fun k hk => hk) (.slice A3 y3.length c3)
      have q3_ := Below.setCell HB203.out GE.out (p := ⟨g, 0, none⟩) (.slice A3 y3.length c3)
      have q4_ := Kept.setCell KP203.out (p := ⟨g, 0, none⟩) (.inl SG.out) (.slice A3 y3.length c3)
      generalize hws : World.setCell w203 ⟨g, 0, none⟩ _ = w3 at q1_ q2_ q3_ q4_ ⊢
      have BK3 := Aside0.mk q1_
      have HR3 := Aside0.mk q2_
      have HB3 := Aside0.mk q3_
      have KP3 := Aside0.mk q4_
      clear q1_ q2_ q3_ q4_ hws
      have k3_0 := (blk_cell BK3.out 0).trans rfl
      have k3_1 := (blk_cell BK3.out 1).trans rfl
      have k3_2 := (blk_cell BK3.out 2).trans rfl
      have k3_3 := (blk_cell BK3.out 3).trans rfl
      have f3_0 := blk_frozen BK3.out 0
      have f3_1 := blk_frozen BK3.out 1
      have f3_2 := blk_frozen BK3.out 2
      have f3_3 := blk_frozen BK3.out 3
      go_wp2
      have z1 := blk_put (cs' := #[.slice A3 y3.length c3, .string ⟨#[]⟩, .int .i64 gone, .int .i64 q1]) BK3.out 1 (.string ⟨#[]⟩) rfl
      have z2 := blk_put (cs' := #[.slice A3 y3.length c3, .string ⟨#[]⟩, .int .i64 0, .int .i64 q1]) z1 2 (.int .i64 0) rfl
      have e1 : (delta_joiner_gap.out out ins gone kept).2 = q1 := by rw [Nq1.out]; unfold delta_joiner_gap.out; rw [if_neg (by rw [e0]; exact Bool.false_ne_true)]
      have e2 : (delta_joiner_gap.out out ins gone kept).1 = y3 := by
        unfold delta_joiner_gap.out; rw [if_neg (by rw [e0]; exact Bool.false_ne_true)]; simp only [b1, if_true, if_false, Bool.false_eq_true, if_pos d]; rw [Ny3.out, Ny2.out, No1.out] <;> simp
      rw [e1, e2]
      refine bodyPost_end (results_none rfl _ _ _) rfl ⟨⟨_, rfl⟩, _, ⟨z2, Kd.R_far (Kd.R_far HR3.out (fun k hk => hk) _) (fun k hk => hk) _, GE.out⟩, VB3.out, Kept.setCell (Kept.setCell KP3.out (.inl SG.out) _) (.inl SG.out) _, Below.setCell (Below.setCell HB3.out GE.out _) GE.out _⟩
    · have db := decide_eq_false d
      go_enter Try.func43, Try.ntmps43
      go_wp2_with (first | ((with_reducible refine gate_callee (f := 44) rfl ?_); refine goesL_ (some 15) rfl rfl Try.func44 (by kernel_rfl) rfl #[.pointer (some ⟨g, 0, none⟩)] rfl (by (try simp only [List.map_toArray, List.map_cons, List.map_nil]); first | done | rfl) ?_; (with_reducible refine (delta_joiner_keeps.calls w0 w S_ g _ out ins gone kept HB0.out HJ0.out VB0.out SG.out HLk.out).mono ?_); rintro e w1 ⟨⟨u, rfl⟩, v1, ⟨hb1, hR1, _⟩, hV1, hK1, hB1⟩; refine ⟨_, rfl, ?_⟩; obtain ⟨o1, No_⟩ : ∃ y_ : List S36, y_ = delta_joiner_keeps.out out kept := ⟨_, rfl⟩; rw [← No_] at hR1; have No1 := Aside0.mk No_; clear No_; obtain ⟨q1, Nq_⟩ : ∃ y_ : Int, y_ = (if 0 < kept then 0 else kept) := ⟨_, rfl⟩; rw [← Nq_] at hb1; have Nq1 := Aside0.mk Nq_; clear Nq_; obtain ⟨A1, c1, rfl⟩ := Kd.R_slice hR1; have BK1 := Aside0.mk hb1; have HR1 := Aside0.mk hR1; have HB1 := Aside0.mk hB1; have VB1 := Aside0.mk hV1; have KP1 := Aside0.mk hK1; clear hb1 hR1 hB1 hV1 hK1; have k1_1 := (blk_cell BK1.out 1).trans rfl; have k1_2 := (blk_cell BK1.out 2).trans rfl; have f1_1 := blk_frozen BK1.out 1; have f1_2 := blk_frozen BK1.out 2))
      have HL1 := Aside0.mk (delta_joiner_gap.hl1 HL0.out No1.out)
      obtain ⟨y2, Ny_⟩ : ∃ y_ : List S36, y_ = (o1) ++ [(⟨2, 0, ins⟩ : S36)] := ⟨_, rfl⟩
      have Ny2 := Aside0.mk Ny_
      clear Ny_
      refine start_ (n := 15) (S := fun w' => w'.cell? ⟨g, 0, none⟩ = some (.slice A1 (o1).length c1) ∧ w'.cell? ⟨g, 1, none⟩ = some (.string ins)) (ds := [14]) #[false, false, false, false, false, false, false, false, false, false, false, false, false, false, false] (by kernel_rfl) rfl rfl ⟨(blk_cell (blk_drew BK1.out) 0).trans rfl, (blk_cell (blk_drew BK1.out) 1).trans rfl⟩ (fun hHeld => ?_)
      generalize hwd : World.drew _ = w102 at hHeld ⊢
      have BK102 : Aside0 (w102.heap[g]? = some (.cells #[.slice A1 (o1).length c1, .string ins, .int .i64 gone, .int .i64 q1] 57 (0, 0))) := ⟨by rw [← hwd]; exact blk_drew BK1.out⟩
      have HR102 : Aside0 (Kd.R k36 36 w102 w0.heap.size (fun k_ => k_ ≠ g) (.slice A1 (o1).length c1) (o1)) := ⟨by rw [← hwd]; exact Kd.R_drew HR1.out⟩
      have HB102 : Aside0 (Below w0.heap.size w0 w102) := ⟨by rw [← hwd]; exact below_drew1 HB1.out⟩
      have KP102 : Aside0 (Kept w w102 S_) := ⟨by rw [← hwd]; exact Kept.drew KP1.out⟩
      clear hwd
      refine pure_ (i := 0) (N := some 21) (v := ?_) (a' := ?_) #[true, false, false, false, false, false, false, false, false, false, false, false, false, false, false] rfl rfl (by kernel_rfl) (fun _ _ _ h => h) (Or.inl ⟨by rfl, ?_⟩) ?_ ?_
      rotate_left
      · intro w'
        go_simp
        with_reducible rfl
      rotate_left
      · simp only [Act.put, List.setIfInBounds_toArray, List.set_cons_zero, List.set_cons_succ, i64_w, i32_w]
        rfl
      refine pure_ (i := 1) (N := some 22) (v := ?_) (a' := ?_) #[true, true, false, false, false, false, false, false, false, false, false, false, false, false, false] rfl rfl (by kernel_rfl) (fun _ _ _ h => h) (Or.inl ⟨by rfl, ?_⟩) ?_ ?_
      rotate_left
      · intro w'
        go_simp
        with_reducible rfl
      rotate_left
      · simp only [Act.put, List.setIfInBounds_toArray, List.set_cons_zero, List.set_cons_succ, i64_w, i32_w]
        rfl
      refine pure_ (i := 2) (N := some 23) (v := ?_) (a' := ?_) #[true, true, true, false, false, false, false, false, false, false, false, false, false, false, false] rfl rfl (by kernel_rfl) (fun _ _ _ h => h) (Or.inl ⟨by rfl, ?_⟩) ?_ ?_
      rotate_left
      · intro w'
        go_simp
        with_reducible rfl
      rotate_left
      · simp only [Act.put, List.setIfInBounds_toArray, List.set_cons_zero, List.set_cons_succ, i64_w, i32_w]
        rfl
      refine pure_ (i := 3) (N := some 24) (v := ?_) (a' := ?_) #[true, true, true, true, false, false, false, false, false, false, false, false, false, false, false] rfl rfl (by kernel_rfl) (fun _ _ _ h => h) (Or.inl ⟨by rfl, ?_⟩) ?_ ?_
      rotate_left
      · intro w'
        go_simp
        with_reducible rfl
      rotate_left
      · simp only [Act.put, List.setIfInBounds_toArray, List.set_cons_zero, List.set_cons_succ, i64_w, i32_w]
        rfl
      refine pure_ (i := 5) (N := some 26) (v := ?_) (a' := ?_) #[true, true, true, true, false, true, false, false, false, false, false, false, false, false, false] rfl rfl (by kernel_rfl) (fun _ _ _ h => h) (Or.inl ⟨by rfl, ?_⟩) ?_ ?_
      rotate_left
      · intro w'
        go_simp
        with_reducible rfl
      rotate_left
      · simp only [Act.put, List.setIfInBounds_toArray, List.set_cons_zero, List.set_cons_succ, i64_w, i32_w]
        rfl
      refine pure_ (i := 6) (N := some 27) (v := ?_) (a' := ?_) #[true, true, true, true, false, true, true, false, false, false, false, false, false, false, false] rfl rfl (by kernel_rfl) (fun _ _ _ h => h) (Or.inl ⟨by rfl, ?_⟩) ?_ ?_
      rotate_left
      · intro w'
        go_simp
        with_reducible rfl
      rotate_left
      · simp only [Act.put, List.setIfInBounds_toArray, List.set_cons_zero, List.set_cons_succ, i64_w, i32_w]
        rfl
      refine pure_ (i := 7) (N := some 28) (v := ?_) (a' := ?_) #[true, true, true, true, false, true, true, true, false, false, false, false, false, false, false] rfl rfl (by kernel_rfl) (fun _ _ _ h => h) (Or.inl ⟨by rfl, ?_⟩) ?_ ?_
      rotate_left
      · intro w'
        go_simp
        with_reducible rfl
      rotate_left
      · simp only [Act.put, List.setIfInBounds_toArray, List.set_cons_zero, List.set_cons_succ, i64_w, i32_w]
        rfl
      refine take_ (i := 4) (N := some 25) (v := ?_) (a' := ?_) #[true, true, true, true, true, true, true, true, false, false, false, false, false, false, false] rfl rfl (by kernel_rfl) (fun _ _ _ h => h) (Or.inl ⟨by rfl, ?_⟩) hHeld ?_ ?_
      rotate_left
      · rintro w' ⟨s0, s1⟩
        go_simp
        with_reducible rfl
      rotate_left
      · simp only [Act.put, List.setIfInBounds_toArray, List.set_cons_zero, List.set_cons_succ, i64_w, i32_w]
        rfl
      refine take_ (i := 8) (N := some 29) (v := ?_) (a' := ?_) #[true, true, true, true, true, true, true, true, true, false, false, false, false, false, false] rfl rfl (by kernel_rfl) (fun _ _ _ h => h) (Or.inl ⟨by rfl, ?_⟩) hHeld ?_ ?_
      rotate_left
      · rintro w' ⟨s0, s1⟩
        go_simp
        with_reducible rfl
      rotate_left
      · simp only [Act.put, List.setIfInBounds_toArray, List.set_cons_zero, List.set_cons_succ, i64_w, i32_w]
        rfl
      refine pure_ (i := 9) (N := some 30) (v := ?_) (a' := ?_) #[true, true, true, true, true, true, true, true, true, true, false, false, false, false, false] rfl rfl (by kernel_rfl) (fun _ _ _ h => h) (Or.inl ⟨by rfl, ?_⟩) ?_ ?_
      rotate_left
      · intro w'
        go_simp
        with_reducible rfl
      rotate_left
      · simp only [Act.put, List.setIfInBounds_toArray, List.set_cons_zero, List.set_cons_succ, i64_w, i32_w]
        rfl
      refine one_ (i := 10) (N := some 31) #[true, true, true, true, true, true, true, true, true, true, true, false, false, false, false] rfl rfl (by kernel_rfl) (by decide) (fun K hK => ?_)
      refine value_ (w1 := ?_) (v := ?_) (by rfl) rfl ?_ ?_
      rotate_left 2
      · go_simp
        constructor
        · rfl
        · rfl
      clear hHeld
      refine hK.out _ _ ⟨(blk_cell (blk_alloc BK102.out _) 0).trans rfl, (blk_cell (blk_alloc BK102.out _) 1).trans rfl⟩ (fun hHeld => ?_)
      clear hK K
      refine norm_ (a' := ?_) ?_ ?_
      rotate_left
      · show Act.put _ (some 31) _ = _
        simp only [Act.put, List.setIfInBounds_toArray, List.set_cons_zero, List.set_cons_succ, i64_w, i32_w]
        rfl
      refine one_ (i := 11) (N := some 32) #[true, true, true, true, true, true, true, true, true, true, true, true, false, false, false] rfl rfl (by kernel_rfl) (by decide) (fun K hK => ?_)
      refine Kd.R_append_step k36 (w0 := w0) (W := w102) w0.heap.size (by rfl) (.tmp 25) (.tmp 31) 22 36 (.agg #[(.int .i64 0), (.int .i64 0), (.string ⟨#[]⟩)]) 32 rfl Try.underlying22 delta_joiner.info rfl (by decide) (by omega) (.slice A1 (o1).length c1) (o1) (⟨2, 0, ins⟩ : S36) [.int .i64 2, .int .i64 0, .string ins] (fun k_ => k_ ≠ g) (fun _ => False) rfl rfl (k36_mkM _ _ _ (⟨2, 0, ins⟩ : S36)) (fun _ hk => hk.elim) (fun k_ hk => Kd.freshB BK102.out k_ hk) HR102.out HB102.out HB102.out.size (by have := HL1.out; omega) ?_
      intro v202 w202 ho hb hg hat
      rw [← Ny2.out] at ho
      have BK202 := Aside0.mk (blk_grown (g := g) BK102.out hg (Kd.R_away HR102.out (fun _ hk => hk)))
      have HR202 := Aside0.mk ho
      have HB202 := Aside0.mk hb
      have KP202 := Aside0.mk (Kept.of_grown hg KP102.out VB1.out)
      have VB2 := Aside0.mk (delta_joiner.own_next VB1.out hat KP102.out)
      clear ho hb hg hat
      clear hHeld
      refine hK.out _ _ ⟨(blk_cell BK202.out 0).trans rfl, (blk_cell BK202.out 1).trans rfl⟩ (fun hHeld => ?_)
      clear hK K
      refine norm_ (a' := ?_) ?_ ?_
      rotate_left
      · show Act.put _ (some 32) _ = _
        simp only [Act.put, List.setIfInBounds_toArray, List.set_cons_zero, List.set_cons_succ, i64_w, i32_w]
        rfl
      refine pure_ (i := 12) (N := some 33) (v := ?_) (a' := ?_) #[true, true, true, true, true, true, true, true, true, true, true, true, true, false, false] rfl rfl (by kernel_rfl) (fun _ _ _ h => h) (Or.inl ⟨by rfl, ?_⟩) ?_ ?_
      rotate_left
      · intro w'
        go_simp
        with_reducible rfl
      rotate_left
      · simp only [Act.put, List.setIfInBounds_toArray, List.set_cons_zero, List.set_cons_succ, i64_w, i32_w]
        rfl
      refine pure_ (i := 13) (N := some 34) (v := ?_) (a' := ?_) #[true, true, true, true, true, true, true, true, true, true, true, true, true, true, false] rfl rfl (by kernel_rfl) (fun _ _ _ h => h) (Or.inl ⟨by rfl, ?_⟩) ?_ ?_
      rotate_left
      · intro w'
        go_simp
        with_reducible rfl
      rotate_left
      · simp only [Act.put, List.setIfInBounds_toArray, List.set_cons_zero, List.set_cons_succ, i64_w, i32_w]
        rfl
      refine last_ (i := 14) (N := none) #[true, true, true, true, true, true, true, true, true, true, true, true, true, true, true] rfl rfl (by kernel_rfl) (by decide) (fun K hK => ?_)
      have hfz2 := blk_frozen BK202.out 0
      obtain ⟨A2, c2, hv2⟩ := Kd.R_slice HR202.out
      subst hv2
      refine skip_ (w1 := ?_) (by rfl) rfl ?_ ?_
      rotate_left
      · go_simp
        rfl
      refine hK.out _ _ ?_
      clear hK K
      refine done_ (by kernel_rfl) ?_
      clear hHeld
      have q1_ := blk_put (cs' := #[.slice A2 y2.length c2, .string ins, .int .i64 gone, .int .i64 q1]) BK202.out 0 (.slice A2 y2.length c2) rfl
      have q2_ := Kd.R_far (p := ⟨g, 0, none⟩) HR202.out (fun k hk => hk) (.slice A2 y2.length c2)
      have q3_ := Below.setCell HB202.out GE.out (p := ⟨g, 0, none⟩) (.slice A2 y2.length c2)
      have q4_ := Kept.setCell KP202.out (p := ⟨g, 0, none⟩) (.inl SG.out) (.slice A2 y2.length c2)
      generalize hws : World.setCell w202 ⟨g, 0, none⟩ _ = w2 at q1_ q2_ q3_ q4_ ⊢
      have BK2 := Aside0.mk q1_
      have HR2 := Aside0.mk q2_
      have HB2 := Aside0.mk q3_
      have KP2 := Aside0.mk q4_
      clear q1_ q2_ q3_ q4_ hws
      have k2_0 := (blk_cell BK2.out 0).trans rfl
      have k2_1 := (blk_cell BK2.out 1).trans rfl
      have k2_2 := (blk_cell BK2.out 2).trans rfl
      have k2_3 := (blk_cell BK2.out 3).trans rfl
      have f2_0 := blk_frozen BK2.out 0
      have f2_1 := blk_frozen BK2.out 1
      have f2_2 := blk_frozen BK2.out 2
      have f2_3 := blk_frozen BK2.out 3
      go_wp2
      have z1 := blk_put (cs' := #[.slice A2 y2.length c2, .string ⟨#[]⟩, .int .i64 gone, .int .i64 q1]) BK2.out 1 (.string ⟨#[]⟩) rfl
      have z2 := blk_put (cs' := #[.slice A2 y2.length c2, .string ⟨#[]⟩, .int .i64 0, .int .i64 q1]) z1 2 (.int .i64 0) rfl
      have e1 : (delta_joiner_gap.out out ins gone kept).2 = q1 := by rw [Nq1.out]; unfold delta_joiner_gap.out; rw [if_neg (by rw [e0]; exact Bool.false_ne_true)]
      have e2 : (delta_joiner_gap.out out ins gone kept).1 = y2 := by
        unfold delta_joiner_gap.out; rw [if_neg (by rw [e0]; exact Bool.false_ne_true)]; simp only [b1, if_true, if_false, Bool.false_eq_true, if_neg (show ¬ (0 < gone) by omega)]; rw [Ny2.out, No1.out] <;> simp
      rw [e1, e2]
      refine bodyPost_end (results_none rfl _ _ _) rfl ⟨⟨_, rfl⟩, _, ⟨z2, Kd.R_far (Kd.R_far HR2.out (fun k hk => hk) _) (fun k hk => hk) _, GE.out⟩, VB2.out, Kept.setCell (Kept.setCell KP2.out (.inl SG.out) _) (.inl SG.out) _, Below.setCell (Below.setCell HB2.out GE.out _) GE.out _⟩
/-! ### delta_Normal: function 21 -/
def delta_Normal.l0 : Nat → List S36 → List S36 → ByteArray → Int → Int → Int → Option (List S36 × Int)
  | 0, _, _, _, _, _, _ => none
  | k + 1, l, out, ins, gone, kept, i => if (out.length + 4) * 32 ≤ 140737488355328 then (if i < (l.length : Int) then (if 0 ≤ i then (if (rd_T36 l i).f0 = 1 then delta_Normal.l0 k l (delta_joiner_gap.out out ins gone kept).1 ⟨#[]⟩ 0 (wrap64 ((delta_joiner_gap.out out ins gone kept).2 + (rd_T36 l i).f1)) (wrap64 (i + 1)) else if (rd_T36 l i).f0 = 3 then delta_Normal.l0 k l out ins (wrap64 (gone + (rd_T36 l i).f1)) kept (wrap64 (i + 1)) else if (rd_T36 l i).f0 = 2 then (if ins.size + (rd_T36 l i).f2.size ≤ 9223372036854775807 then delta_Normal.l0 k l out (ins ++ (rd_T36 l i).f2) gone kept (wrap64 (i + 1)) else none) else delta_Normal.l0 k l out ins gone kept (wrap64 (i + 1))) else none) else some (delta_joiner_keeps.out (delta_joiner_gap.out out ins gone kept).1 (delta_joiner_gap.out out ins gone kept).2, 0)) else none
def delta_Normal.f (k : Nat) (l0 : List S36) : Option (List S36 × Int) := (delta_Check.f k l0).bind fun e => if e = 0 then delta_Normal.l0 k l0 [] ⟨#[]⟩ 0 0 0 else some ([], e)
theorem delta_Normal.mono_l : ∀ k, (∀ y0 y1 y2 y3 y4 y5, LeO (delta_Normal.l0 k y0 y1 y2 y3 y4 y5) (delta_Normal.l0 (k + 1) y0 y1 y2 y3 y4 y5))
  | 0 => fun _ _ _ _ _ _ r h => by simp [delta_Normal.l0] at h
  | k + 1 => by
    have ih := delta_Normal.mono_l k
    intro y0 y1 y2 y3 y4 y5
    unfold delta_Normal.l0
    exact LeO.ite (LeO.ite (LeO.ite (LeO.ite (ih _ _ _ _ _ _) (LeO.ite (ih _ _ _ _ _ _) (LeO.ite (LeO.ite (ih _ _ _ _ _ _) (LeO.refl _)) (ih _ _ _ _ _ _)))) (LeO.refl _)) (LeO.refl _)) (LeO.refl _)
theorem delta_Normal.mono : ∀ a0 k, LeO (delta_Normal.f k a0) (delta_Normal.f (k + 1) a0) := by
  intro a0 k
  unfold delta_Normal.f
  exact LeO.bind (delta_Check.mono _ _) (fun _ => LeO.ite (delta_Normal.mono_l k _ _ _ _ _ _) (LeO.refl _))
/-- An element has been copied into a block of its own. -/
theorem delta_Normal.boxed {w0 wr w7 : World} {g gb : Nat} {v : Value} {out : List S36} {ins : ByteArray} {gone kept : Int} (x : S36) (HB : Below w0.heap.size w0 wr) (HJ : delta_joiner.St wr w0.heap.size g v out ins gone kept) (hg : gb = wr.heap.size)
    (hbox : w7.heap[gb]? = some (.cells #[.int .i64 0, .int .i64 0, .string ⟨#[]⟩] 36 (0, 0))) (hb : Below wr.heap.size wr w7) :
    Below w0.heap.size w0 (((w7.setCell ⟨gb, 0, none⟩ (.int .i64 x.f0)).setCell ⟨gb, 1, none⟩ (.int .i64 x.f1)).setCell ⟨gb, 2, none⟩ (.string x.f2)) ∧ delta_joiner.St (((w7.setCell ⟨gb, 0, none⟩ (.int .i64 x.f0)).setCell ⟨gb, 1, none⟩ (.int .i64 x.f1)).setCell ⟨gb, 2, none⟩ (.string x.f2)) w0.heap.size g v out ins gone kept ∧ (((w7.setCell ⟨gb, 0, none⟩ (.int .i64 x.f0)).setCell ⟨gb, 1, none⟩ (.int .i64 x.f1)).setCell ⟨gb, 2, none⟩ (.string x.f2)).heap[gb]? = some (.cells #[.int .i64 x.f0, .int .i64 x.f1, .string x.f2] 36 (0, 0)) ∧ g < gb ∧ (∀ k, v.ownBlock = some k → k < gb) := by
  obtain ⟨h1, h2, h3⟩ := HJ
  have hlt := blk_lt h1
  have GE : w0.heap.size ≤ gb := by rw [hg]; exact HB.size
  have hr := Kd.R_below (Kd.R_bound h2) hb
  refine ⟨below_set (below_set (below_set (below_step HB hb) GE) GE) GE, ⟨blk_far (blk_far (blk_far (blk_below h1 hb) (by show g ≠ gb; omega) _) (by show g ≠ gb; omega) _) (by show g ≠ gb; omega) _, ?_, h3⟩, ?_, by omega, fun k hk => by have := (Kd.R_bound h2).1 k hk; omega⟩
  · exact Kd.R_mono (Kd.R_far (Kd.R_far (Kd.R_far hr (fun k hk => by show k ≠ gb; omega) _) (fun k hk => by show k ≠ gb; omega) _) (fun k hk => by show k ≠ gb; omega) _) (fun k hk => hk.1)
  · exact blk_put (blk_put (blk_put hbox 0 (.int .i64 x.f0) rfl) 1 (.int .i64 x.f1) rfl) 2 (.string x.f2) rfl
set_option maxHeartbeats 16000000 in
set_option maxRecDepth 100000 in
theorem delta_Normal.calls (k : Nat) (A0 : Option Addr) (c0 : Nat) (l0 : List (S36)) (r1 : List S36) (r2 : Int) (w : World) (hr0 : Kd.C k36 w A0 l0.length l0) (hc0 : l0.length ≤ c0) (h : delta_Normal.f k l0 = some (r1, r2)) :
    Calls Try.prog 21 #[.slice A0 l0.length c0] w fun e w' => ∃ v0_ : Value, e = .returned (.tuple #[v0_, .int .i64 r2]) ∧ Kd.R k36 36 w' w.heap.size (fun _ => True) v0_ r1 ∧ Below w.heap.size w w' := by
  have hu36 := Try.underlying36
  have HR0 := Aside0.mk hr0
  have HC0 := Aside0.mk hc0
  have HB0 := Aside0.mk (Below.refl w.heap.size w)
  unfold delta_Normal.f at h
  have h_ := Option.bind_eq_some_iff.mp h
  clear h
  obtain ⟨e, he, h⟩ := h_
  have HE := Aside0.mk he
  clear he hr0 hc0
  by_cases d : e = 0
  · rw [if_pos d] at h
    subst d
    have H0 := Aside0.mk h
    clear h
    go_enter Try.func21, Try.ntmps21
    go_wp2_with (first | ((with_reducible refine gate_callee (f := 18) rfl ?_); refine goesL_ (some 9) rfl rfl Try.func18 (by kernel_rfl) rfl #[.slice A0 l0.length c0] rfl (by (try simp only [List.map_toArray, List.map_cons, List.map_nil]); first | done | rfl) ?_; (with_reducible refine (delta_Check.calls k A0 c0 l0 _ w HR0.out HC0.out HE.out).mono ?_); rintro e w1 ⟨rfl, hb⟩; refine ⟨_, rfl, ?_⟩; have HB1 := Aside0.mk hb; clear hb) | ((with_reducible refine gate_dst (N := 14) rfl ?_); refine box_event ?hg (N := 14) ?hd (cs := #[.slice none 0 0, .string ⟨#[]⟩, .int .i64 0, .int .i64 0]) (t := 57) ?hr ?_; (case hd => rfl); (case hg => rfl); (case hr => first | (go_simp; done) | (go_simp; rfl)); intro g hg w2 hbox hb; have HB2 := Aside0.mk (below_step HB1.out hb); have HJ2 : Aside0 (delta_joiner.St w2 w.heap.size g (.slice none 0 0) [] ⟨#[]⟩ 0 0) := ⟨⟨hbox, Kd.R_nil _ _ _ _ _, by rw [hg]; exact HB1.out.size⟩⟩; clear hb hbox hg))
    go_loopg [17] k (fun kq v17 w' => ∃ (v : Value) (out : List S36) (ins : ByteArray) (gone kept i : Int), v17 = .int .i64 i ∧ Aside0 (delta_Normal.l0 kq l0 out ins gone kept i = some (r1, r2)) ∧ Aside0 (kq ≤ k) ∧ Aside0 (Below w.heap.size w w') ∧ Aside0 (delta_joiner.St w' w.heap.size g v out ins gone kept))
    case atStart => exact ⟨_, [], ⟨#[]⟩, 0, 0, 0, rfl, H0, ⟨Nat.le_refl _⟩, HB2, HJ2⟩
    case round =>
      clear H0 HB0 HB1 HB2 HJ2 HE
      obtain ⟨v, out, ins, gone, kept, i, rfl, HA, HK, HB, HJ⟩ := hrel
      cases gk with
      | zero => exact absurd HA.out (by simp [delta_Normal.l0])
      | succ k1 =>
        have H := HA.out
        clear HA
        simp only [delta_Normal.l0] at H
        by_cases c3 : (out.length + 4) * 32 ≤ 140737488355328
        case neg => rw [if_neg c3] at H; cases H
        rw [if_pos c3] at H
        have HLg : Aside0 ((out.length + 3) * 32 ≤ 140737488355328) := ⟨by omega⟩
        have HLf : Aside0 (((delta_joiner_gap.out out ins gone kept).1.length + 1) * 32 ≤ 140737488355328) := ⟨by have := delta_joiner_gap.out_le out ins gone kept; omega⟩
        clear c3
        have SG : Aside0 (g = g ∨ v.ownBlock = some g) := ⟨.inl rfl⟩
        by_cases c4 : i < (l0.length : Int)
        · rw [if_pos c4] at H
          have c4b : decide (i < (l0.length : Int)) = true := decide_eq_true c4
          by_cases c5 : 0 ≤ i
          · rw [if_pos c5] at H
            obtain ⟨ad, ead, hx0, hx1, hx2⟩ := at_T36 HR0.out i c5 c4
            cases ead
            replace hx0 := (HB.out.cell (World.block_lt_of_cell? w _ hx0)).trans hx0
            replace hx1 := (HB.out.cell (World.block_lt_of_cell? w _ hx1)).trans hx1
            replace hx2 := (HB.out.cell (World.block_lt_of_cell? w _ hx2)).trans hx2
            obtain ⟨x, Nx_⟩ : ∃ y_ : S36, y_ = rd_T36 l0 i := ⟨_, rfl⟩
            rw [← Nx_] at H hx0 hx1 hx2
            have Nx := Aside0.mk Nx_
            clear Nx_
            have p9 := eq_true c5
            have q9 := eq_true c4
            clear c4 c5
            by_cases e1 : x.f0 = 1
            · rw [if_pos e1] at H
              have e1b : (x.f0 == 1) = true := beq_iff_eq.mpr e1
              have H' := Aside0.mk H
              clear H e1
              go_wp2_with (first | ((with_reducible refine gate_dst (N := 7) rfl ?_); refine box_event ?hg (N := 7) ?hd (cs := #[.int .i64 0, .int .i64 0, .string (⟨#[]⟩ : ByteArray)]) (t := 36) ?hr ?_; (case hd => rfl); (case hg => rfl); (case hr => first | (go_simp; done) | (go_simp; rfl)); intro gb hg w7 hbox hb; obtain ⟨hBx, hJx, hXx, hlx, hvx⟩ := delta_Normal.boxed x HB.out HJ.out hg hbox hb; have HBx := Aside0.mk hBx; have HJx := Aside0.mk hJx; have HXx := Aside0.mk hXx; have HLX := Aside0.mk hlx; have HVX := Aside0.mk hvx; have BK := Aside0.mk hbox; clear hb hbox hg hBx hJx hXx hlx hvx; have hz0 : w7.cell? ⟨gb, 0, none⟩ = some (.int .i64 0) := (blk_cell BK.out 0).trans rfl; have hz1 : w7.cell? ⟨gb, 1, none⟩ = some (.int .i64 0) := (blk_cell BK.out 1).trans rfl; have hz2 : w7.cell? ⟨gb, 2, none⟩ = some (.string (⟨#[]⟩ : ByteArray)) := (blk_cell BK.out 2).trans rfl; have hf0 := blk_frozen BK.out 0; have hf1 := blk_frozen BK.out 1; have hf2 := blk_frozen BK.out 2) | ((with_reducible refine gate_callee (f := 43) rfl ?_); refine goesL_ (some 26) rfl rfl Try.func43 (by kernel_rfl) rfl #[.pointer (some ⟨g, 0, none⟩)] rfl (by (try simp only [List.map_toArray, List.map_cons, List.map_nil]); first | done | rfl) ?_; (with_reducible refine (delta_joiner_gap.calls w _ (fun k => k = g ∨ v.ownBlock = some k) g v out ins gone kept HBx.out HJx.out (fun k hk => .inl (.inr hk)) SG.out HLg.out).mono ?_); rintro e w9 ⟨⟨u, rfl⟩, v9, hJ9, hV9, hK9, hB9⟩; refine ⟨_, rfl, ?_⟩; have HX9 := Aside0.mk (blk_kept HXx.out hK9 (fun hh => hh.elim (fun e => by have := HLX.out; omega) (fun e => by have := HVX.out _ e; omega))); have HB9 := Aside0.mk hB9; have HJ9 := Aside0.mk hJ9; clear hV9 hK9 hJ9 hB9))
              refine start_ (n := 10) (S := fun w' => w'.cell? ⟨g, 3, none⟩ = some (.int .i64 (delta_joiner_gap.out out ins gone kept).2) ∧ w'.cell? ⟨gb, 1, none⟩ = some (.int .i64 x.f1)) (ds := [9]) #[false, false, false, false, false, false, false, false, false, false] (by kernel_rfl) rfl rfl ⟨(blk_cell (blk_drew HJ9.out.1) 3).trans rfl, (blk_cell (blk_drew HX9.out) 1).trans rfl⟩ (fun hHeld => ?_)
              generalize hwd : World.drew _ = wd at hHeld ⊢
              have BKd : Aside0 (wd.heap[g]? = some (.cells #[v9, .string ⟨#[]⟩, .int .i64 0, .int .i64 (delta_joiner_gap.out out ins gone kept).2] 57 (0, 0))) := ⟨by rw [← hwd]; exact blk_drew HJ9.out.1⟩
              have HRd : Aside0 (Kd.R k36 36 wd w.heap.size (fun k_ => k_ ≠ g) (v9) ((delta_joiner_gap.out out ins gone kept).1)) := ⟨by rw [← hwd]; exact Kd.R_drew HJ9.out.2.1⟩
              have HBd : Aside0 (Below w.heap.size w wd) := ⟨by rw [← hwd]; exact below_drew1 HB9.out⟩
              clear hwd
              refine pure_ (i := 0) (N := some 27) (v := ?_) (a' := ?_) #[true, false, false, false, false, false, false, false, false, false] rfl rfl (by kernel_rfl) (fun _ _ _ h => h) (Or.inl ⟨by rfl, ?_⟩) ?_ ?_
              rotate_left
              · intro w'
                go_simp
                with_reducible rfl
              rotate_left
              · simp only [Act.put, List.setIfInBounds_toArray, List.set_cons_zero, List.set_cons_succ, i64_w, i32_w]
                rfl
              refine pure_ (i := 1) (N := some 28) (v := ?_) (a' := ?_) #[true, true, false, false, false, false, false, false, false, false] rfl rfl (by kernel_rfl) (fun _ _ _ h => h) (Or.inl ⟨by rfl, ?_⟩) ?_ ?_
              rotate_left
              · intro w'
                go_simp
                with_reducible rfl
              rotate_left
              · simp only [Act.put, List.setIfInBounds_toArray, List.set_cons_zero, List.set_cons_succ, i64_w, i32_w]
                rfl
              refine pure_ (i := 2) (N := some 29) (v := ?_) (a' := ?_) #[true, true, true, false, false, false, false, false, false, false] rfl rfl (by kernel_rfl) (fun _ _ _ h => h) (Or.inl ⟨by rfl, ?_⟩) ?_ ?_
              rotate_left
              · intro w'
                go_simp
                with_reducible rfl
              rotate_left
              · simp only [Act.put, List.setIfInBounds_toArray, List.set_cons_zero, List.set_cons_succ, i64_w, i32_w]
                rfl
              refine pure_ (i := 4) (N := some 31) (v := ?_) (a' := ?_) #[true, true, true, false, true, false, false, false, false, false] rfl rfl (by kernel_rfl) (fun _ _ _ h => h) (Or.inl ⟨by rfl, ?_⟩) ?_ ?_
              rotate_left
              · intro w'
                go_simp
                with_reducible rfl
              rotate_left
              · simp only [Act.put, List.setIfInBounds_toArray, List.set_cons_zero, List.set_cons_succ, i64_w, i32_w]
                rfl
              refine take_ (i := 3) (N := some 30) (v := ?_) (a' := ?_) #[true, true, true, true, true, false, false, false, false, false] rfl rfl (by kernel_rfl) (fun _ _ _ h => h) (Or.inl ⟨by rfl, ?_⟩) hHeld ?_ ?_
              rotate_left
              · rintro w' ⟨s0, s1⟩
                go_simp
                with_reducible rfl
              rotate_left
              · simp only [Act.put, List.setIfInBounds_toArray, List.set_cons_zero, List.set_cons_succ, i64_w, i32_w]
                rfl
              refine take_ (i := 5) (N := some 32) (v := ?_) (a' := ?_) #[true, true, true, true, true, true, false, false, false, false] rfl rfl (by kernel_rfl) (fun _ _ _ h => h) (Or.inl ⟨by rfl, ?_⟩) hHeld ?_ ?_
              rotate_left
              · rintro w' ⟨s0, s1⟩
                go_simp
                with_reducible rfl
              rotate_left
              · simp only [Act.put, List.setIfInBounds_toArray, List.set_cons_zero, List.set_cons_succ, i64_w, i32_w]
                rfl
              refine pure_ (i := 6) (N := some 33) (v := ?_) (a' := ?_) #[true, true, true, true, true, true, true, false, false, false] rfl rfl (by kernel_rfl) (fun _ _ _ h => h) (Or.inl ⟨by rfl, ?_⟩) ?_ ?_
              rotate_left
              · intro w'
                go_simp
                with_reducible rfl
              rotate_left
              · simp only [Act.put, List.setIfInBounds_toArray, List.set_cons_zero, List.set_cons_succ, i64_w, i32_w]
                rfl
              refine pure_ (i := 7) (N := some 34) (v := ?_) (a' := ?_) #[true, true, true, true, true, true, true, true, false, false] rfl rfl (by kernel_rfl) (fun _ _ _ h => h) (Or.inl ⟨by rfl, ?_⟩) ?_ ?_
              rotate_left
              · intro w'
                go_simp
                with_reducible rfl
              rotate_left
              · simp only [Act.put, List.setIfInBounds_toArray, List.set_cons_zero, List.set_cons_succ, i64_w, i32_w]
                rfl
              refine pure_ (i := 8) (N := some 35) (v := ?_) (a' := ?_) #[true, true, true, true, true, true, true, true, true, false] rfl rfl (by kernel_rfl) (fun _ _ _ h => h) (Or.inl ⟨by rfl, ?_⟩) ?_ ?_
              rotate_left
              · intro w'
                go_simp
                with_reducible rfl
              rotate_left
              · simp only [Act.put, List.setIfInBounds_toArray, List.set_cons_zero, List.set_cons_succ, i64_w, i32_w]
                rfl
              refine last_ (i := 9) (N := none) #[true, true, true, true, true, true, true, true, true, true] rfl rfl (by kernel_rfl) (by decide) (fun K hK => ?_)
              have hfs := blk_frozen BKd.out 3
              refine skip_ (w1 := ?_) (by rfl) rfl ?_ ?_
              rotate_left
              · go_simp
                rfl
              refine hK.out _ _ ?_
              clear hK K
              refine done_ (by kernel_rfl) ?_
              clear hHeld
              have HJs : Aside0 (delta_joiner.St _ w.heap.size g (v9) ((delta_joiner_gap.out out ins gone kept).1) (⟨#[]⟩) (0) ((wrap64 ((delta_joiner_gap.out out ins gone kept).2 + x.f1)))) := Aside0.mk ⟨blk_put (cs' := #[v9, .string ⟨#[]⟩, .int .i64 0, .int .i64 (wrap64 ((delta_joiner_gap.out out ins gone kept).2 + x.f1))]) BKd.out 3 (.int .i64 (wrap64 ((delta_joiner_gap.out out ins gone kept).2 + x.f1))) rfl, Kd.R_far (p := ⟨g, 3, none⟩) HRd.out (fun k hk => hk) (.int .i64 (wrap64 ((delta_joiner_gap.out out ins gone kept).2 + x.f1))), HJ9.out.2.2⟩
              have HBs := Aside0.mk (Below.setCell HBd.out HJ9.out.2.2 (p := ⟨g, 3, none⟩) (.int .i64 (wrap64 ((delta_joiner_gap.out out ins gone kept).2 + x.f1))))
              go_wp2
              go_roundg k1
              case measure => have := HK.out; omega
              case rel => exact ⟨_, _, ⟨#[]⟩, 0, _, wrap64 (i + 1), rfl, H', ⟨by have := HK.out; omega⟩, HBs, HJs⟩
            · rw [if_neg e1] at H
              have e1b : (x.f0 == 1) = false := beq_eq_false_iff_ne.mpr e1
              clear e1
              by_cases e3 : x.f0 = 3
              · rw [if_pos e3] at H
                have e3b : (x.f0 == 3) = true := beq_iff_eq.mpr e3
                have H' := Aside0.mk H
                clear H e3
                go_wp2_with (first | ((with_reducible refine gate_dst (N := 7) rfl ?_); refine box_event ?hg (N := 7) ?hd (cs := #[.int .i64 0, .int .i64 0, .string (⟨#[]⟩ : ByteArray)]) (t := 36) ?hr ?_; (case hd => rfl); (case hg => rfl); (case hr => first | (go_simp; done) | (go_simp; rfl)); intro gb hg w7 hbox hb; obtain ⟨hBx, hJx, hXx, hlx, hvx⟩ := delta_Normal.boxed x HB.out HJ.out hg hbox hb; have HBx := Aside0.mk hBx; have HJx := Aside0.mk hJx; have HXx := Aside0.mk hXx; have HLX := Aside0.mk hlx; have HVX := Aside0.mk hvx; have BK := Aside0.mk hbox; clear hb hbox hg hBx hJx hXx hlx hvx; have hz0 : w7.cell? ⟨gb, 0, none⟩ = some (.int .i64 0) := (blk_cell BK.out 0).trans rfl; have hz1 : w7.cell? ⟨gb, 1, none⟩ = some (.int .i64 0) := (blk_cell BK.out 1).trans rfl; have hz2 : w7.cell? ⟨gb, 2, none⟩ = some (.string (⟨#[]⟩ : ByteArray)) := (blk_cell BK.out 2).trans rfl; have hf0 := blk_frozen BK.out 0; have hf1 := blk_frozen BK.out 1; have hf2 := blk_frozen BK.out 2))
                refine start_ (n := 10) (S := fun w' => w'.cell? ⟨g, 2, none⟩ = some (.int .i64 gone) ∧ w'.cell? ⟨gb, 1, none⟩ = some (.int .i64 x.f1)) (ds := [9]) #[false, false, false, false, false, false, false, false, false, false] (by kernel_rfl) rfl rfl ⟨(blk_cell (blk_drew HJx.out.1) 2).trans rfl, (blk_cell (blk_drew HXx.out) 1).trans rfl⟩ (fun hHeld => ?_)
                generalize hwd : World.drew _ = wd at hHeld ⊢
                have BKd : Aside0 (wd.heap[g]? = some (.cells #[v, .string ins, .int .i64 gone, .int .i64 kept] 57 (0, 0))) := ⟨by rw [← hwd]; exact blk_drew HJx.out.1⟩
                have HRd : Aside0 (Kd.R k36 36 wd w.heap.size (fun k_ => k_ ≠ g) (v) (out)) := ⟨by rw [← hwd]; exact Kd.R_drew HJx.out.2.1⟩
                have HBd : Aside0 (Below w.heap.size w wd) := ⟨by rw [← hwd]; exact below_drew1 HBx.out⟩
                clear hwd
                refine pure_ (i := 0) (N := some 38) (v := ?_) (a' := ?_) #[true, false, false, false, false, false, false, false, false, false] rfl rfl (by kernel_rfl) (fun _ _ _ h => h) (Or.inl ⟨by rfl, ?_⟩) ?_ ?_
                rotate_left
                · intro w'
                  go_simp
                  with_reducible rfl
                rotate_left
                · simp only [Act.put, List.setIfInBounds_toArray, List.set_cons_zero, List.set_cons_succ, i64_w, i32_w]
                  rfl
                refine pure_ (i := 1) (N := some 39) (v := ?_) (a' := ?_) #[true, true, false, false, false, false, false, false, false, false] rfl rfl (by kernel_rfl) (fun _ _ _ h => h) (Or.inl ⟨by rfl, ?_⟩) ?_ ?_
                rotate_left
                · intro w'
                  go_simp
                  with_reducible rfl
                rotate_left
                · simp only [Act.put, List.setIfInBounds_toArray, List.set_cons_zero, List.set_cons_succ, i64_w, i32_w]
                  rfl
                refine pure_ (i := 2) (N := some 40) (v := ?_) (a' := ?_) #[true, true, true, false, false, false, false, false, false, false] rfl rfl (by kernel_rfl) (fun _ _ _ h => h) (Or.inl ⟨by rfl, ?_⟩) ?_ ?_
                rotate_left
                · intro w'
                  go_simp
                  with_reducible rfl
                rotate_left
                · simp only [Act.put, List.setIfInBounds_toArray, List.set_cons_zero, List.set_cons_succ, i64_w, i32_w]
                  rfl
                refine pure_ (i := 4) (N := some 42) (v := ?_) (a' := ?_) #[true, true, true, false, true, false, false, false, false, false] rfl rfl (by kernel_rfl) (fun _ _ _ h => h) (Or.inl ⟨by rfl, ?_⟩) ?_ ?_
                rotate_left
                · intro w'
                  go_simp
                  with_reducible rfl
                rotate_left
                · simp only [Act.put, List.setIfInBounds_toArray, List.set_cons_zero, List.set_cons_succ, i64_w, i32_w]
                  rfl
                refine take_ (i := 3) (N := some 41) (v := ?_) (a' := ?_) #[true, true, true, true, true, false, false, false, false, false] rfl rfl (by kernel_rfl) (fun _ _ _ h => h) (Or.inl ⟨by rfl, ?_⟩) hHeld ?_ ?_
                rotate_left
                · rintro w' ⟨s0, s1⟩
                  go_simp
                  with_reducible rfl
                rotate_left
                · simp only [Act.put, List.setIfInBounds_toArray, List.set_cons_zero, List.set_cons_succ, i64_w, i32_w]
                  rfl
                refine take_ (i := 5) (N := some 43) (v := ?_) (a' := ?_) #[true, true, true, true, true, true, false, false, false, false] rfl rfl (by kernel_rfl) (fun _ _ _ h => h) (Or.inl ⟨by rfl, ?_⟩) hHeld ?_ ?_
                rotate_left
                · rintro w' ⟨s0, s1⟩
                  go_simp
                  with_reducible rfl
                rotate_left
                · simp only [Act.put, List.setIfInBounds_toArray, List.set_cons_zero, List.set_cons_succ, i64_w, i32_w]
                  rfl
                refine pure_ (i := 6) (N := some 44) (v := ?_) (a' := ?_) #[true, true, true, true, true, true, true, false, false, false] rfl rfl (by kernel_rfl) (fun _ _ _ h => h) (Or.inl ⟨by rfl, ?_⟩) ?_ ?_
                rotate_left
                · intro w'
                  go_simp
                  with_reducible rfl
                rotate_left
                · simp only [Act.put, List.setIfInBounds_toArray, List.set_cons_zero, List.set_cons_succ, i64_w, i32_w]
                  rfl
                refine pure_ (i := 7) (N := some 45) (v := ?_) (a' := ?_) #[true, true, true, true, true, true, true, true, false, false] rfl rfl (by kernel_rfl) (fun _ _ _ h => h) (Or.inl ⟨by rfl, ?_⟩) ?_ ?_
                rotate_left
                · intro w'
                  go_simp
                  with_reducible rfl
                rotate_left
                · simp only [Act.put, List.setIfInBounds_toArray, List.set_cons_zero, List.set_cons_succ, i64_w, i32_w]
                  rfl
                refine pure_ (i := 8) (N := some 46) (v := ?_) (a' := ?_) #[true, true, true, true, true, true, true, true, true, false] rfl rfl (by kernel_rfl) (fun _ _ _ h => h) (Or.inl ⟨by rfl, ?_⟩) ?_ ?_
                rotate_left
                · intro w'
                  go_simp
                  with_reducible rfl
                rotate_left
                · simp only [Act.put, List.setIfInBounds_toArray, List.set_cons_zero, List.set_cons_succ, i64_w, i32_w]
                  rfl
                refine last_ (i := 9) (N := none) #[true, true, true, true, true, true, true, true, true, true] rfl rfl (by kernel_rfl) (by decide) (fun K hK => ?_)
                have hfs := blk_frozen BKd.out 2
                refine skip_ (w1 := ?_) (by rfl) rfl ?_ ?_
                rotate_left
                · go_simp
                  rfl
                refine hK.out _ _ ?_
                clear hK K
                refine done_ (by kernel_rfl) ?_
                clear hHeld
                have HJs : Aside0 (delta_joiner.St _ w.heap.size g (v) (out) (ins) ((wrap64 (gone + x.f1))) (kept)) := Aside0.mk ⟨blk_put (cs' := #[v, .string ins, .int .i64 (wrap64 (gone + x.f1)), .int .i64 kept]) BKd.out 2 (.int .i64 (wrap64 (gone + x.f1))) rfl, Kd.R_far (p := ⟨g, 2, none⟩) HRd.out (fun k hk => hk) (.int .i64 (wrap64 (gone + x.f1))), HJx.out.2.2⟩
                have HBs := Aside0.mk (Below.setCell HBd.out HJx.out.2.2 (p := ⟨g, 2, none⟩) (.int .i64 (wrap64 (gone + x.f1))))
                go_wp2
                go_roundg k1
                case measure => have := HK.out; omega
                case rel => exact ⟨_, _, _, _, _, wrap64 (i + 1), rfl, H', ⟨by have := HK.out; omega⟩, HBs, HJs⟩
              · rw [if_neg e3] at H
                have e3b : (x.f0 == 3) = false := beq_eq_false_iff_ne.mpr e3
                clear e3
                by_cases e2 : x.f0 = 2
                · rw [if_pos e2] at H
                  have e2b : (x.f0 == 2) = true := beq_iff_eq.mpr e2
                  by_cases c6 : ins.size + x.f2.size ≤ 9223372036854775807
                  case neg => rw [if_neg c6] at H; cases H
                  rw [if_pos c6] at H
                  have c6f : (9223372036854775807 < ins.size + x.f2.size) = False := eq_false (Nat.not_lt.2 c6)
                  clear c6
                  have H' := Aside0.mk H
                  clear H e2
                  go_wp2_with (first | ((with_reducible refine gate_dst (N := 7) rfl ?_); refine box_event ?hg (N := 7) ?hd (cs := #[.int .i64 0, .int .i64 0, .string (⟨#[]⟩ : ByteArray)]) (t := 36) ?hr ?_; (case hd => rfl); (case hg => rfl); (case hr => first | (go_simp; done) | (go_simp; rfl)); intro gb hg w7 hbox hb; obtain ⟨hBx, hJx, hXx, hlx, hvx⟩ := delta_Normal.boxed x HB.out HJ.out hg hbox hb; have HBx := Aside0.mk hBx; have HJx := Aside0.mk hJx; have HXx := Aside0.mk hXx; have HLX := Aside0.mk hlx; have HVX := Aside0.mk hvx; have BK := Aside0.mk hbox; clear hb hbox hg hBx hJx hXx hlx hvx; have hz0 : w7.cell? ⟨gb, 0, none⟩ = some (.int .i64 0) := (blk_cell BK.out 0).trans rfl; have hz1 : w7.cell? ⟨gb, 1, none⟩ = some (.int .i64 0) := (blk_cell BK.out 1).trans rfl; have hz2 : w7.cell? ⟨gb, 2, none⟩ = some (.string (⟨#[]⟩ : ByteArray)) := (blk_cell BK.out 2).trans rfl; have hf0 := blk_frozen BK.out 0; have hf1 := blk_frozen BK.out 1; have hf2 := blk_frozen BK.out 2))
                  refine start_ (n := 10) (S := fun w' => w'.cell? ⟨g, 1, none⟩ = some (.string ins) ∧ w'.cell? ⟨gb, 2, none⟩ = some (.string x.f2)) (ds := [9]) #[false, false, false, false, false, false, false, false, false, false] (by kernel_rfl) rfl rfl ⟨(blk_cell (blk_drew HJx.out.1) 1).trans rfl, (blk_cell (blk_drew HXx.out) 2).trans rfl⟩ (fun hHeld => ?_)
                  generalize hwd : World.drew _ = wd at hHeld ⊢
                  have BKd : Aside0 (wd.heap[g]? = some (.cells #[v, .string ins, .int .i64 gone, .int .i64 kept] 57 (0, 0))) := ⟨by rw [← hwd]; exact blk_drew HJx.out.1⟩
                  have HRd : Aside0 (Kd.R k36 36 wd w.heap.size (fun k_ => k_ ≠ g) (v) (out)) := ⟨by rw [← hwd]; exact Kd.R_drew HJx.out.2.1⟩
                  have HBd : Aside0 (Below w.heap.size w wd) := ⟨by rw [← hwd]; exact below_drew1 HBx.out⟩
                  clear hwd
                  refine pure_ (i := 0) (N := some 49) (v := ?_) (a' := ?_) #[true, false, false, false, false, false, false, false, false, false] rfl rfl (by kernel_rfl) (fun _ _ _ h => h) (Or.inl ⟨by rfl, ?_⟩) ?_ ?_
                  rotate_left
                  · intro w'
                    go_simp
                    with_reducible rfl
                  rotate_left
                  · simp only [Act.put, List.setIfInBounds_toArray, List.set_cons_zero, List.set_cons_succ, i64_w, i32_w]
                    rfl
                  refine pure_ (i := 1) (N := some 50) (v := ?_) (a' := ?_) #[true, true, false, false, false, false, false, false, false, false] rfl rfl (by kernel_rfl) (fun _ _ _ h => h) (Or.inl ⟨by rfl, ?_⟩) ?_ ?_
                  rotate_left
                  · intro w'
                    go_simp
                    with_reducible rfl
                  rotate_left
                  · simp only [Act.put, List.setIfInBounds_toArray, List.set_cons_zero, List.set_cons_succ, i64_w, i32_w]
                    rfl
                  refine pure_ (i := 2) (N := some 51) (v := ?_) (a' := ?_) #[true, true, true, false, false, false, false, false, false, false] rfl rfl (by kernel_rfl) (fun _ _ _ h => h) (Or.inl ⟨by rfl, ?_⟩) ?_ ?_
                  rotate_left
                  · intro w'
                    go_simp
                    with_reducible rfl
                  rotate_left
                  · simp only [Act.put, List.setIfInBounds_toArray, List.set_cons_zero, List.set_cons_succ, i64_w, i32_w]
                    rfl
                  refine pure_ (i := 4) (N := some 53) (v := ?_) (a' := ?_) #[true, true, true, false, true, false, false, false, false, false] rfl rfl (by kernel_rfl) (fun _ _ _ h => h) (Or.inl ⟨by rfl, ?_⟩) ?_ ?_
                  rotate_left
                  · intro w'
                    go_simp
                    with_reducible rfl
                  rotate_left
                  · simp only [Act.put, List.setIfInBounds_toArray, List.set_cons_zero, List.set_cons_succ, i64_w, i32_w]
                    rfl
                  refine take_ (i := 3) (N := some 52) (v := ?_) (a' := ?_) #[true, true, true, true, true, false, false, false, false, false] rfl rfl (by kernel_rfl) (fun _ _ _ h => h) (Or.inl ⟨by rfl, ?_⟩) hHeld ?_ ?_
                  rotate_left
                  · rintro w' ⟨s0, s1⟩
                    go_simp
                    with_reducible rfl
                  rotate_left
                  · simp only [Act.put, List.setIfInBounds_toArray, List.set_cons_zero, List.set_cons_succ, i64_w, i32_w]
                    rfl
                  refine take_ (i := 5) (N := some 54) (v := ?_) (a' := ?_) #[true, true, true, true, true, true, false, false, false, false] rfl rfl (by kernel_rfl) (fun _ _ _ h => h) (Or.inl ⟨by rfl, ?_⟩) hHeld ?_ ?_
                  rotate_left
                  · rintro w' ⟨s0, s1⟩
                    go_simp
                    with_reducible rfl
                  rotate_left
                  · simp only [Act.put, List.setIfInBounds_toArray, List.set_cons_zero, List.set_cons_succ, i64_w, i32_w]
                    rfl
                  refine pure_ (i := 6) (N := some 55) (v := ?_) (a' := ?_) #[true, true, true, true, true, true, true, false, false, false] rfl rfl (by kernel_rfl) (fun _ _ _ h => h) (Or.inl ⟨by rfl, ?_⟩) ?_ ?_
                  rotate_left
                  · intro w'
                    go_simp
                    with_reducible rfl
                  rotate_left
                  · simp only [Act.put, List.setIfInBounds_toArray, List.set_cons_zero, List.set_cons_succ, i64_w, i32_w]
                    rfl
                  refine pure_ (i := 7) (N := some 56) (v := ?_) (a' := ?_) #[true, true, true, true, true, true, true, true, false, false] rfl rfl (by kernel_rfl) (fun _ _ _ h => h) (Or.inl ⟨by rfl, ?_⟩) ?_ ?_
                  rotate_left
                  · intro w'
                    go_simp
                    with_reducible rfl
                  rotate_left
                  · simp only [Act.put, List.setIfInBounds_toArray, List.set_cons_zero, List.set_cons_succ, i64_w, i32_w]
                    rfl
                  refine pure_ (i := 8) (N := some 57) (v := ?_) (a' := ?_) #[true, true, true, true, true, true, true, true, true, false] rfl rfl (by kernel_rfl) (fun _ _ _ h => h) (Or.inl ⟨by rfl, ?_⟩) ?_ ?_
                  rotate_left
                  · intro w'
                    go_simp
                    with_reducible rfl
                  rotate_left
                  · simp only [Act.put, List.setIfInBounds_toArray, List.set_cons_zero, List.set_cons_succ, i64_w, i32_w]
                    rfl
                  refine last_ (i := 9) (N := none) #[true, true, true, true, true, true, true, true, true, true] rfl rfl (by kernel_rfl) (by decide) (fun K hK => ?_)
                  have hfs := blk_frozen BKd.out 1
                  refine skip_ (w1 := ?_) (by rfl) rfl ?_ ?_
                  rotate_left
                  · go_simp
                    rfl
                  refine hK.out _ _ ?_
                  clear hK K
                  refine done_ (by kernel_rfl) ?_
                  clear hHeld
                  have HJs : Aside0 (delta_joiner.St _ w.heap.size g (v) (out) ((ins ++ x.f2)) (gone) (kept)) := Aside0.mk ⟨blk_put (cs' := #[v, .string (ins ++ x.f2), .int .i64 gone, .int .i64 kept]) BKd.out 1 (.string (ins ++ x.f2)) rfl, Kd.R_far (p := ⟨g, 1, none⟩) HRd.out (fun k hk => hk) (.string (ins ++ x.f2)), HJx.out.2.2⟩
                  have HBs := Aside0.mk (Below.setCell HBd.out HJx.out.2.2 (p := ⟨g, 1, none⟩) (.string (ins ++ x.f2)))
                  go_wp2
                  go_roundg k1
                  case measure => have := HK.out; omega
                  case rel => exact ⟨_, _, _, _, _, wrap64 (i + 1), rfl, H', ⟨by have := HK.out; omega⟩, HBs, HJs⟩
                · rw [if_neg e2] at H
                  have e2b : (x.f0 == 2) = false := beq_eq_false_iff_ne.mpr e2
                  have H' := Aside0.mk H
                  clear H e2
                  go_wp2_with (first | ((with_reducible refine gate_dst (N := 7) rfl ?_); refine box_event ?hg (N := 7) ?hd (cs := #[.int .i64 0, .int .i64 0, .string (⟨#[]⟩ : ByteArray)]) (t := 36) ?hr ?_; (case hd => rfl); (case hg => rfl); (case hr => first | (go_simp; done) | (go_simp; rfl)); intro gb hg w7 hbox hb; obtain ⟨hBx, hJx, hXx, hlx, hvx⟩ := delta_Normal.boxed x HB.out HJ.out hg hbox hb; have HBx := Aside0.mk hBx; have HJx := Aside0.mk hJx; have HXx := Aside0.mk hXx; have HLX := Aside0.mk hlx; have HVX := Aside0.mk hvx; have BK := Aside0.mk hbox; clear hb hbox hg hBx hJx hXx hlx hvx; have hz0 : w7.cell? ⟨gb, 0, none⟩ = some (.int .i64 0) := (blk_cell BK.out 0).trans rfl; have hz1 : w7.cell? ⟨gb, 1, none⟩ = some (.int .i64 0) := (blk_cell BK.out 1).trans rfl; have hz2 : w7.cell? ⟨gb, 2, none⟩ = some (.string (⟨#[]⟩ : ByteArray)) := (blk_cell BK.out 2).trans rfl; have hf0 := blk_frozen BK.out 0; have hf1 := blk_frozen BK.out 1; have hf2 := blk_frozen BK.out 2))
                  go_roundg k1
                  case measure => have := HK.out; omega
                  case rel => exact ⟨_, _, _, _, _, wrap64 (i + 1), rfl, H', ⟨by have := HK.out; omega⟩, HBx, HJx⟩
          · rw [if_neg c5] at H
            cases H
        · rw [if_neg c4] at H
          have c4b : decide (i < (l0.length : Int)) = false := decide_eq_false c4
          clear c4
          have H_ := Prod.mk.inj (Option.some.inj H)
          clear H
          obtain ⟨rfl, rfl⟩ := H_
          go_wp2_with (first | ((with_reducible refine gate_callee (f := 43) rfl ?_); refine goesL_ (some 60) rfl rfl Try.func43 (by kernel_rfl) rfl #[.pointer (some ⟨g, 0, none⟩)] rfl (by (try simp only [List.map_toArray, List.map_cons, List.map_nil]); first | done | rfl) ?_; (with_reducible refine (delta_joiner_gap.calls w _ (fun k => k = g ∨ v.ownBlock = some k) g v out ins gone kept HB.out HJ.out (fun k hk => .inl (.inr hk)) SG.out HLg.out).mono ?_); rintro e w9 ⟨⟨u, rfl⟩, v9, hJ9, hV9, hK9, hB9⟩; refine ⟨_, rfl, ?_⟩; have HB9 := Aside0.mk hB9; have HJ9 := Aside0.mk hJ9; have HV9 := Aside0.mk hV9; clear hV9 hK9 hJ9 hB9) | ((with_reducible refine gate_callee (f := 44) rfl ?_); refine goesL_ (some 62) rfl rfl Try.func44 (by kernel_rfl) rfl #[.pointer (some ⟨g, 0, none⟩)] rfl (by (try simp only [List.map_toArray, List.map_cons, List.map_nil]); first | done | rfl) ?_; (with_reducible refine (delta_joiner_keeps.calls w w9 (fun k => k = g ∨ v9.ownBlock = some k) g v9 _ _ _ _ HB9.out HJ9.out (fun k hk => .inl (.inr hk)) (.inl rfl) HLf.out).mono ?_); rintro e wz ⟨⟨u2, rfl⟩, vz, ⟨hbz, hRz, _⟩, _, _, hBz⟩; refine ⟨_, rfl, ?_⟩; have HBz := Aside0.mk hBz; have BKz := Aside0.mk hbz; have HRz := Aside0.mk hRz; have kz0 := (blk_cell BKz.out 0).trans rfl; clear hBz hbz hRz))
          go_ret2
          exact ⟨_, rfl, Kd.R_mono HRz.out (fun _ _ => trivial), HBz.out⟩
  · rw [if_neg d] at h
    have h_ := Prod.mk.inj (Option.some.inj h)
    clear h
    obtain ⟨rfl, rfl⟩ := h_
    have db : (e != 0) = true := by rw [bne_iff_ne]; exact d
    have db2 : (e == 0) = false := beq_eq_false_iff_ne.mpr d
    clear d
    go_enter Try.func21, Try.ntmps21
    go_wp2_with (first | ((with_reducible refine gate_callee (f := 18) rfl ?_); refine goesL_ (some 9) rfl rfl Try.func18 (by kernel_rfl) rfl #[.slice A0 l0.length c0] rfl (by (try simp only [List.map_toArray, List.map_cons, List.map_nil]); first | done | rfl) ?_; (with_reducible refine (delta_Check.calls k A0 c0 l0 _ w HR0.out HC0.out HE.out).mono ?_); rintro e w1 ⟨rfl, hb⟩; refine ⟨_, rfl, ?_⟩; have HB1 := Aside0.mk hb; clear hb))
    go_ret2
    exact ⟨_, rfl, Kd.R_nil _ _ _ _ _, HB1.out⟩


end Go.Proofs.Ytdpbkomaiafemaa.HDd
