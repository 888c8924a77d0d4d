-- Written by hprint.py over the kit's print.py; contracts of some functions by hand.
import Derived.Test.YtknbccaineblpaaHPkx0
import Derived.Test.YtknbccaineblpaaHPkx1
import Derived.Test.YtknbccaineblpaaHPkx2
namespace Go.Proofs.Ytknbccaineblpaa.HPk
open Go.RowKit Go.Proofs.YtknbccaineblpaaW.PrintWords Go.Proofs.YtknbccaineblpaaW.PrintLast Go.Proofs.YtknbccaineblpaaW.PrintMore
attribute [local go_sem] max2_int min2_int max_two min_two max_three min_three max_four min_four   -- for this text's walks alone
set_option linter.unusedVariables false
set_option linter.unusedSimpArgs false

/-! ### pack_TakeList: function 33 -/
theorem pack_TakeList.info : (Try.prog.info? 9).map (fun i => (i.zero, i.size, i.bytes)) = some (some (.string (⟨#[]⟩ : ByteArray)), 1, 16) := by kernel_rfl
/-- The closure: one text more. -/
theorem pack_TakeList.one (k : Nat) (s : ByteArray) (nx : Int) (xs : List ByteArray) (t : ByteArray) (nx2 no : Int) (w0 w : World) (bs bn bo : Nat) (v : Value) (hB : Below w0.heap.size w0 w)
    (hs : w.heap[bs]? = some (.cells #[.string s] 9 (0, 0))) (hn : w.heap[bn]? = some (.cells #[.int .i64 nx] 3 (0, 0))) (ho : w.heap[bo]? = some (.cells #[v] 34 (0, 0)))
    (hgs : w0.heap.size ≤ bs) (hgn : w0.heap.size ≤ bn) (hgo : w0.heap.size ≤ bo) (hns : bn ≠ bs) (hos : bo ≠ bs) (hno : bn ≠ bo)
    (hR : Kd.R Kd.string 9 w w0.heap.size (fun k_ => k_ ≠ bs ∧ k_ ≠ bn ∧ k_ ≠ bo) v xs) (hl : xs.length < 8796093022208) (h : pack_TakeText.f k s nx = some (t, nx2, no)) :
    Calls Try.prog 54 #[.pointer (some ⟨bs, 0, none⟩), .pointer (some ⟨bn, 0, none⟩), .pointer (some ⟨bo, 0, none⟩)] w fun e w' => ∃ v' : Value, e = .returned (.int .i64 no) ∧
      w'.heap[bs]? = some (.cells #[.string s] 9 (0, 0)) ∧ w'.heap[bn]? = some (.cells #[.int .i64 nx2] 3 (0, 0)) ∧ w'.heap[bo]? = some (.cells #[v'] 34 (0, 0)) ∧
      Kd.R Kd.string 9 w' w0.heap.size (fun k_ => k_ ≠ bs ∧ k_ ≠ bn ∧ k_ ≠ bo) v' (xs ++ [t]) ∧ Below w0.heap.size w0 w' := by
  have HB := Aside0.mk hB
  have HR := Aside0.mk hR
  have HH := Aside0.mk h
  have c1 := cell_of_one hs
  have c2 := cell_of_one hn
  have f2 := free_of_one hn
  have c3 := cell_of_one ho
  have Hs := Aside0.mk hs
  have Hn := Aside0.mk hn
  have Ho := Aside0.mk ho
  have HL := Aside0.mk hl
  have STEP : Aside0 (∀ nd : Nat, Below w0.heap.size w0 ((w.drewN nd).setCell ⟨bn, 0, none⟩ (.int .i64 nx2)) ∧ Kd.R Kd.string 9 ((w.drewN nd).setCell ⟨bn, 0, none⟩ (.int .i64 nx2)) w0.heap.size (fun k_ => k_ ≠ bs ∧ k_ ≠ bn ∧ k_ ≠ bo) v xs ∧ ((w.drewN nd).setCell ⟨bn, 0, none⟩ (.int .i64 nx2)).heap[bs]? = some (.cells #[.string s] 9 (0, 0)) ∧ ((w.drewN nd).setCell ⟨bn, 0, none⟩ (.int .i64 nx2)).heap[bn]? = some (.cells #[.int .i64 nx2] 3 (0, 0)) ∧ ((w.drewN nd).setCell ⟨bn, 0, none⟩ (.int .i64 nx2)).heap[bo]? = some (.cells #[v] 34 (0, 0))) := by
    refine ⟨fun nd => ⟨Below.setCell (pw_below_drewN hB nd) hgn _, Kd.R_far (Kd.R_drewN hR nd) (fun k hk => hk.2.1) _, blk_far (blk_drewN hs nd) (Ne.symm hns) _, one_setCell (blk_drewN hn nd), blk_far (blk_drewN ho nd) (Ne.symm hno) _⟩⟩
  clear hs hn ho hB hR h hl
  go_enter Try.func54, Try.ntmps54
  go_wp2_with (first | ((with_reducible refine gate_callee (f := 55) rfl ?_); refine goesL_ (some 8) rfl rfl Try.func55 (by kernel_rfl) rfl #[.string s, .int .i64 nx] rfl (by (try simp only [List.map_toArray, List.map_cons, List.map_nil]); first | done | rfl) ?_; (with_reducible refine (pack_TakeText.calls k s nx t nx2 no _ HH.out).mono ?_); rintro e w' ⟨rfl, ⟨nd, rfl⟩⟩; refine ⟨_, rfl, ?_⟩) | ((with_reducible refine gate_builtin (b := .append) (xs := #[.tmp 12, .tmp 14]) rfl ?_); at_builtin; refine Kd.R_append Kd.string (w0 := w0) w0.heap.size rfl (.tmp 12) (.tmp 14) 34 9 (.string (⟨#[]⟩ : ByteArray)) 16 rfl Try.underlying34 pack_TakeList.info rfl (by decide) (by omega) v xs t [.string t] (fun k_ => k_ ≠ bs ∧ k_ ≠ bn ∧ k_ ≠ bo) (fun _ => False) rfl ?aX ?aP (fun _ hk => hk.elim) ?aF ?aO ?aB ?aS ?aL ?_; (case aX => rw [show ((w.drewN nd).setCell ⟨bn, 0, none⟩ (.int .i64 nx2)).heap.size = w.heap.size from Array.size_modify ..]; rfl); (case aP => exact rfl); (case aB => exact (STEP.out _).1); (case aO => exact (STEP.out _).2.1); (case aS => exact (STEP.out _).1.size); (case aL => have := HL.out; omega); (case aF => intro k_ hk; obtain ⟨_, _, q1, q2, q3⟩ := STEP.out nd; exact ⟨by have := blk_lt q1; omega, by have := blk_lt q2; omega, by have := blk_lt q3; omega⟩); intro v1 w5 hR1 hB1 hg hat; obtain ⟨_, r1, q1, q2, q3⟩ := STEP.out nd; have d1 := blk_grown q1 hg (fun e => (r1.1 bs e.symm).1 rfl); have d2 := blk_grown q2 hg (fun e => (r1.1 bn e.symm).2.1 rfl); have d3 := blk_grown q3 hg (fun e => (r1.1 bo e.symm).2.2 rfl); have f3 := free_of_one d3; have c5 := cell_of_one d3; obtain ⟨A1, n1, rfl⟩ := Kd.R_slice hR1; have D1 := Aside0.mk d1; have D2 := Aside0.mk d2; have D3 := Aside0.mk d3; have R1 := Aside0.mk hR1; have B1 := Aside0.mk hB1; clear r1 q1 q2 q3 d1 d2 d3 hR1 hB1 hg hat))
  go_ret
  exact ⟨_, rfl, blk_far D1.out (Ne.symm hos) _, blk_far D2.out hno _, one_setCell D3.out, (by have h_ := Kd.R_far (p := ⟨bo, 0, none⟩) R1.out (fun k hk => hk.2.2) (.slice A1 (xs.length + 1) n1); rw [List.length_append] at h_; exact h_), Below.setCell B1.out hgo _⟩

def pack_TakeList.l0 : Nat → ByteArray → List ByteArray → Int → Int → Int → Option (List ByteArray × Int × Int)
  | 0, _, _, _, _, _ => none
  | k + 1, s, xs, nx, n, i => if i < n then (if xs.length < 8796093022208 then (pack_TakeText.f k s nx).bind fun b => (if b.2.2 = 0 then pack_TakeList.l0 k s (xs ++ [b.1]) b.2.1 n (wrap64 (i + 1)) else some ([], 0, b.2.2)) else none) else some (xs, nx, 0)
def pack_TakeList.f (k : Nat) (a0 : ByteArray) (a1 : Int) : Option (List ByteArray × Int × Int) := (pack_take.f k a0 a1 8000).bind fun b => (if b.2.2 = 0 then pack_TakeList.l0 k a0 [] b.2.1 b.1 0 else some ([], 0, b.2.2))
theorem pack_TakeList.mono_l : ∀ k, (∀ y0 y1 y2 y3 y4, LeO (pack_TakeList.l0 k y0 y1 y2 y3 y4) (pack_TakeList.l0 (k + 1) y0 y1 y2 y3 y4))
  | 0 => fun _ _ _ _ _ r h => by simp [pack_TakeList.l0] at h
  | k + 1 => by
    have ih := pack_TakeList.mono_l k
    intro y0 y1 y2 y3 y4
    unfold pack_TakeList.l0
    exact LeO.ite (LeO.ite (LeO.bind (pack_TakeText.mono _ _ _) (fun _ => LeO.ite (ih _ _ _ _ _) (LeO.refl _))) (LeO.refl _)) (LeO.refl _)
theorem pack_TakeList.mono : ∀ a0 a1 k, LeO (pack_TakeList.f k a0 a1) (pack_TakeList.f (k + 1) a0 a1) := by
  intro a0 a1 k
  unfold pack_TakeList.f
  exact LeO.bind (pack_take.mono _ _ _ _) (fun _ => LeO.ite (pack_TakeList.mono_l k _ _ _ _ _) (LeO.refl _))
/-- What stands in memory at a round's head: the captured variables, and the texts so far. -/
structure pack_TakeList.St (a0 : ByteArray) (w w' : World) (xs : List ByteArray) (nx : Int) (v : Value) : Prop where
  s : w'.heap[w.heap.size]? = some (.cells #[.string a0] 9 (0, 0))
  n : w'.heap[w.heap.size + 1]? = some (.cells #[.int .i64 nx] 3 (0, 0))
  o : w'.heap[w.heap.size + 1 + 1]? = some (.cells #[v] 34 (0, 0))
  R : Kd.R Kd.string 9 w' w.heap.size (fun k_ => k_ ≠ w.heap.size ∧ k_ ≠ w.heap.size + 1 ∧ k_ ≠ w.heap.size + 1 + 1) v xs
  B : Below w.heap.size w w'
set_option maxHeartbeats 4000000 in
set_option maxRecDepth 100000 in
theorem pack_TakeList.calls (k : Nat) (a0 : ByteArray) (a1 : Int) (r1 : List ByteArray) (r2 : Int) (r3 : Int) (w : World) (h : pack_TakeList.f k a0 a1 = some (r1, r2, r3)) :
    Calls Try.prog 33 #[.string a0, .int .i64 a1] w fun e w' => ∃ v0_ : Value, e = .returned (.tuple #[v0_, .int .i64 r2, .int .i64 r3]) ∧ Kd.R Kd.string 9 w' w.heap.size (fun _ => True) v0_ r1 ∧ Below w.heap.size w w' := by
  unfold pack_TakeList.f at h
  have h' := h
  clear h
  obtain ⟨⟨n, nx, no⟩, h1, h2⟩ := Option.bind_eq_some_iff.mp h'
  clear h'
  have A1 := Aside0.mk h1
  clear h1
  simp only at h2
  have HB := Aside0.mk (Below.refl w.heap.size w)
  by_cases e : no = 0
  · rw [if_pos e] at h2
    have H2 := Aside0.mk h2
    clear h2
    subst e
    have ST : ∀ nd : Nat, Aside0 (pack_TakeList.St a0 w ((((w.alloc (Obj.cells #[Value.string a0] 9)).drewN nd).alloc (Obj.cells #[Value.int IntKind.i64 nx] 3)).alloc (Obj.cells #[Value.slice none 0 0] 34)) [] nx (.slice none 0 0)) := by
      intro nd
      have b1 := blk_drewN (blk_new w (Obj.cells #[Value.string a0] 9)) nd
      have z1 : ((w.alloc (Obj.cells #[Value.string a0] 9)).drewN nd).heap.size = w.heap.size + 1 := by show (w.heap.push _).size = _; simp
      have b2 := blk_new ((w.alloc (Obj.cells #[Value.string a0] 9)).drewN nd) (Obj.cells #[Value.int IntKind.i64 nx] 3)
      have z2 : (((w.alloc (Obj.cells #[Value.string a0] 9)).drewN nd).alloc (Obj.cells #[Value.int IntKind.i64 nx] 3)).heap.size = w.heap.size + 1 + 1 := by show (Array.push _ _).size = _; rw [Array.size_push, z1]
      have b3 := blk_new (((w.alloc (Obj.cells #[Value.string a0] 9)).drewN nd).alloc (Obj.cells #[Value.int IntKind.i64 nx] 3)) (Obj.cells #[Value.slice none 0 0] 34)
      rw [z1] at b2
      rw [z2] at b3
      exact ⟨⟨blk_alloc (blk_alloc b1 _) _, blk_alloc b2 _, b3, Kd.R_nil _ _ _ _ _, below_alloc (below_alloc (pw_below_drewN (below_alloc (Below.refl _ _) _) nd) _) _⟩⟩
    go_enter Try.func33, Try.ntmps33
    go_wp2_with (first | ((with_reducible refine gate_callee (f := 53) rfl ?_); refine goesL_ (some 16) rfl rfl Try.func53 (by kernel_rfl) rfl #[.string a0, .int .i64 a1, .int .i64 8000] rfl (by (try simp only [List.map_toArray, List.map_cons, List.map_nil]); first | done | rfl) ?_; (with_reducible refine (pack_take.calls k a0 a1 8000 n nx 0 _ A1.out).mono ?_); rintro e w' ⟨rfl, ⟨nd, rfl⟩⟩; refine ⟨_, rfl, ?_⟩))
    go_loopg [25] k (fun kq v25 w' => ∃ (i : Int) (xs : List ByteArray) (nx1 : Int) (v : Value), v25 = .int .i64 i ∧ Aside0 (pack_TakeList.l0 kq a0 xs nx1 n i = some (r1, r2, r3)) ∧ Aside0 (kq ≤ k) ∧ Aside0 (pack_TakeList.St a0 w w' xs nx1 v))
    case atStart => exact ⟨0, [], nx, .slice none 0 0, rfl, H2, ⟨Nat.le_refl _⟩, ST _⟩
    case round =>
      clear H2 ST
      obtain ⟨i, xs, nx1, v, rfl, HA, HK, HS⟩ := hrel
      have hin : w.heap.size ≤ wr.heap.size := HS.out.B.size
      cases gk with
      | zero => exact absurd HA.out (by simp [pack_TakeList.l0])
      | succ k1 =>
        have H := HA.out
        clear HA
        simp only [pack_TakeList.l0] at H
        by_cases c1 : i < n
        · rw [if_pos c1] at H
          have c1b : decide (i < n) = true := decide_eq_true c1
          clear c1
          by_cases c2 : xs.length < 8796093022208
          · rw [if_pos c2] at H
            obtain ⟨⟨t, nx2, no⟩, h3, H⟩ := Option.bind_eq_some_iff.mp H
            simp only at H
            have ONE := Aside0.mk (pack_TakeList.one k1 a0 nx1 xs t nx2 no w wr w.heap.size (w.heap.size + 1) (w.heap.size + 1 + 1) v HS.out.B HS.out.s HS.out.n HS.out.o (by omega) (by omega) (by omega) (by omega) (by omega) (by omega) HS.out.R c2 h3)
            clear c2 h3
            by_cases c3 : no = 0
            · rw [if_pos c3] at H
              subst c3
              have H' := Aside0.mk H
              clear H
              go_wp2_with (first | (go_at_call 54; (with_reducible refine ONE.out.mono ?_); rintro e w1 ⟨v', rfl, q1, q2, q3, qR, qB⟩; have Q1 := Aside0.mk (⟨q1, q2, q3, qR, qB⟩ : pack_TakeList.St a0 w w1 (xs ++ [t]) nx2 v'); clear q1 q2 q3 qR qB))
              go_roundg k1
              case measure => have := HK.out; omega
              case rel => exact ⟨wrap64 (i + 1), xs ++ [t], nx2, v', rfl, H', ⟨by have := HK.out; omega⟩, Q1⟩
            · rw [if_neg c3] at H
              obtain ⟨rfl, rfl, rfl⟩ : [] = r1 ∧ 0 = r2 ∧ no = r3 := by simpa using H
              have hne : (no != 0) = true := bne_iff_ne.mpr c3
              clear c3 H
              go_wp2_with (first | (go_at_call 54; (with_reducible refine ONE.out.mono ?_); rintro e w1 ⟨v', rfl, q1, q2, q3, qR, qB⟩; have Q1 := Aside0.mk qB; clear q1 q2 q3 qR qB))
              go_ret3
              exact ⟨_, rfl, Kd.R_nil _ _ _ _ _, Q1.out⟩
          · rw [if_neg c2] at H
            exact absurd H (by simp)
        · rw [if_neg c1] at H
          have c1b : decide (i < n) = false := decide_eq_false c1
          clear c1
          obtain ⟨rfl, rfl, rfl⟩ : xs = r1 ∧ nx1 = r2 ∧ 0 = r3 := by simpa using H
          clear H
          have d2 := cell_of_one HS.out.n
          have d3 := cell_of_one HS.out.o
          go_wp2_with fail
          go_quiet (fail)
          go_wp2
          go_ret3
          exact ⟨_, rfl, Kd.R_mono (Kd.R_drewN HS.out.R _) (fun _ _ => trivial), pw_below_drewN HS.out.B _⟩
  · rw [if_neg e] at h2
    obtain ⟨rfl, rfl, rfl⟩ : [] = r1 ∧ 0 = r2 ∧ no = r3 := by simpa using h2
    have hne : (no != 0) = true := bne_iff_ne.mpr e
    clear h2 e
    go_enter Try.func33, Try.ntmps33
    go_wp2_with (first | ((with_reducible refine gate_callee (f := 53) rfl ?_); refine goesL_ (some 16) rfl rfl Try.func53 (by kernel_rfl) rfl #[.string a0, .int .i64 a1, .int .i64 8000] rfl (by (try simp only [List.map_toArray, List.map_cons, List.map_nil]); first | done | rfl) ?_; (with_reducible refine (pack_take.calls k a0 a1 8000 n nx no _ A1.out).mono ?_); rintro e w' ⟨rfl, ⟨nd, rfl⟩⟩; refine ⟨_, rfl, ?_⟩))
    go_ret3
    exact ⟨_, rfl, Kd.R_nil _ _ _ _ _, by repeat (first | (with_reducible first | exact HB.out | apply below_alloc | apply pw_below_drewN | apply below_drew1) | exact HB.out)⟩


/-! ### pack_TakeWord: function 34 -/
def pack_TakeWord.j0 : Nat → ByteArray → Int → Bool → Option (Int × Int × Int)
  | 0, _, _, _ => none
  | k + 1, x0, x1, x14 => if x14 = true then (some (0, 0, 1)) else (if (wrap64 ((x0.size : Int) - x1)) < 4 then (some (0, 0, 21)) else (if 0 ≤ x1 then (if x1 < (x0.size : Int) then (if 0 ≤ (wrap64 (x1 + 1)) then (if (wrap64 (x1 + 1)) < (x0.size : Int) then (if 0 ≤ (wrap64 (x1 + 2)) then (if (wrap64 (x1 + 2)) < (x0.size : Int) then (if 0 ≤ (wrap64 (x1 + 3)) then (if (wrap64 (x1 + 3)) < (x0.size : Int) then (some (Go.bits .or .u32 (Go.bits .or .u32 (Go.bits .or .u32 ((((bt x0 x1) % 4294967296) * 16777216) % 4294967296) ((((bt x0 (wrap64 (x1 + 1))) % 4294967296) * 65536) % 4294967296)) ((((bt x0 (wrap64 (x1 + 2))) % 4294967296) * 256) % 4294967296)) ((bt x0 (wrap64 (x1 + 3))) % 4294967296), wrap64 (x1 + 4), 0)) else (none)) else (none)) else (none)) else (none)) else (none)) else (none)) else (none)) else (none)))
def pack_TakeWord.f (k : Nat) (a0 : ByteArray) (a1 : Int) : Option (Int × Int × Int) := if a1 < 0 then (pack_TakeWord.j0 k a0 a1 true) else (pack_TakeWord.j0 k a0 a1 (decide (a1 > (a0.size : Int))))
theorem pack_TakeWord.mono_l : ∀ k, (∀ y0 y1 y2, LeO (pack_TakeWord.j0 k y0 y1 y2) (pack_TakeWord.j0 (k + 1) y0 y1 y2))
  | 0 => fun _ _ _ r h => by simp [pack_TakeWord.j0] at h
  | k + 1 => by
    have ih0 := pack_TakeWord.mono_l k
    · intro y0 y1 y2
      unfold pack_TakeWord.j0
      repeat' first
      | (with_reducible exact ih0 _ _ _)
      | (with_reducible exact LeO.refl _)
      | (with_reducible exact LeO.none _)
      | (with_reducible refine LeO.ite ?_ ?_)
      | (with_reducible refine LeO.bind ?_ (fun _ => ?_))
      | exact ih0 _ _ _
      | exact LeO.none _
      | refine LeO.ite ?_ ?_
      | refine LeO.bind ?_ (fun _ => ?_)
theorem pack_TakeWord.mono : ∀ a0 a1 k, LeO (pack_TakeWord.f k a0 a1) (pack_TakeWord.f (k + 1) a0 a1) := by
  intro a0 a1 k
  have ih0 := pack_TakeWord.mono_l k
  unfold pack_TakeWord.f
  repeat' first
      | (with_reducible exact ih0 _ _ _)
      | (with_reducible exact LeO.refl _)
      | (with_reducible exact LeO.none _)
      | (with_reducible refine LeO.ite ?_ ?_)
      | (with_reducible refine LeO.bind ?_ (fun _ => ?_))
      | exact ih0 _ _ _
      | exact LeO.none _
      | refine LeO.ite ?_ ?_
      | refine LeO.bind ?_ (fun _ => ?_)
set_option maxHeartbeats 8000000 in
set_option maxRecDepth 100000 in
theorem pack_TakeWord.calls (k : Nat) (a0 : ByteArray) (a1 : Int) (r1 : Int) (r2 : Int) (r3 : Int) (w : World) (h : pack_TakeWord.f k a0 a1 = some (r1, r2, r3)) :
    Calls Try.prog 34 #[.string a0, .int .i64 a1] w fun e w' => e = .returned (.tuple #[.int .u32 r1, .int .i64 r2, .int .i64 r3]) ∧ Drawn0 w w' := by
  have H : (if a1 < 0 then (pack_TakeWord.j0 k a0 a1 true) else (pack_TakeWord.j0 k a0 a1 (decide (a1 > (a0.size : Int))))) = some (r1, r2, r3) := h
  clear h
  have HC3 := Aside0.mk H
  clear H
  go_enter Try.func34, Try.ntmps34
  go_upto_region 1 with (fail)
  repeat (go_quiet (fail); go_upto_region 1 with (fail))
  go_cut [14] (fun v14 wc => ∃ (kq : Nat) (x14_2 : Bool), v14 = .bool x14_2 ∧ Aside0 (pack_TakeWord.j0 kq a0 a1 x14_2 = some (r1, r2, r3)) ∧ Aside0 (kq ≤ k) ∧ Drawn0 w wc)
  case first =>
    have H := HC3.out
    clear HC3
    by_cases c4 : a1 < 0
    · rw [if_pos c4] at H
      have c4b0 : decide (a1 < 0) = true := decide_eq_true c4
      clear c4
      (first | rw [c4b0] | (simp only [i64_w, i32_w]; rw [c4b0]) | skip)
      have H' := Aside0.mk H
      clear H
      go_wp2
      repeat (go_quiet (fail); try go_wp2)
      go_meet
      case rel => exact ⟨_, (true), (by first | rfl | (simp; done) | (simp [*]; done)), H', ⟨by first | omega | exact Nat.le_refl _⟩, by repeat (first | exact Drawn0.refl _ | apply Drawn0.step)⟩
    · rw [if_neg c4] at H
      have c4b0 : decide (a1 < 0) = false := decide_eq_false c4
      clear c4
      (first | rw [c4b0] | (simp only [i64_w, i32_w]; rw [c4b0]) | skip)
      have H' := Aside0.mk H
      clear H
      go_wp2
      repeat (go_quiet (fail); try go_wp2)
      go_meet
      case rel => exact ⟨_, (decide (a1 > (a0.size : Int))), (by first | rfl | (simp; done) | (simp [*]; done)), H', ⟨by first | omega | exact Nat.le_refl _⟩, by repeat (first | exact Drawn0.refl _ | apply Drawn0.step)⟩
  case rest =>
    clear HC3
    try clear p2
    try clear c3
    try clear c4
    try clear c4b0
    obtain ⟨kq, x14_2, rfl, HA, HJ2, ⟨mc2, rfl⟩⟩ := hcut
    cases kq with
    | zero => exact absurd HA.out (by simp [pack_TakeWord.j0])
    | succ kj2 =>
      have H := HA.out
      clear HA
      simp only [pack_TakeWord.j0] at H
      by_cases c5 : x14_2 = true
      · subst c5
        have H1 : (some (0, 0, 1)) = some (r1, r2, r3) := by rw [if_pos rfl] at H; exact H
        clear H
        have H := H1
        clear H1
        simp only [Option.some.injEq, Prod.mk.injEq] at H
        obtain ⟨rfl, rfl, rfl⟩ := H
        go_wp2
        repeat (go_quiet (fail); try go_wp2)
        go_ret3
        exact ⟨by first | rfl | (simp; done) | (simp [*]; done), by repeat (first | exact Drawn0.refl _ | apply Drawn0.step)⟩
      · replace c5 := Bool.eq_false_iff.mpr c5
        subst c5
        have H1 : (if (wrap64 ((a0.size : Int) - a1)) < 4 then (some (0, 0, 21)) else (if 0 ≤ a1 then (if a1 < (a0.size : Int) then (if 0 ≤ (wrap64 (a1 + 1)) then (if (wrap64 (a1 + 1)) < (a0.size : Int) then (if 0 ≤ (wrap64 (a1 + 2)) then (if (wrap64 (a1 + 2)) < (a0.size : Int) then (if 0 ≤ (wrap64 (a1 + 3)) then (if (wrap64 (a1 + 3)) < (a0.size : Int) then (some (Go.bits .or .u32 (Go.bits .or .u32 (Go.bits .or .u32 ((((bt a0 a1) % 4294967296) * 16777216) % 4294967296) ((((bt a0 (wrap64 (a1 + 1))) % 4294967296) * 65536) % 4294967296)) ((((bt a0 (wrap64 (a1 + 2))) % 4294967296) * 256) % 4294967296)) ((bt a0 (wrap64 (a1 + 3))) % 4294967296), wrap64 (a1 + 4), 0)) else (none)) else (none)) else (none)) else (none)) else (none)) else (none)) else (none)) else (none))) = some (r1, r2, r3) := by rw [if_neg (show ¬ (false = true) by decide)] at H; exact H
        clear H
        have H := H1
        clear H1
        by_cases c6 : (wrap64 ((a0.size : Int) - a1)) < 4
        · rw [if_pos c6] at H
          have c6b0 : decide ((wrap64 ((a0.size : Int) - a1)) < 4) = true := decide_eq_true c6
          clear c6
          simp only [Option.some.injEq, Prod.mk.injEq] at H
          obtain ⟨rfl, rfl, rfl⟩ := H
          go_wp2
          repeat (go_quiet (fail); try go_wp2)
          go_ret3
          exact ⟨by first | rfl | (simp; done) | (simp [*]; done), by repeat (first | exact Drawn0.refl _ | apply Drawn0.step)⟩
        · rw [if_neg c6] at H
          have c6b0 : decide ((wrap64 ((a0.size : Int) - a1)) < 4) = false := decide_eq_false c6
          clear c6
          by_cases c7 : 0 ≤ a1
          · rw [if_pos c7] at H
            have c7b0 : decide (0 ≤ a1) = true := decide_eq_true c7
            clear c7
            by_cases c8 : a1 < (a0.size : Int)
            · rw [if_pos c8] at H
              have c8b0 : decide (a1 < (a0.size : Int)) = true := decide_eq_true c8
              clear c8
              obtain ⟨ji10, hji10⟩ : ∃ j_ : Int, (wrap64 (a1 + 1)) = j_ := ⟨_, rfl⟩
              replace H : (if 0 ≤ (ji10) then (if (ji10) < (a0.size : Int) then (if 0 ≤ (wrap64 (a1 + 2)) then (if (wrap64 (a1 + 2)) < (a0.size : Int) then (if 0 ≤ (wrap64 (a1 + 3)) then (if (wrap64 (a1 + 3)) < (a0.size : Int) then (some (Go.bits .or .u32 (Go.bits .or .u32 (Go.bits .or .u32 ((((bt a0 a1) % 4294967296) * 16777216) % 4294967296) ((((bt a0 (ji10)) % 4294967296) * 65536) % 4294967296)) ((((bt a0 (wrap64 (a1 + 2))) % 4294967296) * 256) % 4294967296)) ((bt a0 (wrap64 (a1 + 3))) % 4294967296), wrap64 (a1 + 4), 0)) else (none)) else (none)) else (none)) else (none)) else (none)) else (none)) = some (r1, r2, r3) := by first | (rw [hji10] at H; exact H) | (simp only [hji10] at H ⊢; exact H)
              have hji10w : (IntKind.i64.wrap (a1 + 1)) = ji10 := (i64_w _).trans hji10
              by_cases c11 : 0 ≤ (ji10)
              · rw [if_pos c11] at H
                have c11b0 : decide (0 ≤ (ji10)) = true := decide_eq_true c11
                clear c11
                by_cases c12 : (ji10) < (a0.size : Int)
                · rw [if_pos c12] at H
                  have c12b0 : decide ((ji10) < (a0.size : Int)) = true := decide_eq_true c12
                  clear c12
                  obtain ⟨ji14, hji14⟩ : ∃ j_ : Int, (wrap64 (a1 + 2)) = j_ := ⟨_, rfl⟩
                  replace H : (if 0 ≤ (ji14) then (if (ji14) < (a0.size : Int) then (if 0 ≤ (wrap64 (a1 + 3)) then (if (wrap64 (a1 + 3)) < (a0.size : Int) then (some (Go.bits .or .u32 (Go.bits .or .u32 (Go.bits .or .u32 ((((bt a0 a1) % 4294967296) * 16777216) % 4294967296) ((((bt a0 (ji10)) % 4294967296) * 65536) % 4294967296)) ((((bt a0 (ji14)) % 4294967296) * 256) % 4294967296)) ((bt a0 (wrap64 (a1 + 3))) % 4294967296), wrap64 (a1 + 4), 0)) else (none)) else (none)) else (none)) else (none)) = some (r1, r2, r3) := by first | (rw [hji14] at H; exact H) | (simp only [hji14] at H ⊢; exact H)
                  have hji14w : (IntKind.i64.wrap (a1 + 2)) = ji14 := (i64_w _).trans hji14
                  by_cases c15 : 0 ≤ (ji14)
                  · rw [if_pos c15] at H
                    have c15b0 : decide (0 ≤ (ji14)) = true := decide_eq_true c15
                    clear c15
                    by_cases c16 : (ji14) < (a0.size : Int)
                    · rw [if_pos c16] at H
                      have c16b0 : decide ((ji14) < (a0.size : Int)) = true := decide_eq_true c16
                      clear c16
                      obtain ⟨ji18, hji18⟩ : ∃ j_ : Int, (wrap64 (a1 + 3)) = j_ := ⟨_, rfl⟩
                      replace H : (if 0 ≤ (ji18) then (if (ji18) < (a0.size : Int) then (some (Go.bits .or .u32 (Go.bits .or .u32 (Go.bits .or .u32 ((((bt a0 a1) % 4294967296) * 16777216) % 4294967296) ((((bt a0 (ji10)) % 4294967296) * 65536) % 4294967296)) ((((bt a0 (ji14)) % 4294967296) * 256) % 4294967296)) ((bt a0 (ji18)) % 4294967296), wrap64 (a1 + 4), 0)) else (none)) else (none)) = some (r1, r2, r3) := by first | (rw [hji18] at H; exact H) | (simp only [hji18] at H ⊢; exact H)
                      have hji18w : (IntKind.i64.wrap (a1 + 3)) = ji18 := (i64_w _).trans hji18
                      by_cases c19 : 0 ≤ (ji18)
                      · rw [if_pos c19] at H
                        have c19b0 : decide (0 ≤ (ji18)) = true := decide_eq_true c19
                        clear c19
                        by_cases c20 : (ji18) < (a0.size : Int)
                        · rw [if_pos c20] at H
                          have c20b0 : decide ((ji18) < (a0.size : Int)) = true := decide_eq_true c20
                          clear c20
                          simp only [Option.some.injEq, Prod.mk.injEq] at H
                          obtain ⟨rfl, rfl, rfl⟩ := H
                          have p9 : 0 ≤ (a1 : Int) := of_decide_eq_true (by first | (with_reducible assumption) | assumption)
                          have q9 : a1 < (a0.size : Int) := of_decide_eq_true (by first | (with_reducible assumption) | assumption)
                          have hx9 := bt_at a0 a1
                          replace p9 := eq_true p9
                          replace q9 := eq_true q9
                          have p13 : 0 ≤ ((ji10) : Int) := of_decide_eq_true (by first | (with_reducible assumption) | assumption)
                          have q13 : (ji10) < (a0.size : Int) := of_decide_eq_true (by first | (with_reducible assumption) | assumption)
                          have hx13 := bt_at a0 (ji10)
                          replace p13 := eq_true p13
                          replace q13 := eq_true q13
                          have p17 : 0 ≤ ((ji14) : Int) := of_decide_eq_true (by first | (with_reducible assumption) | assumption)
                          have q17 : (ji14) < (a0.size : Int) := of_decide_eq_true (by first | (with_reducible assumption) | assumption)
                          have hx17 := bt_at a0 (ji14)
                          replace p17 := eq_true p17
                          replace q17 := eq_true q17
                          have p21 : 0 ≤ ((ji18) : Int) := of_decide_eq_true (by first | (with_reducible assumption) | assumption)
                          have q21 : (ji18) < (a0.size : Int) := of_decide_eq_true (by first | (with_reducible assumption) | assumption)
                          have hx21 := bt_at a0 (ji18)
                          replace p21 := eq_true p21
                          replace q21 := eq_true q21
                          go_wp2
                          repeat (go_quiet (fail); try go_wp2)
                          go_ret3
                          exact ⟨by first | rfl | (simp; done) | (simp only [← hji10, ← hji14, ← hji18] <;> (first | rfl | simp)) | (simp [*]; done), by repeat (first | exact Drawn0.refl _ | apply Drawn0.step)⟩
                        · rw [if_neg c20] at H
                          exact absurd H (by simp)
                      · rw [if_neg c19] at H
                        exact absurd H (by simp)
                    · rw [if_neg c16] at H
                      exact absurd H (by simp)
                  · rw [if_neg c15] at H
                    exact absurd H (by simp)
                · rw [if_neg c12] at H
                  exact absurd H (by simp)
              · rw [if_neg c11] at H
                exact absurd H (by simp)
            · rw [if_neg c8] at H
              exact absurd H (by simp)
          · rw [if_neg c7] at H
            exact absurd H (by simp)

/-! ### oxbowlaw02_PackBack: function 9 -/
mutual
def oxbowlaw02_PackBack.j0 : Nat → List ByteArray → Int → ByteArray → Option (Bool)
  | 0, _, _, _ => none
  | k + 1, x1, x2, x3 => (pack_List.f k x1).bind fun bt180 => (if bt180.2 = 0 then (if x3.size + bt180.1.size ≤ 9223372036854775807 then (if (x3 ++ bt180.1).size + x3.size ≤ 9223372036854775807 then ((pack_TakeList.f k ((x3 ++ bt180.1) ++ x3) (x3.size : Int)).bind fun bt182 => ((oxbowlaw02_same.f k bt182.1 x1).bind fun t187 => (if t187 = true then (if bt182.2.1 = ((x3.size : Int) + (bt180.1.size : Int)) then (oxbowlaw02_PackBack.j1 k x2 x3 (bt182.2.2 != 0)) else (oxbowlaw02_PackBack.j1 k x2 x3 true)) else (oxbowlaw02_PackBack.j1 k x2 x3 true)))) else (none)) else (none)) else ((pack_Word.f x2).bind fun t193 => (if x3.size + t193.size ≤ 9223372036854775807 then (if (x3 ++ t193).size + x3.size ≤ 9223372036854775807 then ((pack_TakeWord.f k ((x3 ++ t193) ++ x3) (x3.size : Int)).bind fun bt194 => ((oxbowlaw02_live.f k).bind fun t197 => (if t197 = true then (if bt194.1 = x2 then (if bt194.2.1 = (wrap64 ((x3.size : Int) + 4)) then (some (bt194.2.2 == 0)) else (some false)) else (some false)) else (some false)))) else (none)) else (none))))
def oxbowlaw02_PackBack.j1 : Nat → Int → ByteArray → Bool → Option (Bool)
  | 0, _, _, _ => none
  | k + 1, x2, x3, x91 => if x91 = true then (some false) else ((pack_Word.f x2).bind fun t188 => (if x3.size + t188.size ≤ 9223372036854775807 then (if (x3 ++ t188).size + x3.size ≤ 9223372036854775807 then ((pack_TakeWord.f k ((x3 ++ t188) ++ x3) (x3.size : Int)).bind fun bt189 => ((oxbowlaw02_live.f k).bind fun t192 => (if t192 = true then (if bt189.1 = x2 then (if bt189.2.1 = (wrap64 ((x3.size : Int) + 4)) then (some (bt189.2.2 == 0)) else (some false)) else (some false)) else (some false)))) else (none)) else (none)))
end
def oxbowlaw02_PackBack.f (k : Nat) (a0 : Int) (l1 : List ByteArray) (a2 : Int) (a3 : ByteArray) : Option (Bool) := (pack_Num.f k a0).bind fun bt175 => (if bt175.2 = 0 then (if a3.size + bt175.1.size ≤ 9223372036854775807 then (if (a3 ++ bt175.1).size + a3.size ≤ 9223372036854775807 then ((pack_TakeNum.f k ((a3 ++ bt175.1) ++ a3) (a3.size : Int)).bind fun bt177 => (if bt177.1 = a0 then (if bt177.2.1 = ((a3.size : Int) + (bt175.1.size : Int)) then (if bt177.2.2 = 0 then (oxbowlaw02_PackBack.j0 k l1 a2 a3) else (some false)) else (some false)) else (some false))) else (none)) else (none)) else (oxbowlaw02_PackBack.j0 k l1 a2 a3))
theorem oxbowlaw02_PackBack.mono_l : ∀ k, (∀ y0 y1 y2, LeO (oxbowlaw02_PackBack.j0 k y0 y1 y2) (oxbowlaw02_PackBack.j0 (k + 1) y0 y1 y2)) ∧ (∀ y0 y1 y2, LeO (oxbowlaw02_PackBack.j1 k y0 y1 y2) (oxbowlaw02_PackBack.j1 (k + 1) y0 y1 y2))
  | 0 => ⟨fun _ _ _ r h => by simp [oxbowlaw02_PackBack.j0] at h, fun _ _ _ r h => by simp [oxbowlaw02_PackBack.j1] at h⟩
  | k + 1 => by
    obtain ⟨ih0, ih1⟩ := oxbowlaw02_PackBack.mono_l k
    refine ⟨?_, ?_⟩
    · intro y0 y1 y2
      unfold oxbowlaw02_PackBack.j0
      repeat' first
      | (with_reducible exact ih0 _ _ _)
      | (with_reducible exact ih1 _ _ _)
      | (with_reducible exact oxbowlaw02_live.mono _)
      | (with_reducible exact oxbowlaw02_same.mono _ _ _)
      | (with_reducible exact pack_List.mono _ _)
      | (with_reducible exact pack_Num.mono _ _)
      | (with_reducible exact pack_TakeList.mono _ _ _)
      | (with_reducible exact pack_TakeNum.mono _ _ _)
      | (with_reducible exact pack_TakeWord.mono _ _ _)
      | (with_reducible exact LeO.refl _)
      | (with_reducible exact LeO.none _)
      | (with_reducible refine LeO.ite ?_ ?_)
      | (with_reducible refine LeO.bind ?_ (fun _ => ?_))
      | exact ih0 _ _ _
      | exact ih1 _ _ _
      | exact oxbowlaw02_live.mono _
      | exact oxbowlaw02_same.mono _ _ _
      | exact pack_List.mono _ _
      | exact pack_Num.mono _ _
      | exact pack_TakeList.mono _ _ _
      | exact pack_TakeNum.mono _ _ _
      | exact pack_TakeWord.mono _ _ _
      | exact LeO.none _
      | refine LeO.ite ?_ ?_
      | refine LeO.bind ?_ (fun _ => ?_)
    · intro y0 y1 y2
      unfold oxbowlaw02_PackBack.j1
      repeat' first
      | (with_reducible exact ih0 _ _ _)
      | (with_reducible exact ih1 _ _ _)
      | (with_reducible exact oxbowlaw02_live.mono _)
      | (with_reducible exact oxbowlaw02_same.mono _ _ _)
      | (with_reducible exact pack_List.mono _ _)
      | (with_reducible exact pack_Num.mono _ _)
      | (with_reducible exact pack_TakeList.mono _ _ _)
      | (with_reducible exact pack_TakeNum.mono _ _ _)
      | (with_reducible exact pack_TakeWord.mono _ _ _)
      | (with_reducible exact LeO.refl _)
      | (with_reducible exact LeO.none _)
      | (with_reducible refine LeO.ite ?_ ?_)
      | (with_reducible refine LeO.bind ?_ (fun _ => ?_))
      | exact ih0 _ _ _
      | exact ih1 _ _ _
      | exact oxbowlaw02_live.mono _
      | exact oxbowlaw02_same.mono _ _ _
      | exact pack_List.mono _ _
      | exact pack_Num.mono _ _
      | exact pack_TakeList.mono _ _ _
      | exact pack_TakeNum.mono _ _ _
      | exact pack_TakeWord.mono _ _ _
      | exact LeO.none _
      | refine LeO.ite ?_ ?_
      | refine LeO.bind ?_ (fun _ => ?_)
theorem oxbowlaw02_PackBack.mono : ∀ a0 a1 a2 a3 k, LeO (oxbowlaw02_PackBack.f k a0 a1 a2 a3) (oxbowlaw02_PackBack.f (k + 1) a0 a1 a2 a3) := by
  intro a0 a1 a2 a3 k
  obtain ⟨ih0, ih1⟩ := oxbowlaw02_PackBack.mono_l k
  unfold oxbowlaw02_PackBack.f
  repeat' first
      | (with_reducible exact ih0 _ _ _)
      | (with_reducible exact ih1 _ _ _)
      | (with_reducible exact oxbowlaw02_live.mono _)
      | (with_reducible exact oxbowlaw02_same.mono _ _ _)
      | (with_reducible exact pack_List.mono _ _)
      | (with_reducible exact pack_Num.mono _ _)
      | (with_reducible exact pack_TakeList.mono _ _ _)
      | (with_reducible exact pack_TakeNum.mono _ _ _)
      | (with_reducible exact pack_TakeWord.mono _ _ _)
      | (with_reducible exact LeO.refl _)
      | (with_reducible exact LeO.none _)
      | (with_reducible refine LeO.ite ?_ ?_)
      | (with_reducible refine LeO.bind ?_ (fun _ => ?_))
      | exact ih0 _ _ _
      | exact ih1 _ _ _
      | exact oxbowlaw02_live.mono _
      | exact oxbowlaw02_same.mono _ _ _
      | exact pack_List.mono _ _
      | exact pack_Num.mono _ _
      | exact pack_TakeList.mono _ _ _
      | exact pack_TakeNum.mono _ _ _
      | exact pack_TakeWord.mono _ _ _
      | exact LeO.none _
      | refine LeO.ite ?_ ?_
      | refine LeO.bind ?_ (fun _ => ?_)
set_option maxHeartbeats 8000000 in
set_option maxRecDepth 100000 in
theorem oxbowlaw02_PackBack.calls (k : Nat) (a0 : Int) (A1 : Option Addr) (c1 : Nat) (l1 : List ByteArray) (a2 : Int) (a3 : ByteArray) (r : Bool) (w : World) (hr1 : Kd.C Kd.string w A1 l1.length l1) (hc1 : l1.length ≤ c1) (h : oxbowlaw02_PackBack.f k a0 l1 a2 a3 = some r) :
    Calls Try.prog 9 #[.int .i64 a0, .slice A1 l1.length c1, .int .u32 a2, .string a3] w fun e w' => e = .returned (.bool r) ∧ Below w.heap.size w w' := by
  have HR1 := Aside0.mk hr1
  have HC1 := Aside0.mk hc1
  clear hr1 hc1
  have HB := Aside0.mk (Below.refl w.heap.size w)
  have H : ((pack_Num.f k a0).bind fun bt175 => (if bt175.2 = 0 then (if a3.size + bt175.1.size ≤ 9223372036854775807 then (if (a3 ++ bt175.1).size + a3.size ≤ 9223372036854775807 then ((pack_TakeNum.f k ((a3 ++ bt175.1) ++ a3) (a3.size : Int)).bind fun bt177 => (if bt177.1 = a0 then (if bt177.2.1 = ((a3.size : Int) + (bt175.1.size : Int)) then (if bt177.2.2 = 0 then (oxbowlaw02_PackBack.j0 k l1 a2 a3) else (some false)) else (some false)) else (some false))) else (none)) else (none)) else (oxbowlaw02_PackBack.j0 k l1 a2 a3))) = some r := h
  clear h
  replace H := Option.bind_eq_some_iff.mp H
  obtain ⟨⟨t175, t176⟩, A50, H⟩ := H
  replace H : (if t176 = 0 then (if a3.size + t175.size ≤ 9223372036854775807 then (if (a3 ++ t175).size + a3.size ≤ 9223372036854775807 then ((pack_TakeNum.f k ((a3 ++ t175) ++ a3) (a3.size : Int)).bind fun bt177 => (if bt177.1 = a0 then (if bt177.2.1 = ((a3.size : Int) + (t175.size : Int)) then (if bt177.2.2 = 0 then (oxbowlaw02_PackBack.j0 k l1 a2 a3) else (some false)) else (some false)) else (some false))) else (none)) else (none)) else (oxbowlaw02_PackBack.j0 k l1 a2 a3)) = some r := H
  have A5 := Aside0.mk A50
  clear A50
  have HC6 := Aside0.mk H
  clear H
  go_enter Try.func9, Try.ntmps9
  go_upto_if 27 with (first | ((with_reducible refine gate_callee (f := 24) rfl ?_); refine goesL_ (some 23) rfl rfl Try.func24 (by kernel_rfl) rfl #[.int .i64 a0] rfl (by (try simp only [List.map_toArray, List.map_cons, List.map_nil]); first | done | rfl | (simp only [List.length_drop, List.length_take]; rfl)) ?_; (with_reducible refine (pack_Num.calls k a0 t175 t176 _ A5.out).mono ?_); rintro e w7 ⟨rfl, hb⟩; refine ⟨_, rfl, ?_⟩; have n0_ := Aside0.mk (below_step (by repeat (first | (with_reducible first | exact HB.out | apply below_alloc | apply pw_below_drewN | apply below_drew1) | exact HB.out)) hb); clear HB; have HB := n0_; clear n0_; (try clear hb); (try clear hb2); (try clear hk); (try clear hi)))
  (try simp only [Act.put, List.setIfInBounds_toArray, List.set_cons_zero, List.set_cons_succ])
  go_cut [] (fun wc => ∃ (kq : Nat), Aside0 (oxbowlaw02_PackBack.j0 kq l1 a2 a3 = some r) ∧ Aside0 (kq ≤ k) ∧ Aside0 (Below w.heap.size w wc))
  case first =>
    have H := HC6.out
    clear HC6
    by_cases c8 : t176 = 0
    · rw [if_pos c8] at H
      have c8b0 : (t176 == 0) = true := beq_iff_eq.mpr c8
      have c8b1 : (t176 != 0) = false := bne_eq_false_iff_eq.mpr c8
      clear c8
      (first | rw [c8b0] | (simp only [i64_w, i32_w]; rw [c8b0]) | skip)
      by_cases c9 : a3.size + t175.size ≤ 9223372036854775807
      · rw [if_pos c9] at H
        have c9b0 := eq_true c9
        have c9b1 : decide (a3.size + t175.size ≤ 9223372036854775807) = true := decide_eq_true c9
        try have c9b2 : (9223372036854775807 < a3.size + t175.size) = False := eq_false (Nat.not_lt.2 c9)
        by_cases c10 : (a3 ++ t175).size + a3.size ≤ 9223372036854775807
        · rw [if_pos c10] at H
          have c10b0 := eq_true c10
          have c10b1 : decide ((a3 ++ t175).size + a3.size ≤ 9223372036854775807) = true := decide_eq_true c10
          try have c10b2 : (9223372036854775807 < (a3 ++ t175).size + a3.size) = False := eq_false (Nat.not_lt.2 c10)
          try (have c10b3 := c10b2; rw [ByteArray.size_append] at c10b3)
          replace H := Option.bind_eq_some_iff.mp H
          obtain ⟨⟨t177, t178, t179⟩, A110, H⟩ := H
          replace H : (if t177 = a0 then (if t178 = ((a3.size : Int) + (t175.size : Int)) then (if t179 = 0 then (oxbowlaw02_PackBack.j0 k l1 a2 a3) else (some false)) else (some false)) else (some false)) = some r := H
          have A11 := Aside0.mk A110
          clear A110
          by_cases c12 : t177 = a0
          · rw [if_pos c12] at H
            have c12b0 : (t177 == a0) = true := beq_iff_eq.mpr c12
            have c12b1 : (t177 != a0) = false := bne_eq_false_iff_eq.mpr c12
            clear c12
            by_cases c13 : t178 = ((a3.size : Int) + (t175.size : Int))
            · rw [if_pos c13] at H
              have c13b0 : (t178 == ((a3.size : Int) + (t175.size : Int))) = true := beq_iff_eq.mpr c13
              have c13b1 : (t178 != ((a3.size : Int) + (t175.size : Int))) = false := bne_eq_false_iff_eq.mpr c13
              clear c13
              by_cases c14 : t179 = 0
              · rw [if_pos c14] at H
                have c14b0 : (t179 == 0) = true := beq_iff_eq.mpr c14
                have c14b1 : (t179 != 0) = false := bne_eq_false_iff_eq.mpr c14
                clear c14
                have H' := Aside0.mk H
                clear H
                go_wp2_with (first | ((with_reducible refine gate_callee (f := 32) rfl ?_); refine goesL_ (some 36) rfl rfl Try.func32 (by kernel_rfl) rfl #[.string ((a3 ++ t175) ++ a3), .int .i64 (a3.size : Int)] rfl (by (try simp only [List.map_toArray, List.map_cons, List.map_nil]); first | done | rfl | (simp only [List.length_drop, List.length_take]; rfl)) ?_; (with_reducible refine (pack_TakeNum.calls k ((a3 ++ t175) ++ a3) (a3.size : Int) t177 t178 t179 _ A11.out).mono ?_); rintro e w' ⟨rfl, ⟨nd, rfl⟩⟩; refine ⟨_, rfl, ?_⟩))
                go_meet
                case rel => exact ⟨_, H', ⟨by first | omega | exact Nat.le_refl _⟩, ⟨by repeat (first | (with_reducible first | exact HB.out | apply below_alloc | apply pw_below_drewN | apply below_drew1) | exact HB.out)⟩⟩
              · rw [if_neg c14] at H
                have c14b0 : (t179 == 0) = false := beq_eq_false_iff_ne.mpr c14
                have c14b1 : (t179 != 0) = true := bne_iff_ne.mpr c14
                obtain rfl := Option.some.inj H
                go_wp2_with (first | ((with_reducible refine gate_callee (f := 32) rfl ?_); refine goesL_ (some 36) rfl rfl Try.func32 (by kernel_rfl) rfl #[.string ((a3 ++ t175) ++ a3), .int .i64 (a3.size : Int)] rfl (by (try simp only [List.map_toArray, List.map_cons, List.map_nil]); first | done | rfl | (simp only [List.length_drop, List.length_take]; rfl)) ?_; (with_reducible refine (pack_TakeNum.calls k ((a3 ++ t175) ++ a3) (a3.size : Int) t177 t178 t179 _ A11.out).mono ?_); rintro e w' ⟨rfl, ⟨nd, rfl⟩⟩; refine ⟨_, rfl, ?_⟩))
                go_ret
                exact ⟨by first | rfl | (simp [errW_none, errW_some] <;> rfl) | (simp [*, errW_none, errW_some] <;> rfl), by repeat (first | (with_reducible first | exact HB.out | apply below_alloc | apply pw_below_drewN | apply below_drew1) | exact HB.out)⟩
            · rw [if_neg c13] at H
              have c13b0 : (t178 == ((a3.size : Int) + (t175.size : Int))) = false := beq_eq_false_iff_ne.mpr c13
              have c13b1 : (t178 != ((a3.size : Int) + (t175.size : Int))) = true := bne_iff_ne.mpr c13
              obtain rfl := Option.some.inj H
              go_wp2_with (first | ((with_reducible refine gate_callee (f := 32) rfl ?_); refine goesL_ (some 36) rfl rfl Try.func32 (by kernel_rfl) rfl #[.string ((a3 ++ t175) ++ a3), .int .i64 (a3.size : Int)] rfl (by (try simp only [List.map_toArray, List.map_cons, List.map_nil]); first | done | rfl | (simp only [List.length_drop, List.length_take]; rfl)) ?_; (with_reducible refine (pack_TakeNum.calls k ((a3 ++ t175) ++ a3) (a3.size : Int) t177 t178 t179 _ A11.out).mono ?_); rintro e w' ⟨rfl, ⟨nd, rfl⟩⟩; refine ⟨_, rfl, ?_⟩))
              go_ret
              exact ⟨by first | rfl | (simp [errW_none, errW_some] <;> rfl) | (simp [*, errW_none, errW_some] <;> rfl), by repeat (first | (with_reducible first | exact HB.out | apply below_alloc | apply pw_below_drewN | apply below_drew1) | exact HB.out)⟩
          · rw [if_neg c12] at H
            have c12b0 : (t177 == a0) = false := beq_eq_false_iff_ne.mpr c12
            have c12b1 : (t177 != a0) = true := bne_iff_ne.mpr c12
            obtain rfl := Option.some.inj H
            go_wp2_with (first | ((with_reducible refine gate_callee (f := 32) rfl ?_); refine goesL_ (some 36) rfl rfl Try.func32 (by kernel_rfl) rfl #[.string ((a3 ++ t175) ++ a3), .int .i64 (a3.size : Int)] rfl (by (try simp only [List.map_toArray, List.map_cons, List.map_nil]); first | done | rfl | (simp only [List.length_drop, List.length_take]; rfl)) ?_; (with_reducible refine (pack_TakeNum.calls k ((a3 ++ t175) ++ a3) (a3.size : Int) t177 t178 t179 _ A11.out).mono ?_); rintro e w' ⟨rfl, ⟨nd, rfl⟩⟩; refine ⟨_, rfl, ?_⟩))
            go_ret
            exact ⟨by first | rfl | (simp [errW_none, errW_some] <;> rfl) | (simp [*, errW_none, errW_some] <;> rfl), by repeat (first | (with_reducible first | exact HB.out | apply below_alloc | apply pw_below_drewN | apply below_drew1) | exact HB.out)⟩
        · rw [if_neg c10] at H
          exact absurd H (by simp)
      · rw [if_neg c9] at H
        exact absurd H (by simp)
    · rw [if_neg c8] at H
      have c8b0 : (t176 == 0) = false := beq_eq_false_iff_ne.mpr c8
      have c8b1 : (t176 != 0) = true := bne_iff_ne.mpr c8
      (first | rw [c8b0] | (simp only [i64_w, i32_w]; rw [c8b0]) | skip)
      have H' := Aside0.mk H
      clear H
      go_wp2
      go_meet
      case rel => exact ⟨_, H', ⟨by first | omega | exact Nat.le_refl _⟩, ⟨by repeat (first | (with_reducible first | exact HB.out | apply below_alloc | apply pw_below_drewN | apply below_drew1) | exact HB.out)⟩⟩
  case rest =>
    clear HC6
    try clear c1
    try clear c2
    try clear p2
    try clear c3
    try clear c8
    try clear c8b0
    try clear c8b1
    try clear c9
    try clear c9b0
    try clear c9b1
    try clear c9b2
    try clear c10
    try clear c10b0
    try clear c10b1
    try clear c10b2
    try clear c12
    try clear c12b0
    try clear c12b1
    try clear c13
    try clear c13b0
    try clear c13b1
    try clear c14
    try clear c14b0
    try clear c14b1
    obtain ⟨kq, HA, HJ5, HB⟩ := hcut
    cases kq with
    | zero => exact absurd HA.out (by simp [oxbowlaw02_PackBack.j0])
    | succ kj5 =>
      have H := HA.out
      clear HA
      simp only [oxbowlaw02_PackBack.j0] at H
      replace H := Option.bind_eq_some_iff.mp H
      obtain ⟨⟨t180, t181⟩, A150, H⟩ := H
      replace H : (if t181 = 0 then (if a3.size + t180.size ≤ 9223372036854775807 then (if (a3 ++ t180).size + a3.size ≤ 9223372036854775807 then ((pack_TakeList.f kj5 ((a3 ++ t180) ++ a3) (a3.size : Int)).bind fun bt182 => ((oxbowlaw02_same.f kj5 bt182.1 l1).bind fun t187 => (if t187 = true then (if bt182.2.1 = ((a3.size : Int) + (t180.size : Int)) then (oxbowlaw02_PackBack.j1 kj5 a2 a3 (bt182.2.2 != 0)) else (oxbowlaw02_PackBack.j1 kj5 a2 a3 true)) else (oxbowlaw02_PackBack.j1 kj5 a2 a3 true)))) else (none)) else (none)) else ((pack_Word.f a2).bind fun t193 => (if a3.size + t193.size ≤ 9223372036854775807 then (if (a3 ++ t193).size + a3.size ≤ 9223372036854775807 then ((pack_TakeWord.f kj5 ((a3 ++ t193) ++ a3) (a3.size : Int)).bind fun bt194 => ((oxbowlaw02_live.f kj5).bind fun t197 => (if t197 = true then (if bt194.1 = a2 then (if bt194.2.1 = (wrap64 ((a3.size : Int) + 4)) then (some (bt194.2.2 == 0)) else (some false)) else (some false)) else (some false)))) else (none)) else (none)))) = some r := H
      have A15 := Aside0.mk A150
      clear A150
      by_cases c16 : t181 = 0
      · rw [if_pos c16] at H
        have c16b0 : (t181 == 0) = true := beq_iff_eq.mpr c16
        have c16b1 : (t181 != 0) = false := bne_eq_false_iff_eq.mpr c16
        clear c16
        by_cases c17 : a3.size + t180.size ≤ 9223372036854775807
        · rw [if_pos c17] at H
          have c17b0 := eq_true c17
          have c17b1 : decide (a3.size + t180.size ≤ 9223372036854775807) = true := decide_eq_true c17
          try have c17b2 : (9223372036854775807 < a3.size + t180.size) = False := eq_false (Nat.not_lt.2 c17)
          by_cases c18 : (a3 ++ t180).size + a3.size ≤ 9223372036854775807
          · rw [if_pos c18] at H
            have c18b0 := eq_true c18
            have c18b1 : decide ((a3 ++ t180).size + a3.size ≤ 9223372036854775807) = true := decide_eq_true c18
            try have c18b2 : (9223372036854775807 < (a3 ++ t180).size + a3.size) = False := eq_false (Nat.not_lt.2 c18)
            try (have c18b3 := c18b2; rw [ByteArray.size_append] at c18b3)
            replace H := Option.bind_eq_some_iff.mp H
            obtain ⟨⟨t182, t183, t184⟩, A190, H⟩ := H
            replace H : ((oxbowlaw02_same.f kj5 t182 l1).bind fun t187 => (if t187 = true then (if t183 = ((a3.size : Int) + (t180.size : Int)) then (oxbowlaw02_PackBack.j1 kj5 a2 a3 (t184 != 0)) else (oxbowlaw02_PackBack.j1 kj5 a2 a3 true)) else (oxbowlaw02_PackBack.j1 kj5 a2 a3 true))) = some r := H
            have A19 := Aside0.mk A190
            clear A190
            have HC20 := Aside0.mk H
            clear H
            go_upto_region 9 with (first | ((with_reducible refine gate_callee (f := 28) rfl ?_); refine goesL_ (some 58) rfl rfl Try.func28 (by kernel_rfl) rfl #[.slice A1 l1.length c1] rfl (by (try simp only [List.map_toArray, List.map_cons, List.map_nil]); first | done | rfl | (simp only [List.length_drop, List.length_take]; rfl)) ?_; (with_reducible refine (pack_List.calls kj5 _ _ l1 t180 t181 _ ?side1 ?side2 A15.out).mono ?_); (case side1 => repeat (first | exact (Kd.C_below HR1.out HB.out) | (with_reducible refine Kd.C_alloc ?_ _) | (with_reducible refine Kd.C_drewN ?_ _) | (with_reducible refine Kd.C_drew ?_))); (case side2 => exact HC1.out); rintro e w21 ⟨rfl, hb⟩; refine ⟨_, rfl, ?_⟩; have n0_ := Aside0.mk (below_step (by repeat (first | (with_reducible first | exact HB.out | apply below_alloc | apply pw_below_drewN | apply below_drew1) | exact HB.out)) hb); clear HB; have HB := n0_; clear n0_; (try clear hb); (try clear hb2); (try clear hk); (try clear hi)) | ((with_reducible refine gate_callee (f := 33) rfl ?_); refine goesL_ (some 71) rfl rfl Try.func33 (by kernel_rfl) rfl #[.string ((a3 ++ t180) ++ a3), .int .i64 (a3.size : Int)] rfl (by (try simp only [List.map_toArray, List.map_cons, List.map_nil]); first | done | rfl | (simp only [List.length_drop, List.length_take]; rfl)) ?_; (with_reducible refine (pack_TakeList.calls kj5 ((a3 ++ t180) ++ a3) (a3.size : Int) t182 t183 t184 _ A19.out).mono ?_); rintro e w22 ⟨v185, rfl, ho0, hb⟩; refine ⟨_, rfl, ?_⟩; have n0_ := Aside0.mk (Kd.R_lower ho0 (below_size (by repeat (first | (with_reducible first | exact HB.out | apply below_alloc | apply pw_below_drewN | apply below_drew1) | exact HB.out)))); have n1_ := Aside0.mk (below_step (by repeat (first | (with_reducible first | exact HB.out | apply below_alloc | apply pw_below_drewN | apply below_drew1) | exact HB.out)) hb); clear HB; have HO186 := n0_; have HB := n1_; clear n0_ n1_; (try clear hb); (try clear hb2); (try clear hk); (try clear hi); (try clear ho0)))
            (try simp only [Act.put, List.setIfInBounds_toArray, List.set_cons_zero, List.set_cons_succ])
            go_cut [91] (fun v91 wc => ∃ (kq : Nat) (x91_19 : Bool), v91 = .bool x91_19 ∧ Aside0 (oxbowlaw02_PackBack.j1 kq a2 a3 x91_19 = some r) ∧ Aside0 (kq ≤ kj5) ∧ Aside0 (Below w.heap.size w wc))
            case first =>
              have H := HC20.out
              clear HC20
              replace H := Option.bind_eq_some_iff.mp H
              obtain ⟨t187, A230, H⟩ := H
              replace H : (if t187 = true then (if t183 = ((a3.size : Int) + (t180.size : Int)) then (oxbowlaw02_PackBack.j1 kj5 a2 a3 (t184 != 0)) else (oxbowlaw02_PackBack.j1 kj5 a2 a3 true)) else (oxbowlaw02_PackBack.j1 kj5 a2 a3 true)) = some r := H
              have A23 := Aside0.mk A230
              clear A230
              by_cases c24 : t187 = true
              · subst c24
                have H1 : (if t183 = ((a3.size : Int) + (t180.size : Int)) then (oxbowlaw02_PackBack.j1 kj5 a2 a3 (t184 != 0)) else (oxbowlaw02_PackBack.j1 kj5 a2 a3 true)) = some r := by rw [if_pos rfl] at H; exact H
                clear H
                have H := H1
                clear H1
                by_cases c25 : t183 = ((a3.size : Int) + (t180.size : Int))
                · rw [if_pos c25] at H
                  have c25b0 : (t183 == ((a3.size : Int) + (t180.size : Int))) = true := beq_iff_eq.mpr c25
                  have c25b1 : (t183 != ((a3.size : Int) + (t180.size : Int))) = false := bne_eq_false_iff_eq.mpr c25
                  clear c25
                  (first | rw [c25b0] | (simp only [i64_w, i32_w]; rw [c25b0]) | skip)
                  have H' := Aside0.mk H
                  clear H
                  obtain ⟨Ao26, co26, eo26⟩ := Kd.R_slice HO186.out
                  subst eo26
                  go_wp2_with (first | ((with_reducible refine gate_callee (f := 30) rfl ?_); refine goesL_ (some 77) rfl rfl Try.func30 (by kernel_rfl) rfl #[.slice Ao26 t182.length co26, .slice A1 l1.length c1] rfl (by (try simp only [List.map_toArray, List.map_cons, List.map_nil]); first | done | rfl | (simp only [List.length_drop, List.length_take]; rfl)) ?_; (with_reducible refine (oxbowlaw02_same.calls kj5 _ _ t182 _ _ l1 true _ ?side1 ?side2 ?side3 ?side4 A23.out).mono ?_); (case side1 => repeat (first | exact (Kd.R_reads' HO186.out).2.2 | (with_reducible refine Kd.C_alloc ?_ _) | (with_reducible refine Kd.C_drewN ?_ _) | (with_reducible refine Kd.C_drew ?_))); (case side2 => exact (Kd.R_reads' HO186.out).2.1); (case side3 => repeat (first | exact (Kd.C_below HR1.out HB.out) | (with_reducible refine Kd.C_alloc ?_ _) | (with_reducible refine Kd.C_drewN ?_ _) | (with_reducible refine Kd.C_drew ?_))); (case side4 => exact HC1.out); rintro e w' ⟨rfl, ⟨nd, rfl⟩⟩; refine ⟨_, rfl, ?_⟩))
                  go_meet
                  case rel => exact ⟨_, ((t184 != 0)), (by first | rfl | (simp; done) | (simp [*]; done)), H', ⟨by have := HJ5.out; first | omega | exact Nat.le_refl _⟩, ⟨by repeat (first | (with_reducible first | exact HB.out | apply below_alloc | apply pw_below_drewN | apply below_drew1) | exact HB.out)⟩⟩
                · rw [if_neg c25] at H
                  have c25b0 : (t183 == ((a3.size : Int) + (t180.size : Int))) = false := beq_eq_false_iff_ne.mpr c25
                  have c25b1 : (t183 != ((a3.size : Int) + (t180.size : Int))) = true := bne_iff_ne.mpr c25
                  (first | rw [c25b0] | (simp only [i64_w, i32_w]; rw [c25b0]) | skip)
                  have H' := Aside0.mk H
                  clear H
                  obtain ⟨Ao27, co27, eo27⟩ := Kd.R_slice HO186.out
                  subst eo27
                  go_wp2_with (first | ((with_reducible refine gate_callee (f := 30) rfl ?_); refine goesL_ (some 77) rfl rfl Try.func30 (by kernel_rfl) rfl #[.slice Ao27 t182.length co27, .slice A1 l1.length c1] rfl (by (try simp only [List.map_toArray, List.map_cons, List.map_nil]); first | done | rfl | (simp only [List.length_drop, List.length_take]; rfl)) ?_; (with_reducible refine (oxbowlaw02_same.calls kj5 _ _ t182 _ _ l1 true _ ?side1 ?side2 ?side3 ?side4 A23.out).mono ?_); (case side1 => repeat (first | exact (Kd.R_reads' HO186.out).2.2 | (with_reducible refine Kd.C_alloc ?_ _) | (with_reducible refine Kd.C_drewN ?_ _) | (with_reducible refine Kd.C_drew ?_))); (case side2 => exact (Kd.R_reads' HO186.out).2.1); (case side3 => repeat (first | exact (Kd.C_below HR1.out HB.out) | (with_reducible refine Kd.C_alloc ?_ _) | (with_reducible refine Kd.C_drewN ?_ _) | (with_reducible refine Kd.C_drew ?_))); (case side4 => exact HC1.out); rintro e w' ⟨rfl, ⟨nd, rfl⟩⟩; refine ⟨_, rfl, ?_⟩))
                  go_meet
                  case rel => exact ⟨_, (true), (by first | rfl | (simp; done) | (simp [*]; done)), H', ⟨by have := HJ5.out; first | omega | exact Nat.le_refl _⟩, ⟨by repeat (first | (with_reducible first | exact HB.out | apply below_alloc | apply pw_below_drewN | apply below_drew1) | exact HB.out)⟩⟩
              · replace c24 := Bool.eq_false_iff.mpr c24
                subst c24
                have H1 : (oxbowlaw02_PackBack.j1 kj5 a2 a3 true) = some r := by rw [if_neg (show ¬ (false = true) by decide)] at H; exact H
                clear H
                have H := H1
                clear H1
                have H' := Aside0.mk H
                clear H
                obtain ⟨Ao28, co28, eo28⟩ := Kd.R_slice HO186.out
                subst eo28
                go_wp2_with (first | ((with_reducible refine gate_callee (f := 30) rfl ?_); refine goesL_ (some 77) rfl rfl Try.func30 (by kernel_rfl) rfl #[.slice Ao28 t182.length co28, .slice A1 l1.length c1] rfl (by (try simp only [List.map_toArray, List.map_cons, List.map_nil]); first | done | rfl | (simp only [List.length_drop, List.length_take]; rfl)) ?_; (with_reducible refine (oxbowlaw02_same.calls kj5 _ _ t182 _ _ l1 false _ ?side1 ?side2 ?side3 ?side4 A23.out).mono ?_); (case side1 => repeat (first | exact (Kd.R_reads' HO186.out).2.2 | (with_reducible refine Kd.C_alloc ?_ _) | (with_reducible refine Kd.C_drewN ?_ _) | (with_reducible refine Kd.C_drew ?_))); (case side2 => exact (Kd.R_reads' HO186.out).2.1); (case side3 => repeat (first | exact (Kd.C_below HR1.out HB.out) | (with_reducible refine Kd.C_alloc ?_ _) | (with_reducible refine Kd.C_drewN ?_ _) | (with_reducible refine Kd.C_drew ?_))); (case side4 => exact HC1.out); rintro e w' ⟨rfl, ⟨nd, rfl⟩⟩; refine ⟨_, rfl, ?_⟩))
                go_meet
                case rel => exact ⟨_, (true), (by first | rfl | (simp; done) | (simp [*]; done)), H', ⟨by have := HJ5.out; first | omega | exact Nat.le_refl _⟩, ⟨by repeat (first | (with_reducible first | exact HB.out | apply below_alloc | apply pw_below_drewN | apply below_drew1) | exact HB.out)⟩⟩
            case rest =>
              clear HC20
              try clear c1
              try clear c2
              try clear p2
              try clear c3
              try clear p6
              try clear c8
              try clear c8b0
              try clear c8b1
              try clear c9
              try clear c9b0
              try clear c9b1
              try clear c9b2
              try clear c10
              try clear c10b0
              try clear c10b1
              try clear c10b2
              try clear c12
              try clear c12b0
              try clear c12b1
              try clear c13
              try clear c13b0
              try clear c13b1
              try clear c14
              try clear c14b0
              try clear c14b1
              try clear c16
              try clear c16b0
              try clear c16b1
              try clear c17
              try clear c17b0
              try clear c17b1
              try clear c17b2
              try clear c18
              try clear c18b0
              try clear c18b1
              try clear c18b2
              try clear c24
              try clear c25
              try clear c25b0
              try clear c25b1
              try clear c28
              try clear p2
              obtain ⟨kq, x91_19, rfl, HA, HJ19, HB⟩ := hcut
              cases kq with
              | zero => exact absurd HA.out (by simp [oxbowlaw02_PackBack.j1])
              | succ kj19 =>
                have H := HA.out
                clear HA
                simp only [oxbowlaw02_PackBack.j1] at H
                by_cases c29 : x91_19 = true
                · subst c29
                  have H1 : (some false) = some r := by rw [if_pos rfl] at H; exact H
                  clear H
                  have H := H1
                  clear H1
                  obtain rfl := Option.some.inj H
                  go_wp2
                  go_ret
                  exact ⟨by first | rfl | (simp [errW_none, errW_some] <;> rfl) | (simp [*, errW_none, errW_some] <;> rfl), by repeat (first | (with_reducible first | exact HB.out | apply below_alloc | apply pw_below_drewN | apply below_drew1) | exact HB.out)⟩
                · replace c29 := Bool.eq_false_iff.mpr c29
                  subst c29
                  have H1 : ((pack_Word.f a2).bind fun t188 => (if a3.size + t188.size ≤ 9223372036854775807 then (if (a3 ++ t188).size + a3.size ≤ 9223372036854775807 then ((pack_TakeWord.f kj19 ((a3 ++ t188) ++ a3) (a3.size : Int)).bind fun bt189 => ((oxbowlaw02_live.f kj19).bind fun t192 => (if t192 = true then (if bt189.1 = a2 then (if bt189.2.1 = (wrap64 ((a3.size : Int) + 4)) then (some (bt189.2.2 == 0)) else (some false)) else (some false)) else (some false)))) else (none)) else (none))) = some r := by rw [if_neg (show ¬ (false = true) by decide)] at H; exact H
                  clear H
                  have H := H1
                  clear H1
                  replace H := Option.bind_eq_some_iff.mp H
                  obtain ⟨t188, A300, H⟩ := H
                  replace H : (if a3.size + t188.size ≤ 9223372036854775807 then (if (a3 ++ t188).size + a3.size ≤ 9223372036854775807 then ((pack_TakeWord.f kj19 ((a3 ++ t188) ++ a3) (a3.size : Int)).bind fun bt189 => ((oxbowlaw02_live.f kj19).bind fun t192 => (if t192 = true then (if bt189.1 = a2 then (if bt189.2.1 = (wrap64 ((a3.size : Int) + 4)) then (some (bt189.2.2 == 0)) else (some false)) else (some false)) else (some false)))) else (none)) else (none)) = some r := H
                  have A30 := Aside0.mk A300
                  clear A300
                  by_cases c31 : a3.size + t188.size ≤ 9223372036854775807
                  · rw [if_pos c31] at H
                    have c31b0 := eq_true c31
                    have c31b1 : decide (a3.size + t188.size ≤ 9223372036854775807) = true := decide_eq_true c31
                    try have c31b2 : (9223372036854775807 < a3.size + t188.size) = False := eq_false (Nat.not_lt.2 c31)
                    by_cases c32 : (a3 ++ t188).size + a3.size ≤ 9223372036854775807
                    · rw [if_pos c32] at H
                      have c32b0 := eq_true c32
                      have c32b1 : decide ((a3 ++ t188).size + a3.size ≤ 9223372036854775807) = true := decide_eq_true c32
                      try have c32b2 : (9223372036854775807 < (a3 ++ t188).size + a3.size) = False := eq_false (Nat.not_lt.2 c32)
                      try (have c32b3 := c32b2; rw [ByteArray.size_append] at c32b3)
                      replace H := Option.bind_eq_some_iff.mp H
                      obtain ⟨⟨t189, t190, t191⟩, A330, H⟩ := H
                      replace H : ((oxbowlaw02_live.f kj19).bind fun t192 => (if t192 = true then (if t189 = a2 then (if t190 = (wrap64 ((a3.size : Int) + 4)) then (some (t191 == 0)) else (some false)) else (some false)) else (some false))) = some r := H
                      have A33 := Aside0.mk A330
                      clear A330
                      replace H := Option.bind_eq_some_iff.mp H
                      obtain ⟨t192, A340, H⟩ := H
                      replace H : (if t192 = true then (if t189 = a2 then (if t190 = (wrap64 ((a3.size : Int) + 4)) then (some (t191 == 0)) else (some false)) else (some false)) else (some false)) = some r := H
                      have A34 := Aside0.mk A340
                      clear A340
                      by_cases c35 : t192 = true
                      · subst c35
                        have H1 : (if t189 = a2 then (if t190 = (wrap64 ((a3.size : Int) + 4)) then (some (t191 == 0)) else (some false)) else (some false)) = some r := by rw [if_pos rfl] at H; exact H
                        clear H
                        have H := H1
                        clear H1
                        by_cases c36 : t189 = a2
                        · rw [if_pos c36] at H
                          have c36b0 : (t189 == a2) = true := beq_iff_eq.mpr c36
                          have c36b1 : (t189 != a2) = false := bne_eq_false_iff_eq.mpr c36
                          clear c36
                          by_cases c37 : t190 = (wrap64 ((a3.size : Int) + 4))
                          · rw [if_pos c37] at H
                            have c37b0 : (t190 == (wrap64 ((a3.size : Int) + 4))) = true := beq_iff_eq.mpr c37
                            have c37b1 : (t190 != (wrap64 ((a3.size : Int) + 4))) = false := bne_eq_false_iff_eq.mpr c37
                            clear c37
                            obtain rfl := Option.some.inj H
                            go_wp2_with (first | ((with_reducible refine gate_callee (f := 23) rfl ?_); refine goesL_ (some 95) rfl rfl Try.func23 (by kernel_rfl) rfl #[.int .u32 a2] rfl (by (try simp only [List.map_toArray, List.map_cons, List.map_nil]); first | done | rfl | (simp only [List.length_drop, List.length_take]; rfl)) ?_; (with_reducible refine (pack_Word.calls a2 t188 _ A30.out).mono ?_); rintro e w38 ⟨rfl, hb⟩; refine ⟨_, rfl, ?_⟩; have n0_ := Aside0.mk (below_step (by repeat (first | (with_reducible first | exact HB.out | apply below_alloc | apply pw_below_drewN | apply below_drew1) | exact HB.out)) hb); clear HB; have HB := n0_; clear n0_; (try clear hb); (try clear hb2); (try clear hk); (try clear hi)) | ((with_reducible refine gate_callee (f := 34) rfl ?_); refine goesL_ (some 101) rfl rfl Try.func34 (by kernel_rfl) rfl #[.string ((a3 ++ t188) ++ a3), .int .i64 (a3.size : Int)] rfl (by (try simp only [List.map_toArray, List.map_cons, List.map_nil]); first | done | rfl | (simp only [List.length_drop, List.length_take]; rfl)) ?_; (with_reducible refine (pack_TakeWord.calls kj19 ((a3 ++ t188) ++ a3) (a3.size : Int) t189 t190 t191 _ A33.out).mono ?_); rintro e w' ⟨rfl, ⟨nd, rfl⟩⟩; refine ⟨_, rfl, ?_⟩) | ((with_reducible refine gate_callee (f := 22) rfl ?_); refine goesL_ (some 105) rfl rfl Try.func22 (by kernel_rfl) rfl #[] rfl (by (try simp only [List.map_toArray, List.map_cons, List.map_nil]); first | done | rfl | (simp only [List.length_drop, List.length_take]; rfl)) ?_; (with_reducible refine (oxbowlaw02_live.calls kj19  true _ A34.out).mono ?_); rintro e w39 ⟨rfl, hb⟩; refine ⟨_, rfl, ?_⟩; have n0_ := Aside0.mk (below_step (by repeat (first | (with_reducible first | exact HB.out | apply below_alloc | apply pw_below_drewN | apply below_drew1) | exact HB.out)) hb); clear HB; have HB := n0_; clear n0_; (try clear hb); (try clear hb2); (try clear hk); (try clear hi)))
                            go_ret
                            exact ⟨by first | rfl | (simp [errW_none, errW_some] <;> rfl) | (simp [*, errW_none, errW_some] <;> rfl), by repeat (first | (with_reducible first | exact HB.out | apply below_alloc | apply pw_below_drewN | apply below_drew1) | exact HB.out)⟩
                          · rw [if_neg c37] at H
                            have c37b0 : (t190 == (wrap64 ((a3.size : Int) + 4))) = false := beq_eq_false_iff_ne.mpr c37
                            have c37b1 : (t190 != (wrap64 ((a3.size : Int) + 4))) = true := bne_iff_ne.mpr c37
                            obtain rfl := Option.some.inj H
                            go_wp2_with (first | ((with_reducible refine gate_callee (f := 23) rfl ?_); refine goesL_ (some 95) rfl rfl Try.func23 (by kernel_rfl) rfl #[.int .u32 a2] rfl (by (try simp only [List.map_toArray, List.map_cons, List.map_nil]); first | done | rfl | (simp only [List.length_drop, List.length_take]; rfl)) ?_; (with_reducible refine (pack_Word.calls a2 t188 _ A30.out).mono ?_); rintro e w40 ⟨rfl, hb⟩; refine ⟨_, rfl, ?_⟩; have n0_ := Aside0.mk (below_step (by repeat (first | (with_reducible first | exact HB.out | apply below_alloc | apply pw_below_drewN | apply below_drew1) | exact HB.out)) hb); clear HB; have HB := n0_; clear n0_; (try clear hb); (try clear hb2); (try clear hk); (try clear hi)) | ((with_reducible refine gate_callee (f := 34) rfl ?_); refine goesL_ (some 101) rfl rfl Try.func34 (by kernel_rfl) rfl #[.string ((a3 ++ t188) ++ a3), .int .i64 (a3.size : Int)] rfl (by (try simp only [List.map_toArray, List.map_cons, List.map_nil]); first | done | rfl | (simp only [List.length_drop, List.length_take]; rfl)) ?_; (with_reducible refine (pack_TakeWord.calls kj19 ((a3 ++ t188) ++ a3) (a3.size : Int) t189 t190 t191 _ A33.out).mono ?_); rintro e w' ⟨rfl, ⟨nd, rfl⟩⟩; refine ⟨_, rfl, ?_⟩) | ((with_reducible refine gate_callee (f := 22) rfl ?_); refine goesL_ (some 105) rfl rfl Try.func22 (by kernel_rfl) rfl #[] rfl (by (try simp only [List.map_toArray, List.map_cons, List.map_nil]); first | done | rfl | (simp only [List.length_drop, List.length_take]; rfl)) ?_; (with_reducible refine (oxbowlaw02_live.calls kj19  true _ A34.out).mono ?_); rintro e w41 ⟨rfl, hb⟩; refine ⟨_, rfl, ?_⟩; have n0_ := Aside0.mk (below_step (by repeat (first | (with_reducible first | exact HB.out | apply below_alloc | apply pw_below_drewN | apply below_drew1) | exact HB.out)) hb); clear HB; have HB := n0_; clear n0_; (try clear hb); (try clear hb2); (try clear hk); (try clear hi)))
                            go_ret
                            exact ⟨by first | rfl | (simp [errW_none, errW_some] <;> rfl) | (simp [*, errW_none, errW_some] <;> rfl), by repeat (first | (with_reducible first | exact HB.out | apply below_alloc | apply pw_below_drewN | apply below_drew1) | exact HB.out)⟩
                        · rw [if_neg c36] at H
                          have c36b0 : (t189 == a2) = false := beq_eq_false_iff_ne.mpr c36
                          have c36b1 : (t189 != a2) = true := bne_iff_ne.mpr c36
                          obtain rfl := Option.some.inj H
                          go_wp2_with (first | ((with_reducible refine gate_callee (f := 23) rfl ?_); refine goesL_ (some 95) rfl rfl Try.func23 (by kernel_rfl) rfl #[.int .u32 a2] rfl (by (try simp only [List.map_toArray, List.map_cons, List.map_nil]); first | done | rfl | (simp only [List.length_drop, List.length_take]; rfl)) ?_; (with_reducible refine (pack_Word.calls a2 t188 _ A30.out).mono ?_); rintro e w42 ⟨rfl, hb⟩; refine ⟨_, rfl, ?_⟩; have n0_ := Aside0.mk (below_step (by repeat (first | (with_reducible first | exact HB.out | apply below_alloc | apply pw_below_drewN | apply below_drew1) | exact HB.out)) hb); clear HB; have HB := n0_; clear n0_; (try clear hb); (try clear hb2); (try clear hk); (try clear hi)) | ((with_reducible refine gate_callee (f := 34) rfl ?_); refine goesL_ (some 101) rfl rfl Try.func34 (by kernel_rfl) rfl #[.string ((a3 ++ t188) ++ a3), .int .i64 (a3.size : Int)] rfl (by (try simp only [List.map_toArray, List.map_cons, List.map_nil]); first | done | rfl | (simp only [List.length_drop, List.length_take]; rfl)) ?_; (with_reducible refine (pack_TakeWord.calls kj19 ((a3 ++ t188) ++ a3) (a3.size : Int) t189 t190 t191 _ A33.out).mono ?_); rintro e w' ⟨rfl, ⟨nd, rfl⟩⟩; refine ⟨_, rfl, ?_⟩) | ((with_reducible refine gate_callee (f := 22) rfl ?_); refine goesL_ (some 105) rfl rfl Try.func22 (by kernel_rfl) rfl #[] rfl (by (try simp only [List.map_toArray, List.map_cons, List.map_nil]); first | done | rfl | (simp only [List.length_drop, List.length_take]; rfl)) ?_; (with_reducible refine (oxbowlaw02_live.calls kj19  true _ A34.out).mono ?_); rintro e w43 ⟨rfl, hb⟩; refine ⟨_, rfl, ?_⟩; have n0_ := Aside0.mk (below_step (by repeat (first | (with_reducible first | exact HB.out | apply below_alloc | apply pw_below_drewN | apply below_drew1) | exact HB.out)) hb); clear HB; have HB := n0_; clear n0_; (try clear hb); (try clear hb2); (try clear hk); (try clear hi)))
                          go_ret
                          exact ⟨by first | rfl | (simp [errW_none, errW_some] <;> rfl) | (simp [*, errW_none, errW_some] <;> rfl), by repeat (first | (with_reducible first | exact HB.out | apply below_alloc | apply pw_below_drewN | apply below_drew1) | exact HB.out)⟩
                      · replace c35 := Bool.eq_false_iff.mpr c35
                        subst c35
                        have H1 : (some false) = some r := by rw [if_neg (show ¬ (false = true) by decide)] at H; exact H
                        clear H
                        have H := H1
                        clear H1
                        obtain rfl := Option.some.inj H
                        go_wp2_with (first | ((with_reducible refine gate_callee (f := 23) rfl ?_); refine goesL_ (some 95) rfl rfl Try.func23 (by kernel_rfl) rfl #[.int .u32 a2] rfl (by (try simp only [List.map_toArray, List.map_cons, List.map_nil]); first | done | rfl | (simp only [List.length_drop, List.length_take]; rfl)) ?_; (with_reducible refine (pack_Word.calls a2 t188 _ A30.out).mono ?_); rintro e w44 ⟨rfl, hb⟩; refine ⟨_, rfl, ?_⟩; have n0_ := Aside0.mk (below_step (by repeat (first | (with_reducible first | exact HB.out | apply below_alloc | apply pw_below_drewN | apply below_drew1) | exact HB.out)) hb); clear HB; have HB := n0_; clear n0_; (try clear hb); (try clear hb2); (try clear hk); (try clear hi)) | ((with_reducible refine gate_callee (f := 34) rfl ?_); refine goesL_ (some 101) rfl rfl Try.func34 (by kernel_rfl) rfl #[.string ((a3 ++ t188) ++ a3), .int .i64 (a3.size : Int)] rfl (by (try simp only [List.map_toArray, List.map_cons, List.map_nil]); first | done | rfl | (simp only [List.length_drop, List.length_take]; rfl)) ?_; (with_reducible refine (pack_TakeWord.calls kj19 ((a3 ++ t188) ++ a3) (a3.size : Int) t189 t190 t191 _ A33.out).mono ?_); rintro e w' ⟨rfl, ⟨nd, rfl⟩⟩; refine ⟨_, rfl, ?_⟩) | ((with_reducible refine gate_callee (f := 22) rfl ?_); refine goesL_ (some 105) rfl rfl Try.func22 (by kernel_rfl) rfl #[] rfl (by (try simp only [List.map_toArray, List.map_cons, List.map_nil]); first | done | rfl | (simp only [List.length_drop, List.length_take]; rfl)) ?_; (with_reducible refine (oxbowlaw02_live.calls kj19  false _ A34.out).mono ?_); rintro e w45 ⟨rfl, hb⟩; refine ⟨_, rfl, ?_⟩; have n0_ := Aside0.mk (below_step (by repeat (first | (with_reducible first | exact HB.out | apply below_alloc | apply pw_below_drewN | apply below_drew1) | exact HB.out)) hb); clear HB; have HB := n0_; clear n0_; (try clear hb); (try clear hb2); (try clear hk); (try clear hi)))
                        go_ret
                        exact ⟨by first | rfl | (simp [errW_none, errW_some] <;> rfl) | (simp [*, errW_none, errW_some] <;> rfl), by repeat (first | (with_reducible first | exact HB.out | apply below_alloc | apply pw_below_drewN | apply below_drew1) | exact HB.out)⟩
                    · rw [if_neg c32] at H
                      exact absurd H (by simp)
                  · rw [if_neg c31] at H
                    exact absurd H (by simp)
          · rw [if_neg c18] at H
            exact absurd H (by simp)
        · rw [if_neg c17] at H
          exact absurd H (by simp)
      · rw [if_neg c16] at H
        have c16b0 : (t181 == 0) = false := beq_eq_false_iff_ne.mpr c16
        have c16b1 : (t181 != 0) = true := bne_iff_ne.mpr c16
        replace H := Option.bind_eq_some_iff.mp H
        obtain ⟨t193, A460, H⟩ := H
        replace H : (if a3.size + t193.size ≤ 9223372036854775807 then (if (a3 ++ t193).size + a3.size ≤ 9223372036854775807 then ((pack_TakeWord.f kj5 ((a3 ++ t193) ++ a3) (a3.size : Int)).bind fun bt194 => ((oxbowlaw02_live.f kj5).bind fun t197 => (if t197 = true then (if bt194.1 = a2 then (if bt194.2.1 = (wrap64 ((a3.size : Int) + 4)) then (some (bt194.2.2 == 0)) else (some false)) else (some false)) else (some false)))) else (none)) else (none)) = some r := H
        have A46 := Aside0.mk A460
        clear A460
        by_cases c47 : a3.size + t193.size ≤ 9223372036854775807
        · rw [if_pos c47] at H
          have c47b0 := eq_true c47
          have c47b1 : decide (a3.size + t193.size ≤ 9223372036854775807) = true := decide_eq_true c47
          try have c47b2 : (9223372036854775807 < a3.size + t193.size) = False := eq_false (Nat.not_lt.2 c47)
          by_cases c48 : (a3 ++ t193).size + a3.size ≤ 9223372036854775807
          · rw [if_pos c48] at H
            have c48b0 := eq_true c48
            have c48b1 : decide ((a3 ++ t193).size + a3.size ≤ 9223372036854775807) = true := decide_eq_true c48
            try have c48b2 : (9223372036854775807 < (a3 ++ t193).size + a3.size) = False := eq_false (Nat.not_lt.2 c48)
            try (have c48b3 := c48b2; rw [ByteArray.size_append] at c48b3)
            replace H := Option.bind_eq_some_iff.mp H
            obtain ⟨⟨t194, t195, t196⟩, A490, H⟩ := H
            replace H : ((oxbowlaw02_live.f kj5).bind fun t197 => (if t197 = true then (if t194 = a2 then (if t195 = (wrap64 ((a3.size : Int) + 4)) then (some (t196 == 0)) else (some false)) else (some false)) else (some false))) = some r := H
            have A49 := Aside0.mk A490
            clear A490
            replace H := Option.bind_eq_some_iff.mp H
            obtain ⟨t197, A500, H⟩ := H
            replace H : (if t197 = true then (if t194 = a2 then (if t195 = (wrap64 ((a3.size : Int) + 4)) then (some (t196 == 0)) else (some false)) else (some false)) else (some false)) = some r := H
            have A50 := Aside0.mk A500
            clear A500
            by_cases c51 : t197 = true
            · subst c51
              have H1 : (if t194 = a2 then (if t195 = (wrap64 ((a3.size : Int) + 4)) then (some (t196 == 0)) else (some false)) else (some false)) = some r := by rw [if_pos rfl] at H; exact H
              clear H
              have H := H1
              clear H1
              by_cases c52 : t194 = a2
              · rw [if_pos c52] at H
                have c52b0 : (t194 == a2) = true := beq_iff_eq.mpr c52
                have c52b1 : (t194 != a2) = false := bne_eq_false_iff_eq.mpr c52
                clear c52
                by_cases c53 : t195 = (wrap64 ((a3.size : Int) + 4))
                · rw [if_pos c53] at H
                  have c53b0 : (t195 == (wrap64 ((a3.size : Int) + 4))) = true := beq_iff_eq.mpr c53
                  have c53b1 : (t195 != (wrap64 ((a3.size : Int) + 4))) = false := bne_eq_false_iff_eq.mpr c53
                  clear c53
                  obtain rfl := Option.some.inj H
                  go_wp2_with (first | ((with_reducible refine gate_callee (f := 28) rfl ?_); refine goesL_ (some 58) rfl rfl Try.func28 (by kernel_rfl) rfl #[.slice A1 l1.length c1] rfl (by (try simp only [List.map_toArray, List.map_cons, List.map_nil]); first | done | rfl | (simp only [List.length_drop, List.length_take]; rfl)) ?_; (with_reducible refine (pack_List.calls kj5 _ _ l1 t180 t181 _ ?side1 ?side2 A15.out).mono ?_); (case side1 => repeat (first | exact (Kd.C_below HR1.out HB.out) | (with_reducible refine Kd.C_alloc ?_ _) | (with_reducible refine Kd.C_drewN ?_ _) | (with_reducible refine Kd.C_drew ?_))); (case side2 => exact HC1.out); rintro e w54 ⟨rfl, hb⟩; refine ⟨_, rfl, ?_⟩; have n0_ := Aside0.mk (below_step (by repeat (first | (with_reducible first | exact HB.out | apply below_alloc | apply pw_below_drewN | apply below_drew1) | exact HB.out)) hb); clear HB; have HB := n0_; clear n0_; (try clear hb); (try clear hb2); (try clear hk); (try clear hi)) | ((with_reducible refine gate_callee (f := 23) rfl ?_); refine goesL_ (some 95) rfl rfl Try.func23 (by kernel_rfl) rfl #[.int .u32 a2] rfl (by (try simp only [List.map_toArray, List.map_cons, List.map_nil]); first | done | rfl | (simp only [List.length_drop, List.length_take]; rfl)) ?_; (with_reducible refine (pack_Word.calls a2 t193 _ A46.out).mono ?_); rintro e w55 ⟨rfl, hb⟩; refine ⟨_, rfl, ?_⟩; have n0_ := Aside0.mk (below_step (by repeat (first | (with_reducible first | exact HB.out | apply below_alloc | apply pw_below_drewN | apply below_drew1) | exact HB.out)) hb); clear HB; have HB := n0_; clear n0_; (try clear hb); (try clear hb2); (try clear hk); (try clear hi)) | ((with_reducible refine gate_callee (f := 34) rfl ?_); refine goesL_ (some 101) rfl rfl Try.func34 (by kernel_rfl) rfl #[.string ((a3 ++ t193) ++ a3), .int .i64 (a3.size : Int)] rfl (by (try simp only [List.map_toArray, List.map_cons, List.map_nil]); first | done | rfl | (simp only [List.length_drop, List.length_take]; rfl)) ?_; (with_reducible refine (pack_TakeWord.calls kj5 ((a3 ++ t193) ++ a3) (a3.size : Int) t194 t195 t196 _ A49.out).mono ?_); rintro e w' ⟨rfl, ⟨nd, rfl⟩⟩; refine ⟨_, rfl, ?_⟩) | ((with_reducible refine gate_callee (f := 22) rfl ?_); refine goesL_ (some 105) rfl rfl Try.func22 (by kernel_rfl) rfl #[] rfl (by (try simp only [List.map_toArray, List.map_cons, List.map_nil]); first | done | rfl | (simp only [List.length_drop, List.length_take]; rfl)) ?_; (with_reducible refine (oxbowlaw02_live.calls kj5  true _ A50.out).mono ?_); rintro e w56 ⟨rfl, hb⟩; refine ⟨_, rfl, ?_⟩; have n0_ := Aside0.mk (below_step (by repeat (first | (with_reducible first | exact HB.out | apply below_alloc | apply pw_below_drewN | apply below_drew1) | exact HB.out)) hb); clear HB; have HB := n0_; clear n0_; (try clear hb); (try clear hb2); (try clear hk); (try clear hi)))
                  go_ret
                  exact ⟨by first | rfl | (simp [errW_none, errW_some] <;> rfl) | (simp [*, errW_none, errW_some] <;> rfl), by repeat (first | (with_reducible first | exact HB.out | apply below_alloc | apply pw_below_drewN | apply below_drew1) | exact HB.out)⟩
                · rw [if_neg c53] at H
                  have c53b0 : (t195 == (wrap64 ((a3.size : Int) + 4))) = false := beq_eq_false_iff_ne.mpr c53
                  have c53b1 : (t195 != (wrap64 ((a3.size : Int) + 4))) = true := bne_iff_ne.mpr c53
                  obtain rfl := Option.some.inj H
                  go_wp2_with (first | ((with_reducible refine gate_callee (f := 28) rfl ?_); refine goesL_ (some 58) rfl rfl Try.func28 (by kernel_rfl) rfl #[.slice A1 l1.length c1] rfl (by (try simp only [List.map_toArray, List.map_cons, List.map_nil]); first | done | rfl | (simp only [List.length_drop, List.length_take]; rfl)) ?_; (with_reducible refine (pack_List.calls kj5 _ _ l1 t180 t181 _ ?side1 ?side2 A15.out).mono ?_); (case side1 => repeat (first | exact (Kd.C_below HR1.out HB.out) | (with_reducible refine Kd.C_alloc ?_ _) | (with_reducible refine Kd.C_drewN ?_ _) | (with_reducible refine Kd.C_drew ?_))); (case side2 => exact HC1.out); rintro e w57 ⟨rfl, hb⟩; refine ⟨_, rfl, ?_⟩; have n0_ := Aside0.mk (below_step (by repeat (first | (with_reducible first | exact HB.out | apply below_alloc | apply pw_below_drewN | apply below_drew1) | exact HB.out)) hb); clear HB; have HB := n0_; clear n0_; (try clear hb); (try clear hb2); (try clear hk); (try clear hi)) | ((with_reducible refine gate_callee (f := 23) rfl ?_); refine goesL_ (some 95) rfl rfl Try.func23 (by kernel_rfl) rfl #[.int .u32 a2] rfl (by (try simp only [List.map_toArray, List.map_cons, List.map_nil]); first | done | rfl | (simp only [List.length_drop, List.length_take]; rfl)) ?_; (with_reducible refine (pack_Word.calls a2 t193 _ A46.out).mono ?_); rintro e w58 ⟨rfl, hb⟩; refine ⟨_, rfl, ?_⟩; have n0_ := Aside0.mk (below_step (by repeat (first | (with_reducible first | exact HB.out | apply below_alloc | apply pw_below_drewN | apply below_drew1) | exact HB.out)) hb); clear HB; have HB := n0_; clear n0_; (try clear hb); (try clear hb2); (try clear hk); (try clear hi)) | ((with_reducible refine gate_callee (f := 34) rfl ?_); refine goesL_ (some 101) rfl rfl Try.func34 (by kernel_rfl) rfl #[.string ((a3 ++ t193) ++ a3), .int .i64 (a3.size : Int)] rfl (by (try simp only [List.map_toArray, List.map_cons, List.map_nil]); first | done | rfl | (simp only [List.length_drop, List.length_take]; rfl)) ?_; (with_reducible refine (pack_TakeWord.calls kj5 ((a3 ++ t193) ++ a3) (a3.size : Int) t194 t195 t196 _ A49.out).mono ?_); rintro e w' ⟨rfl, ⟨nd, rfl⟩⟩; refine ⟨_, rfl, ?_⟩) | ((with_reducible refine gate_callee (f := 22) rfl ?_); refine goesL_ (some 105) rfl rfl Try.func22 (by kernel_rfl) rfl #[] rfl (by (try simp only [List.map_toArray, List.map_cons, List.map_nil]); first | done | rfl | (simp only [List.length_drop, List.length_take]; rfl)) ?_; (with_reducible refine (oxbowlaw02_live.calls kj5  true _ A50.out).mono ?_); rintro e w59 ⟨rfl, hb⟩; refine ⟨_, rfl, ?_⟩; have n0_ := Aside0.mk (below_step (by repeat (first | (with_reducible first | exact HB.out | apply below_alloc | apply pw_below_drewN | apply below_drew1) | exact HB.out)) hb); clear HB; have HB := n0_; clear n0_; (try clear hb); (try clear hb2); (try clear hk); (try clear hi)))
                  go_ret
                  exact ⟨by first | rfl | (simp [errW_none, errW_some] <;> rfl) | (simp [*, errW_none, errW_some] <;> rfl), by repeat (first | (with_reducible first | exact HB.out | apply below_alloc | apply pw_below_drewN | apply below_drew1) | exact HB.out)⟩
              · rw [if_neg c52] at H
                have c52b0 : (t194 == a2) = false := beq_eq_false_iff_ne.mpr c52
                have c52b1 : (t194 != a2) = true := bne_iff_ne.mpr c52
                obtain rfl := Option.some.inj H
                go_wp2_with (first | ((with_reducible refine gate_callee (f := 28) rfl ?_); refine goesL_ (some 58) rfl rfl Try.func28 (by kernel_rfl) rfl #[.slice A1 l1.length c1] rfl (by (try simp only [List.map_toArray, List.map_cons, List.map_nil]); first | done | rfl | (simp only [List.length_drop, List.length_take]; rfl)) ?_; (with_reducible refine (pack_List.calls kj5 _ _ l1 t180 t181 _ ?side1 ?side2 A15.out).mono ?_); (case side1 => repeat (first | exact (Kd.C_below HR1.out HB.out) | (with_reducible refine Kd.C_alloc ?_ _) | (with_reducible refine Kd.C_drewN ?_ _) | (with_reducible refine Kd.C_drew ?_))); (case side2 => exact HC1.out); rintro e w60 ⟨rfl, hb⟩; refine ⟨_, rfl, ?_⟩; have n0_ := Aside0.mk (below_step (by repeat (first | (with_reducible first | exact HB.out | apply below_alloc | apply pw_below_drewN | apply below_drew1) | exact HB.out)) hb); clear HB; have HB := n0_; clear n0_; (try clear hb); (try clear hb2); (try clear hk); (try clear hi)) | ((with_reducible refine gate_callee (f := 23) rfl ?_); refine goesL_ (some 95) rfl rfl Try.func23 (by kernel_rfl) rfl #[.int .u32 a2] rfl (by (try simp only [List.map_toArray, List.map_cons, List.map_nil]); first | done | rfl | (simp only [List.length_drop, List.length_take]; rfl)) ?_; (with_reducible refine (pack_Word.calls a2 t193 _ A46.out).mono ?_); rintro e w61 ⟨rfl, hb⟩; refine ⟨_, rfl, ?_⟩; have n0_ := Aside0.mk (below_step (by repeat (first | (with_reducible first | exact HB.out | apply below_alloc | apply pw_below_drewN | apply below_drew1) | exact HB.out)) hb); clear HB; have HB := n0_; clear n0_; (try clear hb); (try clear hb2); (try clear hk); (try clear hi)) | ((with_reducible refine gate_callee (f := 34) rfl ?_); refine goesL_ (some 101) rfl rfl Try.func34 (by kernel_rfl) rfl #[.string ((a3 ++ t193) ++ a3), .int .i64 (a3.size : Int)] rfl (by (try simp only [List.map_toArray, List.map_cons, List.map_nil]); first | done | rfl | (simp only [List.length_drop, List.length_take]; rfl)) ?_; (with_reducible refine (pack_TakeWord.calls kj5 ((a3 ++ t193) ++ a3) (a3.size : Int) t194 t195 t196 _ A49.out).mono ?_); rintro e w' ⟨rfl, ⟨nd, rfl⟩⟩; refine ⟨_, rfl, ?_⟩) | ((with_reducible refine gate_callee (f := 22) rfl ?_); refine goesL_ (some 105) rfl rfl Try.func22 (by kernel_rfl) rfl #[] rfl (by (try simp only [List.map_toArray, List.map_cons, List.map_nil]); first | done | rfl | (simp only [List.length_drop, List.length_take]; rfl)) ?_; (with_reducible refine (oxbowlaw02_live.calls kj5  true _ A50.out).mono ?_); rintro e w62 ⟨rfl, hb⟩; refine ⟨_, rfl, ?_⟩; have n0_ := Aside0.mk (below_step (by repeat (first | (with_reducible first | exact HB.out | apply below_alloc | apply pw_below_drewN | apply below_drew1) | exact HB.out)) hb); clear HB; have HB := n0_; clear n0_; (try clear hb); (try clear hb2); (try clear hk); (try clear hi)))
                go_ret
                exact ⟨by first | rfl | (simp [errW_none, errW_some] <;> rfl) | (simp [*, errW_none, errW_some] <;> rfl), by repeat (first | (with_reducible first | exact HB.out | apply below_alloc | apply pw_below_drewN | apply below_drew1) | exact HB.out)⟩
            · replace c51 := Bool.eq_false_iff.mpr c51
              subst c51
              have H1 : (some false) = some r := by rw [if_neg (show ¬ (false = true) by decide)] at H; exact H
              clear H
              have H := H1
              clear H1
              obtain rfl := Option.some.inj H
              go_wp2_with (first | ((with_reducible refine gate_callee (f := 28) rfl ?_); refine goesL_ (some 58) rfl rfl Try.func28 (by kernel_rfl) rfl #[.slice A1 l1.length c1] rfl (by (try simp only [List.map_toArray, List.map_cons, List.map_nil]); first | done | rfl | (simp only [List.length_drop, List.length_take]; rfl)) ?_; (with_reducible refine (pack_List.calls kj5 _ _ l1 t180 t181 _ ?side1 ?side2 A15.out).mono ?_); (case side1 => repeat (first | exact (Kd.C_below HR1.out HB.out) | (with_reducible refine Kd.C_alloc ?_ _) | (with_reducible refine Kd.C_drewN ?_ _) | (with_reducible refine Kd.C_drew ?_))); (case side2 => exact HC1.out); rintro e w63 ⟨rfl, hb⟩; refine ⟨_, rfl, ?_⟩; have n0_ := Aside0.mk (below_step (by repeat (first | (with_reducible first | exact HB.out | apply below_alloc | apply pw_below_drewN | apply below_drew1) | exact HB.out)) hb); clear HB; have HB := n0_; clear n0_; (try clear hb); (try clear hb2); (try clear hk); (try clear hi)) | ((with_reducible refine gate_callee (f := 23) rfl ?_); refine goesL_ (some 95) rfl rfl Try.func23 (by kernel_rfl) rfl #[.int .u32 a2] rfl (by (try simp only [List.map_toArray, List.map_cons, List.map_nil]); first | done | rfl | (simp only [List.length_drop, List.length_take]; rfl)) ?_; (with_reducible refine (pack_Word.calls a2 t193 _ A46.out).mono ?_); rintro e w64 ⟨rfl, hb⟩; refine ⟨_, rfl, ?_⟩; have n0_ := Aside0.mk (below_step (by repeat (first | (with_reducible first | exact HB.out | apply below_alloc | apply pw_below_drewN | apply below_drew1) | exact HB.out)) hb); clear HB; have HB := n0_; clear n0_; (try clear hb); (try clear hb2); (try clear hk); (try clear hi)) | ((with_reducible refine gate_callee (f := 34) rfl ?_); refine goesL_ (some 101) rfl rfl Try.func34 (by kernel_rfl) rfl #[.string ((a3 ++ t193) ++ a3), .int .i64 (a3.size : Int)] rfl (by (try simp only [List.map_toArray, List.map_cons, List.map_nil]); first | done | rfl | (simp only [List.length_drop, List.length_take]; rfl)) ?_; (with_reducible refine (pack_TakeWord.calls kj5 ((a3 ++ t193) ++ a3) (a3.size : Int) t194 t195 t196 _ A49.out).mono ?_); rintro e w' ⟨rfl, ⟨nd, rfl⟩⟩; refine ⟨_, rfl, ?_⟩) | ((with_reducible refine gate_callee (f := 22) rfl ?_); refine goesL_ (some 105) rfl rfl Try.func22 (by kernel_rfl) rfl #[] rfl (by (try simp only [List.map_toArray, List.map_cons, List.map_nil]); first | done | rfl | (simp only [List.length_drop, List.length_take]; rfl)) ?_; (with_reducible refine (oxbowlaw02_live.calls kj5  false _ A50.out).mono ?_); rintro e w65 ⟨rfl, hb⟩; refine ⟨_, rfl, ?_⟩; have n0_ := Aside0.mk (below_step (by repeat (first | (with_reducible first | exact HB.out | apply below_alloc | apply pw_below_drewN | apply below_drew1) | exact HB.out)) hb); clear HB; have HB := n0_; clear n0_; (try clear hb); (try clear hb2); (try clear hk); (try clear hi)))
              go_ret
              exact ⟨by first | rfl | (simp [errW_none, errW_some] <;> rfl) | (simp [*, errW_none, errW_some] <;> rfl), by repeat (first | (with_reducible first | exact HB.out | apply below_alloc | apply pw_below_drewN | apply below_drew1) | exact HB.out)⟩
          · rw [if_neg c48] at H
            exact absurd H (by simp)
        · rw [if_neg c47] at H
          exact absurd H (by simp)

/-- The one pure statement of oxbowlaw02_PackBack. -/
def oxbowlaw02_PackBack.Pure : Prop := ∀ (a0 : Int) (l1 : List ByteArray) (a2 : Int) (a3 : ByteArray), (Lit.int .i64 a0).wf = true → (l1.length * 16 ≤ 140737488351232 ∧ l1.length ≤ maxLen ∧ ∀ y198 ∈ l1, y198.size ≤ 140737488351232) → (Lit.int .u32 a2).wf = true → a3.size ≤ 140737488351232 → ∃ k, oxbowlaw02_PackBack.f k a0 l1 a2 a3 = some true

end Go.Proofs.Ytknbccaineblpaa.HPk
