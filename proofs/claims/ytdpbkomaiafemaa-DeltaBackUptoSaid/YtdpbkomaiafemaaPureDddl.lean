/- What the program's and the document's words on deltas come to, in plain words: whether one may be, its base and target, what it makes of a text. -/
import Derived.Test.YtdpbkomaiafemaaHDdx4
import Derived.Test.YtdpbkomaiafemaaHDdx3
import Derived.Test.YtdpbkomaiafemaaHDdx8
import Derived.Test.YtdpbkomaiafemaaHDdx6
import Derived.Test.YtdpbkomaiafemaaPureDdtx
import Derived.Test.YtdpbkomaiafemaaDl
namespace Go.Proofs.Ytdpbkomaiafemaa.Dddl
open Go.RowKit Go.Proofs.Ytdpbkomaiafemaa.HDd Go.Proofs.Ytdpbkomaiafemaa.Ddtx Go.Proofs.Ytdpbkomaiafemaa.Tx Go.Proofs.Ytdpbkomaiafemaa.Dl Go.Proofs.YtdpbkomaiafemaaW.PrintWords Go.Proofs.YtdpbkomaiafemaaW.PrintLast Go.Proofs.YtdpbkomaiafemaaW.PrintMore
set_option linter.unusedSimpArgs false
set_option linter.unusedVariables false

/-- An operation as the program writes it. -/
def sop : O → S36
  | .keep n => ⟨1, (n : Int), ⟨#[]⟩⟩
  | .del n => ⟨3, (n : Int), ⟨#[]⟩⟩
  | .ins p => ⟨2, 0, st p⟩
/-- What the program's operation is; none: none that may be. -/
def okx (x : S36) : Option O :=
  if x.f0 = 1 then (if x.f2.size = 0 ∧ 1 ≤ x.f1 ∧ x.f1 ≤ 1000 then some (.keep x.f1.toNat) else none)
  else if x.f0 = 3 then (if x.f2.size = 0 ∧ 1 ≤ x.f1 ∧ x.f1 ≤ 1000 then some (.del x.f1.toNat) else none)
  else if x.f0 = 2 ∧ x.f1 = 0 then (match dec x.f2.data.toList with
    | some (p :: ps) => some (.ins (p :: ps))
    | _ => none)
  else none
theorem empty_of {s : ByteArray} (h : s.size = 0) : s = ⟨#[]⟩ := by
  have e : s.data.toList = [] := List.eq_nil_of_length_eq_zero (by rw [Ev.len_data]; exact h)
  exact Ev.ext_data e
theorem okx_some {x : S36} {o : O} (h : okx x = some o) : x = sop o ∧ VO o := by
  obtain ⟨f0, f1, f2⟩ := x
  unfold okx at h
  simp only at h
  split at h
  · rename_i h0
    split at h
    · rename_i h1
      obtain ⟨h1, h2, h3⟩ := h1
      simp only [Option.some.injEq] at h
      subst h
      subst h0
      have e : ((f1.toNat : Nat) : Int) = f1 := Int.toNat_of_nonneg (by omega)
      refine ⟨?_, by simp only [VO]; omega⟩
      simp only [sop, e, empty_of h1]
    · cases h
  · split at h
    · rename_i h0
      split at h
      · rename_i h1
        obtain ⟨h1, h2, h3⟩ := h1
        simp only [Option.some.injEq] at h
        subst h
        subst h0
        have e : ((f1.toNat : Nat) : Int) = f1 := Int.toNat_of_nonneg (by omega)
        refine ⟨?_, by simp only [VO]; omega⟩
        simp only [sop, e, empty_of h1]
      · cases h
    · split at h
      · rename_i h0
        obtain ⟨h0, h1⟩ := h0
        split at h
        · rename_i p ps hd
          simp only [Option.some.injEq] at h
          subst h
          subst h0
          subst h1
          refine ⟨?_, by simp, dec_allP hd⟩
          simp only [sop, st_eq hd]
        · cases h
      · cases h
theorem okx_sop {o : O} (h : VO o) : okx (sop o) = some o := by
  cases o with
  | keep n =>
    obtain ⟨h1, h2⟩ := h
    show (if (1 : Int) = 1 then (if (⟨#[]⟩ : ByteArray).size = 0 ∧ 1 ≤ (n : Int) ∧ (n : Int) ≤ 1000 then some (O.keep (n : Int).toNat) else none) else _) = _
    rw [if_pos rfl, if_pos ⟨rfl, by omega, by omega⟩]
    simp
  | del n =>
    obtain ⟨h1, h2⟩ := h
    show (if (3 : Int) = 1 then _ else if (3 : Int) = 3 then (if (⟨#[]⟩ : ByteArray).size = 0 ∧ 1 ≤ (n : Int) ∧ (n : Int) ≤ 1000 then some (O.del (n : Int).toNat) else none) else _) = _
    rw [if_neg (by decide), if_pos rfl, if_pos ⟨rfl, by omega, by omega⟩]
    simp
  | ins p =>
    obtain ⟨h1, h2⟩ := h
    show (if (2 : Int) = 1 then _ else if (2 : Int) = 3 then _ else if (2 : Int) = 2 ∧ (0 : Int) = 0 then (match dec (st p).data.toList with
      | some (p :: ps) => some (O.ins (p :: ps))
      | _ => none) else none) = _
    rw [if_neg (by decide), if_neg (by decide), if_pos ⟨rfl, rfl⟩, dec_st p h2]
    cases p with
    | nil => exact absurd rfl h1
    | cons p ps => rfl
def parse : List S36 → Option (List O)
  | [] => some []
  | x :: d => match okx x with
    | none => none
    | some o => (parse d).map (o :: ·)
theorem parse_some : ∀ {d : List S36} {os : List O}, parse d = some os → d = os.map sop ∧ V os
  | [], os, h => by
    simp only [parse, Option.some.injEq] at h
    subst h
    exact ⟨rfl, fun x hx => by cases hx⟩
  | x :: d, os, h => by
    simp only [parse] at h
    split at h
    · cases h
    · rename_i o ho
      obtain ⟨os', h2, rfl⟩ := Option.map_eq_some_iff.1 h
      obtain ⟨e1, e2⟩ := okx_some ho
      obtain ⟨e3, e4⟩ := parse_some h2
      refine ⟨by rw [List.map_cons, ← e1, ← e3], fun y hy => ?_⟩
      rcases List.mem_cons.1 hy with rfl | hy
      · exact e2
      · exact e4 y hy
theorem parse_sop : ∀ {os : List O}, V os → parse (os.map sop) = some os
  | [], _ => rfl
  | o :: os, h => by
    simp only [List.map_cons, parse]
    rw [okx_sop h.head, parse_sop h.tail]
    rfl
theorem rd_get (d : List S36) (i : Nat) (h : i < d.length) : rd_T36 d (i : Int) = d[i] := by
  unfold rd_T36
  rw [Int.toNat_natCast, List.getD_eq_getElem?_getD, List.getElem?_eq_getElem h]
  rfl
theorem nil_beq (s : ByteArray) : (s.toList == ([] : List UInt8)) = decide (s.size = 0) := by
  rw [Bool.eq_iff_iff, beq_iff_eq, decide_eq_true_eq]
  exact toList_nil s
/-- The texts are no longer than any that there are. -/
def Sz (d : List S36) : Prop := ∀ x ∈ d, x.f2.size < 1099511627776

/-! ### kind, lengths -/
def tagR : Option O → Int
  | some (.keep _) => 1
  | some (.del _) => 3
  | some (.ins _) => 2
  | none => 0
theorem tag_ev (x : S36) (hs : x.f2.size < 1099511627776) : Ev (fun k => delta_kind.tag k x.f0 x.f1 x.f2) (tagR (okx x)) := by
  obtain ⟨f0, f1, f2⟩ := x
  simp only at hs ⊢
  unfold delta_kind.tag okx
  simp only
  have hz := nil_beq f2
  by_cases h1 : f0 = 1
  · subst h1
    rw [if_pos rfl]
    by_cases hc : f2.size = 0 ∧ 1 ≤ f1 ∧ f1 ≤ 1000
    · rw [if_pos hc]
      exact Ev.pos (by rw [hz]; simp [hc.1, hc.2.1, hc.2.2]) (Ev.now _)
    · rw [if_neg hc]
      refine Ev.neg ?_ (Ev.neg (by simp) (Ev.neg (by simp) (Ev.now _)))
      rw [hz]
      simp only [beq_self_eq_true, Bool.true_and, Bool.and_eq_true, decide_eq_true_eq]
      intro h
      exact hc ⟨h.1.1, h.1.2, h.2⟩
  · rw [if_neg h1]
    refine Ev.neg (by simp [h1]) ?_
    by_cases h3 : f0 = 3
    · subst h3
      rw [if_pos rfl]
      by_cases hc : f2.size = 0 ∧ 1 ≤ f1 ∧ f1 ≤ 1000
      · rw [if_pos hc]
        exact Ev.pos (by rw [hz]; simp [hc.1, hc.2.1, hc.2.2]) (Ev.now _)
      · rw [if_neg hc]
        refine Ev.neg ?_ (Ev.neg (by simp) (Ev.now _))
        rw [hz]
        simp only [beq_self_eq_true, Bool.true_and, Bool.and_eq_true, decide_eq_true_eq]
        intro h
        exact hc ⟨h.1.1, h.1.2, h.2⟩
    · rw [if_neg h3]
      refine Ev.neg (by simp [h3]) ?_
      by_cases h2 : f0 = 2 ∧ f1 = 0
      · rw [if_pos h2]
        refine Ev.pos (by simp [h2.1, h2.2]) (Ev.bind (len_ev f2 (by omega)) ?_)
        cases dec f2.data.toList with
        | none => exact Ev.neg (by simp [lenR]) (Ev.now _)
        | some ps => cases ps with
          | nil => exact Ev.neg (by simp [lenR]) (Ev.now _)
          | cons p ps => exact Ev.pos (by simp only [lenR, List.length_cons]; omega) (Ev.now _)
      · rw [if_neg h2]
        refine Ev.neg ?_ (Ev.now _)
        simp only [Bool.and_eq_true, beq_iff_eq]
        exact h2
def finR (b t : Nat) : Int × Int × Int := if 1000 < b then (0, 0, 91) else if 1000 < t then (0, 0, 91) else ((b : Int), (t : Int), 0)
theorem finR_ev (b t : Nat) : Ev (fun _ => if (1000 : Int) < (b : Int) then some (((0 : Int), (0 : Int), (91 : Int))) else if (1000 : Int) < (t : Int) then some (0, 0, 91) else some ((b : Int), (t : Int), 0)) (finR b t) := by
  unfold finR
  by_cases h1 : 1000 < b
  · exact Ev.val (Ev.pos (by omega) (Ev.now _)) (if_pos h1).symm
  · by_cases h2 : 1000 < t
    · exact Ev.val (Ev.neg (by omega) (Ev.pos (by omega) (Ev.now _))) (by rw [if_neg h1, if_pos h2])
    · exact Ev.val (Ev.neg (by omega) (Ev.neg (by omega) (Ev.now _))) (by rw [if_neg h1, if_neg h2])
theorem finR_ev2 (b t : Nat) : Ev (fun _ => if (b : Int) > 1000 then some (91 : Int) else if (t : Int) > 1000 then some 91 else some 0) (finR b t).2.2 := by
  unfold finR
  by_cases h1 : 1000 < b
  · exact Ev.val (Ev.pos (by omega) (Ev.now _)) (by rw [if_pos h1])
  · by_cases h2 : 1000 < t
    · exact Ev.val (Ev.neg (by omega) (Ev.pos (by omega) (Ev.now _))) (by rw [if_neg h1, if_pos h2])
    · exact Ev.val (Ev.neg (by omega) (Ev.neg (by omega) (Ev.now _))) (by rw [if_neg h1, if_neg h2])
def moreR (b t : Nat) : Option (List O) → Int × Int × Int
  | none => (0, 0, 90)
  | some os => finR (b + base os) (t + targ os)
def lensR (d : List S36) : Int × Int × Int := if 3000 < d.length then (0, 0, 90) else moreR 0 0 (parse d)
theorem ins_len {x : S36} {p : List Nat} (h : okx x = some (.ins p)) : dec x.f2.data.toList = some p ∧ p.length ≤ x.f2.size := by
  obtain ⟨rfl, h2⟩ := okx_some h
  have hd := dec_st p h2.2
  refine ⟨hd, ?_⟩
  show p.length ≤ (st p).size
  rw [st_size]
  exact le_enc_length p
theorem drop_parse (d : List S36) (i : Nat) (h : i < d.length) : parse (d.drop i) = (okx d[i]).bind fun o => (parse (d.drop (i + 1))).map (o :: ·) := by
  rw [List.drop_eq_getElem_cons h]
  simp only [parse]
  cases okx d[i] <;> rfl
theorem lens_loop (d : List S36) (hd : d.length ≤ 3000) (hs : Sz d) : ∀ (r i b t : Nat), d.length = i + r → b ≤ 1000 * i → t ≤ 1099511628776 * i →
    Ev (fun k => delta_lengths.l0 k d (b : Int) (t : Int) (i : Int)) (moreR b t (parse (d.drop i)))
  | 0, i, b, t, hi, hb, ht => by
    refine Ev.step (fun k => by simp only [delta_lengths.l0]; rfl) (Ev.neg (by omega) ?_)
    rw [List.drop_of_length_le (by omega)]
    exact finR_ev b t
  | r + 1, i, b, t, hi, hb, ht => by
    have hil : i < d.length := by omega
    refine Ev.step (fun k => by simp only [delta_lengths.l0]; rfl) (Ev.pos (by omega) (Ev.pos (by omega) ?_))
    rw [rd_get d i hil]
    have hx := hs d[i] (List.getElem_mem hil)
    refine Ev.bind (tag_ev d[i] hx) ?_
    rw [drop_parse d i hil]
    cases ho : okx d[i] with
    | none => exact Ev.neg (by decide) (Ev.neg (by decide) (Ev.neg (by decide) (Ev.now _)))
    | some o =>
      obtain ⟨e, hv⟩ := okx_some ho
      cases o with
      | keep n =>
        obtain ⟨h1, h2⟩ := hv
        have e1 : (d[i]).f1 = (n : Int) := by rw [e]; rfl
        refine Ev.pos rfl ?_
        rw [e1, Ev.wrap_add b n (by omega), Ev.wrap_add t n (by omega), Ev.wrap_succ i (by omega)]
        refine Ev.val (lens_loop d hd hs r (i + 1) (b + n) (t + n) (by omega) (by omega) (by omega)) ?_
        show moreR (b + n) (t + n) (parse (d.drop (i + 1))) = moreR b t ((parse (d.drop (i + 1))).map (O.keep n :: ·))
        cases parse (d.drop (i + 1)) with
        | none => rfl
        | some os => simp only [Option.map_some, moreR, base, targ, Nat.add_assoc]
      | del n =>
        obtain ⟨h1, h2⟩ := hv
        have e1 : (d[i]).f1 = (n : Int) := by rw [e]; rfl
        refine Ev.neg (show ¬ (3 : Int) = 1 by decide) (Ev.pos rfl ?_)
        rw [e1, Ev.wrap_add b n (by omega), Ev.wrap_succ i (by omega)]
        refine Ev.val (lens_loop d hd hs r (i + 1) (b + n) t (by omega) (by omega) (by omega)) ?_
        show moreR (b + n) t (parse (d.drop (i + 1))) = moreR b t ((parse (d.drop (i + 1))).map (O.del n :: ·))
        cases parse (d.drop (i + 1)) with
        | none => rfl
        | some os => simp only [Option.map_some, moreR, base, targ, Nat.add_assoc]
      | ins p =>
        obtain ⟨h1, h2⟩ := ins_len ho
        refine Ev.neg (show ¬ (2 : Int) = 1 by decide) (Ev.neg (show ¬ (2 : Int) = 3 by decide) (Ev.pos rfl (Ev.bind (len_ev _ (by omega)) ?_)))
        rw [h1]
        simp only [lenR]
        rw [Ev.wrap_add t p.length (by omega), Ev.wrap_succ i (by omega)]
        refine Ev.val (lens_loop d hd hs r (i + 1) b (t + p.length) (by omega) (by omega) (by omega)) ?_
        show moreR b (t + p.length) (parse (d.drop (i + 1))) = moreR b t ((parse (d.drop (i + 1))).map (O.ins p :: ·))
        cases parse (d.drop (i + 1)) with
        | none => rfl
        | some os => simp only [Option.map_some, moreR, base, targ, Nat.add_assoc]
theorem lens_ev (d : List S36) (hs : Sz d) : Ev (fun k => delta_lengths.f k d) (lensR d) := by
  unfold delta_lengths.f lensR
  by_cases h : 3000 < d.length
  · rw [if_pos h]; exact Ev.pos (by omega) (Ev.now _)
  · rw [if_neg h]
    exact Ev.neg (by omega) (lens_loop d (by omega) hs d.length 0 0 0 (by omega) (by omega) (by omega))
theorem base_ev (d : List S36) (hs : Sz d) : Ev (fun k => delta_Base.f k d) ((lensR d).1, (lensR d).2.2) := by
  unfold delta_Base.f
  exact Ev.bind (lens_ev d hs) (Ev.now _)
theorem check_ev (d : List S36) (hs : Sz d) : Ev (fun k => delta_Check.f k d) (lensR d).2.2 := by
  unfold delta_Check.f
  exact Ev.bind (lens_ev d hs) (Ev.now _)
/-- A delta that may be. -/
theorem lensR_ok {d : List S36} (h : (lensR d).2.2 = 0) : ∃ os, d = os.map sop ∧ V os ∧ base os ≤ 1000 ∧ targ os ≤ 1000 ∧ os.length ≤ 3000 ∧ lensR d = ((base os : Int), (targ os : Int), 0) := by
  unfold lensR at h ⊢
  split at h
  · cases h
  · rename_i hl
    rw [if_neg hl]
    cases hp : parse d with
    | none => rw [hp] at h; cases h
    | some os =>
      rw [hp] at h
      obtain ⟨e, hv⟩ := parse_some hp
      simp only [moreR, finR, Nat.zero_add] at h ⊢
      split at h
      · cases h
      · rename_i h1
        split at h
        · cases h
        · rename_i h2
          rw [if_neg h1, if_neg h2]
          exact ⟨os, e, hv, by omega, by omega, by rw [e, List.length_map] at hl; omega, rfl⟩
theorem lensR_sop {os : List O} (hv : V os) (hl : os.length ≤ 3000) (hb : base os ≤ 1000) (ht : targ os ≤ 1000) : lensR (os.map sop) = ((base os : Int), (targ os : Int), 0) := by
  unfold lensR
  rw [if_neg (by rw [List.length_map]; omega), parse_sop hv]
  simp only [moreR, finR, Nat.zero_add]
  rw [if_neg (by omega), if_neg (by omega)]

/-! ### the document's check -/
theorem refcheck_loop (d : List S36) (hd : d.length ≤ 3000) (hs : Sz d) : ∀ (r i b t : Nat), d.length = i + r → b ≤ 1000 * i → t ≤ 1099511628776 * i →
    Ev (fun k => oxbowref09_Check.l0 k d (b : Int) (t : Int) (i : Int)) (moreR b t (parse (d.drop i))).2.2
  | 0, i, b, t, hi, hb, ht => by
    refine Ev.step (fun k => by simp only [oxbowref09_Check.l0]; rfl) (Ev.neg (by omega) ?_)
    rw [List.drop_of_length_le (by omega)]
    exact finR_ev2 b t
  | r + 1, i, b, t, hi, hb, ht => by
    have hil : i < d.length := by omega
    refine Ev.step (fun k => by simp only [oxbowref09_Check.l0]; rfl) (Ev.pos (by omega) (Ev.pos (by omega) ?_))
    rw [rd_get d i hil]
    have hx := hs d[i] (List.getElem_mem hil)
    refine Ev.bind (ref_len_ev _ (by omega)) ?_
    rw [drop_parse d i hil]
    have hz := nil_beq (d[i]).f2
    have hnz : ((d[i]).f2.toList != ([] : List UInt8)) = !(decide ((d[i]).f2.size = 0)) := by
      unfold bne
      rw [hz]
    -- a keep or a delete
    have J2 : ∀ (f0 : Int), (d[i]).f0 = f0 → f0 = 1 ∨ f0 = 3 → Ev (fun k => oxbowref09_Check.j1 k d (b : Int) (t : Int) (i : Int) (lenR (dec (d[i]).f2.data.toList)) f0 true f0 (d[i]).f1 (d[i]).f2) (moreR b t ((okx d[i]).bind fun o => (parse (d.drop (i + 1))).map (o :: ·))).2.2 := by
      intro f0 hf h13
      refine Ev.step (fun k => by simp only [oxbowref09_Check.j1]; rfl) (Ev.pos trivial ?_)
      by_cases hc : (d[i]).f2.size = 0 ∧ 1 ≤ (d[i]).f1 ∧ (d[i]).f1 ≤ 1000
      · refine Ev.neg (by omega) (Ev.neg (by omega) ?_)
        rw [hnz]
        refine Ev.step (fun k => by simp only [oxbowref09_Check.j2]; rfl) (Ev.neg (by simp [hc.1]) ?_)
        obtain ⟨n, hn⟩ : ∃ n : Nat, (d[i]).f1 = (n : Int) := ⟨(d[i]).f1.toNat, (Int.toNat_of_nonneg (by omega)).symm⟩
        rw [hn]
        rw [Ev.wrap_add b n (by omega), Ev.wrap_succ i (by omega)]
        rcases h13 with h1 | h3
        · subst h1
          have ho : okx d[i] = some (.keep n) := by unfold okx; rw [if_pos hf, if_pos hc, hn]; rfl
          rw [ho, Ev.wrap_add t n (by omega)]
          refine Ev.pos rfl (Ev.val (refcheck_loop d hd hs r (i + 1) (b + n) (t + n) (by omega) (by omega) (by omega)) ?_)
          show (moreR (b + n) (t + n) (parse (d.drop (i + 1)))).2.2 = (moreR b t ((parse (d.drop (i + 1))).map (O.keep n :: ·))).2.2
          cases parse (d.drop (i + 1)) with
          | none => rfl
          | some os => simp only [Option.map_some, moreR, base, targ, Nat.add_assoc]
        · subst h3
          have ho : okx d[i] = some (.del n) := by unfold okx; rw [if_neg (by rw [hf]; decide), if_pos hf, if_pos hc, hn]; rfl
          rw [ho]
          refine Ev.neg (by decide) (Ev.val (refcheck_loop d hd hs r (i + 1) (b + n) t (by omega) (by omega) (by omega)) ?_)
          show (moreR (b + n) t (parse (d.drop (i + 1)))).2.2 = (moreR b t ((parse (d.drop (i + 1))).map (O.del n :: ·))).2.2
          cases parse (d.drop (i + 1)) with
          | none => rfl
          | some os => simp only [Option.map_some, moreR, base, targ, Nat.add_assoc]
      · have ho : okx d[i] = none := by
          unfold okx
          rcases h13 with h1 | h3
          · rw [if_pos (by omega), if_neg hc]
          · rw [if_neg (by omega), if_pos (by omega), if_neg hc]
        rw [ho]
        by_cases c1 : (d[i]).f1 < 1
        · exact Ev.pos c1 (Ev.step (fun k => by simp only [oxbowref09_Check.j2]; rfl) (Ev.pos trivial (Ev.now _)))
        · refine Ev.neg c1 ?_
          by_cases c2 : (d[i]).f1 > 1000
          · exact Ev.pos c2 (Ev.step (fun k => by simp only [oxbowref09_Check.j2]; rfl) (Ev.pos trivial (Ev.now _)))
          · refine Ev.neg c2 ?_
            rw [hnz]
            refine Ev.step (fun k => by simp only [oxbowref09_Check.j2]; rfl) (Ev.pos ?_ (Ev.now _))
            have : ¬ (d[i]).f2.size = 0 := fun h => hc ⟨h, by omega, by omega⟩
            simp [this]
    by_cases h1 : (d[i]).f0 = 1
    · refine Ev.pos h1 ?_
      have e : ((d[i]).f0 == 1) = true := beq_iff_eq.2 h1
      rw [e, h1]
      exact J2 1 h1 (.inl rfl)
    · refine Ev.neg h1 ?_
      by_cases h3 : (d[i]).f0 = 3
      · have e : ((d[i]).f0 == 3) = true := beq_iff_eq.2 h3
        rw [e, h3]
        exact J2 3 h3 (.inr rfl)
      · have e : ((d[i]).f0 == 3) = false := beq_eq_false_iff_ne.2 h3
        rw [e]
        refine Ev.step (fun k => by simp only [oxbowref09_Check.j1]; rfl) (Ev.neg (by decide) ?_)
        by_cases h2 : (d[i]).f0 = 2
        · refine Ev.pos h2 ?_
          by_cases h0 : (d[i]).f1 = 0
          · refine Ev.pos h0 ?_
            have hox : okx d[i] = (match dec (d[i]).f2.data.toList with
              | some (p :: ps) => some (.ins (p :: ps))
              | _ => none) := by unfold okx; rw [if_neg h1, if_neg h3, if_pos ⟨h2, h0⟩]
            cases hdec : dec (d[i]).f2.data.toList with
            | none =>
              rw [hdec] at hox
              rw [hox]
              exact Ev.pos (by simp [lenR]) (Ev.now _)
            | some ps => cases ps with
              | nil =>
                rw [hdec] at hox
                rw [hox]
                exact Ev.pos (by simp [lenR]) (Ev.now _)
              | cons p ps =>
                rw [hdec] at hox
                obtain ⟨h5, h6⟩ := ins_len hox
                rw [hox]
                simp only [lenR]
                refine Ev.neg (by simp only [List.length_cons]; omega) ?_
                rw [Ev.wrap_add t _ (by omega), Ev.wrap_succ i (by omega)]
                refine Ev.val (refcheck_loop d hd hs r (i + 1) b (t + (p :: ps).length) (by omega) (by omega) (by omega)) ?_
                show (moreR b (t + (p :: ps).length) (parse (d.drop (i + 1)))).2.2 = (moreR b t ((parse (d.drop (i + 1))).map (O.ins (p :: ps) :: ·))).2.2
                cases parse (d.drop (i + 1)) with
                | none => rfl
                | some os => simp only [Option.map_some, moreR, base, targ, Nat.add_assoc]
          · have hox : okx d[i] = none := by unfold okx; rw [if_neg h1, if_neg h3, if_neg (fun h => h0 h.2)]
            rw [hox]
            exact Ev.neg h0 (Ev.now _)
        · have hox : okx d[i] = none := by unfold okx; rw [if_neg h1, if_neg h3, if_neg (fun h => h2 h.1)]
          rw [hox]
          exact Ev.neg h2 (Ev.now _)
theorem refcheck_ev (d : List S36) (hs : Sz d) : Ev (fun k => oxbowref09_Check.f k d) (lensR d).2.2 := by
  unfold oxbowref09_Check.f lensR
  by_cases h : 3000 < d.length
  · rw [if_pos h]; exact Ev.pos (by omega) (Ev.now _)
  · rw [if_neg h]
    exact Ev.neg (by omega) (refcheck_loop d (by omega) hs d.length 0 0 0 (by omega) (by omega) (by omega))

/-! ### a text behind a delta -/
def sN (o : O) : Nat := match o with
  | .keep n => n
  | .del n => n
  | .ins _ => 0
theorem sop_f1 (o : O) : (sop o).f1 = (sN o : Int) := by cases o <;> rfl
theorem sop_get (os : List O) (i : Nat) (h : i < os.length) : rd_T36 (os.map sop) (i : Int) = sop os[i] := by
  rw [rd_get _ i (by rw [List.length_map]; exact h), List.getElem_map]
theorem em_append (s : ByteArray) : s ++ (⟨#[]⟩ : ByteArray) = s := Ev.ext_data (by rw [Ev.data_append]; simp)
theorem apply_loop (os : List O) (hv : V os) (hn : os.length ≤ 3000) : ∀ (r i : Nat) (l acc : List Nat), os.length = i + r → base (os.drop i) ≤ l.length → AllP l → l.length < 1099511627776 → (acc ++ app (os.drop i) l).length ≤ 1099511627776 →
    Ev (fun k => delta_Apply.l0 k (zs l) (st acc) (os.map sop) (os.length : Int) (i : Int)) (st (acc ++ app (os.drop i) l), 0)
  | 0, i, l, acc, hi, hb, hl, hm, ha => by
    refine Ev.step (fun k => by simp only [delta_Apply.l0]; rfl) (Ev.neg (by omega) (Ev.val (Ev.now _) ?_))
    rw [List.drop_of_length_le (by omega)]
    simp [app]
  | r + 1, i, l, acc, hi, hb, hl, hm, ha => by
    have hil : i < os.length := by omega
    have ed := List.drop_eq_getElem_cons hil
    have hvi : VO os[i] := hv _ (List.getElem_mem hil)
    refine Ev.step (fun k => by simp only [delta_Apply.l0]; rfl) (Ev.pos (by omega) (Ev.pos (by omega) (Ev.pos (by rw [List.length_map]; omega) ?_)))
    rw [sop_get os i hil, sop_f1, ed]
    rw [ed] at hb ha
    have B := fun (q : List Nat) => enc_length_le q
    cases ho : os[i] with
    | keep n =>
      rw [ho] at hb ha hvi
      simp only [base] at hb
      simp only [app] at ha ⊢
      simp only [sN, sop]
      refine Ev.pos trivial (Ev.pos (by omega) (Ev.pos (by rw [zs_length]; omega) ?_))
      rw [Int.toNat_natCast, zs_take, zs_drop, Ev.wrap_succ i (by omega)]
      rw [← List.append_assoc] at ha ⊢
      have hs1 : (st acc).size + (st (l.take n)).size ≤ 9223372036854775807 := by
        have h1 := B (acc ++ l.take n)
        have h2 : (acc ++ l.take n).length ≤ 1099511627776 := by rw [List.length_append] at ha; omega
        rw [enc_append, List.length_append] at h1
        rw [st_size, st_size]
        omega
      refine Ev.bind (text_ev _ (hl.take n) (Nat.lt_of_le_of_lt (List.length_take_le' _ _) (by omega))) (Ev.pos hs1 (Ev.pos ?_ ?_))
      · rw [ByteArray.size_append]; exact hs1
      · rw [em_append, ← st_append]
        exact apply_loop os hv hn r (i + 1) _ _ (by omega) (by rw [List.length_drop]; omega) (hl.drop n) (by rw [List.length_drop]; omega) ha
    | del n =>
      rw [ho] at hb ha hvi
      simp only [base] at hb
      simp only [app] at ha ⊢
      simp only [sN, sop]
      refine Ev.neg (by decide) (Ev.pos (by omega) (Ev.pos (by rw [zs_length]; omega) ?_))
      rw [Int.toNat_natCast, zs_drop, Ev.wrap_succ i (by omega)]
      refine Ev.pos ?_ ?_
      · have h1 := B acc
        have h2 : acc.length ≤ 1099511627776 := by rw [List.length_append] at ha; omega
        rw [st_size]
        show _ + 0 ≤ _
        omega
      · rw [em_append]
        exact apply_loop os hv hn r (i + 1) _ _ (by omega) (by rw [List.length_drop]; omega) (hl.drop n) (by rw [List.length_drop]; omega) ha
    | ins p =>
      rw [ho] at hb ha hvi
      simp only [base] at hb
      simp only [app] at ha ⊢
      simp only [sN, sop]
      refine Ev.neg (by decide) (Ev.pos (by decide) (Ev.pos (by rw [zs_length]; omega) ?_))
      rw [show (((0 : Nat) : Int)).toNat = 0 from rfl, List.drop_zero, Ev.wrap_succ i (by omega)]
      rw [← List.append_assoc] at ha ⊢
      refine Ev.pos ?_ ?_
      · have h1 := B (acc ++ p)
        have h2 : (acc ++ p).length ≤ 1099511627776 := by rw [List.length_append] at ha; omega
        rw [enc_append, List.length_append] at h1
        rw [st_size, st_size]
        omega
      · rw [← st_append]
        exact apply_loop os hv hn r (i + 1) _ _ (by omega) hb hl hm ha
def applyR (s : ByteArray) (d : List S36) : ByteArray × Int :=
  match dec s.data.toList with
  | none => (⟨#[]⟩, 10)
  | some l => if (lensR d).2.2 = 0 then (if (lensR d).1 = (l.length : Int) then (match parse d with
      | some os => (st (app os l), 0)
      | none => (⟨#[]⟩, 0)) else (⟨#[]⟩, 91)) else (⟨#[]⟩, (lensR d).2.2)
theorem st_nil : st [] = (⟨#[]⟩ : ByteArray) := Ev.ext_data (by rw [st_data]; rfl)
theorem apply_ev (s : ByteArray) (hs : s.size < 1099511627776) (d : List S36) (hd : Sz d) : Ev (fun k => delta_Apply.f k s d) (applyR s d) := by
  unfold delta_Apply.f applyR
  refine Ev.bind (points_ev s (by omega)) (Ev.bind (base_ev d hd) ?_)
  cases hp : dec s.data.toList with
  | none => exact Ev.neg (by simp [ptR]) (Ev.now _)
  | some l =>
    refine Ev.pos rfl ?_
    simp only [ptR, List.nil_append, zs_length]
    by_cases h0 : (lensR d).2.2 = 0
    · rw [if_pos h0]
      refine Ev.pos h0 ?_
      by_cases h1 : (lensR d).1 = (l.length : Int)
      · rw [if_pos h1]
        refine Ev.pos h1 ?_
        obtain ⟨os, rfl, hv, hb, ht, hl, he⟩ := lensR_ok h0
        rw [parse_sop hv]
        simp only
        rw [he] at h1
        have hbl : base os = l.length := Int.ofNat.inj h1
        have := apply_loop os hv hl os.length 0 l [] (by omega) (by simp; omega) (dec_allP hp) (by omega) (by simp only [List.drop_zero, List.nil_append]; rw [app_length os l (by omega)]; omega)
        rw [st_nil] at this
        rw [List.length_map]
        simpa using this
      · rw [if_neg h1]
        exact Ev.neg h1 (Ev.now _)
    · rw [if_neg h0]
      exact Ev.neg h0 (Ev.now _)
/-- Two lists that are the same are told so. -/
theorem same_loop (a : List S36) (hl : a.length < 9223372036854775807) : ∀ (r i : Nat), a.length = i + r → Ev (fun k => oxbowref09_Same.l0 k a a (i : Int)) true
  | 0, i, h => Ev.step (fun k => by simp only [oxbowref09_Same.l0]; rfl) (Ev.neg (by omega) (Ev.now _))
  | r + 1, i, h => by
    refine Ev.step (fun k => by simp only [oxbowref09_Same.l0]; rfl) (Ev.pos (by omega) (Ev.pos (by omega) (Ev.pos (by omega) (Ev.neg (by simp) ?_))))
    rw [Ev.wrap_succ i (by omega)]
    exact same_loop a hl r (i + 1) (by omega)
theorem same_ev (a b : List S36) (hl : a.length < 9223372036854775807) (h : a = b) : Ev (fun k => oxbowref09_Same.f k a b) true := by
  subst h
  unfold oxbowref09_Same.f
  exact Ev.pos rfl (same_loop a hl a.length 0 (by omega))
end Go.Proofs.Ytdpbkomaiafemaa.Dddl
