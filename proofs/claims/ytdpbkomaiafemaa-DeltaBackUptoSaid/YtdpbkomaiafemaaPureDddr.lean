/- What the program's and the document's reading of deltas comes to, in plain words. -/
import Derived.Test.YtdpbkomaiafemaaHDdx10
import Derived.Test.YtdpbkomaiafemaaHDdx9
import Derived.Test.YtdpbkomaiafemaaPureDder
import Derived.Test.YtdpbkomaiafemaaPureDdrt
namespace Go.Proofs.Ytdpbkomaiafemaa.Ddec
open Go.RowKit Go.Proofs.Ytdpbkomaiafemaa.HDd Go.Proofs.Ytdpbkomaiafemaa.Ddtx Go.Proofs.Ytdpbkomaiafemaa.Dddl Go.Proofs.Ytdpbkomaiafemaa.Dddn Go.Proofs.Ytdpbkomaiafemaa.Ddpk Go.Proofs.Ytdpbkomaiafemaa.Pk Go.Proofs.Ytdpbkomaiafemaa.Tx Go.Proofs.Ytdpbkomaiafemaa.Dl Go.Proofs.YtdpbkomaiafemaaW.PrintWords Go.Proofs.YtdpbkomaiafemaaW.PrintLast Go.Proofs.YtdpbkomaiafemaaW.PrintMore
set_option linter.unusedSimpArgs false
set_option linter.unusedVariables false

/-- What stands behind a kind; operations, one by one: them, and how many bytes. -/
def rp (kd : Nat) (l : List UInt8) : Except Int (S36 × Nat) :=
  if kd = 2 then (match tt l with
    | .ok (t, j) => .ok (⟨(kd : Int), 0, ⟨t.toArray⟩⟩, j)
    | .error e => .error e)
  else (match tk 1125899906842624 l 0 0 with
    | .ok (n, j) => .ok (⟨(kd : Int), (n : Int), ⟨#[]⟩⟩, j)
    | .error e => .error e)
def rops : Nat → List UInt8 → Option (List S36 × Nat)
  | 0, _ => some ([], 0)
  | n + 1, l => match tk 1125899906842624 l 0 0 with
    | .error _ => none
    | .ok (kd, j) => match rp kd (l.drop j) with
      | .error _ => none
      | .ok (x, i) => (rops n (l.drop (j + i))).map fun p => (x :: p.1, j + i + p.2)
/-- An operation's bytes, whatever it is. -/
def rawB (x : S36) : List UInt8 := vb x.f0.toNat ++ (if x.f0 = 2 then txt x.f2.data.toList else vb x.f1.toNat)
theorem tt_error_ne {l : List UInt8} {e : Int} (h : tt l = .error e) : e ≠ 0 := by
  unfold tt at h
  split at h
  · rename_i e2 h2
    injection h with h
    subst h
    exact error_ne h2
  · split at h
    · injection h with h; omega
    · cases h
theorem rp_error_ne {kd : Nat} {l : List UInt8} {e : Int} (h : rp kd l = .error e) : e ≠ 0 := by
  unfold rp at h
  split at h
  · split at h
    · cases h
    · rename_i e2 h2
      injection h with h
      subst h
      exact tt_error_ne h2
  · split at h
    · cases h
    · rename_i e2 h2
      injection h with h
      subst h
      exact error_ne h2
theorem rp_one {kd : Nat} {l : List UInt8} {x : S36} {j : Nat} (h : rp kd l = .ok (x, j)) : vb kd ++ l.take j = rawB x ∧ j ≤ l.length ∧ x.f2.size ≤ 20000 := by
  unfold rp at h
  split at h
  · rename_i h2
    subst h2
    split at h
    · rename_i t i ht
      simp only [Except.ok.injEq, Prod.mk.injEq] at h
      obtain ⟨rfl, rfl⟩ := h
      obtain ⟨h1, h2, h3, h4, h5⟩ := tt_one _ _ _ ht
      refine ⟨?_, h4, ?_⟩
      · unfold rawB
        rw [h1, if_pos (by rfl)]
        rfl
      · show (⟨t.toArray⟩ : ByteArray).size ≤ _
        rw [← Ev.len_data]
        exact h3
    · cases h
  · rename_i h2
    split at h
    · rename_i n i ht
      simp only [Except.ok.injEq, Prod.mk.injEq] at h
      obtain ⟨rfl, rfl⟩ := h
      obtain ⟨h1, h3, h4, h5⟩ := tk_one _ _ _ _ ht
      obtain ⟨h6, h7⟩ := tk_le _ _ _ _ ht
      refine ⟨?_, h6, by show (0 : Nat) ≤ 20000; decide⟩
      unfold rawB
      simp only
      rw [h1, if_neg (by omega), Int.toNat_natCast, Int.toNat_natCast]
    · cases h
theorem rops_one : ∀ (n : Nat) (l : List UInt8) (d : List S36) (m : Nat), rops n l = some (d, m) → l.take m = d.flatMap rawB ∧ m ≤ l.length ∧ d.length = n ∧ ∀ x ∈ d, x.f2.size ≤ 20000
  | 0, l, d, m, h => by
    simp only [rops, Option.some.injEq, Prod.mk.injEq] at h
    obtain ⟨rfl, rfl⟩ := h
    simp
  | n + 1, l, d, m, h => by
    simp only [rops] at h
    split at h
    · cases h
    · rename_i kd j hk
      split at h
      · cases h
      · rename_i x i hx
        obtain ⟨⟨d2, m2⟩, h2, h3⟩ := Option.map_eq_some_iff.1 h
        simp only [Prod.mk.injEq] at h3
        obtain ⟨rfl, rfl⟩ := h3
        obtain ⟨a1, a2, a3, a4⟩ := rops_one n _ _ _ h2
        obtain ⟨b1, b2, b3⟩ := rp_one hx
        obtain ⟨c1, c2, c3, c4⟩ := tk_one _ _ _ _ hk
        obtain ⟨c5, c6⟩ := tk_le _ _ _ _ hk
        rw [List.length_drop] at a2 b2
        refine ⟨?_, by omega, by simp [a3], ?_⟩
        · rw [List.take_add, List.take_add, a1, c1, b1, List.flatMap_cons]
        · intro y hy
          rcases List.mem_cons.1 hy with rfl | hy
          · exact b3
          · exact a4 y hy
theorem rawB_sop (o : O) (hv : VO o) : rawB (sop o) = opB o := by
  unfold rawB opB
  rw [sop_f0, Int.toNat_natCast]
  cases o with
  | keep n => rw [if_neg (by simp only [kindN]; omega)]; rfl
  | del n => rw [if_neg (by simp only [kindN]; omega)]; rfl
  | ins p => rw [if_pos (by rfl)]; simp only [bodyB, sop, st_data]
theorem rawB_sops : ∀ (os : List O), V os → (os.map sop).flatMap rawB = os.flatMap opB
  | [], _ => rfl
  | o :: os, h => by
    rw [List.map_cons, List.flatMap_cons, List.flatMap_cons, rawB_sop o h.head, rawB_sops os h.tail]
theorem rp_back (o : O) (hv : VO o) (ht : targ [o] ≤ 1000) (rest : List UInt8) : rp (kindN o) (bodyB o ++ rest) = .ok (sop o, (bodyB o).length) := by
  unfold rp
  cases o with
  | keep n => rw [if_neg (by simp only [kindN]; omega)]; simp only [bodyB]; rw [tk_back _ n rest (by have := hv.2; omega) (by have := hv.2; omega)]; rfl
  | del n => rw [if_neg (by simp only [kindN]; omega)]; simp only [bodyB]; rw [tk_back _ n rest (by have := hv.2; omega) (by have := hv.2; omega)]; rfl
  | ins p =>
    have h1 := enc_length_le p
    have h2 : p.length ≤ 1000 := by simpa [targ] using ht
    rw [if_pos (show kindN (O.ins p) = 2 from rfl)]
    simp only [bodyB]
    rw [tt_back (enc p) rest (by omega)]
    have e : (⟨(enc p).toArray⟩ : ByteArray) = st p := Ev.ext_data (by rw [st_data])
    simp only [sop, kindN, e]
    rfl
theorem rops_back : ∀ (os : List O) (rest : List UInt8), V os → targ os ≤ 1000 → rops os.length (os.flatMap opB ++ rest) = some (os.map sop, (os.flatMap opB).length)
  | [], rest, _, _ => rfl
  | o :: os, rest, hv, ht => by
    have ht1 : targ [o] ≤ 1000 := targ_one (by simp) ht
    have ht2 : targ os ≤ 1000 := by cases o <;> simp only [targ] at ht <;> omega
    simp only [List.length_cons, rops, List.flatMap_cons, opB, List.append_assoc]
    rw [tk_back _ (kindN o) _ (by have := kindN_le o; omega) (by have := kindN_le o; omega)]
    simp only
    rw [List.drop_left, rp_back o hv.head ht1]
    simp only
    rw [← List.drop_drop, List.drop_left, List.drop_left]
    have ih := rops_back os rest hv.tail ht2
    rw [ih]
    simp only [Option.map_some, List.map_cons, List.length_append, Nat.add_assoc]
def finD (s : ByteArray) (d : List S36) (at_ : Nat) : List S36 × Int := if at_ = s.size ∧ (lensR d).2.2 = 0 then (d, 0) else ([], 90)
def goD (s : ByteArray) (d : List S36) (at_ : Nat) : Option (List S36 × Nat) → List S36 × Int
  | none => ([], 90)
  | some p => finD s (d ++ p.1) (at_ + p.2)
def decR (s : ByteArray) : List S36 × Int := match tk 1125899906842624 s.data.toList 0 0 with
  | .error _ => ([], 90)
  | .ok (n, j) => if 3000 < n then ([], 90) else goD s [] j (rops n (s.data.toList.drop j))

/-! ### the program -/
theorem part_ok (s : ByteArray) (hs : s.size ≤ 4611686018427387904) (at_ : Nat) (ha : at_ ≤ s.size) (kd : Nat) (x : S36) (j : Nat) (h : rp kd (s.data.toList.drop at_) = .ok (x, j)) : Ev (fun k => delta_Decode.part k s (kd : Int) (at_ : Int)) (x, ((at_ + j : Nat) : Int), 0) := by
  unfold delta_Decode.part
  unfold rp at h
  have hT := takeText_ev s hs at_ ha
  have hN := takeNum_ev s hs at_ ha
  split at h
  · rename_i h2
    split at h
    · rename_i t i ht
      simp only [Except.ok.injEq, Prod.mk.injEq] at h
      obtain ⟨rfl, rfl⟩ := h
      rw [ht] at hT
      exact Ev.pos (by omega) (Ev.bind hT (Ev.now _))
    · cases h
  · rename_i h2
    split at h
    · rename_i n i ht
      simp only [Except.ok.injEq, Prod.mk.injEq] at h
      obtain ⟨rfl, rfl⟩ := h
      rw [ht] at hN
      exact Ev.neg (by omega) (Ev.bind hN (Ev.now _))
    · cases h
theorem part_no (s : ByteArray) (hs : s.size ≤ 4611686018427387904) (at_ : Nat) (ha : at_ ≤ s.size) (kd : Nat) (e : Int) (h : rp kd (s.data.toList.drop at_) = .error e) : ∃ x a, Ev (fun k => delta_Decode.part k s (kd : Int) (at_ : Int)) (x, a, e) := by
  unfold delta_Decode.part
  unfold rp at h
  have hT := takeText_ev s hs at_ ha
  have hN := takeNum_ev s hs at_ ha
  split at h
  · rename_i h2
    split at h
    · cases h
    · rename_i e2 ht
      simp only [Except.error.injEq] at h
      subst h
      rw [ht] at hT
      exact ⟨_, _, Ev.pos (by omega) (Ev.bind hT (Ev.now _))⟩
  · rename_i h2
    split at h
    · cases h
    · rename_i e2 ht
      simp only [Except.error.injEq] at h
      subst h
      rw [ht] at hN
      exact ⟨_, _, Ev.neg (by omega) (Ev.bind hN (Ev.now _))⟩
theorem dec_loop (s : ByteArray) (hs : s.size ≤ 4611686018427387904) (n : Nat) (hn : n ≤ 3000) : ∀ (r i : Nat) (d : List S36) (at_ : Nat), n = i + r → d.length = i → at_ ≤ s.size → s.data.toList.take at_ = vb n ++ d.flatMap rawB → (∀ x ∈ d, x.f2.size ≤ 20000) →
    Ev (fun k => delta_Decode.l0 k s (n : Int) d (at_ : Int) (i : Int)) (goD s d at_ (rops r (s.data.toList.drop at_)))
  | 0, i, d, at_, hi, hd, ha, hp, hz => by
    have hS : Sz d := fun x hx => by have := hz x hx; omega
    refine Ev.step (fun k => by simp only [delta_Decode.l0]; rfl) (Ev.pos (by omega) (Ev.neg (by omega) ?_))
    show Ev _ (finD s (d ++ []) (at_ + 0))
    rw [List.append_nil, Nat.add_zero]
    unfold finD
    by_cases h1 : at_ = s.size
    · refine Ev.pos (by omega) (Ev.bind (check_ev d hS) ?_)
      by_cases h2 : (lensR d).2.2 = 0
      · rw [if_pos (c := at_ = s.size ∧ (lensR _).2.2 = 0) ⟨h1, h2⟩]; exact Ev.pos h2 (Ev.now _)
      · rw [if_neg (c := at_ = s.size ∧ (lensR _).2.2 = 0) (fun h => h2 h.2)]; exact Ev.neg h2 (Ev.now _)
    · rw [if_neg (c := at_ = s.size ∧ (lensR _).2.2 = 0) (fun h => h1 h.1)]; exact Ev.neg (by omega) (Ev.now _)
  | r + 1, i, d, at_, hi, hd, ha, hp, hz => by
    refine Ev.step (fun k => by simp only [delta_Decode.l0]; rfl) (Ev.pos (by omega) (Ev.pos (by omega) ?_))
    have hN := takeNum_ev s hs at_ ha
    simp only [rops]
    cases hk : tk 1125899906842624 (s.data.toList.drop at_) 0 0 with
    | error e =>
      rw [hk] at hN
      exact Ev.bind hN (Ev.neg (error_ne hk) (Ev.now _))
    | ok nj =>
      obtain ⟨kd, j⟩ := nj
      rw [hk] at hN
      obtain ⟨c1, c2, c3, c4⟩ := tk_one _ _ _ _ hk
      obtain ⟨c5, c6⟩ := tk_le _ _ _ _ hk
      rw [List.length_drop, Ev.len_data] at c5
      refine Ev.bind hN (Ev.pos rfl ?_)
      dsimp only [tkR]
      rw [List.drop_drop]
      cases hx : rp kd (s.data.toList.drop (at_ + j)) with
      | error e =>
        obtain ⟨x, a, hE⟩ := part_no s hs (at_ + j) (by omega) kd e hx
        exact Ev.bind hE (Ev.neg (rp_error_ne hx) (Ev.now _))
      | ok xj =>
        obtain ⟨x, i2⟩ := xj
        obtain ⟨b1, b2, b3⟩ := rp_one hx
        rw [List.length_drop, Ev.len_data] at b2
        have hE := part_ok s hs (at_ + j) (by omega) kd x i2 hx
        refine Ev.bind hE (Ev.pos rfl ?_)
        dsimp only
        rw [Ev.wrap_succ i (by omega), List.drop_drop]
        refine Ev.val (dec_loop s hs n hn r (i + 1) (d ++ [x]) (at_ + j + i2) (by omega) (by simp [hd]) (by omega) ?_ ?_) ?_
        · rw [List.take_add, List.take_add, hp, c1, List.flatMap_append]
          simp only [List.append_assoc]
          congr 2
          simp only [List.flatMap_cons, List.flatMap_nil, List.append_nil]
          exact b1
        · intro y hy
          rcases List.mem_append.1 hy with hy | hy
          · exact hz y hy
          · rw [List.mem_singleton.1 hy]; exact b3
        · rw [← Nat.add_assoc]
          cases rops r (s.data.toList.drop (at_ + j + i2)) with
          | none => rfl
          | some p =>
            simp only [Option.map_some, goD, List.append_assoc, List.cons_append, List.nil_append, Nat.add_assoc]
theorem dec_ev (s : ByteArray) (hs : s.size ≤ 4611686018427387904) : Ev (fun k => delta_Decode.f k s) (decR s) := by
  unfold delta_Decode.f decR
  have hN := takeNum_ev s hs 0 (by omega)
  rw [List.drop_zero] at hN
  cases hk : tk 1125899906842624 s.data.toList 0 0 with
  | error e =>
    rw [hk] at hN
    exact Ev.bind hN (Ev.neg (error_ne hk) (Ev.now _))
  | ok nj =>
    obtain ⟨n, j⟩ := nj
    rw [hk] at hN
    obtain ⟨c1, c2, c3, c4⟩ := tk_one _ _ _ _ hk
    obtain ⟨c5, c6⟩ := tk_le _ _ _ _ hk
    rw [Ev.len_data] at c5
    refine Ev.bind hN (Ev.pos rfl ?_)
    dsimp only [tkR]
    rw [Nat.zero_add]
    by_cases hb : 3000 < n
    · rw [if_pos hb]
      exact Ev.pos (by omega) (Ev.now _)
    · rw [if_neg hb]
      refine Ev.neg (by omega) (dec_loop s hs n (by omega) n 0 [] j (by omega) rfl (by omega) (by rw [c1]; simp) (by simp))

/-! ### the document -/
theorem refpart_ok (s : ByteArray) (hs : s.size ≤ 4611686018427387904) (at_ : Nat) (ha : at_ ≤ s.size) (kd : Nat) (x : S36) (j : Nat) (h : rp kd (s.data.toList.drop at_) = .ok (x, j)) : Ev (fun k => oxbowref09_Decode.part k s (kd : Int) (at_ : Int)) (x, ((at_ + j : Nat) : Int), 0) := by
  unfold oxbowref09_Decode.part
  unfold rp at h
  have hT := refTakeText_ev s hs at_ ha
  have hN := refTakeNum_ev s hs at_ ha
  split at h
  · rename_i h2
    split at h
    · rename_i t i ht
      simp only [Except.ok.injEq, Prod.mk.injEq] at h
      obtain ⟨rfl, rfl⟩ := h
      rw [ht] at hT
      exact Ev.pos (by omega) (Ev.bind hT (Ev.now _))
    · cases h
  · rename_i h2
    split at h
    · rename_i n i ht
      simp only [Except.ok.injEq, Prod.mk.injEq] at h
      obtain ⟨rfl, rfl⟩ := h
      rw [ht] at hN
      exact Ev.neg (by omega) (Ev.bind hN (Ev.now _))
    · cases h
theorem refpart_no (s : ByteArray) (hs : s.size ≤ 4611686018427387904) (at_ : Nat) (ha : at_ ≤ s.size) (kd : Nat) (e : Int) (h : rp kd (s.data.toList.drop at_) = .error e) : ∃ x a, Ev (fun k => oxbowref09_Decode.part k s (kd : Int) (at_ : Int)) (x, a, e) := by
  unfold oxbowref09_Decode.part
  unfold rp at h
  have hT := refTakeText_ev s hs at_ ha
  have hN := refTakeNum_ev s hs at_ ha
  split at h
  · rename_i h2
    split at h
    · cases h
    · rename_i e2 ht
      simp only [Except.error.injEq] at h
      subst h
      rw [ht] at hT
      exact ⟨_, _, Ev.pos (by omega) (Ev.bind hT (Ev.now _))⟩
  · rename_i h2
    split at h
    · cases h
    · rename_i e2 ht
      simp only [Except.error.injEq] at h
      subst h
      rw [ht] at hN
      exact ⟨_, _, Ev.neg (by omega) (Ev.bind hN (Ev.now _))⟩
theorem refdec_loop (s : ByteArray) (hs : s.size ≤ 4611686018427387904) (n : Nat) (hn : n ≤ 3000) : ∀ (r i : Nat) (d : List S36) (at_ : Nat), n = i + r → d.length = i → at_ ≤ s.size → s.data.toList.take at_ = vb n ++ d.flatMap rawB → (∀ x ∈ d, x.f2.size ≤ 20000) →
    Ev (fun k => oxbowref09_Decode.l0 k s (n : Int) d (at_ : Int) (i : Int)) (goD s d at_ (rops r (s.data.toList.drop at_)))
  | 0, i, d, at_, hi, hd, ha, hp, hz => by
    have hS : Sz d := fun x hx => by have := hz x hx; omega
    refine Ev.step (fun k => by simp only [oxbowref09_Decode.l0]; rfl) (Ev.pos (by omega) (Ev.neg (by omega) ?_))
    show Ev _ (finD s (d ++ []) (at_ + 0))
    rw [List.append_nil, Nat.add_zero]
    unfold finD
    refine Ev.bind (refenc_ev d hS) ?_
    unfold encR
    by_cases h2 : (lensR d).2.2 = 0
    · rw [if_pos h2]
      obtain ⟨os, rfl, hv, hb, ht, hl, he⟩ := lensR_ok h2
      rw [parse_sop hv]
      refine Ev.pos rfl ?_
      have hB : (B (encB os)).toList = s.data.toList.take at_ := by
        rw [Ev.toList_data, B_data, hp, rawB_sops os hv]
        unfold encB
        rw [List.length_map] at hd
        rw [show os.length = n from by omega]
      by_cases h1 : at_ = s.size
      · rw [if_pos (c := at_ = s.size ∧ (lensR _).2.2 = 0) ⟨h1, h2⟩]
        exact Ev.pos (by rw [hB, Ev.toList_data, List.take_of_length_le (by rw [Ev.len_data]; omega)]) (Ev.now _)
      · rw [if_neg (c := at_ = s.size ∧ (lensR _).2.2 = 0) (fun h => h1 h.1)]
        refine Ev.neg ?_ (Ev.now _)
        rw [hB, Ev.toList_data]
        intro h
        have := congrArg List.length h
        rw [List.length_take, Ev.len_data] at this
        omega
    · rw [if_neg h2, if_neg (c := at_ = s.size ∧ (lensR _).2.2 = 0) (fun h => h2 h.2)]
      exact Ev.neg h2 (Ev.now _)
  | r + 1, i, d, at_, hi, hd, ha, hp, hz => by
    refine Ev.step (fun k => by simp only [oxbowref09_Decode.l0]; rfl) (Ev.pos (by omega) (Ev.pos (by omega) ?_))
    have hN := refTakeNum_ev s hs at_ ha
    simp only [rops]
    cases hk : tk 1125899906842624 (s.data.toList.drop at_) 0 0 with
    | error e =>
      rw [hk] at hN
      exact Ev.bind hN (Ev.neg (error_ne hk) (Ev.now _))
    | ok nj =>
      obtain ⟨kd, j⟩ := nj
      rw [hk] at hN
      obtain ⟨c1, c2, c3, c4⟩ := tk_one _ _ _ _ hk
      obtain ⟨c5, c6⟩ := tk_le _ _ _ _ hk
      rw [List.length_drop, Ev.len_data] at c5
      refine Ev.bind hN (Ev.pos rfl ?_)
      dsimp only [tkR]
      rw [List.drop_drop]
      cases hx : rp kd (s.data.toList.drop (at_ + j)) with
      | error e =>
        obtain ⟨x, a, hE⟩ := refpart_no s hs (at_ + j) (by omega) kd e hx
        exact Ev.bind hE (Ev.neg (rp_error_ne hx) (Ev.now _))
      | ok xj =>
        obtain ⟨x, i2⟩ := xj
        obtain ⟨b1, b2, b3⟩ := rp_one hx
        rw [List.length_drop, Ev.len_data] at b2
        have hE := refpart_ok s hs (at_ + j) (by omega) kd x i2 hx
        refine Ev.bind hE (Ev.pos rfl ?_)
        dsimp only
        rw [Ev.wrap_succ i (by omega), List.drop_drop]
        refine Ev.val (refdec_loop s hs n hn r (i + 1) (d ++ [x]) (at_ + j + i2) (by omega) (by simp [hd]) (by omega) ?_ ?_) ?_
        · rw [List.take_add, List.take_add, hp, c1, List.flatMap_append]
          simp only [List.append_assoc]
          congr 2
          simp only [List.flatMap_cons, List.flatMap_nil, List.append_nil]
          exact b1
        · intro y hy
          rcases List.mem_append.1 hy with hy | hy
          · exact hz y hy
          · rw [List.mem_singleton.1 hy]; exact b3
        · rw [← Nat.add_assoc]
          cases rops r (s.data.toList.drop (at_ + j + i2)) with
          | none => rfl
          | some p =>
            simp only [Option.map_some, goD, List.append_assoc, List.cons_append, List.nil_append, Nat.add_assoc]
theorem refdec_ev (s : ByteArray) (hs : s.size ≤ 4611686018427387904) : Ev (fun k => oxbowref09_Decode.f k s) (decR s) := by
  unfold oxbowref09_Decode.f decR
  have hN := refTakeNum_ev s hs 0 (by omega)
  rw [List.drop_zero] at hN
  cases hk : tk 1125899906842624 s.data.toList 0 0 with
  | error e =>
    rw [hk] at hN
    exact Ev.bind hN (Ev.neg (error_ne hk) (Ev.now _))
  | ok nj =>
    obtain ⟨n, j⟩ := nj
    rw [hk] at hN
    obtain ⟨c1, c2, c3, c4⟩ := tk_one _ _ _ _ hk
    obtain ⟨c5, c6⟩ := tk_le _ _ _ _ hk
    rw [Ev.len_data] at c5
    refine Ev.bind hN (Ev.pos rfl ?_)
    dsimp only [tkR]
    rw [Nat.zero_add]
    by_cases hb : 3000 < n
    · rw [if_pos hb]
      exact Ev.pos (by omega) (Ev.now _)
    · rw [if_neg hb]
      refine Ev.neg (by omega) (refdec_loop s hs n (by omega) n 0 [] j (by omega) rfl (by omega) (by rw [c1]; simp) (by simp))

/-! ### what is written is read; what is cut on is not -/
theorem flat_length : ∀ (os : List O), V os → targ os ≤ 1000 → (os.flatMap opB).length ≤ 5000 * os.length
  | [], _, _ => by simp
  | o :: os, hv, ht => by
    have ht1 : targ [o] ≤ 1000 := targ_one (by simp) ht
    have ht2 : targ os ≤ 1000 := by cases o <;> simp only [targ] at ht <;> omega
    have h1 := opB_length o hv.head ht1
    have h2 := flat_length os hv.tail ht2
    simp only [List.flatMap_cons, List.length_append, List.length_cons]
    omega
theorem encB_length (os : List O) (hv : V os) (ht : targ os ≤ 1000) (hl : os.length ≤ 3000) : (encB os).length ≤ 100 + 5000 * 3000 := by
  have h1 := flat_length os hv ht
  have h2 := vb_le os.length (by omega)
  unfold encB
  rw [List.length_append]
  omega
theorem decR_len (s : ByteArray) : (decR s).1.length ≤ 3000 := by
  unfold decR
  split
  · simp
  · rename_i n j h
    split
    · simp
    · rename_i hn
      cases hr : rops n (s.data.toList.drop j) with
      | none => simp [goD]
      | some p =>
        obtain ⟨d, m⟩ := p
        obtain ⟨a1, a2, a3, a4⟩ := rops_one n _ d m hr
        simp only [goD, finD, List.nil_append]
        split
        · simp only; omega
        · simp
theorem decR_enc (os : List O) (hv : V os) (hb : base os ≤ 1000) (ht : targ os ≤ 1000) (hl : os.length ≤ 3000) (more : ByteArray) : decR (B (encB os) ++ more) = if more.size = 0 then (os.map sop, 0) else ([], 90) := by
  unfold decR
  rw [Ev.data_append, B_data]
  have e : encB os ++ more.data.toList = vb os.length ++ (os.flatMap opB ++ more.data.toList) := by unfold encB; rw [List.append_assoc]
  rw [e, tk_back _ os.length _ (by omega) (by omega)]
  simp only
  rw [if_neg (by omega), List.drop_left, rops_back os _ hv ht]
  simp only [goD, finD, List.nil_append]
  have hsz : (B (encB os) ++ more).size = (vb os.length).length + (os.flatMap opB).length + more.size := by
    rw [ByteArray.size_append, B_size]; unfold encB; rw [List.length_append]
  rw [hsz]
  by_cases hm : more.size = 0
  · rw [if_pos hm, if_pos (show _ ∧ _ from ⟨by omega, by rw [lensR_sop hv hl hb ht]⟩)]
  · rw [if_neg hm, if_neg (fun h => hm (by omega))]
end Go.Proofs.Ytdpbkomaiafemaa.Ddec
