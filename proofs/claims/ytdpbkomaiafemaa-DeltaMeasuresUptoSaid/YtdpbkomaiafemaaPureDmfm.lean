/- What the document's forms of deltas come to, in plain words: put, Formed, Built. -/
import Derived.Test.YtdpbkomaiafemaaHDmx10
import Derived.Test.YtdpbkomaiafemaaHDmx11
import Derived.Test.YtdpbkomaiafemaaHDmx12
import Derived.Test.YtdpbkomaiafemaaPureDmdn
import Derived.Test.YtdpbkomaiafemaaFm
namespace Go.Proofs.Ytdpbkomaiafemaa.Dmfm
open Go.RowKit Go.Proofs.Ytdpbkomaiafemaa.HDm Go.Proofs.Ytdpbkomaiafemaa.Dmtx Go.Proofs.Ytdpbkomaiafemaa.Dmdl Go.Proofs.Ytdpbkomaiafemaa.Dmdn Go.Proofs.Ytdpbkomaiafemaa.Tx Go.Proofs.Ytdpbkomaiafemaa.Dl Go.Proofs.Ytdpbkomaiafemaa.Fm Go.Proofs.YtdpbkomaiafemaaW.PrintWords Go.Proofs.YtdpbkomaiafemaaW.PrintLast Go.Proofs.YtdpbkomaiafemaaW.PrintMore
set_option linter.unusedSimpArgs false
set_option linter.unusedVariables false

/-! ### put -/
theorem put_nil (a b : Int) (c : ByteArray) : oxbowref09_put.f [] a b c = some [⟨a, b, c⟩] := by
  unfold oxbowref09_put.f
  rw [if_neg (by decide), if_pos (by decide)]
  rfl
theorem rd_last (l : List S36) (x : S36) : rd_T36 (l ++ [x]) (l.length : Int) = x := by
  rw [rd_get _ l.length (by simp)]
  simp
theorem put_diff (l : List S36) (x : S36) (a b : Int) (c : ByteArray) (hl : l.length < 4398046511103) (h : x.f0 ≠ a) : oxbowref09_put.f (l ++ [x]) a b c = some (l ++ [x] ++ [⟨a, b, c⟩]) := by
  unfold oxbowref09_put.f
  have hlen : (l ++ [x]).length = l.length + 1 := by simp
  have w : wrap64 (((l ++ [x]).length : Int) - 1) = (l.length : Int) := by rw [hlen, Ev.wrap_id _ (by omega) (by omega)]; omega
  rw [w, rd_last, if_pos (by rw [hlen]; omega), if_pos (by omega), if_pos (by rw [hlen]; omega), if_neg h, if_pos (by rw [hlen]; omega)]
theorem put_same (l : List S36) (x : S36) (b : Int) (c : ByteArray) (hl : l.length < 4398046511103) (hc : x.f2.size + c.size ≤ 9223372036854775807) : oxbowref09_put.f (l ++ [x]) x.f0 b c = some (l ++ [⟨x.f0, wrap64 (x.f1 + b), x.f2 ++ c⟩]) := by
  unfold oxbowref09_put.f
  have hlen : (l ++ [x]).length = l.length + 1 := by simp
  have w : wrap64 (((l ++ [x]).length : Int) - 1) = (l.length : Int) := by rw [hlen, Ev.wrap_id _ (by omega) (by omega)]; omega
  have hset : ∀ y : S36, (l ++ [x]).set l.length y = l ++ [y] := by intro y; rw [List.set_append_right _ _ (Nat.le_refl _)]; simp
  have hset2 : ∀ y z : S36, (l ++ [y]).set l.length z = l ++ [z] := by intro y z; rw [List.set_append_right _ _ (Nat.le_refl _)]; simp
  rw [w, rd_last, if_pos (by rw [hlen]; omega), if_pos (by omega), if_pos (by rw [hlen]; omega), if_pos rfl]
  simp only [Option.bind_some, Int.toNat_natCast, hset, rd_last, hset2]
  rw [if_pos hc]
/-- What stands: operations that do not end in a keep, and a keep of n. -/
def LK (B : List O) : Prop := B = [] ∨ ∃ l o, B = l ++ [o] ∧ ∀ m, o ≠ .keep m
theorem put_keep (B : List O) (n : Nat) (hB : LK B) (hl : B.length < 4000000000000) (hn : n ≤ 1000000000) : oxbowref09_put.f ((B ++ keepsO n).map sop) 1 1 (⟨#[]⟩ : ByteArray) = some ((B ++ keepsO (n + 1)).map sop) := by
  by_cases h0 : n = 0
  · subst h0
    rcases hB with rfl | ⟨l, o, rfl, ho⟩
    · simp only [keepsO, List.append_nil, List.map_nil, if_true]
      rw [put_nil]
      rfl
    · have e : ((l ++ [o]) ++ keepsO 0).map sop = l.map sop ++ [sop o] := by simp [keepsO]
      rw [e, put_diff _ _ _ _ _ (by rw [List.length_map]; simp at hl; omega) (by cases o with
        | keep m => exact absurd rfl (ho m)
        | del m => exact (show ¬ (3 : Int) = 1 by decide)
        | ins p => exact (show ¬ (2 : Int) = 1 by decide))]
      simp [keepsO, sop]
  · have e : (B ++ keepsO n).map sop = B.map sop ++ [sop (O.keep n)] := by simp [keepsO, h0]
    rw [e]
    have := put_same (B.map sop) (sop (O.keep n)) 1 (⟨#[]⟩ : ByteArray) (by rw [List.length_map]; omega) (show 0 + 0 ≤ 9223372036854775807 by decide)
    refine this.trans ?_
    have w : wrap64 ((sop (O.keep n)).f1 + 1) = ((n + 1 : Nat) : Int) := Ev.wrap_succ n (by omega)
    rw [w]
    have e2 : keepsO (n + 1) = [O.keep (n + 1)] := by simp [keepsO]
    rw [e2, List.map_append]
    have e3 : (sop (O.keep n)).f2 ++ (⟨#[]⟩ : ByteArray) = ⟨#[]⟩ := em_append _
    rw [e3]
    rfl
theorem put_ins (B : List O) (n : Nat) (p : List Nat) (hB : n = 0 → B = []) (hl : B.length < 4000000000000) : oxbowref09_put.f ((B ++ keepsO n).map sop) 2 0 (st p) = some ((B ++ keepsO n ++ [O.ins p]).map sop) := by
  by_cases h0 : n = 0
  · rw [hB h0, h0]
    simp only [keepsO, List.append_nil, List.map_nil, if_true]
    rw [put_nil]
    rfl
  · have e : (B ++ keepsO n).map sop = B.map sop ++ [sop (O.keep n)] := by simp [keepsO, h0]
    rw [e, put_diff _ _ _ _ _ (by rw [List.length_map]; omega) (by simp only [sop]; decide), ← e]
    simp [sop]
theorem put_del (B : List O) (n g : Nat) (p : List Nat) (hB : n = 0 → B = []) (hl : B.length < 4000000000000) : oxbowref09_put.f ((B ++ keepsO n ++ (if p = [] then [] else [O.ins p])).map sop) 3 (g : Int) (⟨#[]⟩ : ByteArray) = some ((B ++ keepsO n ++ (if p = [] then [] else [O.ins p]) ++ [O.del g]).map sop) := by
  by_cases hp : p = []
  · rw [if_pos hp, List.append_nil]
    by_cases h0 : n = 0
    · rw [hB h0, h0]
      simp only [keepsO, List.append_nil, List.map_nil, if_true]
      rw [put_nil]
      rfl
    · have e : (B ++ keepsO n).map sop = B.map sop ++ [sop (O.keep n)] := by simp [keepsO, h0]
      rw [e, put_diff _ _ _ _ _ (by rw [List.length_map]; omega) (by simp only [sop]; decide), ← e]
      simp [sop]
  · rw [if_neg hp]
    have hk := keepsO_length n
    have e : (B ++ keepsO n ++ [O.ins p]).map sop = (B ++ keepsO n).map sop ++ [sop (O.ins p)] := by simp
    rw [e, put_diff _ _ _ _ _ (by rw [List.length_map, List.length_append]; omega) (by simp only [sop]; decide), ← e]
    simp [sop]

/-! ### Built -/
theorem rdOf_map (is : List (List Nat)) (i : Nat) (h : i < is.length) : rdOf ByteArray.empty (is.map st) (i : Int) = st is[i] := by
  rw [Ev.rdOf_get _ _ i (by rw [List.length_map]; exact h), List.getElem_map]
theorem LK_gap (B : List O) (p : List Nat) (c n : Nat) (h : ¬ (p = [] ∧ c = 0)) : LK (B ++ (keepsO n ++ gapO p c)) := by
  by_cases hc : c = 0
  · have hp : p ≠ [] := fun hp => h ⟨hp, hc⟩
    refine .inr ⟨B ++ keepsO n, O.ins p, ?_, fun m h => by cases h⟩
    simp [gapO, hp, hc]
  · refine .inr ⟨B ++ keepsO n ++ (if p = [] then [] else [O.ins p]), O.del c, ?_, fun m h => by cases h⟩
    simp [gapO, hc]
/-- The flush of a gap, and the keep behind it. -/
theorem built_flush (is : List (List Nat)) (gs : List Bool) (hil : is.length = gs.length + 1) (B : List O) (n : Nat) (p : List Nat) (c i : Nat) (hB : LK B) (h0 : n = 0 → B = []) (hl : B.length ≤ 4 * i) (hn : n ≤ i) (hi : i ≤ gs.length) (hgl : gs.length ≤ 1000000) (hc : c ≤ i) (r : List S36)
    (hend : i = gs.length → r = (B ++ K n (I p (D c []))).map sop)
    (hnext : i < gs.length → Ev (fun k => oxbowref09_Built.l0 k ((if p = [] ∧ c = 0 then B ++ keepsO (n + 1) else B ++ (keepsO n ++ gapO p c) ++ keepsO 1).map sop) (⟨#[]⟩ : ByteArray) 0 ((i + 1 : Nat) : Int) (is.map st) gs) r) :
    Ev (fun k => oxbowref09_Built.j1 k ((B ++ keepsO n).map sop) (st p) (c : Int) (i : Int) false (is.map st) gs) r := by
  have kl := keepsO_length n
  have w1 := Aside0.mk (Ev.wrap_succ i (by omega))
  -- behind what is put in
  have J2 : Ev (fun k => oxbowref09_Built.j2 k ((B ++ keepsO n ++ (if p = [] then [] else [O.ins p])).map sop) (c : Int) (i : Int) (is.map st) gs) r := by
    refine Ev.step (fun k => by simp only [oxbowref09_Built.j2]; rfl) ?_
    rw [w1.out]
    by_cases hc0 : c = 0
    · subst hc0
      refine Ev.neg (by decide) ?_
      by_cases hlt : i < gs.length
      · refine Ev.pos (by omega) ?_
        have hx := hnext hlt
        by_cases hp : p = []
        · rw [if_pos ⟨hp, rfl⟩] at hx
          rw [if_pos hp, List.append_nil]
          exact Ev.bind (Ev.const (put_keep B n hB (by omega) (by omega))) hx
        · rw [if_neg (fun h => hp h.1)] at hx
          have hg : B ++ (keepsO n ++ gapO p 0) = B ++ keepsO n ++ [O.ins p] := by simp [gapO, hp]
          rw [hg] at hx
          rw [if_neg hp]
          have := put_keep (B ++ keepsO n ++ [O.ins p]) 0 (.inr ⟨_, _, rfl, fun m h => by cases h⟩) (by simp only [List.length_append, List.length_cons, List.length_nil]; omega) (by omega)
          rw [show (B ++ keepsO n ++ [O.ins p]) ++ keepsO 0 = B ++ keepsO n ++ [O.ins p] from by simp [keepsO]] at this
          exact Ev.bind (Ev.const this) hx
      · refine Ev.neg (by omega) ?_
        have he : i = gs.length := by omega
        rw [hend he, gap_end]
        refine Ev.step (fun k => by simp only [oxbowref09_Built.l0]; rfl) (Ev.neg (by omega) (Ev.val (Ev.now _) ?_))
        by_cases hp : p = []
        · rw [if_pos hp, if_pos ⟨hp, rfl⟩, List.append_nil]
        · rw [if_neg hp, if_neg (fun h => hp h.1)]
          simp [gapO, hp]
    · refine Ev.pos (by omega) (Ev.bind (Ev.const (put_del B n c p h0 (by omega))) ?_)
      have hg : B ++ (keepsO n ++ gapO p c) = B ++ keepsO n ++ (if p = [] then [] else [O.ins p]) ++ [O.del c] := by simp [gapO, hc0]
      by_cases hlt : i < gs.length
      · refine Ev.pos (by omega) ?_
        have hx := hnext hlt
        rw [if_neg (fun h => hc0 h.2), hg] at hx
        have := put_keep (B ++ keepsO n ++ (if p = [] then [] else [O.ins p]) ++ [O.del c]) 0 (.inr ⟨_, _, rfl, fun m h => by cases h⟩) (by
          have : (if p = [] then ([] : List O) else [O.ins p]).length ≤ 1 := by split <;> simp
          simp only [List.length_append, List.length_cons, List.length_nil]; omega) (by omega)
        rw [show (B ++ keepsO n ++ (if p = [] then [] else [O.ins p]) ++ [O.del c]) ++ keepsO 0 = B ++ keepsO n ++ (if p = [] then [] else [O.ins p]) ++ [O.del c] from by simp [keepsO]] at this
        exact Ev.bind (Ev.const this) hx
      · refine Ev.neg (by omega) ?_
        have he : i = gs.length := by omega
        have e9 : (if p = [] ∧ c = 0 then keepsO n else keepsO n ++ gapO p c) = keepsO n ++ gapO p c := if_neg (fun h => hc0 h.2)
        rw [hend he, gap_end, e9, hg]
        exact Ev.step (fun k => by simp only [oxbowref09_Built.l0]; rfl) (Ev.neg (by omega) (Ev.now _))
  refine Ev.step (fun k => by simp only [oxbowref09_Built.j1]; rfl) (Ev.neg (by decide) ?_)
  have hz := st_empty p
  by_cases hp : p = []
  · rw [if_pos hp, List.append_nil] at J2
    refine Ev.pos ?_ J2
    rw [← beq_iff_eq, hz]
    simpa using hp
  · rw [if_neg hp] at J2
    refine Ev.neg ?_ (Ev.bind (Ev.const (put_ins B n p h0 (by omega))) J2)
    rw [← beq_iff_eq, hz]
    simpa using hp
theorem built_loop (is : List (List Nat)) (gs : List Bool) (hil : is.length = gs.length + 1) (hgl : gs.length ≤ 1000000) (hq : ∀ q ∈ is, q.length ≤ 1099511627776) : ∀ (r i : Nat) (B : List O) (n : Nat) (p : List Nat) (c : Nat), gs.length = i + r → LK B → (n = 0 → B = []) → B.length ≤ 4 * i → n ≤ i → c ≤ i → p.length ≤ 1099511627776 * i →
    Ev (fun k => oxbowref09_Built.l0 k ((B ++ keepsO n).map sop) (st p) (c : Int) (i : Int) (is.map st) gs) ((B ++ K n (bd (is.drop i) (gs.drop i) p c)).map sop) := by
  intro r
  induction r with
  | zero =>
    intro i B n p c hi hB h0 hl hn hc hp
    have hii : i < is.length := by omega
    have hx := hq _ (List.getElem_mem hii)
    refine Ev.step (fun k => by simp only [oxbowref09_Built.l0]; rfl) (Ev.pos (by omega) (Ev.pos (by omega) (Ev.pos (by rw [List.length_map]; omega) ?_)))
    rw [rdOf_map is i hii]
    refine Ev.pos ?_ (Ev.neg (by omega) ?_)
    · have h1 := enc_length_le p
      have h2 := enc_length_le is[i]
      rw [st_size, st_size]
      omega
    · rw [← st_append, List.drop_eq_getElem_cons hii, show gs.drop i = [] from List.drop_of_length_le (by omega)]
      exact built_flush is gs hil B n (p ++ is[i]) c i hB h0 hl hn (by omega) hgl hc _ (fun _ => rfl) (fun h => by omega)
  | succ r ih =>
    intro i B n p c hi hB h0 hl hn hc hp
    have hii : i < is.length := by omega
    have hig : i < gs.length := by omega
    have hx := hq _ (List.getElem_mem hii)
    have w1 := Aside0.mk (Ev.wrap_succ i (by omega))
    have w2 := Aside0.mk (Ev.wrap_succ c (by omega))
    refine Ev.step (fun k => by simp only [oxbowref09_Built.l0]; rfl) (Ev.pos (by omega) (Ev.pos (by omega) (Ev.pos (by rw [List.length_map]; omega) ?_)))
    rw [rdOf_map is i hii]
    refine Ev.pos ?_ (Ev.pos (by omega) ?_)
    · have h1 := enc_length_le p
      have h2 := enc_length_le is[i]
      rw [st_size, st_size]
      omega
    · rw [← st_append, List.drop_eq_getElem_cons hii, List.drop_eq_getElem_cons hig, Ev.rdOf_get false gs i hig]
      cases hg : gs[i] with
      | true =>
        refine Ev.step (fun k => by simp only [oxbowref09_Built.j1]; rfl) (Ev.pos trivial ?_)
        rw [w1.out, w2.out]
        simp only [bd]
        exact ih (i + 1) B n (p ++ is[i]) (c + 1) (by omega) hB h0 (by omega) (by omega) (by omega) (by rw [List.length_append]; omega)
      | false =>
        refine built_flush is gs hil B n (p ++ is[i]) c i hB h0 hl hn (by omega) hgl hc _ (fun h => by omega) (fun _ => ?_)
        simp only [bd]
        rw [gap_keep]
        by_cases h : p ++ is[i] = [] ∧ c = 0
        · rw [if_pos h, if_pos h]
          have := ih (i + 1) B (n + 1) [] 0 (by omega) hB (by omega) (by omega) (by omega) (by omega) (by simp)
          rw [st_nil] at this
          refine Ev.val this ?_
          rw [K_keep, K_one _ _ (by omega)]
        · rw [if_neg h, if_neg h]
          have kl := keepsO_length n
          have gl := gapO_length (p ++ is[i]) c
          have := ih (i + 1) (B ++ (keepsO n ++ gapO (p ++ is[i]) c)) 1 [] 0 (by omega) (LK_gap B _ c n h) (by omega) (by simp only [List.length_append]; omega) (by omega) (by omega) (by simp)
          rw [st_nil] at this
          refine Ev.val this ?_
          rw [K_one _ _ (by omega)]
          simp only [List.append_assoc]
theorem built_ev (is : List (List Nat)) (gs : List Bool) (hil : is.length = gs.length + 1) (hgl : gs.length ≤ 1000000) (hq : ∀ q ∈ is, q.length ≤ 1099511627776) : Ev (fun k => oxbowref09_Built.f k (is.map st) gs) ((bd is gs [] 0).map sop) := by
  unfold oxbowref09_Built.f
  have := built_loop is gs hil hgl hq gs.length 0 [] 0 [] 0 (by omega) (.inl rfl) (fun _ => rfl) (by simp) (by omega) (by omega) (by simp)
  rw [st_nil] at this
  simpa [keepsO, K] using this

/-! ### Formed -/
theorem set_mid {α : Type} (P : List α) (x y : α) (Q : List α) : (P ++ x :: Q).set P.length y = P ++ y :: Q := by
  rw [List.set_append_right _ _ (Nat.le_refl _)]
  simp
theorem get_mid {α : Type} (z : α) (P : List α) (x : α) (Q : List α) : rdOf z (P ++ x :: Q) (P.length : Int) = x := by
  rw [Ev.rdOf_get _ _ P.length (by simp)]
  simp
/-- n code points are marked as deleted. -/
theorem formed_dels (os : List O) (i : Nat) (hil : i < os.length) (n : Nat) (hn : os[i] = .del n) (hn1 : n ≤ 1000) (I1 : List ByteArray) (gap : Nat) (r : List ByteArray × List Bool) (hos : os.length ≤ 3000) : ∀ (m j : Nat) (G : List Bool) (rest : List Bool), n = j + m → m ≤ rest.length → G.length + rest.length ≤ 1000 →
    Ev (fun k => oxbowref09_Formed.l0 k (os.map sop) ((G.length + m : Nat) : Int) (gap : Int) ((i + 1 : Nat) : Int) I1 (G ++ List.replicate m true ++ rest.drop m)) r →
    Ev (fun k => oxbowref09_Formed.l1 k (os.map sop) (G.length : Int) (gap : Int) (i : Int) (j : Int) I1 (G ++ rest)) r
  | 0, j, G, rest, hj, hm, hb, h => by
    refine Ev.step (fun k => by simp only [oxbowref09_Formed.l1]; rfl) (Ev.pos (by omega) (Ev.pos (by rw [List.length_map]; omega) ?_))
    rw [sop_get os i hil, sop_f1, hn]
    refine Ev.neg (by simp only [sN]; omega) ?_
    rw [Ev.wrap_succ i (by omega)]
    simpa using h
  | m + 1, j, G, rest, hj, hm, hb, h => by
    refine Ev.step (fun k => by simp only [oxbowref09_Formed.l1]; rfl) (Ev.pos (by omega) (Ev.pos (by rw [List.length_map]; omega) ?_))
    rw [sop_get os i hil, sop_f1, hn]
    have w1 := Aside0.mk (Ev.wrap_succ j (by omega))
    have w2 := Aside0.mk (Ev.wrap_succ G.length (by omega))
    match rest, hm, hb, h with
    | x :: rest, hm, hb, h =>
      simp only [List.length_cons] at hm hb
      refine Ev.pos (by simp only [sN]; omega) (Ev.pos (by omega) (Ev.pos (by simp only [List.length_append, List.length_cons]; omega) ?_))
      rw [Int.toNat_natCast, set_mid, w1.out, w2.out]
      have := formed_dels os i hil n hn hn1 I1 gap r hos m (j + 1) (G ++ [true]) rest (by omega) (by omega) (by simp only [List.length_append, List.length_cons, List.length_nil]; omega) (by
        have e1 : (G ++ [true]).length + m = G.length + (m + 1) := by simp only [List.length_append, List.length_cons, List.length_nil]; omega
        have e2 : G ++ [true] ++ List.replicate m true ++ rest.drop m = G ++ List.replicate (m + 1) true ++ (x :: rest).drop (m + 1) := by rw [List.replicate_succ]; simp
        rw [e1, e2]
        exact h)
      have e3 : (G ++ [true]).length = G.length + 1 := by simp
      rw [e3, List.append_assoc] at this
      exact this
theorem formed_loop (os : List O) (hv : V os) (hos : os.length ≤ 3000) (hq : ∀ p, O.ins p ∈ os → p.length < 1099511627776) : ∀ (r i : Nat) (P : List (List Nat)) (c : List Nat) (a : Nat) (G : List Bool), os.length = i + r → P.length + a = G.length → G.length + base (os.drop i) ≤ 1000 → c.length ≤ 1099511627776 * i →
    Ev (fun k => oxbowref09_Formed.l0 k (os.map sop) (G.length : Int) (P.length : Int) (i : Int) ((P ++ c :: List.replicate (a + base (os.drop i)) []).map st) (G ++ List.replicate (base (os.drop i)) false))
      ((P ++ pre c (shift a (fmI (os.drop i)))).map st, G ++ fmG (os.drop i))
  | 0, i, P, c, a, G, hi, hg, hb, hc => by
    refine Ev.step (fun k => by simp only [oxbowref09_Formed.l0]; rfl) (Ev.neg (by rw [List.length_map]; omega) (Ev.val (Ev.now _) ?_))
    rw [List.drop_of_length_le (by omega)]
    simp [base, fmI, fmG, pre, shift]
  | r + 1, i, P, c, a, G, hi, hg, hb, hc => by
    have hil : i < os.length := by omega
    have ed := List.drop_eq_getElem_cons hil
    have hmem : os[i] ∈ os := List.getElem_mem hil
    have hvi : VO os[i] := hv _ hmem
    obtain ⟨x, xs, hf⟩ := fmI_cons (os.drop (i + 1))
    have w1 := Aside0.mk (Ev.wrap_succ i (by omega))
    refine Ev.step (fun k => by simp only [oxbowref09_Formed.l0]; rfl) (Ev.pos (by rw [List.length_map]; omega) (Ev.pos (by omega) ?_))
    rw [ed] at hb ⊢
    rw [sop_get os i hil, sop_f1, w1.out]
    cases he : os[i] with
    | keep n =>
      rw [he] at hvi hb
      obtain ⟨h1, h2⟩ := hvi
      simp only [base] at hb ⊢
      simp only [sN, sop, fmI, fmG]
      have w2 := Aside0.mk (Ev.wrap_add G.length n (by omega))
      refine Ev.pos trivial ?_
      rw [w2.out]
      have hP : (P ++ c :: List.replicate (a + n - 1) ([] : List Nat)).length = G.length + n := by simp only [List.length_append, List.length_cons, List.length_replicate]; omega
      have hG : (G ++ List.replicate n false).length = G.length + n := by simp
      have := formed_loop os hv hos hq r (i + 1) (P ++ c :: List.replicate (a + n - 1) []) [] 0 (G ++ List.replicate n false) (by omega) (by rw [hP, hG]; rfl) (by rw [hG]; omega) (by simp)
      rw [hP, hG] at this
      have e1 : (P ++ c :: List.replicate (a + n - 1) ([] : List Nat)) ++ [] :: List.replicate (0 + base (os.drop (i + 1))) [] = P ++ c :: List.replicate (a + (n + base (os.drop (i + 1)))) [] := by
        rw [List.append_assoc, List.cons_append]
        congr 2
        rw [show ([] : List Nat) :: List.replicate (0 + base (os.drop (i + 1))) [] = List.replicate (base (os.drop (i + 1)) + 1) [] from by rw [List.replicate_succ, Nat.zero_add], List.replicate_append_replicate]
        congr 1
        omega
      have e2 : (G ++ List.replicate n false) ++ List.replicate (base (os.drop (i + 1))) false = G ++ List.replicate (n + base (os.drop (i + 1))) false := by rw [List.append_assoc, List.replicate_append_replicate]
      rw [e1, e2] at this
      refine Ev.val this ?_
      rw [hf]
      obtain ⟨m, rfl⟩ : ∃ m, n = m + 1 := ⟨n - 1, by omega⟩
      rw [List.replicate_succ (n := m) (a := ([] : List Nat)), List.cons_append]
      simp only [pre, shift, List.append_nil, List.nil_append, List.replicate_zero, List.append_assoc, List.cons_append]
      rw [show a + (m + 1) - 1 = a + m from by omega, ← List.replicate_append_replicate, List.append_assoc]
    | del n =>
      rw [he] at hvi hb
      obtain ⟨h1, h2⟩ := hvi
      simp only [base] at hb ⊢
      simp only [sN, sop, fmI, fmG]
      refine Ev.neg (by decide) (Ev.pos trivial ?_)
      refine formed_dels os i hil n he h2 _ _ _ hos n 0 G (List.replicate (n + base (os.drop (i + 1))) false) (by omega) (by simp) (by simp; omega) ?_
      have hG : (G ++ List.replicate n true).length = G.length + n := by simp
      have := formed_loop os hv hos hq r (i + 1) P c (a + n) (G ++ List.replicate n true) (by omega) (by rw [hG]; omega) (by rw [hG]; omega) (by omega)
      rw [hG] at this
      have e1 : (List.replicate (n + base (os.drop (i + 1))) false).drop n = List.replicate (base (os.drop (i + 1))) false := by rw [List.drop_replicate]; congr 1; omega
      rw [e1, show a + (n + base (os.drop (i + 1))) = a + n + base (os.drop (i + 1)) from by omega]
      refine Ev.val this ?_
      rw [hf]
      simp only [pre, shift, List.append_assoc]
      rw [← List.append_assoc (List.replicate a []), List.replicate_append_replicate]
    | ins p =>
      rw [he] at hvi hb hmem
      simp only [base] at hb ⊢
      simp only [sN, sop, fmI, fmG]
      have hpl := hq p hmem
      have hx : ((P ++ c :: List.replicate (a + base (os.drop (i + 1))) []).map st) = P.map st ++ st c :: (List.replicate (a + base (os.drop (i + 1))) []).map st := by simp
      refine Ev.neg (by decide) (Ev.neg (by decide) (Ev.pos (by omega) (Ev.pos (by simp; omega) ?_)))
      have hPl : P.length = (P.map st).length := by rw [List.length_map]
      have hrd : rdOf ByteArray.empty ((P ++ c :: List.replicate (a + base (os.drop (i + 1))) []).map st) (P.length : Int) = st c := by rw [hx, hPl, get_mid]
      refine Ev.pos ?_ ?_
      · have h1 := enc_length_le p
        have h2 := enc_length_le c
        rw [hrd]
        show (st c).size + (st p).size ≤ _
        rw [st_size, st_size]
        omega
      · rw [hrd, Int.toNat_natCast, hx, hPl, set_mid, ← hPl, ← st_append]
        have := formed_loop os hv hos hq r (i + 1) P (c ++ p) a G (by omega) hg hb (by rw [List.length_append]; omega)
        have e2 : P.map st ++ st (c ++ p) :: (List.replicate (a + base (os.drop (i + 1))) []).map st = (P ++ (c ++ p) :: List.replicate (a + base (os.drop (i + 1))) []).map st := by simp
        rw [e2]
        refine Ev.val this ?_
        rw [hf]
        simp only [pre, shift, List.append_assoc]
theorem formed_ev (os : List O) (hv : V os) (hos : os.length ≤ 3000) (hb : base os ≤ 1000) (ht : targ os ≤ 1000) (hz : Sz (os.map sop)) : Ev (fun k => oxbowref09_Formed.f k (os.map sop)) ((fmI os).map st, fmG os) := by
  unfold oxbowref09_Formed.f
  refine Ev.bind (refbase_ev _ hz) ?_
  rw [lensR_sop hv hos hb ht]
  simp only
  have w := Aside0.mk (Ev.wrap_succ (base os) (by omega))
  rw [w.out]
  refine Ev.pos (by omega) (Ev.pos (by omega) (Ev.pos (by omega) (Ev.pos (by omega) ?_)))
  rw [Int.toNat_natCast, Int.toNat_natCast]
  have := formed_loop os hv hos (sz_ins hz) os.length 0 [] [] 0 [] (by omega) rfl (by simpa using hb) (by simp)
  have e : List.replicate (base os + 1) (⟨#[]⟩ : ByteArray) = ([] ++ [] :: List.replicate (0 + base (os.drop 0)) []).map st := by
    simp only [List.nil_append, List.map_cons, List.map_replicate, st_nil, List.drop_zero, Nat.zero_add]
    rw [List.replicate_succ]
  rw [e]
  refine Ev.val this ?_
  obtain ⟨x, xs, hf⟩ := fmI_cons os
  rw [List.drop_zero, hf]
  simp [pre, shift]
theorem fmI_short {os : List O} : ∀ q ∈ fmI os, q.length ≤ targ os := by
  induction os with
  | nil => intro q hq; simp [fmI] at hq; subst hq; simp
  | cons o os ih =>
    intro q hq
    obtain ⟨x, xs, hf⟩ := fmI_cons os
    rw [hf] at ih
    cases o with
    | keep n =>
      simp only [fmI, hf] at hq
      simp only [targ]
      rcases List.mem_append.1 hq with hq | hq
      · rw [(List.mem_replicate.1 hq).2]; simp
      · have := ih q hq; omega
    | del n =>
      simp only [fmI, hf, shift] at hq
      simp only [targ]
      rcases List.mem_cons.1 hq with rfl | hq
      · exact ih _ (by simp)
      · rcases List.mem_append.1 hq with hq | hq
        · rw [(List.mem_replicate.1 hq).2]; simp
        · exact ih q (by simp [hq])
    | ins p =>
      simp only [fmI, hf, pre] at hq
      simp only [targ]
      rcases List.mem_cons.1 hq with rfl | hq
      · have := ih x (by simp)
        rw [List.length_append]; omega
      · have := ih q (by simp [hq]); omega
end Go.Proofs.Ytdpbkomaiafemaa.Dmfm
