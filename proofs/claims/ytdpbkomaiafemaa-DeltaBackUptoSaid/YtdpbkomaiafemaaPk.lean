/- Plain laws of numbers, texts and lists as bytes: what is written is read, what is read is written, what is cut off is cut off. No program stands here. -/
namespace Go.Proofs.Ytdpbkomaiafemaa.Pk

/-- The form of a number. -/
def vb (n : Nat) : List UInt8 := if h : n < 128 then [UInt8.ofNat n] else UInt8.ofNat (n % 128 + 128) :: vb (n / 128)
termination_by n
decreasing_by omega
theorem vb_small {n : Nat} (h : n < 128) : vb n = [UInt8.ofNat n] := by rw [vb, dif_pos h]
theorem vb_big {n : Nat} (h : ¬ n < 128) : vb n = UInt8.ofNat (n % 128 + 128) :: vb (n / 128) := by rw [vb, dif_neg h]
theorem vb_pos (n : Nat) : 0 < (vb n).length := by
  by_cases h : n < 128
  · rw [vb_small h]; simp
  · rw [vb_big h]; simp
theorem vb_length : ∀ (k n : Nat), n < 128 ^ (k + 1) → (vb n).length ≤ k + 1
  | 0, n, h => by rw [vb_small (by simpa using h)]; simp
  | k + 1, n, h => by
    by_cases hn : n < 128
    · rw [vb_small hn]; simp
    · rw [vb_big hn]
      have : n / 128 < 128 ^ (k + 1) := by rw [Nat.div_lt_iff_lt_mul (by decide)]; rwa [Nat.pow_succ] at h
      have := vb_length k (n / 128) this
      simp only [List.length_cons]
      omega
theorem toNat_ofNat (n : Nat) (h : n < 256) : (UInt8.ofNat n).toNat = n := by
  rw [UInt8.toNat_ofNat']
  exact Nat.mod_eq_of_lt h

/-- A number that is read: an error, or the number and how many bytes. -/
def tk (most : Nat) : List UInt8 → Nat → Nat → Except Int (Nat × Nat)
  | [], k, _ => if k < 8 then .error 21 else .error 22
  | b :: l, k, acc => if k < 8 then (if b.toNat < 128 then (if (b.toNat = 0 ∧ 0 < k) ∨ most < acc + b.toNat * 128 ^ k then .error 22 else .ok (acc + b.toNat * 128 ^ k, k + 1)) else tk most l (k + 1) (acc + (b.toNat % 128) * 128 ^ k)) else .error 22

theorem tk_vb (most : Nat) : ∀ (d n k acc : Nat) (rest : List UInt8), k + d = 8 → n < 128 ^ d → (0 < k → n ≠ 0) → acc + n * 128 ^ k ≤ most → tk most (vb n ++ rest) k acc = .ok (acc + n * 128 ^ k, k + (vb n).length)
  | 0, n, k, acc, rest, hk, hn, h0, _ => absurd (by simpa using hn) (h0 (by omega))
  | d + 1, n, k, acc, rest, hk, hn, h0, hm => by
    by_cases h : n < 128
    · rw [vb_small h]
      have ht := toNat_ofNat n (by omega)
      simp only [List.cons_append, List.nil_append, tk]
      rw [if_pos (by omega), if_pos (by omega), ht, if_neg (by
        rintro (⟨h1, h2⟩ | h1)
        · exact h0 h2 h1
        · omega)]
      rfl
    · rw [vb_big h]
      have ht := toNat_ofNat (n % 128 + 128) (by omega)
      simp only [List.cons_append, tk]
      have hq : n / 128 < 128 ^ d := by rw [Nat.div_lt_iff_lt_mul (by decide)]; rwa [Nat.pow_succ] at hn
      have hsum : acc + (n % 128) * 128 ^ k + n / 128 * 128 ^ (k + 1) = acc + n * 128 ^ k := by
        have h1 := Nat.div_add_mod n 128
        have h2 : n * 128 ^ k = (128 * (n / 128) + n % 128) * 128 ^ k := by rw [h1]
        rw [h2, Nat.pow_succ, Nat.add_mul]
        have h3 : n / 128 * (128 ^ k * 128) = 128 * (n / 128) * 128 ^ k := by
          rw [Nat.mul_comm (128 ^ k) 128, ← Nat.mul_assoc, Nat.mul_comm (n / 128) 128]
        omega
      rw [if_pos (by omega), if_neg (by omega), ht, show (n % 128 + 128) % 128 = n % 128 from by omega]
      rw [tk_vb most d (n / 128) (k + 1) _ rest (by omega) hq (fun _ => by omega) (by omega), hsum]
      simp only [List.length_cons]
      congr 2
      omega

theorem ofNat_toNat (b : UInt8) : UInt8.ofNat b.toNat = b := by simp

theorem tk_inv (most : Nat) : ∀ (l : List UInt8) (k acc v j : Nat), tk most l k acc = .ok (v, j) →
    ∃ n, l.take (j - k) = vb n ∧ j = k + (vb n).length ∧ v = acc + n * 128 ^ k ∧ (0 < k → n ≠ 0) ∧ v ≤ most ∧ n < 128 ^ (8 - k) ∧ k < 8
  | [], k, acc, v, j, h => by simp only [tk] at h; split at h <;> simp at h
  | b :: l, k, acc, v, j, h => by
    simp only [tk] at h
    split at h
    · rename_i hk
      split at h
      · rename_i hb
        split at h
        · simp at h
        · rename_i hn
          simp only [Except.ok.injEq, Prod.mk.injEq] at h
          obtain ⟨rfl, rfl⟩ := h
          refine ⟨b.toNat, ?_, ?_, rfl, ?_, by omega, ?_, hk⟩
          · rw [vb_small hb, ofNat_toNat, show k + 1 - k = 1 from by omega]; rfl
          · rw [vb_small hb]; rfl
          · intro h0 h1; exact hn (.inl ⟨h1, h0⟩)
          · have : 128 ^ 1 ≤ 128 ^ (8 - k) := Nat.pow_le_pow_right (by decide) (by omega)
            omega
      · rename_i hb
        obtain ⟨n, h1, h2, h3, h4, h5, h6, h7⟩ := tk_inv most l (k + 1) _ v j h
        have hn := h4 (by omega)
        have hb2 := b.toNat_lt
        refine ⟨n * 128 + b.toNat % 128, ?_, ?_, ?_, fun _ => by omega, h5, ?_, hk⟩
        · rw [vb_big (by omega), show (n * 128 + b.toNat % 128) % 128 + 128 = b.toNat from by omega, ofNat_toNat, show (n * 128 + b.toNat % 128) / 128 = n from by omega, ← h1]
          have hp := vb_pos n
          rw [show j - k = (j - (k + 1)) + 1 from by omega, List.take_succ_cons]
        · rw [vb_big (by omega), show (n * 128 + b.toNat % 128) / 128 = n from by omega]
          simp only [List.length_cons]
          omega
        · rw [h3, Nat.pow_succ, Nat.add_mul]
          have : n * (128 ^ k * 128) = n * 128 * 128 ^ k := by rw [Nat.mul_comm (128 ^ k) 128, Nat.mul_assoc]
          omega
        · rw [show 8 - k = (8 - (k + 1)) + 1 from by omega, Nat.pow_succ]
          have : n + 1 ≤ 128 ^ (8 - (k + 1)) := h6
          have := Nat.mul_le_mul_right 128 this
          omega
    · simp at h

theorem tk_cut (most : Nat) : ∀ (l : List UInt8) (k acc v j m : Nat), tk most l k acc = .ok (v, j) → m < j - k → tk most (l.take m) k acc = .error 21
  | [], k, acc, v, j, m, h, _ => by simp only [tk] at h; split at h <;> simp at h
  | b :: l, k, acc, v, j, m, h, hm => by
    have hk : k < 8 := by
      obtain ⟨_, _, _, _, _, _, _, h7⟩ := tk_inv most _ k acc v j h
      exact h7
    cases m with
    | zero => simp only [List.take_zero, tk]; rw [if_pos hk]
    | succ m =>
      simp only [List.take_succ_cons, tk]
      simp only [tk] at h
      rw [if_pos hk] at h ⊢
      split at h
      · rename_i hb
        split at h
        · simp at h
        · simp only [Except.ok.injEq, Prod.mk.injEq] at h
          obtain ⟨rfl, rfl⟩ := h
          omega
      · rename_i hb
        rw [if_neg hb]
        exact tk_cut most l (k + 1) _ v j m h (by omega)

/-- The form of a text, of a list. -/
def txt (s : List UInt8) : List UInt8 := vb s.length ++ s
def lst (l : List (List UInt8)) : List UInt8 := vb l.length ++ l.flatMap txt

/-- A text that is read: it, and how many bytes. -/
def tt (l : List UInt8) : Except Int (List UInt8 × Nat) :=
  match tk 20000 l 0 0 with
  | .error e => .error e
  | .ok (n, j) => if l.length - j < n then .error 21 else .ok ((l.drop j).take n, j + n)
def tls : Nat → List UInt8 → Except Int (List (List UInt8) × Nat)
  | 0, _ => .ok ([], 0)
  | n + 1, l => match tt l with
    | .error e => .error e
    | .ok (t, j) => match tls n (l.drop j) with
      | .error e => .error e
      | .ok (ts, i) => .ok (t :: ts, j + i)
def tl (l : List UInt8) : Except Int (List (List UInt8) × Nat) :=
  match tk 8000 l 0 0 with
  | .error e => .error e
  | .ok (n, j) => match tls n (l.drop j) with
    | .error e => .error e
    | .ok (ts, i) => .ok (ts, j + i)

theorem pow8 : 128 ^ 8 = 72057594037927936 := by decide
theorem tk_back (most n : Nat) (rest : List UInt8) (hn : n < 72057594037927936) (hm : n ≤ most) : tk most (vb n ++ rest) 0 0 = .ok (n, (vb n).length) := by
  have := tk_vb most 8 n 0 0 rest (by omega) (by rw [pow8]; exact hn) (by omega) (by simpa using hm)
  simpa using this
theorem tk_one (most : Nat) (l : List UInt8) (v j : Nat) (h : tk most l 0 0 = .ok (v, j)) : l.take j = vb v ∧ j = (vb v).length ∧ v ≤ most ∧ v < 72057594037927936 := by
  obtain ⟨n, h1, h2, h3, _, h5, h6, _⟩ := tk_inv most l 0 0 v j h
  have : n = v := by simpa using h3.symm
  subst this
  exact ⟨by simpa using h1, by simpa using h2, h5, by rw [← pow8]; simpa using h6⟩
theorem tk_le (most : Nat) (l : List UInt8) (v j : Nat) (h : tk most l 0 0 = .ok (v, j)) : j ≤ l.length ∧ 0 < j := by
  obtain ⟨h1, h2, _⟩ := tk_one most l v j h
  have := congrArg List.length h1
  rw [List.length_take] at this
  have := vb_pos v
  omega

theorem tt_back (s rest : List UInt8) (hs : s.length ≤ 20000) : tt (txt s ++ rest) = .ok (s, (txt s).length) := by
  unfold tt txt
  rw [List.append_assoc, tk_back 20000 s.length _ (by omega) hs]
  simp only
  rw [if_neg (by simp), List.drop_left]
  simp
theorem tt_one (l s : List UInt8) (j : Nat) (h : tt l = .ok (s, j)) : l.take j = txt s ∧ j = (txt s).length ∧ s.length ≤ 20000 ∧ j ≤ l.length ∧ 0 < j := by
  unfold tt at h
  split at h
  · simp at h
  · rename_i n i hn
    split at h
    · simp at h
    · rename_i hlt
      simp only [Except.ok.injEq, Prod.mk.injEq] at h
      obtain ⟨rfl, rfl⟩ := h
      obtain ⟨h1, h2, h3, h4⟩ := tk_one _ _ _ _ hn
      obtain ⟨h5, h6⟩ := tk_le _ _ _ _ hn
      have hlen : ((l.drop i).take n).length = n := by rw [List.length_take, List.length_drop]; omega
      refine ⟨?_, ?_, by omega, by omega, by omega⟩
      · unfold txt
        rw [hlen, ← h1, List.take_add]
      · unfold txt
        rw [hlen, List.length_append, hlen, ← h2]
theorem tt_cut (l s : List UInt8) (j m : Nat) (h : tt l = .ok (s, j)) (hm : m < j) : tt (l.take m) = .error 21 := by
  unfold tt at h
  split at h
  · simp at h
  · rename_i n i hn
    split at h
    · simp at h
    · simp only [Except.ok.injEq, Prod.mk.injEq] at h
      obtain ⟨rfl, rfl⟩ := h
      obtain ⟨h1, h2, h3, h4⟩ := tk_one _ _ _ _ hn
      obtain ⟨h5, h6⟩ := tk_le _ _ _ _ hn
      unfold tt
      by_cases hmi : m < i
      · rw [tk_cut _ _ _ _ _ _ _ hn (by omega)]
      · have e : l.take m = vb n ++ (l.take m).drop i := by
          rw [← h1]
          have := List.take_append_drop i (l.take m)
          rw [List.take_take, Nat.min_eq_left (by omega)] at this
          exact this.symm
        have hk : tk 20000 (l.take m) 0 0 = .ok (n, i) := by rw [e, h2]; exact tk_back _ _ _ h4 h3
        rw [hk]
        simp only
        rw [if_pos (by rw [List.length_take]; omega)]

theorem tls_back : ∀ (ts : List (List UInt8)) (rest : List UInt8), (∀ t ∈ ts, t.length ≤ 20000) → tls ts.length (ts.flatMap txt ++ rest) = .ok (ts, (ts.flatMap txt).length)
  | [], rest, _ => by simp [tls]
  | t :: ts, rest, h => by
    simp only [List.length_cons, tls, List.flatMap_cons, List.append_assoc]
    rw [tt_back t _ (h t (by simp))]
    simp only
    rw [List.drop_left, tls_back ts rest (fun t ht => h t (by simp [ht]))]
    simp
theorem tls_one : ∀ (n : Nat) (l : List UInt8) (ts : List (List UInt8)) (j : Nat), tls n l = .ok (ts, j) → l.take j = ts.flatMap txt ∧ j = (ts.flatMap txt).length ∧ ts.length = n ∧ (∀ t ∈ ts, t.length ≤ 20000) ∧ j ≤ l.length
  | 0, l, ts, j, h => by
    simp only [tls, Except.ok.injEq, Prod.mk.injEq] at h
    obtain ⟨rfl, rfl⟩ := h
    simp
  | n + 1, l, ts, j, h => by
    simp only [tls] at h
    split at h
    · simp at h
    · rename_i t i ht
      split at h
      · simp at h
      · rename_i ts' i' hts
        simp only [Except.ok.injEq, Prod.mk.injEq] at h
        obtain ⟨rfl, rfl⟩ := h
        obtain ⟨h1, h2, h3, h4, h5⟩ := tt_one _ _ _ ht
        obtain ⟨g1, g2, g3, g4, g5⟩ := tls_one n _ _ _ hts
        rw [List.length_drop] at g5
        refine ⟨?_, ?_, by simp [g3], ?_, by omega⟩
        · rw [List.take_add, h1, g1]; simp
        · simp only [List.flatMap_cons, List.length_append]; omega
        · intro t ht; rcases List.mem_cons.1 ht with rfl | ht
          · exact h3
          · exact g4 t ht
theorem tls_cut : ∀ (n : Nat) (l : List UInt8) (ts : List (List UInt8)) (j m : Nat), tls n l = .ok (ts, j) → m < j → tls n (l.take m) = .error 21
  | 0, l, ts, j, m, h, hm => by
    simp only [tls, Except.ok.injEq, Prod.mk.injEq] at h
    omega
  | n + 1, l, ts, j, m, h, hm => by
    simp only [tls] at h ⊢
    split at h
    · simp at h
    · rename_i t i ht
      split at h
      · simp at h
      · rename_i ts' i' hts
        simp only [Except.ok.injEq, Prod.mk.injEq] at h
        obtain ⟨rfl, rfl⟩ := h
        obtain ⟨h1, h2, h3, h4, h5⟩ := tt_one _ _ _ ht
        by_cases hmi : m < i
        · rw [tt_cut _ _ _ _ ht hmi]
        · have e : l.take m = txt t ++ (l.take m).drop i := by
            rw [← h1]
            have := List.take_append_drop i (l.take m)
            rw [List.take_take, Nat.min_eq_left (by omega)] at this
            exact this.symm
          have hk : tt (l.take m) = .ok (t, i) := by rw [e, h2]; exact tt_back _ _ h3
          rw [hk]
          simp only
          rw [show (l.take m).drop i = (l.drop i).take (m - i) from by rw [List.drop_take], tls_cut n _ _ _ (m - i) hts (by omega)]

theorem tl_back (ts : List (List UInt8)) (rest : List UInt8) (hl : ts.length ≤ 8000) (h : ∀ t ∈ ts, t.length ≤ 20000) : tl (lst ts ++ rest) = .ok (ts, (lst ts).length) := by
  unfold tl lst
  rw [List.append_assoc, tk_back 8000 ts.length _ (by omega) hl]
  simp only
  rw [List.drop_left, tls_back ts rest h]
  simp
theorem tl_one (l : List UInt8) (ts : List (List UInt8)) (j : Nat) (h : tl l = .ok (ts, j)) : l.take j = lst ts ∧ j = (lst ts).length ∧ ts.length ≤ 8000 ∧ (∀ t ∈ ts, t.length ≤ 20000) ∧ j ≤ l.length ∧ 0 < j := by
  unfold tl at h
  split at h
  · simp at h
  · rename_i n i hn
    split at h
    · simp at h
    · rename_i ts' i' hts
      simp only [Except.ok.injEq, Prod.mk.injEq] at h
      obtain ⟨rfl, rfl⟩ := h
      obtain ⟨h1, h2, h3, h4⟩ := tk_one _ _ _ _ hn
      obtain ⟨h5, h6⟩ := tk_le _ _ _ _ hn
      obtain ⟨g1, g2, g3, g4, g5⟩ := tls_one _ _ _ _ hts
      rw [List.length_drop] at g5
      refine ⟨?_, ?_, by omega, g4, by omega, by omega⟩
      · unfold lst; rw [g3, List.take_add, h1, g1]
      · unfold lst; rw [g3, List.length_append, ← h2, ← g2]
theorem tl_cut (l : List UInt8) (ts : List (List UInt8)) (j m : Nat) (h : tl l = .ok (ts, j)) (hm : m < j) : tl (l.take m) = .error 21 := by
  unfold tl at h
  split at h
  · simp at h
  · rename_i n i hn
    split at h
    · simp at h
    · rename_i ts' i' hts
      simp only [Except.ok.injEq, Prod.mk.injEq] at h
      obtain ⟨rfl, rfl⟩ := h
      obtain ⟨h1, h2, h3, h4⟩ := tk_one _ _ _ _ hn
      unfold tl
      by_cases hmi : m < i
      · rw [tk_cut _ _ _ _ _ _ _ hn (by omega)]
      · have e : l.take m = vb n ++ (l.take m).drop i := by
          rw [← h1]
          have := List.take_append_drop i (l.take m)
          rw [List.take_take, Nat.min_eq_left (by omega)] at this
          exact this.symm
        have hk : tk 8000 (l.take m) 0 0 = .ok (n, i) := by rw [e, h2]; exact tk_back _ _ _ h4 h3
        rw [hk]
        simp only
        rw [show (l.take m).drop i = (l.drop i).take (m - i) from by rw [List.drop_take], tls_cut n _ _ _ (m - i) hts (by omega)]
end Go.Proofs.Ytdpbkomaiafemaa.Pk
