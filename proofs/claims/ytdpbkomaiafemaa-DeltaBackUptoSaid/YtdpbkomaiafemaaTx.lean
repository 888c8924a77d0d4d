/- Plain laws of texts: code points, their bytes, and what bytes are read as. No program stands here. -/
set_option linter.unusedVariables false
set_option linter.unusedSimpArgs false
namespace Go.Proofs.Ytdpbkomaiafemaa.Tx

def isP (n : Nat) : Prop := n ≤ 1114111 ∧ (n < 55296 ∨ 57343 < n)
instance (n : Nat) : Decidable (isP n) := inferInstanceAs (Decidable (_ ∧ _))
/-- The bytes of a code point, as numbers. -/
def cpn (n : Nat) : List Nat :=
  if n < 128 then [n] else if n < 2048 then [192 + n / 64, 128 + n % 64]
  else if n < 65536 then [224 + n / 4096, 128 + n / 64 % 64, 128 + n % 64]
  else [240 + n / 262144, 128 + n / 4096 % 64, 128 + n / 64 % 64, 128 + n % 64]
def cp (n : Nat) : List UInt8 := (cpn n).map UInt8.ofNat
def size (n : Nat) : Nat := if n < 128 then 1 else if n < 2048 then 2 else if n < 65536 then 3 else 4
theorem cp_length (n : Nat) : (cp n).length = size n := by
  unfold cp cpn size
  rw [List.length_map]
  split
  · rfl
  · split
    · rfl
    · split <;> rfl
theorem size_pos (n : Nat) : 0 < size n := by unfold size; repeat' split
                                              all_goals omega
theorem size_le (n : Nat) : size n ≤ 4 := by unfold size; repeat' split
                                             all_goals omega
theorem toNat_ofNat (n : Nat) (h : n < 256) : (UInt8.ofNat n).toNat = n := by
  rw [UInt8.toNat_ofNat']
  exact Nat.mod_eq_of_lt h
theorem ofNat_toNat (b : UInt8) : UInt8.ofNat b.toNat = b := by simp
theorem byte_eq {b : UInt8} {n : Nat} (h : b.toNat = n) : UInt8.ofNat n = b := by rw [← h]; exact ofNat_toNat b

/-- By the first byte: of how many bytes a code point is. -/
def cls (b : Nat) : Nat := if b < 128 then 1 else if b / 32 = 6 then 2 else if b / 16 = 14 then 3 else if b / 8 = 30 then 4 else 0
/-- The code point with which bytes begin, and of how many bytes it is. -/
def one : List UInt8 → Option (Nat × Nat)
  | [] => none
  | b :: t =>
    if b.toNat < 128 then some (b.toNat, 1)
    else if b.toNat / 32 = 6 then
      match t with
      | c :: _ => let v := b.toNat % 32 * 64 + c.toNat % 64
        if c.toNat / 64 = 2 ∧ size v = 2 ∧ isP v then some (v, 2) else none
      | _ => none
    else if b.toNat / 16 = 14 then
      match t with
      | c :: d :: _ => let v := (b.toNat % 16 * 64 + c.toNat % 64) * 64 + d.toNat % 64
        if c.toNat / 64 = 2 ∧ d.toNat / 64 = 2 ∧ size v = 3 ∧ isP v then some (v, 3) else none
      | _ => none
    else if b.toNat / 8 = 30 then
      match t with
      | c :: d :: e :: _ => let v := ((b.toNat % 8 * 64 + c.toNat % 64) * 64 + d.toNat % 64) * 64 + e.toNat % 64
        if c.toNat / 64 = 2 ∧ d.toNat / 64 = 2 ∧ e.toNat / 64 = 2 ∧ size v = 4 ∧ isP v then some (v, 4) else none
      | _ => none
    else none
theorem size_2 {v : Nat} (h : size v = 2) : 128 ≤ v ∧ v < 2048 := by unfold size at h; repeat' split at h
                                                                     all_goals omega
theorem size_3 {v : Nat} (h : size v = 3) : 2048 ≤ v ∧ v < 65536 := by unfold size at h; repeat' split at h
                                                                       all_goals omega
theorem size_4 {v : Nat} (h : size v = 4) : 65536 ≤ v := by unfold size at h; repeat' split at h
                                                            all_goals omega
theorem one_some {l : List UInt8} {v k : Nat} (h : one l = some (v, k)) : isP v ∧ k = size v ∧ l.take k = cp v := by
  unfold one at h
  split at h
  · cases h
  · rename_i b t
    split at h
    · rename_i hb
      simp only [Option.some.injEq, Prod.mk.injEq] at h
      obtain ⟨rfl, rfl⟩ := h
      refine ⟨⟨by omega, .inl (by omega)⟩, by unfold size; rw [if_pos hb], ?_⟩
      unfold cp cpn
      rw [if_pos hb]
      simp
    · rename_i hb
      have hlt := b.toNat_lt
      split at h
      · rename_i h2
        split at h
        · rename_i c r
          have hc := c.toNat_lt
          simp only [] at h
          split at h
          · rename_i hv
            simp only [Option.some.injEq, Prod.mk.injEq] at h
            obtain ⟨rfl, rfl⟩ := h
            obtain ⟨h3, h4, h5⟩ := hv
            obtain ⟨h6, h7⟩ := size_2 h4
            refine ⟨h5, h4.symm, ?_⟩
            unfold cp cpn
            rw [if_neg (by omega), if_pos h7]
            simp only [List.take_succ_cons, List.take_zero, List.map_cons, List.map_nil]
            rw [byte_eq (b := b) (by omega), byte_eq (b := c) (by omega)]
          · cases h
        · cases h
      · split at h
        · rename_i h2
          split at h
          · rename_i c d r
            have hc := c.toNat_lt
            have hd := d.toNat_lt
            simp only [] at h
            split at h
            · rename_i hv
              simp only [Option.some.injEq, Prod.mk.injEq] at h
              obtain ⟨rfl, rfl⟩ := h
              obtain ⟨h3, h4, h5, h6⟩ := hv
              obtain ⟨h7, h8⟩ := size_3 h5
              refine ⟨h6, h5.symm, ?_⟩
              unfold cp cpn
              rw [if_neg (by omega), if_neg (by omega), if_pos h8]
              simp only [List.take_succ_cons, List.take_zero, List.map_cons, List.map_nil]
              rw [byte_eq (b := b) (by omega), byte_eq (b := c) (by omega), byte_eq (b := d) (by omega)]
            · cases h
          · cases h
        · split at h
          · rename_i h2
            split at h
            · rename_i c d e r
              have hc := c.toNat_lt
              have hd := d.toNat_lt
              have he := e.toNat_lt
              simp only [] at h
              split at h
              · rename_i hv
                simp only [Option.some.injEq, Prod.mk.injEq] at h
                obtain ⟨rfl, rfl⟩ := h
                obtain ⟨h3, h4, h5, h6, h7⟩ := hv
                have h8 := size_4 h6
                refine ⟨h7, h6.symm, ?_⟩
                unfold cp cpn
                rw [if_neg (by omega), if_neg (by omega), if_neg (by omega)]
                simp only [List.take_succ_cons, List.take_zero, List.map_cons, List.map_nil]
                rw [byte_eq (b := b) (by omega), byte_eq (b := c) (by omega), byte_eq (b := d) (by omega), byte_eq (b := e) (by omega)]
              · cases h
            · cases h
          · cases h
theorem one_cp (v : Nat) (r : List UInt8) (hv : isP v) : one (cp v ++ r) = some (v, size v) := by
  have hm := hv.1
  unfold cp cpn
  by_cases h1 : v < 128
  · rw [if_pos h1]
    simp only [List.map_cons, List.map_nil, List.cons_append, List.nil_append, one]
    rw [toNat_ofNat v (by omega), if_pos h1]
    unfold size
    rw [if_pos h1]
  · rw [if_neg h1]
    by_cases h2 : v < 2048
    · rw [if_pos h2]
      have hs : size v = 2 := by unfold size; rw [if_neg h1, if_pos h2]
      simp only [List.map_cons, List.map_nil, List.cons_append, List.nil_append, one]
      rw [toNat_ofNat (192 + v / 64) (by omega), toNat_ofNat (128 + v % 64) (by omega), if_neg (by omega), if_pos (by omega)]
      have e : (192 + v / 64) % 32 * 64 + (128 + v % 64) % 64 = v := by omega
      rw [e, if_pos ⟨by omega, hs, hv⟩, hs]
    · rw [if_neg h2]
      by_cases h3 : v < 65536
      · rw [if_pos h3]
        have hs : size v = 3 := by unfold size; rw [if_neg h1, if_neg h2, if_pos h3]
        simp only [List.map_cons, List.map_nil, List.cons_append, List.nil_append, one]
        rw [toNat_ofNat (224 + v / 4096) (by omega), toNat_ofNat (128 + v / 64 % 64) (by omega), toNat_ofNat (128 + v % 64) (by omega), if_neg (by omega), if_neg (by omega), if_pos (by omega)]
        have e : ((224 + v / 4096) % 16 * 64 + (128 + v / 64 % 64) % 64) * 64 + (128 + v % 64) % 64 = v := by omega
        rw [e, if_pos ⟨by omega, by omega, hs, hv⟩, hs]
      · rw [if_neg h3]
        have hs : size v = 4 := by unfold size; rw [if_neg h1, if_neg h2, if_neg h3]
        simp only [List.map_cons, List.map_nil, List.cons_append, List.nil_append, one]
        rw [toNat_ofNat (240 + v / 262144) (by omega), toNat_ofNat (128 + v / 4096 % 64) (by omega), toNat_ofNat (128 + v / 64 % 64) (by omega), toNat_ofNat (128 + v % 64) (by omega), if_neg (by omega), if_neg (by omega), if_neg (by omega), if_pos (by omega)]
        have e : (((240 + v / 262144) % 8 * 64 + (128 + v / 4096 % 64) % 64) * 64 + (128 + v / 64 % 64) % 64) * 64 + (128 + v % 64) % 64 = v := by omega
        rw [e, if_pos ⟨by omega, by omega, by omega, hs, hv⟩, hs]
theorem one_iff {l : List UInt8} {v k : Nat} : one l = some (v, k) ↔ isP v ∧ k = size v ∧ l.take k = cp v := by
  refine ⟨one_some, fun ⟨h1, h2, h3⟩ => ?_⟩
  have e : l = cp v ++ l.drop k := by rw [← h3, List.take_append_drop]
  rw [e, one_cp v _ h1, h2]
theorem one_1 {b : UInt8} {t : List UInt8} (h : b.toNat < 128) : one (b :: t) = some (b.toNat, 1) := by simp only [one]; rw [if_pos h]
theorem one_0 {b : UInt8} {t : List UInt8} (h1 : ¬ b.toNat < 128) (h2 : ¬ b.toNat / 32 = 6) (h3 : ¬ b.toNat / 16 = 14) (h4 : ¬ b.toNat / 8 = 30) : one (b :: t) = none := by simp only [one]; rw [if_neg h1, if_neg h2, if_neg h3, if_neg h4]
theorem one_2s {b : UInt8} {t : List UInt8} (h2 : b.toNat / 32 = 6) (h : t.length < 1) : one (b :: t) = none := by
  obtain rfl : t = [] := List.eq_nil_of_length_eq_zero (by omega)
  simp only [one]; rw [if_neg (by omega), if_pos h2]
theorem one_2 {b c : UInt8} {t : List UInt8} (h2 : b.toNat / 32 = 6) : one (b :: c :: t) = if c.toNat / 64 = 2 ∧ size (b.toNat % 32 * 64 + c.toNat % 64) = 2 ∧ isP (b.toNat % 32 * 64 + c.toNat % 64) then some (b.toNat % 32 * 64 + c.toNat % 64, 2) else none := by
  simp only [one]; rw [if_neg (by omega), if_pos h2]
theorem one_3s {b : UInt8} {t : List UInt8} (h3 : b.toNat / 16 = 14) (h : t.length < 2) : one (b :: t) = none := by
  match t, h with
  | [], _ => simp only [one]; rw [if_neg (by omega), if_neg (by omega), if_pos h3]
  | [c], _ => simp only [one]; rw [if_neg (by omega), if_neg (by omega), if_pos h3]
  | c :: d :: t, h => simp only [List.length_cons] at h; omega
theorem one_3 {b c d : UInt8} {t : List UInt8} (h3 : b.toNat / 16 = 14) : one (b :: c :: d :: t) = if c.toNat / 64 = 2 ∧ d.toNat / 64 = 2 ∧ size ((b.toNat % 16 * 64 + c.toNat % 64) * 64 + d.toNat % 64) = 3 ∧ isP ((b.toNat % 16 * 64 + c.toNat % 64) * 64 + d.toNat % 64) then some ((b.toNat % 16 * 64 + c.toNat % 64) * 64 + d.toNat % 64, 3) else none := by
  simp only [one]; rw [if_neg (by omega), if_neg (by omega), if_pos h3]
theorem one_4s {b : UInt8} {t : List UInt8} (h4 : b.toNat / 8 = 30) (h : t.length < 3) : one (b :: t) = none := by
  match t, h with
  | [], _ => simp only [one]; rw [if_neg (by omega), if_neg (by omega), if_neg (by omega), if_pos h4]
  | [c], _ => simp only [one]; rw [if_neg (by omega), if_neg (by omega), if_neg (by omega), if_pos h4]
  | [c, d], _ => simp only [one]; rw [if_neg (by omega), if_neg (by omega), if_neg (by omega), if_pos h4]
  | c :: d :: e :: t, h => simp only [List.length_cons] at h; omega
theorem one_4 {b c d e : UInt8} {t : List UInt8} (h4 : b.toNat / 8 = 30) : one (b :: c :: d :: e :: t) = if c.toNat / 64 = 2 ∧ d.toNat / 64 = 2 ∧ e.toNat / 64 = 2 ∧ size (((b.toNat % 8 * 64 + c.toNat % 64) * 64 + d.toNat % 64) * 64 + e.toNat % 64) = 4 ∧ isP (((b.toNat % 8 * 64 + c.toNat % 64) * 64 + d.toNat % 64) * 64 + e.toNat % 64) then some (((b.toNat % 8 * 64 + c.toNat % 64) * 64 + d.toNat % 64) * 64 + e.toNat % 64, 4) else none := by
  simp only [one]; rw [if_neg (by omega), if_neg (by omega), if_neg (by omega), if_pos h4]
theorem one_le {l : List UInt8} {v k : Nat} (h : one l = some (v, k)) : 0 < k ∧ k ≤ l.length ∧ k ≤ 4 := by
  obtain ⟨_, h2, h3⟩ := one_some h
  have := congrArg List.length h3
  rw [cp_length, List.length_take] at this
  have := size_pos v
  have := size_le v
  omega

/-- The code points of bytes. -/
def dec (l : List UInt8) : Option (List Nat) :=
  if l = [] then some [] else
  match h : one l with
  | none => none
  | some (v, k) => (dec (l.drop k)).map (v :: ·)
termination_by l.length
decreasing_by
  have := one_le h
  rw [List.length_drop]
  omega
theorem dec_nil : dec [] = some [] := by rw [dec]; rfl
theorem dec_none {l : List UInt8} (hl : l ≠ []) (h : one l = none) : dec l = none := by
  rw [dec, if_neg hl]
  split
  · rfl
  · rename_i v k h2
    rw [h] at h2
    cases h2
theorem dec_some {l : List UInt8} {v k : Nat} (h : one l = some (v, k)) : dec l = (dec (l.drop k)).map (v :: ·) := by
  have hl : l ≠ [] := by
    rintro rfl
    cases h
  rw [dec, if_neg hl]
  split
  · rename_i h2
    rw [h] at h2
    cases h2
  · rename_i v' k' h2
    rw [h] at h2
    cases h2
    rfl
/-- The bytes of code points. -/
def enc (ps : List Nat) : List UInt8 := ps.flatMap cp
theorem enc_nil : enc [] = [] := rfl
theorem enc_cons (p : Nat) (ps : List Nat) : enc (p :: ps) = cp p ++ enc ps := rfl
theorem enc_append (a b : List Nat) : enc (a ++ b) = enc a ++ enc b := by simp [enc]
def AllP (ps : List Nat) : Prop := ∀ p ∈ ps, isP p
theorem dec_cp (v : Nat) (r : List UInt8) (hv : isP v) : dec (cp v ++ r) = (dec r).map (v :: ·) := by
  rw [dec_some (one_cp v r hv), ← cp_length, List.drop_left]
theorem dec_enc_append : ∀ (ps : List Nat) (r : List UInt8), AllP ps → dec (enc ps ++ r) = (dec r).map (ps ++ ·)
  | [], r, _ => by rw [enc_nil, List.nil_append]; cases dec r <;> rfl
  | p :: ps, r, h => by
    rw [enc_cons, List.append_assoc, dec_cp p _ (h p (by simp)), dec_enc_append ps r (fun q hq => h q (by simp [hq]))]
    cases dec r <;> rfl
theorem dec_enc (ps : List Nat) (h : AllP ps) : dec (enc ps) = some ps := by
  have := dec_enc_append ps [] h
  rw [List.append_nil, dec_nil] at this
  rw [this]
  simp
theorem dec_is : ∀ (n : Nat) (l : List UInt8) (ps : List Nat), l.length ≤ n → dec l = some ps → enc ps = l ∧ AllP ps
  | n, l, ps, hn, h => by
    by_cases hl : l = []
    · subst hl
      rw [dec_nil] at h
      cases h
      exact ⟨rfl, fun p hp => by cases hp⟩
    · cases ho : one l with
      | none => rw [dec_none hl ho] at h; cases h
      | some vk =>
        obtain ⟨v, k⟩ := vk
        rw [dec_some ho] at h
        obtain ⟨qs, hq, rfl⟩ := Option.map_eq_some_iff.1 h
        obtain ⟨h1, h2, h3⟩ := one_some ho
        obtain ⟨k0, kl, _⟩ := one_le ho
        cases n with
        | zero => exact absurd (List.eq_nil_of_length_eq_zero (by omega)) hl
        | succ n =>
          obtain ⟨e, ha⟩ := dec_is n (l.drop k) qs (by rw [List.length_drop]; omega) hq
          refine ⟨?_, fun p hp => ?_⟩
          · rw [enc_cons, e, ← h3, List.take_append_drop]
          · rcases List.mem_cons.1 hp with rfl | hp
            · exact h1
            · exact ha p hp
theorem enc_dec {l : List UInt8} {ps : List Nat} (h : dec l = some ps) : enc ps = l := (dec_is _ l ps (Nat.le_refl _) h).1
theorem dec_allP {l : List UInt8} {ps : List Nat} (h : dec l = some ps) : AllP ps := (dec_is _ l ps (Nat.le_refl _) h).2
theorem dec_append {a b : List UInt8} {x y : List Nat} (ha : dec a = some x) (hb : dec b = some y) : dec (a ++ b) = some (x ++ y) := by
  rw [← enc_dec ha, dec_enc_append x b (dec_allP ha), hb]
  rfl
theorem enc_length_le : ∀ ps : List Nat, (enc ps).length ≤ 4 * ps.length
  | [] => Nat.le_refl _
  | p :: ps => by
    rw [enc_cons, List.length_append, cp_length, List.length_cons]
    have := enc_length_le ps
    have := size_le p
    omega
theorem le_enc_length : ∀ ps : List Nat, ps.length ≤ (enc ps).length
  | [] => Nat.le_refl _
  | p :: ps => by
    rw [enc_cons, List.length_append, cp_length, List.length_cons]
    have := le_enc_length ps
    have := size_pos p
    omega
theorem enc_inj {a b : List Nat} (ha : AllP a) (hb : AllP b) (h : enc a = enc b) : a = b := by
  have h1 := dec_enc a ha
  rw [h, dec_enc b hb] at h1
  exact (Option.some.inj h1).symm
theorem AllP.append {a b : List Nat} (ha : AllP a) (hb : AllP b) : AllP (a ++ b) := fun p hp => (List.mem_append.1 hp).elim (ha p) (hb p)
theorem AllP.take {a : List Nat} (ha : AllP a) (n : Nat) : AllP (a.take n) := fun p hp => ha p (List.mem_of_mem_take hp)
theorem AllP.drop {a : List Nat} (ha : AllP a) (n : Nat) : AllP (a.drop n) := fun p hp => ha p (List.mem_of_mem_drop hp)
end Go.Proofs.Ytdpbkomaiafemaa.Tx
