/- What the program's own writing and reading of lists and words comes to, in plain words. -/
import Derived.Test.YtknbccaineblpaaHPkx3
import Derived.Test.YtknbccaineblpaaHPkx2
import Derived.Test.YtknbccaineblpaaHPkx1
import Derived.Test.YtknbccaineblpaaPurePkpk
namespace Go.Proofs.Ytknbccaineblpaa.Pkpk
open Go.RowKit Go.Proofs.Ytknbccaineblpaa.HPk Go.Proofs.Ytknbccaineblpaa.Pk Go.Proofs.YtknbccaineblpaaW.PrintWords Go.Proofs.YtknbccaineblpaaW.PrintLast Go.Proofs.YtknbccaineblpaaW.PrintMore
set_option linter.unusedSimpArgs false
set_option linter.unusedVariables false

theorem live_ev : Ev (fun k => oxbowlaw02_live.f k) true := Ev.of (fun k => oxbowlaw02_live.mono k) (k := 12) (by decide +kernel)

/-! ### lists written -/
def dat (l : List ByteArray) : List (List UInt8) := l.map fun s => s.data.toList
theorem txt_le (t : List UInt8) (h : t.length ≤ 20000) : (txt t).length ≤ 20010 := by
  unfold txt
  rw [List.length_append]
  have := vb_length 8 t.length (by have : (128 : Nat) ^ (8 + 1) = 9223372036854775808 := by decide
                                   omega)
  omega
theorem vb_le (n : Nat) (h : n < 9223372036854775808) : (vb n).length ≤ 9 := vb_length 8 n (Nat.lt_of_lt_of_eq h (by decide))
def fits (l : List ByteArray) : Bool := l.all fun s => decide (s.size ≤ 20000)
theorem list_loop (l : List ByteArray) (hl : l.length ≤ 8000) : ∀ (d i : Nat) (acc : List Int), i + d = l.length → acc.length ≤ 20 + i * 20020 →
    Ev (fun k => pack_List.l0 k acc l (l.length : Int) (i : Int)) (if fits (l.drop i) then (strOfNums (acc ++ Ev.ints ((dat (l.drop i)).flatMap txt)), 0) else ((⟨#[]⟩ : ByteArray), 2))
  | 0, i, acc, hd, ha => by
    refine Ev.step (f := fun _ => some (strOfNums acc, 0)) (fun k => ?_) ?_
    · simp only [pack_List.l0]; rw [if_neg (by omega)]
    · rw [List.drop_of_length_le (by omega)]
      simp [fits, dat, Ev.ints]
      exact Ev.now _
  | d + 1, i, acc, hd, ha => by
    have hlt : i < l.length := by omega
    have hget := Ev.rdOf_get ByteArray.empty l i hlt
    have hdrop : l.drop i = l[i] :: l.drop (i + 1) := List.drop_eq_getElem_cons hlt
    have hw := Aside0.mk (Ev.wrap_succ i (by omega))
    rw [hdrop]
    generalize l[i] = s at hget ⊢
    by_cases hs : s.size ≤ 20000
    · have hv := vb_le s.size (by omega)
      have hu := Aside0.mk (Ev.u64_id (s.size : Int) (by omega) (by omega))
      have hput := put_ev 8 s.size acc (by have : (128 : Nat) ^ (8 + 1) = 9223372036854775808 := by decide
                                           omega) (by omega) (by omega)
      have hal : (acc ++ Ev.ints (vb s.size) ++ bytesOf s).length ≤ 20 + (i + 1) * 20020 := by
        rw [List.length_append, List.length_append, Ev.ints_length, bytesOf_length]
        omega
      have ih := list_loop l hl d (i + 1) (acc ++ Ev.ints (vb s.size) ++ bytesOf s) (by omega) hal
      refine Ev.step (f := fun k => (pack_put.f k acc (s.size : Int)).bind fun t => if t.length + s.size < 140737488355328 then pack_List.l0 k (t ++ bytesOf s) l (l.length : Int) ((i + 1 : Nat) : Int) else none) (fun k => ?_) ?_
      · simp only [pack_List.l0]
        rw [if_pos (by omega), if_pos (by omega), if_pos (by omega), hget, if_neg (by omega), hu.out, hw.out]
      · refine Ev.bind hput (Ev.pos (by rw [List.length_append, Ev.ints_length]; omega) ?_)
        refine Ev.val ih ?_
        have hf : fits (s :: l.drop (i + 1)) = fits (l.drop (i + 1)) := by simp [fits, hs]
        rw [hf]
        congr 2
        · congr 1
          simp only [dat, List.map_cons, List.flatMap_cons, txt, Ev.ints_append, List.append_assoc, Ev.bytesOf_ints, Ev.len_data]
    · refine Ev.step (f := fun _ => some ((⟨#[]⟩ : ByteArray), 2)) (fun k => ?_) ?_
      · simp only [pack_List.l0]
        rw [if_pos (by omega), if_pos (by omega), if_pos (by omega), hget, if_pos (by omega)]
      · have hf : fits (s :: l.drop (i + 1)) = false := by simp [fits, hs]
        rw [hf]
        exact Ev.now _
/-- The bytes of a list's form. -/
def lstB (l : List ByteArray) : ByteArray := strOfNums (Ev.ints (lst (dat l)))
theorem lstB_data (l : List ByteArray) : (lstB l).data.toList = lst (dat l) := Ev.strOf_ints _
theorem list_ev (l : List ByteArray) : Ev (fun k => pack_List.f k l) (if l.length ≤ 8000 ∧ fits l = true then (lstB l, 0) else ((⟨#[]⟩ : ByteArray), 2)) := by
  unfold pack_List.f
  by_cases hl : l.length ≤ 8000
  · refine Ev.neg (by omega) ?_
    have hu : IntKind.u64.wrap (l.length : Int) = (l.length : Int) := Ev.u64_id (l.length : Int) (by omega) (by omega)
    have hv := vb_le l.length (by omega)
    have h := list_loop l hl l.length 0 (Ev.ints (vb l.length)) (by omega) (by rw [Ev.ints_length]; omega)
    rw [hu]
    refine Ev.bind (put_ev 8 l.length [] (by have : (128 : Nat) ^ (8 + 1) = 9223372036854775808 := by decide
                                             omega) (by simp) (by omega)) (Ev.val h ?_)
    rw [List.drop_zero]
    by_cases hf : fits l = true
    · rw [if_pos hf, if_pos ⟨hl, hf⟩]
      congr 2
      simp only [lst, Ev.ints_append, dat, List.length_map]
    · rw [if_neg hf, if_neg (fun h => hf h.2)]
  · rw [if_neg (fun h => hl h.1)]
    exact Ev.pos (by omega) (Ev.now _)

/-! ### lists read -/
def mkB (t : List UInt8) : ByteArray := ⟨t.toArray⟩
theorem mkB_data (t : List UInt8) : (mkB t).data.toList = t := rfl
theorem dat_mkB (ts : List (List UInt8)) : dat (ts.map mkB) = ts := by
  simp only [dat, List.map_map]
  conv => rhs; rw [← List.map_id ts]
  exact List.map_congr_left (fun s _ => rfl)
theorem mkB_dat (l : List ByteArray) : (dat l).map mkB = l := by
  simp only [dat, List.map_map]
  conv => rhs; rw [← List.map_id l]
  exact List.map_congr_left (fun s _ => Ev.ext_data rfl)
theorem dat_length (l : List ByteArray) : (dat l).length = l.length := by simp [dat]
theorem tt_error {l : List UInt8} {e : Int} (h : tt l = .error e) : e ≠ 0 := by
  unfold tt at h
  split at h
  · rename_i e' he
    injection h with h
    subst h
    exact error_ne he
  · split at h
    · injection h with h; omega
    · cases h
theorem tls_error : ∀ {n : Nat} {l : List UInt8} {e : Int}, tls n l = .error e → e ≠ 0
  | 0, l, e, h => by simp [tls] at h
  | n + 1, l, e, h => by
    simp only [tls] at h
    split at h
    · rename_i e' he
      injection h with h
      subst h
      exact tt_error he
    · split at h
      · rename_i e' he
        injection h with h
        subst h
        exact tls_error he
      · cases h
theorem tl_error {l : List UInt8} {e : Int} (h : tl l = .error e) : e ≠ 0 := by
  unfold tl at h
  split at h
  · rename_i e' he
    injection h with h
    subst h
    exact error_ne he
  · split at h
    · rename_i e' he
      injection h with h
      subst h
      exact tls_error he
    · cases h
def tlsR (xs : List ByteArray) (at_ : Nat) : Except Int (List (List UInt8) × Nat) → List ByteArray × Int × Int
  | .error e => ([], 0, e)
  | .ok (ts, j) => (xs ++ ts.map mkB, ((at_ + j : Nat) : Int), 0)
theorem takeList_loop (s : ByteArray) (hs : s.size ≤ 4611686018427387904) : ∀ (d n i at_ : Nat) (xs : List ByteArray), i + d = n → n ≤ 8000 → at_ ≤ s.size → xs.length ≤ i →
    Ev (fun k => pack_TakeList.l0 k s xs (at_ : Int) (n : Int) (i : Int)) (tlsR xs at_ (tls d (s.data.toList.drop at_)))
  | 0, n, i, at_, xs, hd, hn, ha, hx => by
    refine Ev.step (f := fun _ => some (xs, (at_ : Int), 0)) (fun k => ?_) (Ev.val (Ev.now _) (by simp [tls, tlsR]))
    simp only [pack_TakeList.l0]; rw [if_neg (by omega)]
  | d + 1, n, i, at_, xs, hd, hn, ha, hx => by
    have hw := Aside0.mk (Ev.wrap_succ i (by omega))
    have ht := takeText_ev s hs at_ ha
    simp only [tls]
    cases h : tt (s.data.toList.drop at_) with
    | error e =>
      rw [h] at ht
      have hne := tt_error h
      refine Ev.step (f := fun k => (pack_TakeText.f k s (at_ : Int)).bind fun b => if b.2.2 = 0 then pack_TakeList.l0 k s (xs ++ [b.1]) b.2.1 (n : Int) ((i + 1 : Nat) : Int) else some ([], 0, b.2.2)) (fun k => ?_) ?_
      · simp only [pack_TakeList.l0]
        rw [if_pos (by omega), if_pos (by omega), hw.out]
      · exact Ev.bind ht (Ev.neg hne (Ev.now _))
    | ok x =>
      obtain ⟨t, j⟩ := x
      rw [h] at ht
      obtain ⟨h1, h2, h3, h4, h5⟩ := tt_one _ _ _ h
      rw [List.length_drop, Ev.len_data] at h4
      have ih := takeList_loop s hs d n (i + 1) (at_ + j) (xs ++ [mkB t]) (by omega) hn (by omega) (by simp; omega)
      refine Ev.step (f := fun k => (pack_TakeText.f k s (at_ : Int)).bind fun b => if b.2.2 = 0 then pack_TakeList.l0 k s (xs ++ [b.1]) b.2.1 (n : Int) ((i + 1 : Nat) : Int) else some ([], 0, b.2.2)) (fun k => ?_) ?_
      · simp only [pack_TakeList.l0]
        rw [if_pos (by omega), if_pos (by omega), hw.out]
      · refine Ev.bind ht (Ev.pos rfl (Ev.val ih ?_))
        simp only
        rw [List.drop_drop]
        cases tls d (s.data.toList.drop (at_ + j)) with
        | error e => rfl
        | ok y =>
          obtain ⟨ts, i'⟩ := y
          simp only [tlsR, List.map_cons, List.append_assoc, List.cons_append, List.nil_append]
          rw [Nat.add_assoc]
def tlR (at_ : Nat) (r : Except Int (List (List UInt8) × Nat)) : List ByteArray × Int × Int := tlsR [] at_ r
theorem takeList_ev (s : ByteArray) (hs : s.size ≤ 4611686018427387904) (at_ : Nat) (ha : at_ ≤ s.size) : Ev (fun k => pack_TakeList.f k s (at_ : Int)) (tlR at_ (tl (s.data.toList.drop at_))) := by
  unfold pack_TakeList.f tl
  have ht := take_ev s hs at_ 8000 (by decide) ha
  cases h : tk 8000 (s.data.toList.drop at_) 0 0 with
  | error e =>
    rw [h] at ht
    exact Ev.bind ht (Ev.neg (error_ne h) (Ev.now _))
  | ok x =>
    obtain ⟨n, j⟩ := x
    rw [h] at ht
    obtain ⟨h1, h2, h3, h4⟩ := tk_one _ _ _ _ h
    obtain ⟨h5, h6⟩ := tk_le _ _ _ _ h
    rw [List.length_drop, Ev.len_data] at h5
    have hl := takeList_loop s hs n n 0 (at_ + j) [] (by omega) h3 (by omega) (by simp)
    refine Ev.bind ht (Ev.pos rfl (Ev.val hl ?_))
    simp only
    rw [List.drop_drop]
    cases tls n (s.data.toList.drop (at_ + j)) with
    | error e => rfl
    | ok y =>
      obtain ⟨ts, i'⟩ := y
      simp only [tlR, tlsR]
      rw [Nat.add_assoc]
theorem takeList_out (s : ByteArray) (at_ : Int) (ha : at_ < 0 ∨ (s.size : Int) < at_) : Ev (fun k => pack_TakeList.f k s at_) ([], 0, 1) := by
  unfold pack_TakeList.f
  exact Ev.bind (take_out s at_ _ ha) (Ev.neg (by decide) (Ev.now _))

/-! ### words -/
def wd (w : Nat) : List UInt8 := [UInt8.ofNat (w / 16777216), UInt8.ofNat (w / 65536 % 256), UInt8.ofNat (w / 256 % 256), UInt8.ofNat (w % 256)]
def wdB (w : Nat) : ByteArray := strOfNums (Ev.ints (wd w))
theorem wdB_data (w : Nat) : (wdB w).data.toList = wd w := Ev.strOf_ints _
theorem word_ev (w : Nat) (h : w < 4294967296) : pack_Word.f (w : Int) = some (wdB w) := by
  unfold pack_Word.f wdB
  congr 2
  simp only [wd, Ev.ints, List.map_cons, List.map_nil, toNat_ofNat _ (show w / 16777216 < 256 by omega), toNat_ofNat _ (show w / 65536 % 256 < 256 by omega), toNat_ofNat _ (show w / 256 % 256 < 256 by omega), toNat_ofNat _ (show w % 256 < 256 by omega)]
  congr 1
  omega
theorem wraps_u32 (n : Int) (h₀ : 0 ≤ n) (h₁ : n < 2 ^ 32) : IntKind.u32.wrap n = n := by rw [IntKind.wrap_u32]; omega
theorem join4 (a b c d : Nat) (ha : a < 256) (hb : b < 256) (hc : c < 256) (hd : d < 256) :
    Go.bits .or .u32 (Go.bits .or .u32 (Go.bits .or .u32 ((((a : Int) % 4294967296) * 16777216) % 4294967296) ((((b : Int) % 4294967296) * 65536) % 4294967296)) ((((c : Int) % 4294967296) * 256) % 4294967296)) ((d : Int) % 4294967296) = ((a * 16777216 + b * 65536 + c * 256 + d : Nat) : Int) := by
  have e1 : (((a : Int) % 4294967296) * 16777216) % 4294967296 = (a : Int) * 16777216 := by omega
  have e2 : (((b : Int) % 4294967296) * 65536) % 4294967296 = (b : Int) * 65536 := by omega
  have e3 : (((c : Int) % 4294967296) * 256) % 4294967296 = (c : Int) * 256 := by omega
  have e4 : (d : Int) % 4294967296 = (d : Int) := by omega
  rw [e1, e2, e3, e4]
  rw [bits_join .u32 32 (by decide) wraps_u32 24 ((a : Int) * 16777216) ((b : Int) * 65536) (by omega) (by omega) (by omega) (by omega) (by omega) (by omega),
    bits_join .u32 32 (by decide) wraps_u32 16 ((a : Int) * 16777216 + (b : Int) * 65536) ((c : Int) * 256) (by omega) (by omega) (by omega) (by omega) (by omega) (by omega),
    bits_join .u32 32 (by decide) wraps_u32 8 ((a : Int) * 16777216 + (b : Int) * 65536 + (c : Int) * 256) (d : Int) (by omega) (by omega) (by omega) (by omega) (by omega) (by omega)]
  omega
theorem takeWord_in (s : ByteArray) (hs : s.size ≤ 4611686018427387904) (at_ : Nat) (ha : at_ ≤ s.size) :
    Ev (fun k => pack_TakeWord.f k s (at_ : Int)) (if h : at_ + 4 ≤ s.size then (((s[at_].toNat * 16777216 + s[at_ + 1].toNat * 65536 + s[at_ + 2].toNat * 256 + s[at_ + 3].toNat : Nat) : Int), ((at_ + 4 : Nat) : Int), 0) else (0, 0, 21)) := by
  unfold pack_TakeWord.f
  refine Ev.neg (by omega) ?_
  rw [show (decide ((at_ : Int) > (s.size : Int))) = false from decide_eq_false (by omega)]
  have hsub := Aside0.mk (Ev.wrap_sub s.size at_ ha (by omega))
  by_cases h : at_ + 4 ≤ s.size
  · rw [dif_pos h]
    have w1 := Aside0.mk (Ev.wrap_succ at_ (by omega))
    have w2 : Aside0 (wrap64 ((at_ : Int) + 2) = ((at_ + 2 : Nat) : Int)) := ⟨Ev.wrap_id _ (by omega) (by omega)⟩
    have w3 : Aside0 (wrap64 ((at_ : Int) + 3) = ((at_ + 3 : Nat) : Int)) := ⟨Ev.wrap_id _ (by omega) (by omega)⟩
    have w4 : Aside0 (wrap64 ((at_ : Int) + 4) = ((at_ + 4 : Nat) : Int)) := ⟨Ev.wrap_id _ (by omega) (by omega)⟩
    refine Ev.step (f := fun _ => some (((s[at_].toNat * 16777216 + s[at_ + 1].toNat * 65536 + s[at_ + 2].toNat * 256 + s[at_ + 3].toNat : Nat) : Int), ((at_ + 4 : Nat) : Int), 0)) (fun k => ?_) (Ev.now _)
    have j := Aside0.mk (join4 (s[at_]).toNat (s[at_ + 1]).toNat (s[at_ + 2]).toNat (s[at_ + 3]).toNat (s[at_]).toNat_lt (s[at_ + 1]).toNat_lt (s[at_ + 2]).toNat_lt (s[at_ + 3]).toNat_lt)
    simp only [pack_TakeWord.j0]
    rw [if_neg (by decide), hsub.out, if_neg (by omega), if_pos (by omega), if_pos (by omega), w1.out, w2.out, w3.out, w4.out, if_pos (by omega), if_pos (by omega), if_pos (by omega), if_pos (by omega), if_pos (by omega), if_pos (by omega),
      Ev.bt_get s at_ (by omega), Ev.bt_get s (at_ + 1) (by omega), Ev.bt_get s (at_ + 2) (by omega), Ev.bt_get s (at_ + 3) (by omega), j.out]
  · rw [dif_neg h]
    refine Ev.step (f := fun _ => some (0, 0, 21)) (fun k => ?_) (Ev.now _)
    simp only [pack_TakeWord.j0]
    rw [if_neg (by decide), hsub.out, if_pos (by omega)]
theorem takeWord_out (s : ByteArray) (at_ : Int) (ha : at_ < 0 ∨ (s.size : Int) < at_) : Ev (fun k => pack_TakeWord.f k s at_) (0, 0, 1) := by
  unfold pack_TakeWord.f
  have h : ∀ b, b = true → Ev (fun k => pack_TakeWord.j0 k s at_ b) (0, 0, 1) := by
    intro b hb
    refine Ev.step (f := fun _ => some (0, 0, 1)) (fun k => ?_) (Ev.now _)
    simp only [pack_TakeWord.j0]; rw [if_pos hb]
  by_cases h0 : at_ < 0
  · exact Ev.pos h0 (h true rfl)
  · exact Ev.neg h0 (h _ (decide_eq_true (by omega)))
end Go.Proofs.Ytknbccaineblpaa.Pkpk
