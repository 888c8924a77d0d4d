/- What the program's own reading of numbers and texts comes to, in plain words. -/
import Derived.Test.YtdpbkomaiafemaaHDdx10
import Derived.Test.YtdpbkomaiafemaaPureDdpn
namespace Go.Proofs.Ytdpbkomaiafemaa.Ddpk
open Go.RowKit Go.Proofs.Ytdpbkomaiafemaa.HDd Go.Proofs.Ytdpbkomaiafemaa.Pk Go.Proofs.YtdpbkomaiafemaaW.PrintWords Go.Proofs.YtdpbkomaiafemaaW.PrintLast Go.Proofs.YtdpbkomaiafemaaW.PrintMore
set_option linter.unusedSimpArgs false
set_option linter.unusedVariables false
/-! ### numbers read -/
def tkR (at_ : Nat) : Except Int (Nat × Nat) → Int × Int × Int
  | .error e => (0, 0, e)
  | .ok (n, j) => ((n : Int), ((at_ + j : Nat) : Int), 0)
theorem and127 (n : Nat) (h : n < 256) : Go.bits .and .u8 (n : Int) 127 = ((n % 128 : Nat) : Int) := by
  have h1 := (bits_nat .u8 8 (by decide) wraps_u8 n 127 h (by decide)).1
  have h3 : n &&& 127 = n % 128 := Nat.and_two_pow_sub_one_eq_mod n 7
  rw [← h3]
  exact h1
theorem wraps_u64 (n : Int) (h0 : 0 ≤ n) (h1 : n < 2 ^ 64) : IntKind.u64.wrap n = n := Ev.u64_id n h0 (by simpa using h1)
theorem or_shl (acc x i : Nat) (hi : i ≤ 7) (ha : acc < 128 ^ i) (hx : x < 128) : Go.bits .or .u64 (acc : Int) (shl .u64 (x : Int) ((7 * i : Nat) : Int)) = ((acc + x * 128 ^ i : Nat) : Int) := by
  have hp : (128 : Nat) ^ i = 2 ^ (7 * i) := by rw [Nat.pow_mul]
  have hpl : 2 ^ (7 * i) ≤ 2 ^ 49 := Nat.pow_le_pow_right (by decide) (by omega)
  have h49 : (2 : Nat) ^ 49 = 562949953421312 := by decide
  have hxm : x * 2 ^ (7 * i) ≤ 127 * 2 ^ (7 * i) := Nat.mul_le_mul_right _ (by omega)
  have hs : shl .u64 (x : Int) ((7 * i : Nat) : Int) = ((x * 2 ^ (7 * i) : Nat) : Int) := by
    unfold shl
    rw [Int.toNat_natCast, Nat.min_eq_left (show 7 * i ≤ IntKind.u64.bits by simp only [IntKind.bits]; omega)]
    have : (x : Int) * 2 ^ (7 * i) = ((x * 2 ^ (7 * i) : Nat) : Int) := by simp
    rw [this]
    exact Ev.u64_id _ (by omega) (by omega)
  rw [hs, hp]
  have h1 := (bits_nat .u64 64 (by decide) wraps_u64 acc (x * 2 ^ (7 * i)) (by rw [hp] at ha; have : (2 : Nat) ^ 64 = 18446744073709551616 := by decide
                                                                               omega) (by have : (2 : Nat) ^ 64 = 18446744073709551616 := by decide
                                                                                          omega)).2
  rw [h1]
  rw [hp] at ha
  have h2 := Nat.two_pow_add_eq_or_of_lt ha x
  rw [Nat.or_comm, Nat.mul_comm x, ← h2]
  congr 1
  omega
theorem next_lt (acc x i : Nat) (ha : acc < 128 ^ i) (hx : x < 128) : acc + x * 128 ^ i < 128 ^ (i + 1) := by
  rw [Nat.pow_succ]
  have : x * 128 ^ i ≤ 127 * 128 ^ i := Nat.mul_le_mul_right _ (by omega)
  omega
theorem val_lt (acc x i : Nat) (hi : i ≤ 7) (ha : acc < 128 ^ i) (hx : x < 128) : acc + x * 128 ^ i < 72057594037927936 := by
  have h1 := next_lt acc x i ha hx
  have h2 : (128 : Nat) ^ (i + 1) ≤ 128 ^ 8 := Nat.pow_le_pow_right (by decide) (by omega)
  rw [pow8] at h2
  omega
theorem take_loop (s : ByteArray) (hs : s.size ≤ 4611686018427387904) (at_ most : Nat) (hm : most < 9223372036854775808) : ∀ (d i acc : Nat), i + d = 8 → acc < 128 ^ i → at_ + i ≤ s.size →
    Ev (fun k => pack_take.l0 k s (at_ : Int) (most : Int) (acc : Int) (i : Int)) (tkR at_ (tk most (s.data.toList.drop (at_ + i)) i acc))
  | 0, i, acc, hd, ha, hle => by
    have hi : i = 8 := by omega
    subst hi
    refine Ev.step (f := fun _ => some (tkR at_ (tk most (s.data.toList.drop (at_ + 8)) 8 acc))) (fun k => ?_) (Ev.now _)
    simp only [pack_take.l0]
    rw [if_neg (by omega)]
    cases s.data.toList.drop (at_ + 8) with
    | nil => rfl
    | cons b l => rfl
  | d + 1, i, acc, hd, ha, hle => by
    have hw := Aside0.mk (Ev.wrap_add at_ i (by omega))
    have hw7 : Aside0 (wrap64 (7 * (i : Int)) = ((7 * i : Nat) : Int)) := ⟨Ev.wrap_id _ (by omega) (by omega)⟩
    have hwi := Aside0.mk (Ev.wrap_succ i (by omega))
    by_cases he : at_ + i = s.size
    · refine Ev.step (f := fun _ => some (tkR at_ (tk most (s.data.toList.drop (at_ + i)) i acc))) (fun k => ?_) (Ev.now _)
      simp only [pack_take.l0]
      rw [if_pos (by omega), hw.out, if_pos (by omega), Ev.drop_end s _ (by omega)]
      simp only [tk]
      rw [if_pos (by omega)]
      rfl
    · have hlt : at_ + i < s.size := by omega
      have hb := (s[at_ + i]).toNat_lt
      have e2 := Aside0.mk (Ev.wrap_succ (at_ + i) (by omega))
      rw [Ev.drop_at s _ hlt]
      have hg := Ev.bt_get s _ hlt
      have ih0 := take_loop s hs at_ most hm d (i + 1)
      simp only [tk]
      generalize (s[at_ + i]).toNat = b at hb hg ⊢
      have hx : b % 128 < 128 := Nat.mod_lt _ (by decide)
      have hg := Aside0.mk hg
      have h77 : i ≤ 7 := by omega
      have hor := Aside0.mk (or_shl acc (b % 128) i h77 ha hx)
      have hvb := Aside0.mk (val_lt acc (b % 128) i h77 ha hx)
      have hu := Aside0.mk (Ev.u64_id ((b % 128 : Nat) : Int) (by omega) (by omega))
      have hmo := Aside0.mk (Ev.u64_id (most : Int) (by omega) (by omega))
      have hand := Aside0.mk (and127 b hb)
      have ha2 := Aside0.mk (next_lt acc (b % 128) i ha hx)
      clear ha
      rw [if_pos (show i < 8 by omega)]
      have ih := Aside0.mk (ih0 (acc + b % 128 * 128 ^ i) (by omega) ha2.out (by omega))
      clear ih0
      by_cases hc : b < 128
      · rw [if_pos hc]
        have hmod : b % 128 = b := Nat.mod_eq_of_lt hc
        have hor := hor.out
        have hvb := hvb.out
        have hu := hu.out
        have hand := hand.out
        rw [hmod] at hor hu hvb hand
        generalize acc + b * 128 ^ i = v at hor hvb ⊢
        replace hor := Aside0.mk hor
        replace hu := Aside0.mk hu
        replace hand := Aside0.mk hand
        clear ih ha2 hx
        refine Ev.step (f := fun _ => some (tkR at_ (if (b = 0 ∧ 0 < i) ∨ most < v then .error 22 else .ok (v, i + 1)))) (fun k => ?_) (Ev.now _)
        have e1 := Aside0.mk (Ev.wrap_nat v (Nat.lt_trans hvb (by decide)))
        simp only [pack_take.l0]
        rw [if_pos (by omega), hw.out, if_neg (by omega), if_pos (by omega), if_pos (by omega), hw7.out, if_pos (by omega), hg.out, hand.out, hu.out, hor.out, hmo.out, if_neg (by omega), e1.out, e2.out]
        clear hor hu hand hmo e1 e2 hg hw hw7 hwi
        by_cases hz : b = 0
        · rw [if_pos (by omega)]
          by_cases hi0 : 0 < i
          · rw [if_pos (by omega), if_pos (.inl ⟨hz, hi0⟩)]; rfl
          · rw [if_neg (by omega)]
            by_cases hv : most < v
            · rw [if_pos (by omega), if_pos (.inr hv)]; rfl
            · rw [if_neg (by omega), if_neg (by omega)]; rfl
        · rw [if_neg (by omega)]
          by_cases hv : most < v
          · rw [if_pos (by omega), if_pos (.inr hv)]; rfl
          · rw [if_neg (by omega), if_neg (by omega)]; rfl
      · rw [if_neg hc]
        refine Ev.step (f := fun k => pack_take.l0 k s (at_ : Int) (most : Int) ((acc + b % 128 * 128 ^ i : Nat) : Int) ((i + 1 : Nat) : Int)) (fun k => ?_) ?_
        · clear ih ha2 hvb
          simp only [pack_take.l0]
          rw [if_pos (by omega), hw.out, if_neg (by omega), if_pos (by omega), if_pos (by omega), hw7.out, if_pos (by omega), hg.out, hand.out, hu.out, hor.out, hwi.out, if_pos (by omega)]
        · have ih := ih.out
          rwa [← Nat.add_assoc] at ih
theorem take_ev (s : ByteArray) (hs : s.size ≤ 4611686018427387904) (at_ most : Nat) (hm : most < 9223372036854775808) (ha : at_ ≤ s.size) :
    Ev (fun k => pack_take.f k s (at_ : Int) (most : Int)) (tkR at_ (tk most (s.data.toList.drop at_) 0 0)) := by
  unfold pack_take.f
  refine Ev.neg (by omega) ?_
  rw [show (decide ((at_ : Int) > (s.size : Int))) = false from decide_eq_false (by omega)]
  refine Ev.step (f := fun k => pack_take.l0 k s (at_ : Int) (most : Int) 0 0) (fun k => ?_) ?_
  · simp only [pack_take.j0]; rw [if_neg (by decide)]
  · exact take_loop s hs at_ most hm 8 0 0 (by omega) (by decide) (by omega)
theorem take_out (s : ByteArray) (at_ : Int) (most : Int) (ha : at_ < 0 ∨ (s.size : Int) < at_) : Ev (fun k => pack_take.f k s at_ most) (0, 0, 1) := by
  unfold pack_take.f
  have h : ∀ b, b = true → Ev (fun k => pack_take.j0 k s at_ most b) (0, 0, 1) := by
    intro b hb
    refine Ev.step (f := fun _ => some (0, 0, 1)) (fun k => ?_) (Ev.now _)
    simp only [pack_take.j0]; rw [if_pos hb]
  by_cases h0 : at_ < 0
  · exact Ev.pos h0 (h true rfl)
  · exact Ev.neg h0 (h _ (decide_eq_true (by omega)))
theorem takeNum_ev (s : ByteArray) (hs : s.size ≤ 4611686018427387904) (at_ : Nat) (ha : at_ ≤ s.size) : Ev (fun k => pack_TakeNum.f k s (at_ : Int)) (tkR at_ (tk 1125899906842624 (s.data.toList.drop at_) 0 0)) :=
  Ev.bind (take_ev s hs at_ 1125899906842624 (by decide) ha) (Ev.now _)
theorem takeNum_out (s : ByteArray) (at_ : Int) (ha : at_ < 0 ∨ (s.size : Int) < at_) : Ev (fun k => pack_TakeNum.f k s at_) (0, 0, 1) := Ev.bind (take_out s at_ _ ha) (Ev.now _)

/-! ### texts read -/
def ttR (at_ : Nat) : Except Int (List UInt8 × Nat) → ByteArray × Int × Int
  | .error e => ((⟨#[]⟩ : ByteArray), 0, e)
  | .ok (t, j) => (⟨t.toArray⟩, ((at_ + j : Nat) : Int), 0)
theorem error_ne {most : Nat} : ∀ {l : List UInt8} {k acc : Nat} {e : Int}, tk most l k acc = .error e → e ≠ 0
  | [], k, acc, e, h => by simp only [tk] at h; split at h <;> (injection h with h; omega)
  | b :: l, k, acc, e, h => by
    simp only [tk] at h
    split at h
    · split at h
      · split at h
        · injection h with h; omega
        · cases h
      · exact error_ne h
    · injection h with h; omega
theorem takeText_ev (s : ByteArray) (hs : s.size ≤ 4611686018427387904) (at_ : Nat) (ha : at_ ≤ s.size) : Ev (fun k => pack_TakeText.f k s (at_ : Int)) (ttR at_ (tt (s.data.toList.drop at_))) := by
  unfold pack_TakeText.f tt
  have ht := take_ev s hs at_ 20000 (by decide) ha
  cases h : tk 20000 (s.data.toList.drop at_) 0 0 with
  | error e =>
    rw [h] at ht
    exact Ev.bind ht (Ev.neg (error_ne h) (Ev.now _))
  | ok x =>
    obtain ⟨n, j⟩ := x
    rw [h] at ht
    obtain ⟨h1, h2, h3, h4⟩ := tk_one _ _ _ _ h
    obtain ⟨h5, h6⟩ := tk_le _ _ _ _ h
    rw [List.length_drop, Ev.len_data] at h5
    have hw1 : wrap64 ((s.size : Int) - ((at_ + j : Nat) : Int)) = ((s.size - (at_ + j) : Nat) : Int) := by rw [Ev.wrap_id _ (by omega) (by omega)]; omega
    have hw2 : wrap64 (((at_ + j : Nat) : Int) + (n : Int)) = ((at_ + j + n : Nat) : Int) := Ev.wrap_id _ (by omega) (by omega)
    rw [List.length_drop, Ev.len_data]
    refine Ev.bind ht (Ev.pos rfl ?_)
    dsimp only [tkR]
    by_cases hc : s.size - at_ - j < n
    · rw [if_pos hc]
      exact Ev.pos (by rw [hw1]; omega) (Ev.now _)
    · rw [if_neg hc]
      refine Ev.neg (by rw [hw1]; omega) (Ev.pos (by omega) (Ev.pos (by rw [hw2]; omega) (Ev.pos (by rw [hw2]; omega) (Ev.const ?_))))
      rw [hw2]
      simp only [ttR, Int.toNat_natCast]
      congr 1
      refine Prod.ext (Ev.ext_data ?_) (Prod.ext (by simp only; omega) rfl)
      rw [Ev.extract_data, List.drop_drop, List.drop_take, show at_ + j + n - (at_ + j) = n from by omega]
theorem takeText_out (s : ByteArray) (at_ : Int) (ha : at_ < 0 ∨ (s.size : Int) < at_) : Ev (fun k => pack_TakeText.f k s at_) ((⟨#[]⟩ : ByteArray), 0, 1) := by
  unfold pack_TakeText.f
  exact Ev.bind (take_out s at_ _ ha) (Ev.neg (by decide) (Ev.now _))
end Go.Proofs.Ytdpbkomaiafemaa.Ddpk
