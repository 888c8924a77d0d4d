/- What the document's reading of numbers and texts comes to, in plain words. -/
import Derived.Test.YtdpbkomaiafemaaHDdx9
import Derived.Test.YtdpbkomaiafemaaPureDdpt
namespace Go.Proofs.Ytdpbkomaiafemaa.Ddpk
open Go.RowKit Go.Proofs.Ytdpbkomaiafemaa.HDd Go.Proofs.Ytdpbkomaiafemaa.Pk Go.Proofs.YtdpbkomaiafemaaW.PrintWords Go.Proofs.YtdpbkomaiafemaaW.PrintLast Go.Proofs.YtdpbkomaiafemaaW.PrintMore
set_option linter.unusedSimpArgs false
set_option linter.unusedVariables false

theorem wrapsi64 (n : Int) (h0 : 0 ≤ n) (h1 : n < 9223372036854775808) : IntKind.i64.wrap n = n := by
  rw [IntKind.wrap_i64]
  omega
theorem shl_i64 (x i : Nat) (hi : i ≤ 7) (hx : x < 128) : shl .i64 (x : Int) ((7 * i : Nat) : Int) = ((x * 128 ^ i : Nat) : Int) := by
  have hp : (128 : Nat) ^ i = 2 ^ (7 * i) := by rw [Nat.pow_mul]
  have hpl : 2 ^ (7 * i) ≤ 2 ^ 49 := Nat.pow_le_pow_right (by decide) (by omega)
  have h49 : (2 : Nat) ^ 49 = 562949953421312 := by decide
  have hxm : x * 2 ^ (7 * i) ≤ 127 * 2 ^ (7 * i) := Nat.mul_le_mul_right _ (by omega)
  unfold shl
  rw [Int.toNat_natCast, Nat.min_eq_left (show 7 * i ≤ IntKind.i64.bits by simp only [IntKind.bits]; omega)]
  have : (x : Int) * 2 ^ (7 * i) = ((x * 2 ^ (7 * i) : Nat) : Int) := by simp
  rw [this, hp]
  exact wrapsi64 _ (by omega) (by omega)
theorem refTake_loop (s : ByteArray) (hs : s.size ≤ 4611686018427387904) (at_ : Nat) : ∀ (d i acc : Nat), i + d = 8 → acc < 128 ^ i → at_ + i ≤ s.size →
    Ev (fun k => oxbowref02_TakeNum.l0 k s (at_ : Int) (acc : Int) (i : Int)) (tkR at_ (tk 1125899906842624 (s.data.toList.drop (at_ + i)) i acc))
  | 0, i, acc, hd, ha, hle => by
    have hi : i = 8 := by omega
    subst hi
    refine Ev.step (f := fun _ => some (tkR at_ (tk 1125899906842624 (s.data.toList.drop (at_ + 8)) 8 acc))) (fun k => ?_) (Ev.now _)
    simp only [oxbowref02_TakeNum.l0]
    rw [if_neg (by omega)]
    cases s.data.toList.drop (at_ + 8) with
    | nil => rfl
    | cons b l => rfl
  | d + 1, i, acc, hd, ha, hle => by
    have hw := Aside0.mk (Ev.wrap_add at_ i (by omega))
    have hw7 : Aside0 (wrap64 (7 * (i : Int)) = ((7 * i : Nat) : Int)) := ⟨Ev.wrap_id _ (by omega) (by omega)⟩
    have hwi := Aside0.mk (Ev.wrap_succ i (by omega))
    by_cases he : at_ + i = s.size
    · refine Ev.step (f := fun _ => some (tkR at_ (tk 1125899906842624 (s.data.toList.drop (at_ + i)) i acc))) (fun k => ?_) (Ev.now _)
      simp only [oxbowref02_TakeNum.l0]
      rw [if_pos (by omega), hw.out, if_pos (by omega), Ev.drop_end s _ (by omega)]
      simp only [tk]
      rw [if_pos (by omega)]
      rfl
    · have hlt : at_ + i < s.size := by omega
      have hb := (s[at_ + i]).toNat_lt
      have e2 := Aside0.mk (Ev.wrap_succ (at_ + i) (by omega))
      rw [Ev.drop_at s _ hlt]
      have hg := Ev.bt_get s _ hlt
      have ih0 := refTake_loop s hs at_ d (i + 1)
      simp only [tk]
      generalize (s[at_ + i]).toNat = b at hb hg ⊢
      have hx : b % 128 < 128 := Nat.mod_lt _ (by decide)
      have hg := Aside0.mk hg
      have h77 : i ≤ 7 := by omega
      have hsh := Aside0.mk (shl_i64 (b % 128) i h77 hx)
      have hvb0 := val_lt acc (b % 128) i h77 ha hx
      have hvb := Aside0.mk hvb0
      have ha2 := Aside0.mk (next_lt acc (b % 128) i ha hx)
      have hwb := Aside0.mk (Ev.wrap_nat b (by omega))
      have hws := Aside0.mk (Ev.wrap_add acc (b % 128 * 128 ^ i) (by omega))
      have hmd : Aside0 (Int.tmod (b : Int) 128 = ((b % 128 : Nat) : Int)) := ⟨rfl⟩
      clear ha hvb0
      rw [if_pos (show i < 8 by omega)]
      have ih := Aside0.mk (ih0 (acc + b % 128 * 128 ^ i) (by omega) ha2.out (by omega))
      clear ih0
      by_cases hc : b < 128
      · rw [if_pos hc]
        have hmod : b % 128 = b := Nat.mod_eq_of_lt hc
        have hsh := hsh.out
        have hws := hws.out
        have hmd := hmd.out
        rw [hmod] at hsh hws hmd
        generalize hv : acc + b * 128 ^ i = v at hws ⊢
        replace hsh := Aside0.mk hsh
        replace hws := Aside0.mk hws
        replace hmd := Aside0.mk hmd
        clear ih ha2 hx hv hvb
        refine Ev.step (f := fun _ => some (tkR at_ (if (b = 0 ∧ 0 < i) ∨ 1125899906842624 < v then .error 22 else .ok (v, i + 1)))) (fun k => ?_) (Ev.now _)
        simp only [oxbowref02_TakeNum.l0]
        rw [if_pos (by omega), hw.out, if_neg (by omega), if_pos (by omega), if_pos (by omega), hw7.out, if_pos (by omega), hg.out, hwb.out, if_pos (by omega), hmd.out, hsh.out, hws.out, e2.out]
        clear hsh hws hmd e2 hg hw hw7 hwi hwb
        by_cases hz : b = 0
        · rw [if_pos (by omega)]
          by_cases hi0 : 0 < i
          · rw [if_pos (by omega), if_pos (.inl ⟨hz, hi0⟩)]; rfl
          · rw [if_neg (by omega)]
            by_cases hv : 1125899906842624 < v
            · rw [if_pos (by omega), if_pos (.inr hv)]; rfl
            · rw [if_neg (by omega), if_neg (by omega)]; rfl
        · rw [if_neg (by omega)]
          by_cases hv : 1125899906842624 < v
          · rw [if_pos (by omega), if_pos (.inr hv)]; rfl
          · rw [if_neg (by omega), if_neg (by omega)]; rfl
      · rw [if_neg hc]
        refine Ev.step (f := fun k => oxbowref02_TakeNum.l0 k s (at_ : Int) ((acc + b % 128 * 128 ^ i : Nat) : Int) ((i + 1 : Nat) : Int)) (fun k => ?_) ?_
        · clear ih ha2 hvb
          simp only [oxbowref02_TakeNum.l0]
          rw [if_pos (by omega), hw.out, if_neg (by omega), if_pos (by omega), if_pos (by omega), hw7.out, if_pos (by omega), hg.out, hwb.out, if_neg (by omega), hmd.out, hsh.out, hws.out, hwi.out]
        · have ih := ih.out
          rwa [← Nat.add_assoc] at ih
theorem refTakeNum_ev (s : ByteArray) (hs : s.size ≤ 4611686018427387904) (at_ : Nat) (ha : at_ ≤ s.size) : Ev (fun k => oxbowref02_TakeNum.f k s (at_ : Int)) (tkR at_ (tk 1125899906842624 (s.data.toList.drop at_) 0 0)) := by
  unfold oxbowref02_TakeNum.f
  refine Ev.neg (by omega) ?_
  rw [show (decide ((at_ : Int) > (s.size : Int))) = false from decide_eq_false (by omega)]
  refine Ev.step (f := fun k => oxbowref02_TakeNum.l0 k s (at_ : Int) 0 0) (fun k => ?_) ?_
  · simp only [oxbowref02_TakeNum.j0]; rw [if_neg (by decide)]
  · exact refTake_loop s hs at_ 8 0 0 (by omega) (by decide) (by omega)
/-- A number up to a lesser bound: read up to the greater one, then held against the lesser. -/
theorem tk_less (m1 m2 : Nat) (h : m1 ≤ m2) : ∀ (l : List UInt8) (k acc : Nat), tk m1 l k acc = match tk m2 l k acc with
    | .error e => .error e
    | .ok (n, j) => if m1 < n then .error 22 else .ok (n, j)
  | [], k, acc => by simp only [tk]; split <;> rfl
  | b :: l, k, acc => by
    simp only [tk]
    by_cases hk : k < 8
    · rw [if_pos hk, if_pos hk]
      by_cases hb : b.toNat < 128
      · rw [if_pos hb, if_pos hb]
        by_cases hz : b.toNat = 0 ∧ 0 < k
        · rw [if_pos (.inl hz), if_pos (.inl hz)]
        · by_cases h2 : m2 < acc + b.toNat * 128 ^ k
          · rw [if_pos (.inr (show m1 < _ by omega)), if_pos (.inr h2)]
          · have e2 : ¬ ((b.toNat = 0 ∧ 0 < k) ∨ m2 < acc + b.toNat * 128 ^ k) := fun hh => hh.elim hz h2
            rw [if_neg e2]
            simp only
            by_cases h1 : m1 < acc + b.toNat * 128 ^ k
            · rw [if_pos (.inr h1), if_pos h1]
            · have e1 : ¬ ((b.toNat = 0 ∧ 0 < k) ∨ m1 < acc + b.toNat * 128 ^ k) := fun hh => hh.elim hz h1
              rw [if_neg e1, if_neg h1]
      · rw [if_neg hb, if_neg hb]
        exact tk_less m1 m2 h l (k + 1) _
    · rw [if_neg hk, if_neg hk]
theorem refTakeText_ev (s : ByteArray) (hs : s.size ≤ 4611686018427387904) (at_ : Nat) (ha : at_ ≤ s.size) : Ev (fun k => oxbowref02_TakeText.f k s (at_ : Int)) (ttR at_ (tt (s.data.toList.drop at_))) := by
  unfold oxbowref02_TakeText.f tt
  have hE := refTakeNum_ev s hs at_ ha
  rw [tk_less 20000 1125899906842624 (by decide)]
  cases hk : tk 1125899906842624 (s.data.toList.drop at_) 0 0 with
  | error e =>
    rw [hk] at hE
    exact Ev.bind hE (Ev.neg (fun h => error_ne hk h) (Ev.now _))
  | ok nj =>
    obtain ⟨n, j⟩ := nj
    rw [hk] at hE
    obtain ⟨hj, hj0⟩ := tk_le _ _ _ _ hk
    rw [List.length_drop, Ev.len_data] at hj
    refine Ev.bind hE (Ev.pos rfl ?_)
    dsimp only [tkR]
    have w1 : wrap64 ((s.size : Int) - ((at_ + j : Nat) : Int)) = ((s.size - (at_ + j) : Nat) : Int) := by rw [Ev.wrap_id _ (by omega) (by omega)]; omega
    have w2 : ∀ (h : n ≤ 20000), wrap64 (((at_ + j : Nat) : Int) + (n : Int)) = ((at_ + j + n : Nat) : Int) := fun h => Ev.wrap_id _ (by omega) (by omega)
    by_cases hn : 20000 < n
    · rw [if_pos hn]
      exact Ev.pos (by omega) (Ev.now _)
    · rw [if_neg hn]
      have w2 := w2 (by omega)
      refine Ev.neg (by omega) ?_
      simp only [List.length_drop, Ev.len_data]
      by_cases hl : s.size - at_ - j < n
      · rw [if_pos hl]
        exact Ev.pos (by rw [w1]; omega) (Ev.now _)
      · rw [if_neg hl]
        refine Ev.neg (by rw [w1]; omega) (Ev.pos (by omega) (Ev.pos (by rw [w2]; omega) (Ev.pos (by rw [w2]; omega) (Ev.const ?_))))
        rw [w2]
        simp only [ttR, Int.toNat_natCast]
        congr 1
        refine Prod.ext (Ev.ext_data ?_) (Prod.ext (by simp only; omega) rfl)
        rw [Ev.extract_data, List.drop_drop, List.drop_take, show at_ + j + n - (at_ + j) = n from by omega]
end Go.Proofs.Ytdpbkomaiafemaa.Ddpk
