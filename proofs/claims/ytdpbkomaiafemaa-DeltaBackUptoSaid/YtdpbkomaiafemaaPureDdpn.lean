/- What the program's own writing of numbers and texts comes to, in plain words. -/
import Derived.Test.YtdpbkomaiafemaaHDdx3
import Derived.Test.YtdpbkomaiafemaaEv
import Derived.Test.YtdpbkomaiafemaaPk
namespace Go.Proofs.Ytdpbkomaiafemaa.Ddpk
open Go.RowKit Go.Proofs.Ytdpbkomaiafemaa.HDd Go.Proofs.Ytdpbkomaiafemaa.Pk Go.Proofs.YtdpbkomaiafemaaW.PrintWords Go.Proofs.YtdpbkomaiafemaaW.PrintLast Go.Proofs.YtdpbkomaiafemaaW.PrintMore
set_option linter.unusedSimpArgs false
set_option linter.unusedVariables false
/-! ### numbers written -/
theorem or128 (n : Nat) (h : n < 256) (h2 : 128 ≤ n) : Go.bits .or .u8 (n : Int) 128 = ((n % 128 + 128 : Nat) : Int) := by
  have h1 := (bits_nat .u8 8 (by decide) wraps_u8 n 128 h (by decide)).2
  have h3 : n ||| 128 = n % 128 + 128 := by
    have : ∀ m : Fin 256, 128 ≤ m.val → m.val ||| 128 = m.val % 128 + 128 := by decide +kernel
    exact this ⟨n, h⟩ h2
  rw [← h3]
  exact h1
theorem put_ev : ∀ (d n : Nat) (b : List Int), n < 128 ^ (d + 1) → b.length + (d + 1) < 140737488355328 → n < 9223372036854775808 → Ev (fun k => pack_put.f k b (n : Int)) (b ++ Ev.ints (vb n))
  | d, n, b, hd, hb, hn => by
    by_cases h : n < 128
    · refine Ev.step (f := fun _ => some (b ++ Ev.ints (vb n))) (fun k => ?_) (Ev.now _)
      simp only [pack_put.f, pack_put.l0]
      rw [if_neg (by omega), if_pos (by omega), vb_small h]
      have : ((UInt8.ofNat n).toNat : Int) = (n : Int) % 256 := by rw [toNat_ofNat n (by omega)]; omega
      simp only [Ev.ints, List.map_cons, List.map_nil, this]
    · cases d with
      | zero => exact absurd (by simpa using hd) h
      | succ d =>
        have hq : n / 128 < 128 ^ (d + 1) := by rw [Nat.div_lt_iff_lt_mul (by decide)]; rwa [Nat.pow_succ] at hd
        refine Ev.step (f := fun k => pack_put.f k (b ++ [((n % 128 + 128 : Nat) : Int)]) ((n / 128 : Nat) : Int)) (fun k => ?_) ?_
        · simp only [pack_put.f, pack_put.l0]
          rw [if_pos (by omega), if_pos (by omega), show ((n : Int) % 256) = ((n % 256 : Nat) : Int) from rfl, or128' n h]
          rfl
        · have := put_ev d (n / 128) (b ++ [((n % 128 + 128 : Nat) : Int)]) hq (by simp; omega) (by omega)
          rw [vb_big h]
          have ht : ((UInt8.ofNat (n % 128 + 128)).toNat : Int) = ((n % 128 + 128 : Nat) : Int) := by rw [toNat_ofNat _ (by omega)]
          simp only [Ev.ints, List.map_cons, ht] at this ⊢
          rwa [List.append_assoc] at this
where or128' (n : Nat) (h : ¬ n < 128) : Go.bits .or .u8 ((n % 256 : Nat) : Int) 128 = ((n % 128 + 128 : Nat) : Int) := by
        have h1 := (bits_nat .u8 8 (by decide) wraps_u8 (n % 256) 128 (Nat.mod_lt _ (by decide)) (by decide)).2
        have h3 : n % 256 ||| 128 = n % 128 + 128 := by
          have : ∀ m : Fin 256, m.val ||| 128 = m.val % 128 + 128 := by decide +kernel
          have h4 := this ⟨n % 256, Nat.mod_lt _ (by decide)⟩
          simp only at h4
          omega
        rw [← h3]
        exact h1
theorem num_ev (n : Nat) (h : n ≤ 1125899906842624) : Ev (fun k => pack_Num.f k (n : Int)) (strOfNums (Ev.ints (vb n)), 0) := by
  unfold pack_Num.f
  refine Ev.neg (by omega) (Ev.neg (by omega) (Ev.bind (a := Ev.ints (vb n)) ?_ (Ev.now _)))
  rw [Ev.u64_id _ (by omega) (by omega)]
  exact put_ev 8 n [] (by have : (128 : Nat) ^ (8 + 1) = 9223372036854775808 := by decide
                          omega) (by simp) (by omega)
theorem num_no (n : Int) (h : n < 0 ∨ 1125899906842624 < n) : Ev (fun k => pack_Num.f k n) ((⟨#[]⟩ : ByteArray), 20) := by
  unfold pack_Num.f
  by_cases h0 : n < 0
  · exact Ev.pos h0 (Ev.now _)
  · exact Ev.neg h0 (Ev.pos (by omega) (Ev.now _))

theorem vbS_size (n : Nat) : (strOfNums (Ev.ints (vb n))).size = (vb n).length := by rw [strOfNums_size, Ev.ints_length]
theorem vb_le (n : Nat) (h : n < 9223372036854775808) : (vb n).length ≤ 9 := vb_length 8 n (Nat.lt_of_lt_of_eq h (by decide))
def textR (s : ByteArray) : ByteArray × Int := if s.size ≤ 20000 then (strOfNums (Ev.ints (vb s.size)) ++ s, 0) else ((⟨#[]⟩ : ByteArray), 2)
theorem packText_ev (s : ByteArray) : Ev (fun k => pack_Text.f k s) (textR s) := by
  unfold pack_Text.f textR
  by_cases h : s.size ≤ 20000
  · rw [if_pos h]
    have hv := vb_le s.size (by omega)
    have hs := vbS_size s.size
    have hp := put_ev 8 s.size [] (by have : (128 : Nat) ^ (8 + 1) = 9223372036854775808 := by decide
                                      omega) (by simp) (by omega)
    refine Ev.neg (by omega) (Ev.bind hp (Ev.pos ?_ (Ev.now _)))
    simp only [List.nil_append]
    omega
  · rw [if_neg h]
    exact Ev.pos (by omega) (Ev.now _)
end Go.Proofs.Ytdpbkomaiafemaa.Ddpk
