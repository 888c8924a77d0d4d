/- What the document's writing of numbers and texts comes to, in plain words. -/
import Derived.Test.YtdpbkomaiafemaaHDdx8
import Derived.Test.YtdpbkomaiafemaaHDdx9
import Derived.Test.YtdpbkomaiafemaaPureDdpn
namespace Go.Proofs.Ytdpbkomaiafemaa.Ddpk
open Go.RowKit Go.Proofs.Ytdpbkomaiafemaa.HDd Go.Proofs.Ytdpbkomaiafemaa.Pk Go.Proofs.YtdpbkomaiafemaaW.PrintWords Go.Proofs.YtdpbkomaiafemaaW.PrintLast Go.Proofs.YtdpbkomaiafemaaW.PrintMore
set_option linter.unusedSimpArgs false
set_option linter.unusedVariables false
theorem tdiv_nat (a b : Nat) : Int.tdiv (a : Int) (b : Int) = ((a / b : Nat) : Int) := rfl
theorem tmod_nat (a b : Nat) : Int.tmod (a : Int) (b : Int) = ((a % b : Nat) : Int) := rfl
theorem strOf_append (a b : List Int) : strOfNums (a ++ b) = strOfNums a ++ strOfNums b := Ev.ext_data (by rw [strOfNums_data, Ev.data_append, strOfNums_data, strOfNums_data, List.map_append])
theorem refNum_loop : ∀ (d n : Nat) (x : ByteArray), n < 128 ^ (d + 1) → n < 9223372036854775808 → x.size + (d + 1) < 9223372036854775808 → Ev (fun k => oxbowref02_Num.l0 k (n : Int) x) (x ++ strOfNums (Ev.ints (vb n)), 0)
  | d, n, x, hd, hn, hx => by
    have w1 := Aside0.mk (Ev.wrap_nat (128 + n % 128) (by omega))
    have w2 := Aside0.mk (Ev.wrap_nat (n / 128) (by omega))
    refine Ev.step (fun k => by simp only [oxbowref02_Num.l0]; rfl) ?_
    by_cases h : n < 128
    · rw [vb_small h]
      have e : Ev.ints [UInt8.ofNat n] = [(n : Int) % 256] := by
        simp only [Ev.ints, List.map_cons, List.map_nil, toNat_ofNat n (by omega)]
        congr 1; omega
      rw [e]
      refine Ev.neg (by omega) (Ev.bind (Ev.const rfl) (Ev.pos ?_ (Ev.now _)))
      rw [strOfNums_size]
      simp only [List.length_cons, List.length_nil]
      omega
    · cases d with
      | zero => exact absurd (by simpa using hd) h
      | succ d =>
        have hq : n / 128 < 128 ^ (d + 1) := by rw [Nat.div_lt_iff_lt_mul (by decide)]; rwa [Nat.pow_succ] at hd
        have hs : (strOfNums [((128 + n % 128 : Nat) : Int) % 256]).size = 1 := by rw [strOfNums_size]; rfl
        have ih := refNum_loop d (n / 128) (x ++ strOfNums [((128 + n % 128 : Nat) : Int) % 256]) hq (by omega) (by rw [ByteArray.size_append, hs]; omega)
        have e : Ev.ints (vb n) = [((128 + n % 128 : Nat) : Int) % 256] ++ Ev.ints (vb (n / 128)) := by
          rw [vb_big h]
          simp only [Ev.ints, List.map_cons, List.cons_append, List.nil_append, toNat_ofNat (n % 128 + 128) (by omega)]
          congr 1; omega
        refine Ev.pos (by omega) ?_
        have t1 : (wrap64 (128 + (Int.tmod (n : Int) 128))) = ((128 + n % 128 : Nat) : Int) := w1.out
        have t2 : (wrap64 (Int.tdiv (n : Int) 128)) = ((n / 128 : Nat) : Int) := w2.out
        simp only [t1, t2]
        refine Ev.bind (Ev.const rfl) (Ev.pos (by rw [hs]; omega) (Ev.val ih ?_))
        rw [e, strOf_append, ByteArray.append_assoc]
theorem refNum_ev (n : Nat) (h : n ≤ 1125899906842624) : Ev (fun k => oxbowref02_Num.f k (n : Int)) (strOfNums (Ev.ints (vb n)), 0) := by
  unfold oxbowref02_Num.f
  refine Ev.neg (by omega) ?_
  rw [show decide ((n : Int) > 1125899906842624) = false from decide_eq_false (by omega)]
  refine Ev.step (fun k => by simp only [oxbowref02_Num.j0]; rfl) ?_
  refine Ev.neg (by decide) (Ev.val (refNum_loop 8 n _ (by have : (128 : Nat) ^ (8 + 1) = 9223372036854775808 := by decide
                                                           omega) (by omega) (by decide)) ?_)
  refine Prod.ext (Ev.ext_data ?_) rfl
  rw [Ev.data_append]; rfl
theorem refNum_no (n : Int) (h : n < 0 ∨ 1125899906842624 < n) : Ev (fun k => oxbowref02_Num.f k n) ((⟨#[]⟩ : ByteArray), 20) := by
  have h1 : ∀ b, b = true → Ev (fun k => oxbowref02_Num.j0 k n b) ((⟨#[]⟩ : ByteArray), 20) := by
    intro b hb
    refine Ev.step (fun k => by simp only [oxbowref02_Num.j0]; rfl) ?_
    exact Ev.pos hb (Ev.now _)
  unfold oxbowref02_Num.f
  by_cases h0 : n < 0
  · exact Ev.pos h0 (h1 true rfl)
  · exact Ev.neg h0 (h1 _ (decide_eq_true (by omega)))

theorem refText_ev (s : ByteArray) : Ev (fun k => oxbowref02_Text.f k s) (textR s) := by
  unfold oxbowref02_Text.f textR
  by_cases h : s.size ≤ 20000
  · rw [if_pos h]
    have hv := vb_le s.size (by omega)
    have hs := vbS_size s.size
    exact Ev.neg (by omega) (Ev.bind (refNum_ev s.size (by omega)) (Ev.pos (by dsimp only; omega) (Ev.now _)))
  · rw [if_neg h]
    exact Ev.pos (by omega) (Ev.now _)

end Go.Proofs.Ytdpbkomaiafemaa.Ddpk
