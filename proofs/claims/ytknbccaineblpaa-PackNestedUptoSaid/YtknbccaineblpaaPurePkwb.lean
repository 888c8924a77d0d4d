/- A word that is written is read again. -/
import Derived.Test.YtknbccaineblpaaPurePksm
namespace Go.Proofs.Ytknbccaineblpaa.Pkpk
open Go.RowKit Go.Proofs.Ytknbccaineblpaa.HPk Go.Proofs.Ytknbccaineblpaa.Pk Go.Proofs.YtknbccaineblpaaW.PrintWords Go.Proofs.YtknbccaineblpaaW.PrintLast
set_option linter.unusedSimpArgs false
set_option linter.unusedVariables false
theorem wd_value (w : Nat) : w / 16777216 * 16777216 + w / 65536 % 256 * 65536 + w / 256 % 256 * 256 + w % 256 = w := by omega
theorem wdB_size (w : Nat) : (wdB w).size = 4 := by rw [← Ev.len_data, wdB_data]; rfl
theorem byte_of (s : ByteArray) (i : Nat) (b : UInt8) (h : i < s.size) (l : List UInt8) (e : s.data.toList.drop i = b :: l) : s[i] = b := by
  rw [Ev.drop_at s i h] at e
  injection e
theorem word_back (w : Nat) (hw : w < 4294967296) (s : ByteArray) (hs : s.size ≤ 4611686018427387904) (at_ : Nat) (rest : List UInt8) (ha : at_ ≤ s.size) (e : s.data.toList.drop at_ = wd w ++ rest) :
    Ev (fun k => pack_TakeWord.f k s (at_ : Int)) ((w : Int), ((at_ + 4 : Nat) : Int), 0) := by
  have hlen := congrArg List.length e
  rw [List.length_drop, Ev.len_data, List.length_append] at hlen
  have h4 : (wd w).length = 4 := rfl
  have h := takeWord_in s hs at_ ha
  rw [dif_pos (by omega)] at h
  have tl : ∀ (i : Nat) (x : UInt8) (l : List UInt8), s.data.toList.drop i = x :: l → s.data.toList.drop (i + 1) = l := fun i x l hh => by
    have := congrArg List.tail hh
    rwa [List.tail_drop] at this
  have e0 := e
  simp only [wd, List.cons_append, List.nil_append] at e0
  have b0 := byte_of s at_ _ (by omega) _ e0
  have e1 := tl _ _ _ e0
  have b1 := byte_of s (at_ + 1) _ (by omega) _ e1
  have e2 := tl _ _ _ e1
  have b2 := byte_of s (at_ + 2) _ (by omega) _ e2
  have e3 := tl _ _ _ e2
  have b3 := byte_of s (at_ + 3) _ (by omega) _ e3
  refine Ev.val h ?_
  have v0 := toNat_ofNat (w / 16777216) (by clear b0 b1 b2 b3 e0 e1 e2 e3 h e; omega)
  have v1 := toNat_ofNat (w / 65536 % 256) (Nat.mod_lt _ (by decide))
  have v2 := toNat_ofNat (w / 256 % 256) (Nat.mod_lt _ (by decide))
  have v3 := toNat_ofNat (w % 256) (Nat.mod_lt _ (by decide))
  rw [b0, b1, b2, b3, v0, v1, v2, v3, wd_value w]

end Go.Proofs.Ytknbccaineblpaa.Pkpk
