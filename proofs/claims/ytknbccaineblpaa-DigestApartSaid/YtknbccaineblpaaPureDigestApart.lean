/- Unlike numbers stay unlike behind the same bytes, and one byte turned turns the digest: for all numbers, texts, places and bytes. -/
import Derived.Test.YtknbccaineblpaaHDapx1
import Derived.Test.YtknbccaineblpaaPureDga
namespace Go.Proofs.Ytknbccaineblpaa.Pure
open Go.RowKit Go.Proofs.Ytknbccaineblpaa.HDap Go.Proofs.Ytknbccaineblpaa.Dga Go.Proofs.YtknbccaineblpaaW.PrintWords Go.Proofs.YtknbccaineblpaaW.PrintLast
set_option linter.unusedSimpArgs false
set_option linter.unusedVariables false

theorem ix_nat (s : ByteArray) (a : Int) (h0 : -9223372036854775808 ≤ a) (h1 : a ≤ 9223372036854775807) (hs : 0 < s.size) : ∃ i : Nat, oxbowlaw07_DigestApart.ix s a = (i : Int) ∧ i < s.size := by
  have key : ∃ m : Nat, (if a < 0 then wrap64 (-(wrap64 (a + 1))) else a) = (m : Int) := by
    by_cases h : a < 0
    · rw [if_pos h, wrap_id (a + 1) (by omega) (by omega), wrap_id _ (by omega) (by omega)]
      exact ⟨(-(a + 1)).toNat, by omega⟩
    · rw [if_neg h]
      exact ⟨a.toNat, by omega⟩
  obtain ⟨m, hm⟩ := key
  refine ⟨m % s.size, ?_, Nat.mod_lt _ hs⟩
  unfold oxbowlaw07_DigestApart.ix
  rw [hm]
  rfl

theorem DigestApart : oxbowlaw07_DigestApart.Pure := by
  intro a b s at_ by_ ha hb hs hat hby
  have h1 := Ev.wf_u32 ha
  have h2 := Ev.wf_u32 hb
  have h3 := Ev.wf_i64 hat
  have h4 : 0 ≤ by_ ∧ by_ < 256 := by
    simp only [Lit.wf, IntKind.min, IntKind.max, IntKind.signed, IntKind.bits, Bool.and_eq_true, decide_eq_true_eq] at hby
    simp at hby
    omega
  obtain ⟨a, rfl⟩ : ∃ x : Nat, a = (x : Int) := ⟨a.toNat, by omega⟩
  obtain ⟨b, rfl⟩ : ∃ x : Nat, b = (x : Int) := ⟨b.toNat, by omega⟩
  obtain ⟨v, rfl⟩ : ∃ x : UInt8, by_ = (x.toNat : Int) := ⟨UInt8.ofNat by_.toNat, by rw [UInt8.toNat_ofNat', Nat.mod_eq_of_lt (by omega)]; omega⟩
  refine Ev.rounds ?_
  unfold oxbowlaw07_DigestApart.f
  refine Ev.bind (own_ext s (by omega) a (by omega)) (Ev.bind (own_ext s (by omega) b (by omega)) (ev_neg ?_ ?_))
  · by_cases h : a = b
    · subst h; simp
    · have : ¬ ext a s.data.toList = ext b s.data.toList := fun e => h (ext_inj _ a b (by omega) (by omega) e)
      have e1 : (((ext a s.data.toList : Nat) : Int) == ((ext b s.data.toList : Nat) : Int)) = false := beq_eq_false_iff_ne.mpr (by omega)
      have e2 : ((a : Int) == (b : Int)) = false := beq_eq_false_iff_ne.mpr (by omega)
      rw [e1, e2]
      decide
  · by_cases c : s.size = 0
    · exact ev_pos c live_ev
    · refine ev_neg c ?_
      by_cases c2 : v.toNat = 0
      · exact ev_pos (by omega) live_ev
      · refine ev_neg (by omega) ?_
        obtain ⟨i, hi, hlt⟩ := ix_nat s at_ h3.1 h3.2 (by omega)
        rw [hi]
        unfold oxbowlaw07_DigestApart.tail
        have hb8 := (s[i]).toNat_lt
        have hx8 : (s[i]).toNat ^^^ v.toNat < 256 := Nat.xor_lt_two_pow (n := 8) hb8 v.toNat_lt
        rw [bt_get s i hlt, xor8 _ v hb8]
        have hml : maxLen = 9223372036854775807 ∨ 140737488351232 ≤ maxLen := by right; decide
        refine ev_pos ⟨by omega, by omega, by omega, by omega, by omega⟩ (Ev.bind live_ev (ev_pos rfl (Ev.bind (own_sum _ (by show (s.data.setIfInBounds _ _).size ≤ _; rw [Array.size_setIfInBounds]; show s.size ≤ _; omega)) (Ev.bind (own_sum s (by omega)) ?_))))
        refine Ev.congr (fun _ => ?_) (Ev.now true)
        congr 1
        rw [bne_iff_ne]
        intro he
        have he : ext 2166136261 (s.data.setIfInBounds ((i : Int)).toNat (UInt8.ofNat (((s[i]).toNat ^^^ v.toNat : Nat) : Int).toNat)).toList = ext 2166136261 s.data.toList := by exact_mod_cast he
        rw [Array.toList_setIfInBounds, Int.toNat_natCast, Int.toNat_natCast] at he
        have hl : i < s.data.toList.length := by rw [Array.length_toList]; exact hlt
        have hset := ext_set s.data.toList i _ hl 2166136261 (by decide) he
        have hg : s.data.toList[i] = s[i] := rfl
        rw [hg] at hset
        have ht := congrArg UInt8.toNat hset
        rw [UInt8.toNat_ofNat', Nat.mod_eq_of_lt hx8] at ht
        have h5 := congrArg ((s[i]).toNat ^^^ ·) ht
        simp only [← Nat.xor_assoc, Nat.xor_self, Nat.zero_xor] at h5
        exact c2 h5.symm

end Go.Proofs.Ytknbccaineblpaa.Pure
