/- The program's forms are those of the plain restatement: for every number, text, list of texts and word. -/
import Derived.Test.YtknbccaineblpaaHPkx2
import Derived.Test.YtknbccaineblpaaPurePksm
namespace Go.Proofs.Ytknbccaineblpaa.Pure
open Go.RowKit Go.Proofs.Ytknbccaineblpaa.HPk Go.Proofs.Ytknbccaineblpaa.Pkpk Go.Proofs.Ytknbccaineblpaa.Pk Go.Proofs.YtknbccaineblpaaW.PrintWords Go.Proofs.YtknbccaineblpaaW.PrintLast
set_option linter.unusedSimpArgs false
set_option linter.unusedVariables false

theorem tdiv_nat (a b : Nat) : Int.tdiv (a : Int) (b : Int) = ((a / b : Nat) : Int) := rfl
theorem tmod_nat (a b : Nat) : Int.tmod (a : Int) (b : Int) = ((a % b : Nat) : Int) := rfl
theorem strOf_append (a b : List Int) : strOfNums (a ++ b) = strOfNums a ++ strOfNums b := Ev.ext_data (by rw [strOfNums_data, Ev.data_append, strOfNums_data, strOfNums_data, List.map_append])
theorem refNum_loop : ∀ (d n : Nat) (x : ByteArray), n < 128 ^ (d + 1) → n < 9223372036854775808 → x.size + (d + 1) < 9223372036854775808 → Ev (fun k => oxbowref02_Num.l0 k (n : Int) x) (x ++ strOfNums (Ev.ints (vb n)), 0)
  | d, n, x, hd, hn, hx => by
    have w1 := Aside0.mk (Ev.wrap_nat (128 + n % 128) (by omega))
    have w2 := Aside0.mk (Ev.wrap_nat (n / 128) (by omega))
    refine Ev.step (fun k => by simp only [oxbowref02_Num.l0]; rfl) ?_
    by_cases h : n < 128
    · rw [vb_small h]
      have e : Ev.ints [UInt8.ofNat n] = [(n : Int) % 256] := by
        simp only [Ev.ints, List.map_cons, List.map_nil, toNat_ofNat n (by omega)]
        congr 1; omega
      rw [e]
      refine Ev.neg (by omega) (Ev.bind (Ev.const rfl) (Ev.pos ?_ (Ev.now _)))
      rw [strOfNums_size]
      simp only [List.length_cons, List.length_nil]
      omega
    · cases d with
      | zero => exact absurd (by simpa using hd) h
      | succ d =>
        have hq : n / 128 < 128 ^ (d + 1) := by rw [Nat.div_lt_iff_lt_mul (by decide)]; rwa [Nat.pow_succ] at hd
        have hs : (strOfNums [((128 + n % 128 : Nat) : Int) % 256]).size = 1 := by rw [strOfNums_size]; rfl
        have ih := refNum_loop d (n / 128) (x ++ strOfNums [((128 + n % 128 : Nat) : Int) % 256]) hq (by omega) (by rw [ByteArray.size_append, hs]; omega)
        have e : Ev.ints (vb n) = [((128 + n % 128 : Nat) : Int) % 256] ++ Ev.ints (vb (n / 128)) := by
          rw [vb_big h]
          simp only [Ev.ints, List.map_cons, List.cons_append, List.nil_append, toNat_ofNat (n % 128 + 128) (by omega)]
          congr 1; omega
        refine Ev.pos (by omega) ?_
        have t1 : (wrap64 (128 + (Int.tmod (n : Int) 128))) = ((128 + n % 128 : Nat) : Int) := w1.out
        have t2 : (wrap64 (Int.tdiv (n : Int) 128)) = ((n / 128 : Nat) : Int) := w2.out
        simp only [t1, t2]
        refine Ev.bind (Ev.const rfl) (Ev.pos (by rw [hs]; omega) (Ev.val ih ?_))
        rw [e, strOf_append, ByteArray.append_assoc]
theorem refNum_ev (n : Nat) (h : n ≤ 1125899906842624) : Ev (fun k => oxbowref02_Num.f k (n : Int)) (strOfNums (Ev.ints (vb n)), 0) := by
  unfold oxbowref02_Num.f
  refine Ev.neg (by omega) ?_
  rw [show decide ((n : Int) > 1125899906842624) = false from decide_eq_false (by omega)]
  refine Ev.step (fun k => by simp only [oxbowref02_Num.j0]; rfl) ?_
  refine Ev.neg (by decide) (Ev.val (refNum_loop 8 n _ (by have : (128 : Nat) ^ (8 + 1) = 9223372036854775808 := by decide
                                                           omega) (by omega) (by decide)) ?_)
  refine Prod.ext (Ev.ext_data ?_) rfl
  rw [Ev.data_append]; rfl
theorem refNum_no (n : Int) (h : n < 0 ∨ 1125899906842624 < n) : Ev (fun k => oxbowref02_Num.f k n) ((⟨#[]⟩ : ByteArray), 20) := by
  have h1 : ∀ b, b = true → Ev (fun k => oxbowref02_Num.j0 k n b) ((⟨#[]⟩ : ByteArray), 20) := by
    intro b hb
    refine Ev.step (fun k => by simp only [oxbowref02_Num.j0]; rfl) ?_
    exact Ev.pos hb (Ev.now _)
  unfold oxbowref02_Num.f
  by_cases h0 : n < 0
  · exact Ev.pos h0 (h1 true rfl)
  · exact Ev.neg h0 (h1 _ (decide_eq_true (by omega)))

def textR (s : ByteArray) : ByteArray × Int := if s.size ≤ 20000 then (strOfNums (Ev.ints (vb s.size)) ++ s, 0) else ((⟨#[]⟩ : ByteArray), 2)
theorem vbS_size (n : Nat) : (strOfNums (Ev.ints (vb n))).size = (vb n).length := by rw [strOfNums_size, Ev.ints_length]
theorem packText_ev (s : ByteArray) : Ev (fun k => pack_Text.f k s) (textR s) := by
  unfold pack_Text.f textR
  by_cases h : s.size ≤ 20000
  · rw [if_pos h]
    have hv := vb_le s.size (by omega)
    have hs := vbS_size s.size
    have hp := put_ev 8 s.size [] (by have : (128 : Nat) ^ (8 + 1) = 9223372036854775808 := by decide
                                      omega) (by simp) (by omega)
    refine Ev.neg (by omega) (Ev.bind hp (Ev.pos ?_ (Ev.now _)))
    simp only [List.nil_append]
    omega
  · rw [if_neg h]
    exact Ev.pos (by omega) (Ev.now _)
theorem refText_ev (s : ByteArray) : Ev (fun k => oxbowref02_Text.f k s) (textR s) := by
  unfold oxbowref02_Text.f textR
  by_cases h : s.size ≤ 20000
  · rw [if_pos h]
    have hv := vb_le s.size (by omega)
    have hs := vbS_size s.size
    exact Ev.neg (by omega) (Ev.bind (refNum_ev s.size (by omega)) (Ev.pos (by dsimp only; omega) (Ev.now _)))
  · rw [if_neg h]
    exact Ev.pos (by omega) (Ev.now _)

theorem refList_loop (l : List ByteArray) (hl : l.length ≤ 8000) : ∀ (d i : Nat) (out : ByteArray), i + d = l.length → out.size ≤ 20 + i * 20020 →
    Ev (fun k => oxbowref02_List.l0 k l out (i : Int)) (if fits (l.drop i) then (out ++ mkB ((dat (l.drop i)).flatMap txt), 0) else ((⟨#[]⟩ : ByteArray), 2))
  | 0, i, out, hd, ho => by
    refine Ev.step (fun k => by simp only [oxbowref02_List.l0]; rfl) ?_
    refine Ev.neg (by omega) (Ev.val (Ev.now _) ?_)
    rw [List.drop_of_length_le (by omega)]
    rw [if_pos (by rfl)]
    refine Prod.ext (Ev.ext_data ?_) rfl
    rw [Ev.data_append, mkB_data]
    simp [dat]
  | d + 1, i, out, hd, ho => by
    have hlt : i < l.length := by omega
    have hg := Ev.rdOf_get ByteArray.empty l i hlt
    have hwi := Aside0.mk (Ev.wrap_succ i (by omega))
    have ht := refText_ev l[i]
    rw [List.drop_eq_getElem_cons hlt]
    have ih := refList_loop l hl d (i + 1)
    refine Ev.step (fun k => by simp only [oxbowref02_List.l0]; rfl) ?_
    refine Ev.pos (by omega) (Ev.pos (by omega) ?_)
    simp only [hg, hwi.out]
    generalize l[i] = s at ht ⊢
    by_cases h : s.size ≤ 20000
    · have hv := vb_le s.size (by omega)
      have hs := vbS_size s.size
      have hsz : (strOfNums (Ev.ints (vb s.size)) ++ s).size ≤ 20020 := by rw [ByteArray.size_append]; omega
      unfold textR at ht
      rw [if_pos h] at ht
      refine Ev.bind ht (Ev.pos rfl (Ev.pos (by dsimp only; omega) (Ev.val (ih _ (by omega) (by dsimp only; rw [ByteArray.size_append]; omega)) ?_)))
      have hfe : fits (s :: l.drop (i + 1)) = fits (l.drop (i + 1)) := by simp [fits, h]
      rw [hfe]
      by_cases hf : fits (l.drop (i + 1)) = true
      · rw [if_pos hf, if_pos hf]
        refine Prod.ext (Ev.ext_data ?_) rfl
        simp only [Ev.data_append, mkB_data, dat, List.map_cons, List.flatMap_cons, txt, Ev.len_data, Ev.strOf_ints, List.append_assoc]
      · rw [if_neg hf, if_neg hf]
    · unfold textR at ht
      rw [if_neg h] at ht
      refine Ev.bind ht (Ev.neg (by decide) (Ev.val (Ev.now _) ?_))
      rw [if_neg (by simp [fits, h])]
theorem refList_ev (l : List ByteArray) : Ev (fun k => oxbowref02_List.f k l) (if l.length ≤ 8000 ∧ fits l = true then (lstB l, 0) else ((⟨#[]⟩ : ByteArray), 2)) := by
  unfold oxbowref02_List.f
  by_cases hl : l.length ≤ 8000
  · have hv := vb_le l.length (by omega)
    have hs := vbS_size l.length
    refine Ev.neg (by omega) (Ev.bind (refNum_ev l.length (by omega)) (Ev.pos (by dsimp only; omega) ?_))
    refine Ev.val (refList_loop l hl l.length 0 _ (by omega) (by dsimp only; omega)) ?_
    rw [List.drop_zero]
    by_cases hf : fits l = true
    · rw [if_pos hf, if_pos ⟨hl, hf⟩]
      refine Prod.ext (Ev.ext_data ?_) rfl
      rw [Ev.data_append, mkB_data, lstB_data, Ev.strOf_ints, lst, dat_length]
    · rw [if_neg hf, if_neg (fun h => hf h.2)]
  · rw [if_neg (fun h => hl h.1)]
    exact Ev.pos (by omega) (Ev.now _)

theorem refWord_ev (w : Nat) (h : w < 4294967296) : oxbowref02_Word.f (w : Int) = some (wdB w) := by
  unfold oxbowref02_Word.f wdB
  have w0 : wrap64 (w : Int) = (w : Int) := Ev.wrap_nat w (by omega)
  have w1 : wrap64 (Int.tdiv (w : Int) 16777216) = ((w / 16777216 : Nat) : Int) := Ev.wrap_nat (w / 16777216) (by omega)
  have w2 : wrap64 (Int.tdiv (w : Int) 65536) = ((w / 65536 : Nat) : Int) := Ev.wrap_nat (w / 65536) (by omega)
  have w3 : wrap64 (Int.tdiv (w : Int) 256) = ((w / 256 : Nat) : Int) := Ev.wrap_nat (w / 256) (by omega)
  rw [w0, w1, w2, w3]
  have m2 : Int.tmod ((w / 65536 : Nat) : Int) 256 = ((w / 65536 % 256 : Nat) : Int) := rfl
  have m3 : Int.tmod ((w / 256 : Nat) : Int) 256 = ((w / 256 % 256 : Nat) : Int) := rfl
  have m4 : Int.tmod (w : Int) 256 = ((w % 256 : Nat) : Int) := rfl
  rw [m2, m3, m4]
  congr 2

theorem PackWrites : oxbowlaw02_PackWrites.Pure := by
  intro a s l w ha hs hl hw
  have h1 := Ev.wf_i64 ha
  have h2 := Ev.wf_u32 hw
  obtain ⟨w, rfl⟩ : ∃ x : Nat, w = (x : Int) := ⟨w.toNat, by omega⟩
  have hnum : ∃ r, Ev (fun k => pack_Num.f k a) r ∧ Ev (fun k => oxbowref02_Num.f k a) r := by
    by_cases hn : a < 0 ∨ 1125899906842624 < a
    · exact ⟨_, num_no a hn, refNum_no a hn⟩
    · obtain ⟨n, rfl⟩ : ∃ x : Nat, a = (x : Int) := ⟨a.toNat, by omega⟩
      exact ⟨_, num_ev n (by omega), refNum_ev n (by omega)⟩
  obtain ⟨r, e1, e2⟩ := hnum
  refine Ev.rounds ?_
  unfold oxbowlaw02_PackWrites.f
  have hll : ([] : List ByteArray).length + l.length < 8796093022208 := by simp only [List.length_nil]; omega
  refine Ev.bind e1 (Ev.bind e2 (Ev.bind (packText_ev s) (Ev.bind (refText_ev s) (Ev.pos hll (Ev.bind (Ev.const rfl) (Ev.bind (list_ev l) (Ev.bind (refList_ev l) (Ev.bind live_ev (Ev.pos rfl (Ev.pos rfl (Ev.pos rfl (Ev.pos rfl (Ev.pos rfl (Ev.pos rfl (Ev.pos rfl (Ev.bind (same_ev l l (by omega)) (Ev.pos (by simp) (Ev.bind (Ev.const (word_ev w (by omega))) (Ev.bind (Ev.const (refWord_ev w (by omega))) (Ev.const ?_))))))))))))))))))))
  simp

end Go.Proofs.Ytknbccaineblpaa.Pure
