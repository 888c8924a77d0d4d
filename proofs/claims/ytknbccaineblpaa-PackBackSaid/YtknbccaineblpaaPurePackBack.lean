/- What is written is read again, whatever stands around: for every number, list of texts, word and text around. -/
import Derived.Test.YtknbccaineblpaaHPkx3
import Derived.Test.YtknbccaineblpaaPurePksm
namespace Go.Proofs.Ytknbccaineblpaa.Pure
open Go.RowKit Go.Proofs.Ytknbccaineblpaa.HPk Go.Proofs.Ytknbccaineblpaa.Pkpk Go.Proofs.Ytknbccaineblpaa.Pk Go.Proofs.YtknbccaineblpaaW.PrintWords Go.Proofs.YtknbccaineblpaaW.PrintLast
set_option linter.unusedSimpArgs false
set_option linter.unusedVariables false

theorem around_drop (r a : ByteArray) : ((r ++ a) ++ r).data.toList.drop r.size = a.data.toList ++ r.data.toList := by
  rw [Ev.data_append, Ev.data_append, List.append_assoc, List.drop_left' (Ev.len_data r)]
theorem around_size (r a : ByteArray) : ((r ++ a) ++ r).size = r.size + a.size + r.size := by rw [ByteArray.size_append, ByteArray.size_append]
theorem wd_value (w : Nat) : w / 16777216 * 16777216 + w / 65536 % 256 * 65536 + w / 256 % 256 * 256 + w % 256 = w := by omega
theorem wdB_size (w : Nat) : (wdB w).size = 4 := by rw [← Ev.len_data, wdB_data]; rfl
theorem byte_of (s : ByteArray) (i : Nat) (b : UInt8) (h : i < s.size) (l : List UInt8) (e : s.data.toList.drop i = b :: l) : s[i] = b := by
  rw [Ev.drop_at s i h] at e
  injection e
theorem word_back (w : Nat) (hw : w < 4294967296) (s : ByteArray) (hs : s.size ≤ 4611686018427387904) (at_ : Nat) (rest : List UInt8) (ha : at_ ≤ s.size) (e : s.data.toList.drop at_ = wd w ++ rest) :
    Ev (fun k => pack_TakeWord.f k s (at_ : Int)) ((w : Int), ((at_ + 4 : Nat) : Int), 0) := by
  have hlen := congrArg List.length e
  rw [List.length_drop, Ev.len_data, List.length_append] at hlen
  have h4 : (wd w).length = 4 := rfl
  have h := takeWord_in s hs at_ ha
  rw [dif_pos (by omega)] at h
  have tl : ∀ (i : Nat) (x : UInt8) (l : List UInt8), s.data.toList.drop i = x :: l → s.data.toList.drop (i + 1) = l := fun i x l hh => by
    have := congrArg List.tail hh
    rwa [List.tail_drop] at this
  have e0 := e
  simp only [wd, List.cons_append, List.nil_append] at e0
  have b0 := byte_of s at_ _ (by omega) _ e0
  have e1 := tl _ _ _ e0
  have b1 := byte_of s (at_ + 1) _ (by omega) _ e1
  have e2 := tl _ _ _ e1
  have b2 := byte_of s (at_ + 2) _ (by omega) _ e2
  have e3 := tl _ _ _ e2
  have b3 := byte_of s (at_ + 3) _ (by omega) _ e3
  refine Ev.val h ?_
  have v0 := toNat_ofNat (w / 16777216) (by clear b0 b1 b2 b3 e0 e1 e2 e3 h e; omega)
  have v1 := toNat_ofNat (w / 65536 % 256) (Nat.mod_lt _ (by decide))
  have v2 := toNat_ofNat (w / 256 % 256) (Nat.mod_lt _ (by decide))
  have v3 := toNat_ofNat (w % 256) (Nat.mod_lt _ (by decide))
  rw [b0, b1, b2, b3, v0, v1, v2, v3, wd_value w]

theorem back_words (w : Nat) (hw : w < 4294967296) (r : ByteArray) (hr : r.size ≤ 140737488351232) :
    Ev (fun k => (pack_Word.f (w : Int)).bind fun t => if r.size + t.size ≤ 9223372036854775807 then (if (r ++ t).size + r.size ≤ 9223372036854775807 then ((pack_TakeWord.f k ((r ++ t) ++ r) (r.size : Int)).bind fun b => ((oxbowlaw02_live.f k).bind fun v => (if v = true then (if b.1 = (w : Int) then (if b.2.1 = (wrap64 ((r.size : Int) + 4)) then (some (b.2.2 == 0)) else (some false)) else (some false)) else (some false)))) else none) else none) true := by
  have h4 := wdB_size w
  have w4 := Aside0.mk (show wrap64 ((r.size : Int) + 4) = ((r.size + 4 : Nat) : Int) from Ev.wrap_id _ (by omega) (by omega))
  have ht := word_back w hw ((r ++ wdB w) ++ r) (by rw [around_size]; omega) r.size r.data.toList (by rw [around_size]; omega) (by rw [around_drop, wdB_data])
  exact Ev.bind (Ev.const (word_ev w hw)) (Ev.pos (by omega) (Ev.pos (by rw [ByteArray.size_append]; omega) (Ev.bind ht (Ev.bind live_ev (Ev.pos rfl (Ev.pos rfl (Ev.pos (by rw [w4.out]) (Ev.now _))))))))

theorem j1_ev (w : Nat) (hw : w < 4294967296) (r : ByteArray) (hr : r.size ≤ 140737488351232) : Ev (fun k => oxbowlaw02_PackBack.j1 k (w : Int) r false) true := by
  refine Ev.step (fun k => by simp only [oxbowlaw02_PackBack.j1]; rfl) ?_
  exact Ev.neg (by decide) (back_words w hw r hr)

theorem j0_ev (l : List ByteArray) (hl : l.length < 9223372036854775808) (w : Nat) (hw : w < 4294967296) (r : ByteArray) (hr : r.size ≤ 140737488351232) : Ev (fun k => oxbowlaw02_PackBack.j0 k l (w : Int) r) true := by
  refine Ev.step (fun k => by simp only [oxbowlaw02_PackBack.j0]; rfl) ?_
  have hle := list_ev l
  by_cases hf : l.length ≤ 8000 ∧ fits l = true
  · rw [if_pos hf] at hle
    have hsz : (lstB l).size = (lst (dat l)).length := by rw [← Ev.len_data, lstB_data]
    have hall : ∀ t ∈ dat l, t.length ≤ 20000 := by
      intro t ht
      obtain ⟨s, hs, rfl⟩ := List.mem_map.1 ht
      have := List.all_eq_true.1 hf.2 s hs
      rw [Ev.len_data]
      exact of_decide_eq_true this
    have hb := tl_back (dat l) r.data.toList (by rw [dat_length]; exact hf.1) hall
    have hbound : (lst (dat l)).length ≤ 200000000 := by
      unfold lst
      rw [List.length_append, dat_length]
      have h1 := vb_le l.length (by omega)
      have h2 : ∀ m : List (List UInt8), (∀ t ∈ m, t.length ≤ 20000) → (m.flatMap txt).length ≤ m.length * 20010 := by
        intro m
        induction m with
        | nil => intro _; simp
        | cons t m ih =>
          intro h
          have h3 := txt_le t (h t (by simp))
          have h4 := ih (fun t ht => h t (by simp [ht]))
          simp only [List.flatMap_cons, List.length_append, List.length_cons]
          omega
      have h3 := h2 (dat l) hall
      rw [dat_length] at h3
      omega
    have ht := takeList_ev ((r ++ lstB l) ++ r) (by rw [around_size]; omega) r.size (by rw [around_size]; omega)
    rw [around_drop, lstB_data, hb] at ht
    have ht' : Ev (fun k => pack_TakeList.f k ((r ++ lstB l) ++ r) (r.size : Int)) (l, ((r.size + (lstB l).size : Nat) : Int), (0 : Int)) := Ev.val ht (by
      simp only [tlR, tlsR, List.nil_append, mkB_dat]
      rw [hsz])
    have wl := Aside0.mk (Ev.wrap_add r.size (lstB l).size (by omega))
    refine Ev.bind hle (Ev.pos rfl (Ev.pos (by dsimp only; omega) (Ev.pos (by dsimp only; rw [ByteArray.size_append]; omega) (Ev.bind ht' (Ev.bind (same_ev _ _ hl) (Ev.pos (by simp) (Ev.pos ?_ ?_)))))))
    · dsimp only
      first | (rw [wl.out]; done) | omega
    · exact j1_ev w hw r hr
  · rw [if_neg hf] at hle
    exact Ev.bind hle (Ev.neg (by decide) (back_words w hw r hr))

theorem PackBack : oxbowlaw02_PackBack.Pure := by
  intro a l b r ha hl hb hr
  have h1 := Ev.wf_i64 ha
  have h2 := Ev.wf_u32 hb
  obtain ⟨w, rfl⟩ : ∃ x : Nat, b = (x : Int) := ⟨b.toNat, by omega⟩
  have hll : l.length < 9223372036854775808 := by omega
  refine Ev.rounds ?_
  unfold oxbowlaw02_PackBack.f
  by_cases hn : a < 0 ∨ 1125899906842624 < a
  · exact Ev.bind (num_no a hn) (Ev.neg (by decide) (j0_ev l hll w (by omega) r hr))
  · obtain ⟨n, rfl⟩ : ∃ x : Nat, a = (x : Int) := ⟨a.toNat, by omega⟩
    have hnb : n ≤ 1125899906842624 := by omega
    have hsz : (strOfNums (Ev.ints (vb n))).size = (vb n).length := by rw [strOfNums_size, Ev.ints_length]
    have hv := vb_le n (by omega)
    have ht := takeNum_ev ((r ++ strOfNums (Ev.ints (vb n))) ++ r) (by rw [around_size]; omega) r.size (by rw [around_size]; omega)
    rw [around_drop, Ev.strOf_ints, tk_back 1125899906842624 n _ (by omega) hnb] at ht
    have ht' : Ev (fun k => pack_TakeNum.f k ((r ++ strOfNums (Ev.ints (vb n))) ++ r) (r.size : Int)) ((n : Int), ((r.size + (strOfNums (Ev.ints (vb n))).size : Nat) : Int), (0 : Int)) := Ev.val ht (by simp only [tkR]; rw [hsz])
    have wl := Aside0.mk (Ev.wrap_add r.size (strOfNums (Ev.ints (vb n))).size (by omega))
    refine Ev.bind (num_ev n hnb) (Ev.pos rfl (Ev.pos (by dsimp only; omega) (Ev.pos (by dsimp only; rw [ByteArray.size_append]; omega) (Ev.bind ht' (Ev.pos rfl (Ev.pos ?_ (Ev.pos rfl (j0_ev l hll w (by omega) r hr))))))))
    dsimp only
    first | (rw [wl.out]; done) | omega

end Go.Proofs.Ytknbccaineblpaa.Pure
