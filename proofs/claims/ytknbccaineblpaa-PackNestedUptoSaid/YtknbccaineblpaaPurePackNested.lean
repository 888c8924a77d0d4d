/- Lists that stand in a list come back, and words of their places with them: for every list of lists that is small. -/
import Derived.Test.YtknbccaineblpaaHPkx4
import Derived.Test.YtknbccaineblpaaPurePkwb
namespace Go.Proofs.Ytknbccaineblpaa.Pure
open Go.RowKit Go.Proofs.Ytknbccaineblpaa.HPk Go.Proofs.Ytknbccaineblpaa.Pkpk Go.Proofs.Ytknbccaineblpaa.Pk Go.Proofs.YtknbccaineblpaaW.PrintWords Go.Proofs.YtknbccaineblpaaW.PrintLast
set_option linter.unusedSimpArgs false
set_option linter.unusedVariables false

abbrev okL (l : List ByteArray) : Prop := l.length ≤ 8000 ∧ fits l = true
def bulkL (l : List ByteArray) : Nat := (l.map fun z => z.size + 1).sum + 1
def cat : List (List ByteArray) → Nat → List UInt8
  | [], _ => []
  | l :: m, i => lst (dat l) ++ wd (i % 4294967296) ++ cat m (i + 1)
theorem cat_snoc : ∀ (m : List (List ByteArray)) (l : List ByteArray) (i : Nat), cat (m ++ [l]) i = cat m i ++ (lst (dat l) ++ wd ((i + m.length) % 4294967296))
  | [], l, i => by simp [cat]
  | x :: m, l, i => by
    simp only [List.cons_append, cat, cat_snoc m l (i + 1), List.append_assoc, List.length_cons]
    rw [show i + 1 + m.length = i + (m.length + 1) from by omega]
theorem txt_bulk : ∀ (l : List ByteArray), fits l = true → ((dat l).flatMap txt).length ≤ 10 * ((l.map fun z => z.size + 1).sum)
  | [], _ => by simp [dat]
  | s :: l, h => by
    simp only [fits, List.all_cons, Bool.and_eq_true, decide_eq_true_eq] at h
    have h1 := txt_bulk l h.2
    have h2 := vb_le s.size (by omega)
    simp only [dat, List.map_cons, List.flatMap_cons, List.length_append, List.sum_cons, txt, Ev.len_data] at h1 ⊢
    omega
theorem lst_bulk (l : List ByteArray) (h : okL l) : (lst (dat l)).length ≤ 10 * bulkL l := by
  unfold lst bulkL
  rw [List.length_append, dat_length]
  have h1 := vb_le l.length (by have := h.1; omega)
  have h2 := txt_bulk l h.2
  omega
theorem cat_bulk : ∀ (m : List (List ByteArray)) (i : Nat), (∀ l ∈ m, okL l) → (cat m i).length ≤ 14 * (m.map bulkL).sum
  | [], _, _ => by simp [cat]
  | l :: m, i, h => by
    have h1 := lst_bulk l (h l (by simp))
    have h2 := cat_bulk m (i + 1) (fun x hx => h x (by simp [hx]))
    have h3 : 0 < bulkL l := by unfold bulkL; omega
    simp only [cat, List.length_append, List.map_cons, List.sum_cons, wd, List.length_cons, List.length_nil]
    omega
theorem length_bulk (m : List (List ByteArray)) : m.length ≤ (m.map bulkL).sum := by
  induction m with
  | nil => simp
  | cons l m ih => simp only [List.length_cons, List.map_cons, List.sum_cons, bulkL] at ih ⊢; omega
theorem sum_take (m : List (List ByteArray)) (i : Nat) : ((m.take i).map bulkL).sum ≤ (m.map bulkL).sum := by
  conv => rhs; rw [← List.take_append_drop i m, List.map_append, List.sum_append]
  omega
theorem bulk_get (m : List (List ByteArray)) (i : Nat) (h : i < m.length) : ((m.take i).map bulkL).sum + bulkL m[i] ≤ (m.map bulkL).sum := by
  have := sum_take m (i + 1)
  rw [List.take_succ_eq_append_getElem h, List.map_append, List.sum_append] at this
  simpa using this
theorem rd_get (m : List (List ByteArray)) (i : Nat) (h : i < m.length) : rd_L2 m (i : Int) = m[i] := by
  unfold rd_L2
  rw [Int.toNat_natCast, List.getD_eq_getElem?_getD, List.getElem?_eq_getElem h]
  rfl
theorem mod_word (i : Nat) : ((i : Int) % 4294967296) = ((i % 4294967296 : Nat) : Int) := rfl

variable (m : List (List ByteArray)) (hb : (m.map bulkL).sum ≤ 1048576)
include hb

theorem l2_ev (hok : ∀ l ∈ m, okL l) (s : ByteArray) (hs : s.data.toList = cat m 0) : ∀ (d i at_ : Nat), i + d = m.length → at_ = (cat (m.take i) 0).length → s.data.toList.drop at_ = cat (m.drop i) i → at_ ≤ s.size →
    Ev (fun k => oxbowlaw02_PackNested.l2 k m s (at_ : Int) (i : Int)) true
  | 0, i, at_, hd, ha, he, hle => by
    have hsz : s.size = at_ := by
      rw [List.drop_of_length_le (by omega : m.length ≤ i)] at he
      have := congrArg List.length he
      rw [List.length_drop, Ev.len_data] at this
      simp only [cat, List.length_nil] at this
      omega
    refine Ev.step (fun k => by simp only [oxbowlaw02_PackNested.l2]; rfl) ?_
    refine Ev.neg (by omega) (Ev.bind live_ev (Ev.pos rfl (Ev.const ?_)))
    rw [hsz]; simp
  | d + 1, i, at_, hd, ha, he, hle => by
    have hlt : i < m.length := by omega
    have hcb := cat_bulk m 0 hok
    have hsz : s.size ≤ 20000000 := by rw [← Ev.len_data, hs]; omega
    have hlen := length_bulk m
    have hoki := hok m[i] (List.getElem_mem hlt)
    rw [List.drop_eq_getElem_cons hlt] at he
    simp only [cat, List.append_assoc] at he
    have hall : ∀ t ∈ dat m[i], t.length ≤ 20000 := by
      intro t ht
      obtain ⟨s, hs, rfl⟩ := List.mem_map.1 ht
      have := List.all_eq_true.1 hoki.2 s hs
      rw [Ev.len_data]
      exact of_decide_eq_true this
    have ht := takeList_ev s (by omega) at_ hle
    rw [he, tl_back _ _ (by rw [dat_length]; exact hoki.1) hall] at ht
    have hl := congrArg List.length he
    rw [List.length_drop, Ev.len_data, List.length_append, List.length_append] at hl
    have h4 : (wd (i % 4294967296)).length = 4 := rfl
    rw [h4] at hl
    have ht' : Ev (fun k => pack_TakeList.f k s (at_ : Int)) (m[i], ((at_ + (lst (dat m[i])).length : Nat) : Int), (0 : Int)) := Ev.val ht (by
      simp only [tlR, tlsR, List.nil_append, mkB_dat])
    have hd1 : s.data.toList.drop (at_ + (lst (dat m[i])).length) = wd (i % 4294967296) ++ cat (m.drop (i + 1)) (i + 1) := by
      rw [← List.drop_drop, he, List.drop_left]
    have hw := word_back (i % 4294967296) (Nat.mod_lt _ (by decide)) s (by omega) (at_ + (lst (dat m[i])).length) (cat (m.drop (i + 1)) (i + 1)) (by omega) hd1
    have hwi := Aside0.mk (Ev.wrap_succ i (by omega))
    have ih := l2_ev hok s hs d (i + 1) (at_ + (lst (dat m[i])).length + 4) (by omega) (by
      rw [List.take_succ_eq_append_getElem hlt, cat_snoc, List.length_append, List.length_append, h4', ← ha]; omega) (by
      rw [← List.drop_drop, hd1, ← h4, List.drop_left]) (by omega)
    refine Ev.step (fun k => by simp only [oxbowlaw02_PackNested.l2]; rfl) ?_
    refine Ev.pos (by omega) (Ev.bind ht' (Ev.bind hw (Ev.pos rfl (Ev.pos rfl (Ev.pos (by omega) ?_)))))
    simp only [rd_get m i hlt, hwi.out, mod_word]
    refine Ev.bind (same_ev _ _ (by have := hoki.1; omega)) (Ev.pos (by simp) (Ev.pos (by simp) ih))
where h4' {i : Nat} : (wd (i % 4294967296)).length = 4 := rfl

theorem j3_ev (hok : ∀ l ∈ m, okL l) (s : ByteArray) (hs : s.data.toList = cat m 0) : Ev (fun k => oxbowlaw02_PackNested.j3 k m s) true := by
  refine Ev.step (fun k => by simp only [oxbowlaw02_PackNested.j3]; rfl) ?_
  exact l2_ev m hb hok s hs m.length 0 0 (by omega) (by simp [cat]) (by simpa using hs) (by omega)

theorem l1_ev (hok : ∀ l ∈ m, okL l) (s : ByteArray) (hs : s.data.toList = cat m 0) : ∀ (d i : Nat), i + d = m.length → Ev (fun k => oxbowlaw02_PackNested.l1 k m s (m.map lstB) (i : Int)) true
  | 0, i, hd => by
    refine Ev.step (fun k => by simp only [oxbowlaw02_PackNested.l1]; rfl) ?_
    exact Ev.neg (by rw [List.length_map]; omega) (j3_ev m hb hok s hs)
  | d + 1, i, hd => by
    have hlt : i < m.length := by omega
    have hlen := length_bulk m
    have hoki := hok m[i] (List.getElem_mem hlt)
    have hlb := lst_bulk m[i] hoki
    have hbg := bulk_get m i hlt
    have hall : ∀ t ∈ dat m[i], t.length ≤ 20000 := by
      intro t ht
      obtain ⟨s, hs, rfl⟩ := List.mem_map.1 ht
      have := List.all_eq_true.1 hoki.2 s hs
      rw [Ev.len_data]
      exact of_decide_eq_true this
    have hrd : rdOf ByteArray.empty (m.map lstB) (i : Int) = lstB m[i] := by
      rw [Ev.rdOf_get _ _ _ (by rw [List.length_map]; exact hlt), List.getElem_map]
    have hsz : (lstB m[i]).size = (lst (dat m[i])).length := by rw [← Ev.len_data, lstB_data]
    have ht := takeList_ev (lstB m[i]) (by omega) 0 (by omega)
    have hb0 := tl_back (dat m[i]) [] (by rw [dat_length]; exact hoki.1) hall
    rw [List.append_nil] at hb0
    rw [List.drop_zero, lstB_data, hb0] at ht
    have ht' : Ev (fun k => pack_TakeList.f k (lstB m[i]) 0) (m[i], ((lstB m[i]).size : Int), (0 : Int)) := Ev.val ht (by
      simp only [tlR, tlsR, List.nil_append, mkB_dat, hsz, Nat.zero_add])
    have hwi := Aside0.mk (Ev.wrap_succ i (by omega))
    refine Ev.step (fun k => by simp only [oxbowlaw02_PackNested.l1]; rfl) ?_
    refine Ev.pos (by rw [List.length_map]; omega) (Ev.pos (by omega) ?_)
    simp only [hrd, rd_get m i hlt, hwi.out]
    refine Ev.bind ht' (Ev.pos rfl (Ev.pos rfl (Ev.pos (by omega) (Ev.bind (same_ev _ _ (by have := hoki.1; dsimp only; omega)) (Ev.pos (by simp) ?_)))))
    exact l1_ev hok s hs d (i + 1) (by omega)

theorem end_ev (hok : ∀ l ∈ m, okL l) (s : ByteArray) (hs : s.data.toList = cat m 0) : Ev (fun k => oxbowlaw02_PackNested.l0 k m (m.map lstB) s (m.length : Int)) true := by
  refine Ev.step (fun k => by simp only [oxbowlaw02_PackNested.l0]; rfl) ?_
  refine Ev.neg (by omega) ?_
  have hle := list_ev (m.map lstB)
  have hlen := length_bulk m
  by_cases hf : okL (m.map lstB)
  · rw [if_pos hf] at hle
    have hsz : (lstB (m.map lstB)).size = (lst (dat (m.map lstB))).length := by rw [← Ev.len_data, lstB_data]
    have hall : ∀ t ∈ dat (m.map lstB), t.length ≤ 20000 := by
      intro t ht
      obtain ⟨s, hs, rfl⟩ := List.mem_map.1 ht
      have := List.all_eq_true.1 hf.2 s hs
      rw [Ev.len_data]
      exact of_decide_eq_true this
    have hbound : (lst (dat (m.map lstB))).length ≤ 200000000 := by
      have h1 := lst_bulk (m.map lstB) hf
      have h2 : bulkL (m.map lstB) ≤ 14 * (m.map bulkL).sum + 1 := by
        unfold bulkL
        have : ∀ (q : List (List ByteArray)), (∀ l ∈ q, okL l) → ((q.map lstB).map fun z => z.size + 1).sum ≤ 14 * (q.map fun l => (l.map fun z => z.size + 1).sum + 1).sum := by
          intro q
          induction q with
          | nil => intro _; simp
          | cons l q ih =>
            intro h
            have g1 := ih (fun x hx => h x (by simp [hx]))
            have g2 := lst_bulk l (h l (by simp))
            have g3 : (lstB l).size = (lst (dat l)).length := by rw [← Ev.len_data, lstB_data]
            simp only [List.map_cons, List.sum_cons]
            unfold bulkL at g2
            omega
        have := this m hok
        unfold bulkL at hb
        omega
      omega
    have ht := takeList_ev (lstB (m.map lstB)) (by omega) 0 (by omega)
    have hb0 := tl_back (dat (m.map lstB)) [] (by rw [dat_length]; exact hf.1) hall
    rw [List.append_nil] at hb0
    rw [List.drop_zero, lstB_data, hb0] at ht
    have ht' : Ev (fun k => pack_TakeList.f k (lstB (m.map lstB)) 0) (m.map lstB, ((lstB (m.map lstB)).size : Int), (0 : Int)) := Ev.val ht (by
      simp only [tlR, tlsR, List.nil_append, mkB_dat, hsz, Nat.zero_add])
    refine Ev.bind hle (Ev.pos rfl (Ev.bind ht' (Ev.pos rfl (Ev.pos rfl (Ev.bind (same_ev _ _ (by simp only [List.length_map]; omega)) ?_)))))
    refine Ev.step (fun k => by simp only [oxbowlaw02_PackNested.j1]; rfl) ?_
    exact Ev.neg (by simp) (l1_ev m hb hok s hs m.length 0 (by omega))
  · rw [if_neg hf] at hle
    exact Ev.bind hle (Ev.neg (by decide) (j3_ev m hb hok s hs))

theorem l0_ev : ∀ (d i : Nat) (x3 : List ByteArray) (x4 : ByteArray), i + d = m.length → (∀ l ∈ m.take i, okL l) → x3 = (m.take i).map lstB → x4.data.toList = cat (m.take i) 0 → Ev (fun k => oxbowlaw02_PackNested.l0 k m x3 x4 (i : Int)) true
  | 0, i, x3, x4, hd, hok, e3, e4 => by
    obtain rfl : i = m.length := by omega
    rw [List.take_length] at hok e3 e4
    subst e3
    exact end_ev m hb hok x4 e4
  | d + 1, i, x3, x4, hd, hok, e3, e4 => by
    have hlt : i < m.length := by omega
    have hlen := length_bulk m
    have hle := list_ev m[i]
    have hbg := bulk_get m i hlt
    have hst := sum_take m i
    have hcb := cat_bulk (m.take i) 0 hok
    have hsz4 : x4.size = (cat (m.take i) 0).length := by rw [← Ev.len_data, e4]
    have hwi := Aside0.mk (Ev.wrap_succ i (by omega))
    refine Ev.step (fun k => by simp only [oxbowlaw02_PackNested.l0]; rfl) ?_
    refine Ev.pos (by omega) (Ev.pos (by omega) ?_)
    simp only [rd_get m i hlt, hwi.out, mod_word]
    by_cases hf : okL m[i]
    · rw [if_pos hf] at hle
      have hlb := lst_bulk m[i] hf
      have hsz : (lstB m[i]).size = (lst (dat m[i])).length := by rw [← Ev.len_data, lstB_data]
      have hl3 : x3.length = i := by rw [e3, List.length_map, List.length_take]; omega
      refine Ev.bind hle (Ev.pos rfl (Ev.pos (by omega) (Ev.pos (by dsimp only; omega) (Ev.bind (Ev.const (word_ev _ (Nat.mod_lt _ (by decide)))) (Ev.pos ?_ ?_)))))
      · rw [ByteArray.size_append, wdB_size]; dsimp only; omega
      · refine l0_ev d (i + 1) _ _ (by omega) ?_ ?_ ?_
        · rw [List.take_succ_eq_append_getElem hlt]
          intro l hl
          rcases List.mem_append.1 hl with h | h
          · exact hok l h
          · rw [List.mem_singleton.1 h]; exact hf
        · rw [List.take_succ_eq_append_getElem hlt, List.map_append, e3]; rfl
        · rw [List.take_succ_eq_append_getElem hlt, cat_snoc, Ev.data_append, Ev.data_append, e4, lstB_data, wdB_data, List.length_take, Nat.min_eq_left (by omega), Nat.zero_add, List.append_assoc]
    · rw [if_neg hf] at hle
      exact Ev.bind hle (Ev.neg (by decide) (Ev.bind live_ev (Ev.now _)))
omit hb

theorem PackNested : oxbowlaw02_PackNested.Pure := by
  intro l hl hbk
  refine Ev.rounds ?_
  unfold oxbowlaw02_PackNested.f
  exact l0_ev l (by show (l.map fun y => (y.map fun z => z.size + 1).sum + 1).sum ≤ 1048576; omega) l.length 0 [] _ (by omega) (by simp) (by simp) (by simp [cat])

end Go.Proofs.Ytknbccaineblpaa.Pure
