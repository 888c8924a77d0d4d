/- Plain laws of the document's forms of deltas: what is put in ahead of each code point, and which are deleted. No program stands here. -/
import Derived.Test.YtdpbkomaiafemaaDl
set_option linter.unusedVariables false
set_option linter.unusedSimpArgs false
namespace Go.Proofs.Ytdpbkomaiafemaa.Fm
open Go.Proofs.Ytdpbkomaiafemaa.Tx Go.Proofs.Ytdpbkomaiafemaa.Dl

/-- What is put in moves ahead of n code points that are deleted. -/
def shift (n : Nat) : List (List Nat) → List (List Nat)
  | [] => []
  | i :: is => i :: (List.replicate n [] ++ is)
def pre (q : List Nat) : List (List Nat) → List (List Nat)
  | [] => []
  | i :: is => (q ++ i) :: is
/-- The form of a delta. -/
def fmI : List O → List (List Nat)
  | [] => [[]]
  | .keep n :: d => List.replicate n [] ++ fmI d
  | .del n :: d => shift n (fmI d)
  | .ins p :: d => pre p (fmI d)
def fmG : List O → List Bool
  | [] => []
  | .keep n :: d => List.replicate n false ++ fmG d
  | .del n :: d => List.replicate n true ++ fmG d
  | .ins _ :: d => fmG d
theorem fmG_length : ∀ d : List O, (fmG d).length = base d
  | [] => rfl
  | .keep n :: d => by simp [fmG, base, fmG_length d]
  | .del n :: d => by simp [fmG, base, fmG_length d]
  | .ins p :: d => by simp [fmG, base, fmG_length d]
theorem fmI_length : ∀ d : List O, (fmI d).length = base d + 1
  | [] => rfl
  | .keep n :: d => by simp [fmI, base, fmI_length d]; omega
  | .del n :: d => by
    have h := fmI_length d
    simp only [fmI, base]
    match hd : fmI d with
    | [] => rw [hd] at h; simp at h
    | i :: is => rw [hd] at h; simp only [List.length_cons] at h; simp [shift]; omega
  | .ins p :: d => by
    have h := fmI_length d
    simp only [fmI, base]
    match hd : fmI d with
    | [] => rw [hd] at h; simp at h
    | i :: is => rw [hd] at h; simpa [pre] using h
theorem fmI_cons (d : List O) : ∃ i is, fmI d = i :: is := by
  have h := fmI_length d
  match hd : fmI d with
  | [] => rw [hd] at h; simp at h
  | i :: is => exact ⟨i, is, rfl⟩
/-- The normal delta of a form, what is put in and deleted since the last keep being p and c. -/
def bd : List (List Nat) → List Bool → List Nat → Nat → List O
  | [], _, p, c => I p (D c [])
  | i :: is, true :: g, p, c => bd is g (p ++ i) (c + 1)
  | i :: is, false :: g, p, c => I (p ++ i) (D c (consKeep 1 (bd is g [] 0)))
  | i :: _, [], p, c => I (p ++ i) (D c [])
theorem bd_head (q i : List Nat) (is : List (List Nat)) (g : List Bool) (p : List Nat) (c : Nat) : bd ((q ++ i) :: is) g p c = bd (i :: is) g (p ++ q) c := by
  match g with
  | [] => simp [bd, List.append_assoc]
  | true :: g => simp [bd, List.append_assoc]
  | false :: g => simp [bd, List.append_assoc]
theorem K_add (n m : Nat) (r : List O) : K n (K m r) = K (n + m) r := by
  by_cases hm : m = 0
  · subst hm; simp [K]
  · have : K m r = consKeep m r := by unfold K; rw [if_neg hm]
    rw [this, K_keep]
    unfold K
    rw [if_neg (by omega)]
theorem K_one (n : Nat) (r : List O) (h : 1 ≤ n) : K n r = consKeep n r := by unfold K; rw [if_neg (by omega)]
theorem consKeep_K (n m : Nat) (r : List O) (hn : 1 ≤ n) : consKeep n (K m r) = consKeep (n + m) r := by
  rw [← K_one n _ hn, K_add, K_one _ _ (by omega)]
theorem bd_keeps : ∀ (m : Nat) (is : List (List Nat)) (g : List Bool), bd (List.replicate m [] ++ is) (List.replicate m false ++ g) [] 0 = K m (bd is g [] 0)
  | 0, is, g => by simp [K]
  | m + 1, is, g => by
    rw [List.replicate_succ, List.replicate_succ, List.cons_append, List.cons_append]
    simp only [bd, List.append_nil]
    rw [bd_keeps m is g]
    unfold I D
    rw [if_pos rfl, if_pos rfl, consKeep_K 1 m _ (by omega)]
    unfold K
    rw [if_neg (by omega), Nat.add_comm]
theorem bd_dels : ∀ (m : Nat) (i : List Nat) (is : List (List Nat)) (g : List Bool) (p : List Nat) (c : Nat), bd (i :: (List.replicate m [] ++ is)) (List.replicate m true ++ g) p c = bd (i :: is) g p (c + m)
  | 0, i, is, g, p, c => by simp
  | m + 1, i, is, g, p, c => by
    rw [List.replicate_succ, List.replicate_succ, List.cons_append, List.cons_append]
    simp only [bd]
    rw [bd_dels m [] is g (p ++ i) (c + 1)]
    have := bd_head i [] is g p (c + 1 + m)
    rw [List.append_nil] at this
    rw [← this]
    congr 1
    omega
/-- The normal delta of a delta's form is its normal form. -/
theorem bd_fm : ∀ (d : List O), V1 d → ∀ (p : List Nat) (c : Nat), bd (fmI d) (fmG d) p c = I p (D c (nf d))
  | [], _, p, c => by simp [fmI, fmG, bd, nf]
  | .ins q :: d, hv, p, c => by
    obtain ⟨i, is, hi⟩ := fmI_cons d
    have ih := bd_fm d hv.tail (p ++ q) c
    have hq : q ≠ [] := hv.head.1
    simp only [fmI, fmG]
    rw [hi] at ih ⊢
    simp only [pre]
    rw [bd_head, ih]
    exact (I_D_ins p q c (nf d) hq).symm
  | .del n :: d, hv, p, c => by
    obtain ⟨i, is, hi⟩ := fmI_cons d
    have ih := bd_fm d hv.tail p (c + n)
    simp only [fmI, fmG]
    rw [hi] at ih ⊢
    simp only [shift]
    rw [bd_dels, ih]
    exact (I_D_del p c n (nf d) hv.head).symm
  | .keep n :: d, hv, p, c => by
    have ih := bd_fm d hv.tail [] 0
    have hn : 1 ≤ n := hv.head
    obtain ⟨m, rfl⟩ : ∃ m, n = m + 1 := ⟨n - 1, by omega⟩
    simp only [fmI, fmG]
    rw [List.replicate_succ, List.replicate_succ, List.cons_append, List.cons_append]
    simp only [bd, List.append_nil]
    rw [bd_keeps, ih]
    have e : I [] (D 0 (nf d)) = nf d := by unfold I D; rw [if_pos rfl, if_pos rfl]
    rw [e, consKeep_K 1 m _ (by omega), Nat.add_comm 1 m]
    rfl
theorem bd_nf (d : List O) (hv : V1 d) : bd (fmI d) (fmG d) [] 0 = nf d := by
  rw [bd_fm d hv]
  unfold I D
  rw [if_pos rfl, if_pos rfl]
end Go.Proofs.Ytdpbkomaiafemaa.Fm
