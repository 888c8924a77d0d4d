/- What the program's normal form and target come to, in plain words; the answers that the document gives. -/
import Derived.Test.YtdpbkomaiafemaaHDdx5
import Derived.Test.YtdpbkomaiafemaaHDdx4
import Derived.Test.YtdpbkomaiafemaaHDdx6
import Derived.Test.YtdpbkomaiafemaaPureDddl
namespace Go.Proofs.Ytdpbkomaiafemaa.Dddn
open Go.RowKit Go.Proofs.Ytdpbkomaiafemaa.HDd Go.Proofs.Ytdpbkomaiafemaa.Ddtx Go.Proofs.Ytdpbkomaiafemaa.Dddl Go.Proofs.Ytdpbkomaiafemaa.Tx Go.Proofs.Ytdpbkomaiafemaa.Dl Go.Proofs.YtdpbkomaiafemaaW.PrintWords Go.Proofs.YtdpbkomaiafemaaW.PrintLast Go.Proofs.YtdpbkomaiafemaaW.PrintMore
set_option linter.unusedSimpArgs false
set_option linter.unusedVariables false

theorem st_empty (ps : List Nat) : ((st ps).toList == ([] : List UInt8)) = decide (ps = []) := by
  rw [nil_beq, Bool.eq_iff_iff, decide_eq_true_eq, decide_eq_true_eq, st_size]
  constructor
  · intro h
    have := le_enc_length ps
    exact List.eq_nil_of_length_eq_zero (by omega)
  · intro h
    rw [h]; rfl
theorem keeps_out (out : List O) (n : Nat) : delta_joiner_keeps.out (out.map sop) (n : Int) = (out ++ keepsO n).map sop := by
  unfold delta_joiner_keeps.out keepsO
  by_cases h : n = 0
  · rw [if_neg (by omega), if_pos h, List.append_nil]
  · rw [if_pos (by omega), if_neg h, List.map_append]
    rfl
theorem gap_out (out : List O) (p : List Nat) (g n : Nat) : delta_joiner_gap.out (out.map sop) (st p) (g : Int) (n : Int) = if p = [] ∧ g = 0 then (out.map sop, (n : Int)) else ((out ++ (keepsO n ++ gapO p g)).map sop, 0) := by
  unfold delta_joiner_gap.out
  rw [st_empty, keeps_out]
  by_cases h : p = [] ∧ g = 0
  · rw [if_pos (by rw [h.1, h.2]; rfl), if_pos h]
  · rw [if_neg h, if_neg ?_]
    · have e2 : (if (0 : Int) < (n : Int) then (0 : Int) else (n : Int)) = 0 := by
        by_cases hn : n = 0
        · rw [hn]; rfl
        · rw [if_pos (by omega)]
      rw [e2]
      unfold gapO
      by_cases hp : p = [] <;> by_cases hg : g = 0
      · exact absurd ⟨hp, hg⟩ h
      · rw [if_pos (by simpa using hp), if_pos (by omega), if_pos hp, if_neg hg]
        simp only [List.append_nil, List.nil_append, List.map_append, List.append_assoc]
        rfl
      · rw [if_neg (by simpa using hp), if_neg (by omega), if_neg hp, if_pos hg]
        simp only [List.append_nil, List.map_append, List.append_assoc]
        rfl
      · rw [if_neg (by simpa using hp), if_pos (by omega), if_neg hp, if_neg hg]
        simp only [List.map_append, List.append_assoc]
        rfl
    · rw [Bool.and_eq_true, decide_eq_true_eq, beq_iff_eq]
      intro hh
      exact h ⟨hh.1, by omega⟩
theorem keepsO_length (n : Nat) : (keepsO n).length ≤ 1 := by unfold keepsO; split <;> simp
theorem gapO_length (p : List Nat) (g : Nat) : (gapO p g).length ≤ 2 := by unfold gapO; split <;> split <;> simp
theorem K_pos (n : Nat) (r : List O) (h : 1 ≤ n) : K n r = consKeep n r := by unfold K; rw [if_neg (by omega)]
theorem normal_loop (os : List O) (hv : V1 os) (hn : os.length ≤ 3000) (hk : base os ≤ 1000) (hq : ∀ p, O.ins p ∈ os → p.length < 1099511627776) : ∀ (r i : Nat) (out : List O) (p : List Nat) (g n : Nat), os.length = i + r → out.length ≤ 3 * i → p.length ≤ 1099511627776 * i → g + base (os.drop i) ≤ 1000 → n + base (os.drop i) ≤ 1000 →
    Ev (fun k => delta_Normal.l0 k (os.map sop) (out.map sop) (st p) (g : Int) (n : Int) (i : Int)) ((out ++ K n (I p (D g (nf (os.drop i))))).map sop, 0)
  | 0, i, out, p, g, n, hi, ho, hp, hg, hm => by
    refine Ev.step (fun k => by simp only [delta_Normal.l0]; rfl) (Ev.pos (by rw [List.length_map]; omega) (Ev.neg (by rw [List.length_map]; omega) ?_))
    rw [List.drop_of_length_le (by omega), show nf [] = [] from rfl, gap_end, gap_out]
    by_cases h : p = [] ∧ g = 0
    · rw [if_pos h, if_pos h]
      refine Ev.val (Ev.now _) ?_
      rw [keeps_out]
    · rw [if_neg h, if_neg h]
      refine Ev.val (Ev.now _) ?_
      have := keeps_out (out ++ (keepsO n ++ gapO p g)) 0
      rw [show ((0 : Nat) : Int) = 0 from rfl] at this
      rw [this]
      simp [keepsO]
  | r + 1, i, out, p, g, n, hi, ho, hp, hg, hm => by
    have hil : i < os.length := by omega
    have ed := List.drop_eq_getElem_cons hil
    have hmem : os[i] ∈ os := List.getElem_mem hil
    have hvi : VO1 os[i] := hv _ hmem
    have w1 := Aside0.mk (Ev.wrap_succ i (by omega))
    have kl := keepsO_length n
    have gl := gapO_length p g
    refine Ev.step (fun k => by simp only [delta_Normal.l0]; rfl) (Ev.pos (by rw [List.length_map]; omega) (Ev.pos (by rw [List.length_map]; omega) (Ev.pos (by omega) ?_)))
    rw [sop_get os i hil, sop_f1, w1.out, ed]
    rw [ed] at hg hm
    show Ev _ ((out ++ K n (I p (D g (cons1 os[i] (nf (os.drop (i + 1))))))).map sop, 0)
    cases he : os[i] with
    | keep a =>
      rw [he] at hvi hg hm
      simp only [VO1] at hvi
      simp only [base] at hg hm
      simp only [sN, sop, cons1]
      refine Ev.pos trivial ?_
      rw [gap_out, gap_keep]
      by_cases h : p = [] ∧ g = 0
      · rw [if_pos h, if_pos h]
        have w2 := Aside0.mk (Ev.wrap_add n a (by omega))
        simp only
        rw [w2.out, ← st_nil]
        have := normal_loop os hv hn hk hq r (i + 1) out [] 0 (n + a) (by omega) (by omega) (by simp) (by omega) (by omega)
        refine Ev.val this ?_
        rw [K_keep]
        unfold I D
        rw [if_pos rfl, if_pos rfl, K_pos _ _ (by omega)]
      · rw [if_neg h, if_neg h]
        have w2 := Aside0.mk (show wrap64 (0 + (a : Int)) = ((0 + a : Nat) : Int) from by rw [Ev.wrap_id _ (by omega) (by omega)]; omega)
        simp only
        rw [w2.out, ← st_nil]
        have := normal_loop os hv hn hk hq r (i + 1) (out ++ (keepsO n ++ gapO p g)) [] 0 (0 + a) (by omega) (by simp only [List.length_append]; omega) (by simp) (by omega) (by omega)
        refine Ev.val this ?_
        unfold I D
        rw [if_pos rfl, if_pos rfl, K_pos _ _ (by omega)]
        simp only [Nat.zero_add, List.append_assoc]
    | del a =>
      rw [he] at hvi hg hm
      simp only [VO1] at hvi
      simp only [base] at hg hm
      simp only [sN, sop, cons1]
      have w2 := Aside0.mk (Ev.wrap_add g a (by omega))
      refine Ev.neg (by decide) (Ev.pos trivial ?_)
      rw [w2.out]
      refine Ev.val (normal_loop os hv hn hk hq r (i + 1) out p (g + a) n (by omega) (by omega) (by omega) (by omega) (by omega)) ?_
      rw [I_D_del _ _ _ _ hvi]
    | ins q =>
      rw [he] at hvi hg hm hmem
      simp only [VO1] at hvi
      simp only [base] at hg hm
      simp only [sN, sop, cons1]
      have hql := hq q hmem
      refine Ev.neg (by decide) (Ev.neg (by decide) (Ev.pos trivial (Ev.pos ?_ ?_)))
      · have h1 := enc_length_le p
        have h2 := enc_length_le q
        rw [st_size, st_size]
        omega
      · rw [← st_append]
        refine Ev.val (normal_loop os hv hn hk hq r (i + 1) out (p ++ q) g n (by omega) (by omega) (by rw [List.length_append]; omega) (by omega) (by omega)) ?_
        rw [I_D_ins _ _ _ _ hvi.1]
/-- The normal form. -/
def normR (d : List S36) : List S36 × Int :=
  if (lensR d).2.2 = 0 then (match parse d with
    | some os => ((nf os).map sop, 0)
    | none => ([], 0)) else ([], (lensR d).2.2)
theorem sz_ins {os : List O} (h : Sz (os.map sop)) : ∀ p, O.ins p ∈ os → p.length < 1099511627776 := by
  intro p hp
  have h1 := h (sop (.ins p)) (List.mem_map.2 ⟨_, hp, rfl⟩)
  have h2 := le_enc_length p
  have h3 : (st p).size < 1099511627776 := h1
  rw [st_size] at h3
  omega
theorem normal_ev (d : List S36) (hd : Sz d) : Ev (fun k => delta_Normal.f k d) (normR d) := by
  unfold delta_Normal.f normR
  refine Ev.bind (check_ev d hd) ?_
  by_cases h0 : (lensR d).2.2 = 0
  · rw [if_pos h0]
    refine Ev.pos h0 ?_
    obtain ⟨os, rfl, hv, hb, ht, hl, he⟩ := lensR_ok h0
    rw [parse_sop hv]
    have := normal_loop os hv.v1 hl hb (sz_ins hd) os.length 0 [] [] 0 0 (by omega) (by simp) (by simp) (by simpa using hb) (by simpa using hb)
    rw [st_nil] at this
    simpa [K, I, D] using this
  · rw [if_neg h0]
    exact Ev.neg h0 (Ev.now _)
theorem normR_ok {os : List O} (hv : V os) (hl : os.length ≤ 3000) (hb : base os ≤ 1000) (ht : targ os ≤ 1000) : normR (os.map sop) = ((nf os).map sop, 0) := by
  unfold normR
  rw [lensR_sop hv hl hb ht, if_pos rfl, parse_sop hv]
theorem applyR_ok {os : List O} (hv : V os) (hl : os.length ≤ 3000) (hb : base os ≤ 1000) (ht : targ os ≤ 1000) {s : ByteArray} {l : List Nat} (hs : dec s.data.toList = some l) (hn : base os = l.length) : applyR s (os.map sop) = (st (app os l), 0) := by
  unfold applyR
  rw [hs]
  simp only
  rw [lensR_sop hv hl hb ht, if_pos rfl, if_pos (by rw [hn]), parse_sop hv]

/-! ### the answers that the document gives -/
theorem live_ev : Ev (fun k => oxbowlaw09_live.f k) true := Ev.of (fun k => oxbowlaw09_live.mono k) (k := 60) (by decide +kernel)
/-- Of arguments that are small altogether. -/
theorem sz_of {d : List S36} {n : Nat} (h : n + ((d.map fun y => ((1 + (1 + (y.f2.size + 1))) + 1)).sum + 1) ≤ 1048576) : Sz d ∧ d.length ≤ 1048576 := by
  have H : ∀ (d : List S36) (m : Nat), (d.map fun y => ((1 + (1 + (y.f2.size + 1))) + 1)).sum ≤ m → d.length ≤ m ∧ ∀ x ∈ d, x.f2.size ≤ m := by
    intro d
    induction d with
    | nil => intro m _; exact ⟨Nat.zero_le _, fun x hx => by cases hx⟩
    | cons y d ih =>
      intro m hm
      simp only [List.map_cons, List.sum_cons] at hm
      obtain ⟨h1, h2⟩ := ih (m - 1) (by omega)
      refine ⟨by simp only [List.length_cons]; omega, fun x hx => ?_⟩
      rcases List.mem_cons.1 hx with rfl | hx
      · omega
      · have := h2 x hx; omega
  obtain ⟨h1, h2⟩ := H d 1048576 (by omega)
  exact ⟨fun x hx => by have := h2 x hx; omega, h1⟩
end Go.Proofs.Ytdpbkomaiafemaa.Dddn
