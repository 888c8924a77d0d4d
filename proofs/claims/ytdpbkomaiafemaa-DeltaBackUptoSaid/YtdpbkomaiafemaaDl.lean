/- Plain laws of deltas: what they keep, delete and put in, their normal form. No program stands here. -/
import Derived.Test.YtdpbkomaiafemaaTx
set_option linter.unusedVariables false
set_option linter.unusedSimpArgs false
namespace Go.Proofs.Ytdpbkomaiafemaa.Dl
open Go.Proofs.Ytdpbkomaiafemaa.Tx

inductive O where
  | keep (n : Nat) : O
  | del (n : Nat) : O
  | ins (p : List Nat) : O
def base : List O → Nat
  | [] => 0
  | .keep n :: d => n + base d
  | .del n :: d => n + base d
  | .ins _ :: d => base d
def targ : List O → Nat
  | [] => 0
  | .keep n :: d => n + targ d
  | .del _ :: d => targ d
  | .ins p :: d => p.length + targ d
/-- What a delta makes of code points. -/
def app : List O → List Nat → List Nat
  | [], _ => []
  | .keep n :: d, l => l.take n ++ app d (l.drop n)
  | .del n :: d, l => app d (l.drop n)
  | .ins p :: d, l => p ++ app d l
theorem base_append (a b : List O) : base (a ++ b) = base a + base b := by
  induction a with
  | nil => simp [base]
  | cons x a ih => cases x <;> simp only [List.cons_append, base, ih] <;> omega
theorem targ_append (a b : List O) : targ (a ++ b) = targ a + targ b := by
  induction a with
  | nil => simp [targ]
  | cons x a ih => cases x <;> simp only [List.cons_append, targ, ih] <;> omega
theorem app_length : ∀ (d : List O) (l : List Nat), base d ≤ l.length → (app d l).length = targ d
  | [], _, _ => rfl
  | .keep n :: d, l, h => by
    simp only [base] at h
    simp only [app, targ, List.length_append, List.length_take]
    rw [app_length d _ (by rw [List.length_drop]; omega)]
    omega
  | .del n :: d, l, h => by
    simp only [base] at h
    simp only [app, targ]
    exact app_length d _ (by rw [List.length_drop]; omega)
  | .ins p :: d, l, h => by
    simp only [base] at h
    simp only [app, targ, List.length_append]
    rw [app_length d l h]
/-- An operation that may be. -/
def VO : O → Prop
  | .keep n => 1 ≤ n ∧ n ≤ 1000
  | .del n => 1 ≤ n ∧ n ≤ 1000
  | .ins p => p ≠ [] ∧ AllP p
def V (d : List O) : Prop := ∀ o ∈ d, VO o
theorem V.tail {o : O} {d : List O} (h : V (o :: d)) : V d := fun x hx => h x (by simp [hx])
theorem V.head {o : O} {d : List O} (h : V (o :: d)) : VO o := h o (by simp)
theorem V.append {a b : List O} (ha : V a) (hb : V b) : V (a ++ b) := fun x hx => (List.mem_append.1 hx).elim (ha x) (hb x)
theorem app_allP : ∀ (d : List O) (l : List Nat), V d → AllP l → AllP (app d l)
  | [], _, _, _ => fun p hp => by cases hp
  | .keep n :: d, l, hv, h => (h.take n).append (app_allP d _ hv.tail (h.drop n))
  | .del n :: d, l, hv, h => app_allP d _ hv.tail (h.drop n)
  | .ins p :: d, l, hv, h => AllP.append hv.head.2 (app_allP d l hv.tail h)

/-! ### the normal form -/
def consIns (p : List Nat) : List O → List O
  | .ins q :: r => .ins (p ++ q) :: r
  | r => .ins p :: r
def consDelR (n : Nat) : List O → List O
  | .del m :: r => .del (n + m) :: r
  | r => .del n :: r
def consDel (n : Nat) : List O → List O
  | .ins q :: r => .ins q :: consDelR n r
  | r => consDelR n r
def consKeep (n : Nat) : List O → List O
  | .keep m :: r => .keep (n + m) :: r
  | r => .keep n :: r
def cons1 : O → List O → List O
  | .keep n, r => consKeep n r
  | .del n, r => consDel n r
  | .ins p, r => consIns p r
def nf : List O → List O
  | [] => []
  | o :: d => cons1 o (nf d)
theorem consIns_ne (p : List Nat) (r : List O) (h : ∀ q r', r ≠ .ins q :: r') : consIns p r = .ins p :: r := by
  match r with
  | [] => rfl
  | .keep n :: r => rfl
  | .del n :: r => rfl
  | .ins q :: r => exact absurd rfl (h q r)
theorem consKeep_ne (n : Nat) (r : List O) (h : ∀ m r', r ≠ .keep m :: r') : consKeep n r = .keep n :: r := by
  match r with
  | [] => rfl
  | .keep m :: r => exact absurd rfl (h m r)
  | .del n :: r => rfl
  | .ins q :: r => rfl
theorem consIns_ins (p q : List Nat) (r : List O) : consIns p (consIns q r) = consIns (p ++ q) r := by
  match r with
  | [] => rfl
  | .keep n :: r => rfl
  | .del n :: r => rfl
  | .ins s :: r => simp [consIns]
theorem consKeep_keep (n m : Nat) (r : List O) : consKeep n (consKeep m r) = consKeep (n + m) r := by
  match r with
  | [] => rfl
  | .keep a :: r => simp [consKeep, Nat.add_assoc]
  | .del a :: r => rfl
  | .ins s :: r => rfl
theorem consDelR_del (n m : Nat) (r : List O) : consDelR n (consDelR m r) = consDelR (n + m) r := by
  match r with
  | [] => rfl
  | .keep a :: r => rfl
  | .del a :: r => simp [consDelR, Nat.add_assoc]
  | .ins s :: r => rfl
theorem consDelR_ne_ins (n : Nat) (r : List O) : ∀ q r', consDelR n r ≠ .ins q :: r' := by
  intro q r' h
  match r, h with
  | [], h => cases h
  | .keep a :: r, h => cases h
  | .del a :: r, h => cases h
  | .ins s :: r, h => cases h
theorem consDel_ne (n : Nat) (r : List O) (h : ∀ q r', r ≠ .ins q :: r') : consDel n r = consDelR n r := by
  match r with
  | [] => rfl
  | .keep m :: r => rfl
  | .del n :: r => rfl
  | .ins q :: r => exact absurd rfl (h q r)
theorem consDel_del (n m : Nat) (r : List O) : consDel n (consDel m r) = consDel (n + m) r := by
  match r with
  | .ins s :: r => simp only [consDel, consDelR_del]
  | [] => rfl
  | .keep a :: r => rfl
  | .del a :: r => exact consDelR_del n m (.del a :: r)
theorem consDel_ins (n : Nat) (p : List Nat) (r : List O) : consDel n (consIns p r) = consIns p (consDel n r) := by
  match r with
  | .ins s :: r => rfl
  | [] => rfl
  | .keep a :: r => rfl
  | .del a :: r => rfl
theorem nf_consKeep (n : Nat) (r : List O) : nf (consKeep n r) = consKeep n (nf r) := by
  match r with
  | .keep m :: r => exact (consKeep_keep n m (nf r)).symm
  | [] => rfl
  | .del a :: r => rfl
  | .ins s :: r => rfl
theorem nf_consIns (p : List Nat) (r : List O) : nf (consIns p r) = consIns p (nf r) := by
  match r with
  | .ins m :: r => exact (consIns_ins p m (nf r)).symm
  | [] => rfl
  | .del a :: r => rfl
  | .keep s :: r => rfl
theorem nf_consDelR (n : Nat) (r : List O) : nf (consDelR n r) = consDel n (nf r) := by
  match r with
  | .del m :: r => exact (consDel_del n m (nf r)).symm
  | [] => rfl
  | .ins a :: r => rfl
  | .keep s :: r => rfl
theorem nf_consDel (n : Nat) (r : List O) : nf (consDel n r) = consDel n (nf r) := by
  match r with
  | .ins q :: r =>
    show consIns q (nf (consDelR n r)) = consDel n (consIns q (nf r))
    rw [nf_consDelR, consDel_ins]
  | [] => rfl
  | .del a :: r => exact nf_consDelR n (.del a :: r)
  | .keep s :: r => rfl
theorem nf_cons1 (o : O) (r : List O) : nf (cons1 o r) = cons1 o (nf r) := by
  cases o with
  | keep n => exact nf_consKeep n r
  | del n => exact nf_consDel n r
  | ins p => exact nf_consIns p r
theorem nf_nf (d : List O) : nf (nf d) = nf d := by
  induction d with
  | nil => rfl
  | cons o d ih =>
    show nf (cons1 o (nf d)) = cons1 o (nf d)
    rw [nf_cons1, ih]
theorem base_cons1 (o : O) (r : List O) : base (cons1 o r) = base (o :: r) := by
  cases o with
  | keep n => match r with
    | .keep m :: r => simp only [cons1, consKeep, base]; omega
    | [] => rfl
    | .del a :: r => rfl
    | .ins s :: r => rfl
  | ins p => match r with
    | .ins m :: r => simp only [cons1, consIns, base]
    | [] => rfl
    | .del a :: r => rfl
    | .keep s :: r => rfl
  | del n =>
    have hR : ∀ r, base (consDelR n r) = n + base r := by
      intro r
      match r with
      | .del m :: r => simp only [consDelR, base]; omega
      | [] => rfl
      | .keep a :: r => rfl
      | .ins s :: r => rfl
    match r with
    | .ins q :: r => simp only [cons1, consDel, base, hR]
    | [] => rfl
    | .del a :: r => exact hR (.del a :: r)
    | .keep s :: r => rfl
theorem targ_cons1 (o : O) (r : List O) : targ (cons1 o r) = targ (o :: r) := by
  cases o with
  | keep n => match r with
    | .keep m :: r => simp only [cons1, consKeep, targ]; omega
    | [] => rfl
    | .del a :: r => rfl
    | .ins s :: r => rfl
  | ins p => match r with
    | .ins m :: r => simp only [cons1, consIns, targ, List.length_append]; omega
    | [] => rfl
    | .del a :: r => rfl
    | .keep s :: r => rfl
  | del n =>
    have hR : ∀ r, targ (consDelR n r) = targ r := by
      intro r
      match r with
      | .del m :: r => simp only [consDelR, targ]
      | [] => rfl
      | .keep a :: r => rfl
      | .ins s :: r => rfl
    match r with
    | .ins q :: r => simp only [cons1, consDel, targ, hR]
    | [] => rfl
    | .del a :: r => exact hR (.del a :: r)
    | .keep s :: r => rfl
theorem app_cons1 (o : O) (r : List O) (l : List Nat) : app (cons1 o r) l = app (o :: r) l := by
  cases o with
  | keep n => match r with
    | .keep m :: r =>
      simp only [cons1, consKeep, app, List.drop_drop]
      rw [List.take_add, List.append_assoc]
    | [] => rfl
    | .del a :: r => rfl
    | .ins s :: r => rfl
  | ins p => match r with
    | .ins m :: r => simp only [cons1, consIns, app, List.append_assoc]
    | [] => rfl
    | .del a :: r => rfl
    | .keep s :: r => rfl
  | del n =>
    have hR : ∀ r, app (consDelR n r) l = app r (l.drop n) := by
      intro r
      match r with
      | .del m :: r => simp only [consDelR, app, List.drop_drop]
      | [] => rfl
      | .keep a :: r => rfl
      | .ins s :: r => rfl
    match r with
    | .ins q :: r => simp only [cons1, consDel, app, hR]
    | [] => rfl
    | .del a :: r => exact hR (.del a :: r)
    | .keep s :: r => rfl
theorem base_nf (d : List O) : base (nf d) = base d := by
  induction d with
  | nil => rfl
  | cons o d ih =>
    show base (cons1 o (nf d)) = _
    rw [base_cons1]
    cases o <;> simp only [base, ih]
theorem targ_nf (d : List O) : targ (nf d) = targ d := by
  induction d with
  | nil => rfl
  | cons o d ih =>
    show targ (cons1 o (nf d)) = _
    rw [targ_cons1]
    cases o <;> simp only [targ, ih]
theorem app_nf (d : List O) : ∀ l, app (nf d) l = app d l := by
  induction d with
  | nil => intro l; rfl
  | cons o d ih =>
    intro l
    show app (cons1 o (nf d)) l = _
    rw [app_cons1]
    cases o <;> simp only [app, ih]
theorem length_cons1 (o : O) (r : List O) : (cons1 o r).length ≤ r.length + 1 := by
  cases o with
  | keep n => match r with
    | .keep m :: r => simp [cons1, consKeep]
    | [] => simp [cons1, consKeep]
    | .del a :: r => simp [cons1, consKeep]
    | .ins s :: r => simp [cons1, consKeep]
  | ins p => match r with
    | .ins m :: r => simp [cons1, consIns]
    | [] => simp [cons1, consIns]
    | .del a :: r => simp [cons1, consIns]
    | .keep s :: r => simp [cons1, consIns]
  | del n =>
    have hR : ∀ r, (consDelR n r).length ≤ r.length + 1 := by
      intro r
      match r with
      | .del m :: r => simp [consDelR]
      | [] => simp [consDelR]
      | .keep a :: r => simp [consDelR]
      | .ins s :: r => simp [consDelR]
    match r with
    | .ins q :: r => simp only [cons1, consDel, List.length_cons]; have := hR r; omega
    | [] => simp [cons1, consDel, consDelR]
    | .del a :: r => exact hR (.del a :: r)
    | .keep s :: r => simp [cons1, consDel, consDelR]
theorem length_nf (d : List O) : (nf d).length ≤ d.length := by
  induction d with
  | nil => exact Nat.le_refl _
  | cons o d ih =>
    have := length_cons1 o (nf d)
    show (cons1 o (nf d)).length ≤ d.length + 1
    omega
/-- An operation but for its greatest number. -/
def VO1 : O → Prop
  | .keep n => 1 ≤ n
  | .del n => 1 ≤ n
  | .ins p => p ≠ [] ∧ AllP p
def V1 (d : List O) : Prop := ∀ o ∈ d, VO1 o
theorem V1.tail {o : O} {d : List O} (h : V1 (o :: d)) : V1 d := fun x hx => h x (by simp [hx])
theorem V1.head {o : O} {d : List O} (h : V1 (o :: d)) : VO1 o := h o (by simp)
theorem V1.cons {o : O} {d : List O} (h : VO1 o) (hd : V1 d) : V1 (o :: d) := fun x hx => by
  rcases List.mem_cons.1 hx with rfl | hx
  · exact h
  · exact hd x hx
theorem V.v1 {d : List O} (h : V d) : V1 d := fun o ho => by
  have := h o ho
  cases o with
  | keep n => exact this.1
  | del n => exact this.1
  | ins p => exact this
theorem V1.cons1 {o : O} {d : List O} (h : VO1 o) (hd : V1 d) : V1 (cons1 o d) := by
  cases o with
  | keep n => match d, hd with
    | .keep m :: r, hd => exact V1.cons (Nat.le_trans h (Nat.le_add_right _ _)) hd.tail
    | [], hd => exact V1.cons h hd
    | .del a :: r, hd => exact V1.cons h hd
    | .ins s :: r, hd => exact V1.cons h hd
  | ins p => match d, hd with
    | .ins m :: r, hd => exact V1.cons ⟨fun e => h.1 (List.append_eq_nil_iff.1 e).1, AllP.append h.2 hd.head.2⟩ hd.tail
    | [], hd => exact V1.cons h hd
    | .del a :: r, hd => exact V1.cons h hd
    | .keep s :: r, hd => exact V1.cons h hd
  | del n =>
    have hR : ∀ r, V1 r → V1 (consDelR n r) := by
      intro r hd
      match r, hd with
      | .del m :: r, hd => exact V1.cons (Nat.le_trans h (Nat.le_add_right _ _)) hd.tail
      | [], hd => exact V1.cons h hd
      | .keep a :: r, hd => exact V1.cons h hd
      | .ins s :: r, hd => exact V1.cons h hd
    match d, hd with
    | .ins q :: r, hd => exact V1.cons hd.head (hR r hd.tail)
    | [], hd => exact hR _ hd
    | .del a :: r, hd => exact hR _ hd
    | .keep s :: r, hd => exact hR _ hd
theorem V1.nf {d : List O} (h : V1 d) : V1 (nf d) := by
  induction d with
  | nil => exact fun x hx => by cases hx
  | cons o d ih => exact V1.cons1 h.head (ih h.tail)
theorem V1.v : ∀ {d : List O}, V1 d → base d ≤ 1000 → V d
  | [], _, _ => fun x hx => by cases hx
  | o :: d, h, hb => fun x hx => by
    rcases List.mem_cons.1 hx with rfl | hx
    · have h1 := h.head
      cases x with
      | keep n => exact ⟨h1, by simp only [base] at hb; omega⟩
      | del n => exact ⟨h1, by simp only [base] at hb; omega⟩
      | ins p => exact h1
    · exact V1.v h.tail (by cases o <;> simp only [base] at hb <;> omega) x hx
theorem V.nf {d : List O} (h : V d) (hb : base d ≤ 1000) : V (nf d) := h.v1.nf.v (by rw [base_nf]; exact hb)

/-! ### the joiner: operations that stand, what is put in and deleted behind them, what is kept ahead of that -/
def K (n : Nat) (r : List O) : List O := if n = 0 then r else consKeep n r
def I (p : List Nat) (r : List O) : List O := if p = [] then r else consIns p r
def D (n : Nat) (r : List O) : List O := if n = 0 then r else consDel n r
theorem K_keep (n m : Nat) (r : List O) : K n (consKeep m r) = consKeep (n + m) r := by
  unfold K
  split
  · rename_i h; rw [h, Nat.zero_add]
  · exact consKeep_keep n m r
theorem D_del (n m : Nat) (r : List O) : D n (consDel m r) = consDel (n + m) r := by
  unfold D
  split
  · rename_i h; rw [h, Nat.zero_add]
  · exact consDel_del n m r
theorem I_ins (p q : List Nat) (r : List O) : I p (consIns q r) = consIns (p ++ q) r := by
  unfold I
  split
  · rename_i h; rw [h, List.nil_append]
  · exact consIns_ins p q r
theorem D_ins (n : Nat) (p : List Nat) (r : List O) : D n (consIns p r) = consIns p (D n r) := by
  unfold D
  split
  · rfl
  · exact consDel_ins n p r
theorem I_D_ins (p q : List Nat) (n : Nat) (r : List O) (hq : q ≠ []) : I p (D n (consIns q r)) = I (p ++ q) (D n r) := by
  rw [D_ins, I_ins]
  unfold I
  rw [if_neg (by simp [hq])]
theorem I_D_del (p : List Nat) (n m : Nat) (r : List O) (hm : 1 ≤ m) : I p (D n (consDel m r)) = I p (D (n + m) r) := by
  rw [D_del n m r]
  unfold D
  rw [if_neg (by omega)]
/-- The keep that stands ahead, as operations. -/
def keepsO (n : Nat) : List O := if n = 0 then [] else [.keep n]
/-- A gap: what is put in and deleted, as operations. -/
def gapO (p : List Nat) (g : Nat) : List O := (if p = [] then [] else [.ins p]) ++ (if g = 0 then [] else [.del g])
/-- A gap that is not empty, ahead of a keep or of the end, stands for itself. -/
theorem gap_end (p : List Nat) (g n : Nat) : K n (I p (D g [])) = if p = [] ∧ g = 0 then keepsO n else keepsO n ++ gapO p g := by
  unfold K I D keepsO gapO
  by_cases hp : p = [] <;> by_cases hg : g = 0 <;> by_cases hn : n = 0 <;> simp [hp, hg, hn, consIns, consDel, consDelR, consKeep]
theorem gap_keep (p : List Nat) (g n m : Nat) (r : List O) : K n (I p (D g (consKeep m r))) = if p = [] ∧ g = 0 then K n (consKeep m r) else keepsO n ++ (gapO p g ++ consKeep m r) := by
  have hc : ∃ a r', consKeep m r = .keep a :: r' := by
    match r with
    | .keep a :: r => exact ⟨_, _, rfl⟩
    | [] => exact ⟨_, _, rfl⟩
    | .del a :: r => exact ⟨_, _, rfl⟩
    | .ins a :: r => exact ⟨_, _, rfl⟩
  obtain ⟨a, r', hc⟩ := hc
  rw [hc]
  unfold K I D keepsO gapO
  by_cases hp : p = [] <;> by_cases hg : g = 0 <;> by_cases hn : n = 0 <;> simp [hp, hg, hn, consIns, consDel, consDelR, consKeep]
end Go.Proofs.Ytdpbkomaiafemaa.Dl
