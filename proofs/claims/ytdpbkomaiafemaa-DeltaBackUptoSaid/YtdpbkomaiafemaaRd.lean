/- How Go's data read: of each kind of value the words that the walks use ('Kd'), out of the form's own reading, with the bounds that the form gives. Laws over any program. -/
import Derived.Test.YtdpbkomaiafemaaRows
import Derived.Test.YtdpbkomaiafemaaWWords
import Derived.Test.YtdpbkomaiafemaaWKept
import Derived.Deep.Slices
import Derived.ChangeArms
import Derived.DataReads
import Derived.SizedLaws
namespace Go.Proofs.Ytdpbkomaiafemaa.Rd
open Go.RowKit Go.Proofs.YtdpbkomaiafemaaW.PrintWords

/-- What reads as a value of this type is of this kind, within the form's reach. -/
def Rd (P : Program) (t : TypeId) {α : Type} (d : Kd α) (ok : α → Prop) (bk : α → Nat) : Prop :=
  ∀ (H : Type) (enc : TypeId × Value → H) (w : World) (base : Nat) (spare : Nat → Bool) (held : Bool) (fuel : Nat) (cs : List Value) (x : DataW H × List MemPlace),
    DataW.trod enc P w base spare held fuel t cs = some x → (∀ n ∈ x.1.weights P t, n ≤ reachBytes) → ∃ y : α, d.K w y cs ∧ ok y ∧ bk y ≤ Rows.uptoBulk x.1

variable {P : Program} {t : TypeId}

theorem int {k : IntKind} (hu : P.underlying t = some (.int k)) : Rd P t (Kd.int k) (fun y => (Lit.int k y).wf = true) (fun _ => 1) := by
  intro H enc w base spare held fuel cs x h _
  cases fuel with
  | zero => simp [DataW.trod] at h
  | succ n =>
    unfold DataW.trod at h
    rw [hu] at h
    split at h
    all_goals first | (simp at h; done) | skip
    all_goals first | (exfalso; simp_all; done) | skip
    rename_i k1 n1 k2 n2 he
    simp only [Option.ite_none_right_eq_some, Option.some.injEq] at h
    obtain ⟨⟨hk, hw⟩, rfl⟩ := h
    injection he with he
    injection he with he
    subst he
    subst hk
    exact ⟨_, rfl, hw, by simp [Rows.uptoBulk]⟩
theorem bool (hu : P.underlying t = some .bool) : Rd P t Kd.bool (fun _ => True) (fun _ => 1) := by
  intro H enc w base spare held fuel cs x h _
  cases fuel with
  | zero => simp [DataW.trod] at h
  | succ n =>
    unfold DataW.trod at h
    rw [hu] at h
    split at h
    all_goals first | (simp at h; done) | skip
    all_goals first | (exfalso; simp_all; done) | skip
    simp only [Option.some.injEq] at h
    subst h
    exact ⟨_, rfl, trivial, by simp [Rows.uptoBulk]⟩
theorem string (hu : P.underlying t = some .string) : Rd P t Kd.string (fun s => s.size ≤ 140737488351232) (fun s => s.size + 1) := by
  intro H enc w base spare held fuel cs x h hw
  cases fuel with
  | zero => simp [DataW.trod] at h
  | succ n =>
    unfold DataW.trod at h
    rw [hu] at h
    split at h
    all_goals first | (simp at h; done) | skip
    all_goals first | (exfalso; simp_all; done) | skip
    simp only [Option.ite_none_right_eq_some, Option.some.injEq] at h
    obtain ⟨_, rfl⟩ := h
    simp [DataW.weights] at hw
    exact ⟨_, rfl, hw, by simp [Rows.uptoBulk]⟩
theorem weights_all {H : Type} {e : TypeId} : ∀ {l : List (DataW H)} {d : DataW H}, d ∈ l → ∀ n ∈ d.weights P e, n ∈ DataW.weightsAll P e l
  | a :: l, d, hd, n, hn => by
    simp only [DataW.weightsAll, List.mem_append]
    rcases List.mem_cons.1 hd with rfl | hd
    · exact .inl hn
    · exact .inr (weights_all hd n hn)
theorem sum_le {H : Type} {D : Nat → DataW H} {f : Nat → Nat} : ∀ (l : List Nat), (∀ i ∈ l, f i ≤ Rows.uptoBulk (D i)) → (l.map f).sum ≤ Rows.uptoBulkAll (l.map D)
  | [], _ => by simp [Rows.uptoBulkAll]
  | a :: l, h => by
    have h1 := h a (by simp)
    have h2 := sum_le l (fun i hi => h i (by simp [hi]))
    simp only [List.map_cons, List.sum_cons, Rows.uptoBulkAll]
    omega
theorem slice {e : TypeId} {α : Type} [Inhabited α] {d : Kd α} {ok : α → Prop} {bk : α → Nat} {B : Nat} (hu : P.underlying t = some (.slice e)) (hc : P.cellsOf e = d.sz) (hB : P.bytesOf e = B) (hr : Rd P e d ok bk) :
    Rd P t (Kd.slice e d) (fun xs => xs.length * B ≤ 140737488351232 ∧ xs.length ≤ maxLen ∧ ∀ y ∈ xs, ok y) (fun xs => (xs.map bk).sum + 1) := by
  intro H enc w base spare held fuel cs x h hw
  rcases Deep.open_slice hu h with ⟨rfl, rfl⟩ | ⟨a, len, cap, m, n, D, Pl, rfl, hb, hl, hm, hmm, rfl, hx⟩
  · exact ⟨[], ⟨none, 0, rfl, Nat.le_refl _, Kd.C_nil _ _⟩, by simp, by simp [Rows.uptoBulk]⟩
  · simp only [DataW.weights, hu] at hw
    have h1 := hw _ (List.mem_cons_self ..)
    simp only [List.length_map, List.length_range, hB] at h1
    have hlm : len ≤ m := by rw [hmm]; split <;> omega
    have hel : ∀ i, i < len → ∃ y : α, ∃ cs', (d.K w y cs' ∧ ok y ∧ bk y ≤ Rows.uptoBulk (D i)) ∧ w.cells? base (a.add (i * P.cellsOf e)) (P.cellsOf e) = some cs' := by
      intro i hi
      obtain ⟨cs', h2, h3⟩ := hx i (by omega)
      obtain ⟨y, hy⟩ := hr H enc w base spare held n cs' _ h3 (fun q hq => hw q (List.mem_cons_of_mem _ (List.mem_append_left _ (weights_all (List.mem_map.2 ⟨i, List.mem_range.2 hi, rfl⟩) q hq))))
      exact ⟨y, cs', hy, h2⟩
    obtain ⟨Y, hY⟩ := Deep.choose_lt hel
    refine ⟨(List.range len).map Y, ⟨some a, cap, by simp, by simpa using hl, ?_⟩, ⟨?_, ?_, ?_⟩, ?_⟩
    · refine ⟨rfl, by simp only [List.length_map, List.length_range]; unfold maxLen at hm; omega, fun _ => ⟨a, rfl, fun j p hj => ?_⟩⟩
      have hjl : j < len := by simpa using (List.getElem?_eq_some_iff.1 hj).1
      obtain ⟨cs', ⟨hK, _, _⟩, hcs⟩ := hY j hjl
      have hp : p = Y j := by
        rw [List.getElem?_map, List.getElem?_range hjl] at hj
        exact (Option.some.inj hj).symm
      subst hp
      refine ⟨cs', d.K_len hK, hK, fun i u hu' => ?_⟩
      obtain ⟨_, hlen, hcell⟩ := World.cells?_some hcs
      have hil : i < cs'.length := (List.getElem?_eq_some_iff.1 hu').1
      rw [hc] at hcs hcell hlen
      have h5 := hcell i (by rw [← hlen]; exact hil)
      rw [← Deep.add_add, h5, hu']
    · simp only [List.length_map, List.length_range]
      have : len * B ≤ (len + (m - len)) * B := Nat.mul_le_mul_right _ (by omega)
      unfold reachBytes at h1
      omega
    · simp only [List.length_map, List.length_range]; omega
    · intro y hy
      obtain ⟨i, hi, rfl⟩ := List.mem_map.1 hy
      obtain ⟨_, ⟨_, hok, _⟩, _⟩ := hY i (List.mem_range.1 hi)
      exact hok
    · simp only [Rows.uptoBulk]
      have : ((List.range len).map Y |>.map bk).sum ≤ Rows.uptoBulkAll ((List.range len).map D) := by
        rw [List.map_map]
        exact sum_le (List.range len) (fun i hi => by
          obtain ⟨_, ⟨_, _, hb⟩, _⟩ := hY i (List.mem_range.1 hi)
          exact hb)
      omega
/-- A struct's fields from one on, as they lie in its cells. -/
def RdF (P : Program) (fs : List Field) (o : Nat) {α : Type} (d : Kd α) (ok : α → Prop) (bk : α → Nat) : Prop :=
  ∀ (H : Type) (enc : TypeId × Value → H) (w : World) (base : Nat) (spare : Nat → Bool) (held : Bool) (fuel : Nat) (cs : List Value) (xs : List (DataW H × List MemPlace)),
    cs.length = o + d.sz → xs.length = fs.length → (∀ (i : Nat) (f : Field), fs[i]? = some f → DataW.trod enc P w base spare held fuel f.type ((cs.drop f.offset).take (P.cellsOf f.type)) = xs[i]?) →
    (∀ n ∈ DataW.weightsEach P (fs.map (·.type)) (xs.map (·.1)), n ≤ reachBytes) → ∃ y : α, d.K w y (cs.drop o) ∧ ok y ∧ bk y ≤ Rows.uptoBulkAll (xs.map (·.1))
theorem last {f : Field} {o : Nat} {α : Type} {d : Kd α} {ok : α → Prop} {bk : α → Nat} (ho : f.offset = o) (hc : P.cellsOf f.type = d.sz) (hr : Rd P f.type d ok bk) : RdF P [f] o d ok bk := by
  intro H enc w base spare held fuel cs xs hl hx h hw
  have h0 := h 0 f rfl
  match xs, hx with
  | [x], _ =>
    simp only [List.getElem?_cons_zero] at h0
    rw [ho, hc, List.take_of_length_le (by simp; omega)] at h0
    obtain ⟨y, h1, h2, h3⟩ := hr H enc w base spare held fuel _ x h0 (fun n hn => hw n (by simp [DataW.weightsEach, hn]))
    exact ⟨y, h1, h2, by simp [Rows.uptoBulkAll]; exact h3⟩
theorem next {f : Field} {fs : List Field} {o o' : Nat} {α β : Type} {d : Kd α} {d' : Kd β} {ok : α → Prop} {ok' : β → Prop} {bk : α → Nat} {bk' : β → Nat} (ho : f.offset = o) (hc : P.cellsOf f.type = d.sz) (he : o' = o + d.sz) (hr : Rd P f.type d ok bk) (hs : RdF P fs o' d' ok' bk') :
    RdF P (f :: fs) o (Kd.pair d d') (fun y => ok y.1 ∧ ok' y.2) (fun y => bk y.1 + bk' y.2) := by
  intro H enc w base spare held fuel cs xs hl hx h hw
  have h0 := h 0 f rfl
  match xs, hx with
  | x :: xs, hx =>
    simp only [List.getElem?_cons_zero] at h0
    have hsz : (Kd.pair d d').sz = d.sz + d'.sz := rfl
    rw [ho, hc] at h0
    obtain ⟨y, hy, hok, hbk⟩ := hr H enc w base spare held fuel _ x h0 (fun n hn => hw n (by simp [DataW.weightsEach, hn]))
    obtain ⟨z, hz, hok', hbk'⟩ := hs H enc w base spare held fuel cs xs (by omega) (by simpa using hx) (fun i f hi => by simpa using h (i + 1) f (by simpa using hi)) (fun n hn => hw n (by simp [DataW.weightsEach, hn]))
    refine ⟨(y, z), ⟨(cs.drop o).take d.sz, cs.drop o', ?_, hy, hz⟩, ⟨hok, hok'⟩, by simp only [List.map_cons, Rows.uptoBulkAll]; omega⟩
    rw [he, ← List.drop_drop]
    exact (List.take_append_drop _ _).symm
theorem struct {fs : Array Field} {α β : Type} {d : Kd α} {ok : α → Prop} {bk : α → Nat} (g : β → α) (mk : α → β) (hg : ∀ a, g (mk a) = a) (hu : P.underlying t = some (.struct fs)) (hc : P.cellsOf t = d.sz) (hr : RdF P fs.toList 0 d ok bk) :
    Rd P t (Kd.iso d g) (fun y => ok (g y)) (fun y => bk (g y) + 1) := by
  intro H enc w base spare held fuel cs x h hw
  obtain ⟨xs, n, _, rfl, hl, hlen, hf⟩ := DataW.trod_struct hu h
  simp only [DataW.weights, hu] at hw
  obtain ⟨y, hy, hok, hbk⟩ := hr H enc w base spare held n cs xs (by omega) (by simpa using hlen) (fun i f hi => hf i f (by simpa using hi)) hw
  exact ⟨mk y, by show d.K w (g (mk y)) cs; rw [hg]; simpa using hy, by show ok (g (mk y)); rw [hg]; exact hok, by show bk (g (mk y)) + 1 ≤ _; rw [hg]; simp only [Rows.uptoBulk]; omega⟩
/-- An argument: its weights are among all. -/
theorem arg {H : Type} {enc : TypeId × Value → H} {w : World} {base : Nat} {spare : Nat → Bool} {held : Bool} {ts : List TypeId} {ds : List (DataW H)} {j : Nat} {v : Value} {dd : DataW H} {ps : List MemPlace} {α : Type} {d : Kd α} {ok : α → Prop} {bk : α → Nat}
    (hr : Rd P t d ok bk) (hsz : (DataW.weightsEach P ts ds).all (· ≤ reachBytes) = true) (ht : ts[j]? = some t) (hd : ds[j]? = some dd) (h : DataW.Trod enc P w base spare held t v dd ps) : ∃ y : α, d.K w y v.cells.toList ∧ ok y ∧ bk y ≤ Rows.uptoBulk dd := by
  obtain ⟨fuel, hf⟩ := h
  exact hr H enc w base spare held fuel _ _ hf (fun n hn => by simpa using List.all_eq_true.1 hsz n (DataW.weights_mem_each ht hd n hn))
end Go.Proofs.Ytdpbkomaiafemaa.Rd
