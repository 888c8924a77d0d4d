/- What the program's and the document's reading and writing of texts comes to, in plain words. -/
import Derived.Test.YtdpbkomaiafemaaHDdx4
import Derived.Test.YtdpbkomaiafemaaHDdx2
import Derived.Test.YtdpbkomaiafemaaHDdx8
import Derived.Test.YtdpbkomaiafemaaEv
import Derived.Test.YtdpbkomaiafemaaTx
namespace Go.Proofs.Ytdpbkomaiafemaa.Ddtx
open Go.RowKit Go.Proofs.Ytdpbkomaiafemaa.HDd Go.Proofs.Ytdpbkomaiafemaa.Tx Go.Proofs.YtdpbkomaiafemaaW.PrintWords Go.Proofs.YtdpbkomaiafemaaW.PrintLast Go.Proofs.YtdpbkomaiafemaaW.PrintMore
set_option linter.unusedSimpArgs false
set_option linter.unusedVariables false

/-- Numbers as Go's. -/
def zs (ps : List Nat) : List Int := ps.map (fun p : Nat => (p : Int))
theorem zs_length (ps : List Nat) : (zs ps).length = ps.length := List.length_map _
theorem zs_append (a b : List Nat) : zs (a ++ b) = zs a ++ zs b := List.map_append
theorem zs_take (a : List Nat) (n : Nat) : (zs a).take n = zs (a.take n) := List.map_take.symm
theorem zs_drop (a : List Nat) (n : Nat) : (zs a).drop n = zs (a.drop n) := List.map_drop.symm
theorem zs_rd (a : List Nat) (i : Nat) (h : i < a.length) : rd (zs a) (i : Int) = ((a[i] : Nat) : Int) := by
  unfold rd zs
  rw [Int.toNat_natCast, List.getD_eq_getElem?_getD, List.getElem?_map, List.getElem?_eq_getElem h]
  rfl
theorem bt_list (s : ByteArray) (L : List UInt8) (h : s.data.toList = L) (i : Nat) : bt s (i : Int) = ((L.getD i 0).toNat : Int) := by
  subst h
  unfold bt
  rw [Int.toNat_natCast]
  by_cases hi : i < s.size
  · rw [dif_pos hi, List.getD_eq_getElem?_getD, List.getElem?_eq_getElem (by rw [Ev.len_data]; exact hi)]
    rfl
  · rw [dif_neg hi, List.getD_eq_getElem?_getD, List.getElem?_eq_none (by rw [Ev.len_data]; omega)]
    rfl
theorem size_list (s : ByteArray) (L : List UInt8) (h : s.data.toList = L) : s.size = L.length := by rw [← h, Ev.len_data]

theorem size_f (n : Nat) : text_size.f (n : Int) = some ((size n : Nat) : Int) := by
  unfold text_size.f size
  by_cases h1 : n < 128
  · rw [if_pos (by omega), if_pos h1]; rfl
  · rw [if_neg (by omega), if_neg h1]
    by_cases h2 : n < 2048
    · rw [if_pos (by omega), if_pos h2]; rfl
    · rw [if_neg (by omega), if_neg h2]
      by_cases h3 : n < 65536
      · rw [if_pos (by omega), if_pos h3]; rfl
      · rw [if_neg (by omega), if_neg h3]; rfl
theorem isPoint_f (n : Nat) : text_isPoint.f (n : Int) = some (decide (isP n)) := by
  unfold text_isPoint.f isP
  rw [if_pos (by omega)]
  by_cases h1 : n ≤ 1114111
  · rw [if_pos (by omega)]
    by_cases h2 : n < 55296
    · rw [if_pos (by omega)]; simp [h1, h2]
    · rw [if_neg (by omega)]
      simp only [h1, h2, true_and, false_or, Option.some.injEq]
      rw [Bool.eq_iff_iff]
      simp only [decide_eq_true_eq]
      omega
  · rw [if_neg (by omega)]; simp [h1]
theorem point_f (n : Nat) : oxbowref01_point.f (n : Int) = some (decide (isP n)) := by
  unfold oxbowref01_point.f isP
  rw [if_pos (by omega)]
  by_cases h1 : n ≤ 1114111
  · rw [if_pos (by omega)]
    by_cases h2 : n < 55296
    · rw [if_pos (by omega)]; simp [h1, h2]
    · rw [if_neg (by omega)]
      simp only [h1, h2, true_and, false_or, Option.some.injEq]
      rw [Bool.eq_iff_iff]
      simp only [decide_eq_true_eq]
      omega
  · rw [if_neg (by omega)]; simp [h1]

/-! ### the code point with which a text begins -/
def oneR : Option (Nat × Nat) → Int × Int
  | some (v, k) => ((v : Int), (k : Int))
  | none => (0, 0)
theorem and63 (n : Nat) (h : n < 256) : Go.bits .and .u8 (n : Int) 63 = ((n % 64 : Nat) : Int) := by
  have := u8_and63 (x := (n : Int)) (by omega) (by omega)
  rw [this]
  omega
theorem wraps_i64 (n : Int) (h0 : 0 ≤ n) (h1 : n < 2 ^ 63) : IntKind.i64.wrap n = n := by
  rw [IntKind.wrap_i64]
  omega
theorem or_i64 (x y : Nat) (hx : x < 16777216) (hy : y < 64) : Go.bits .or .i64 ((x * 64 : Nat) : Int) (y : Int) = ((x * 64 + y : Nat) : Int) := by
  have h1 := (bits_nat .i64 63 (by decide) wraps_i64 (x * 64) y (by omega) (by omega)).2
  rw [h1]
  have h2 := Nat.two_pow_add_eq_or_of_lt (i := 6) (b := y) (by omega) x
  rw [show x * 64 = 2 ^ 6 * x from by omega, ← h2]
theorem l0_next (s : ByteArray) (n v i : Nat) (r : Int × Int) (hi : i < n) (hs : i < s.size) (hn : n ≤ 4) (hv : v < 16777216) (c : UInt8) (hc : bt s (i : Int) = (c.toNat : Int)) :
    (c.toNat / 64 = 2 → Ev (fun k => text_take.l0 k s (n : Int) ((v * 64 + c.toNat % 64 : Nat) : Int) ((i + 1 : Nat) : Int)) r) → (¬ c.toNat / 64 = 2 → r = (0, 0)) → Ev (fun k => text_take.l0 k s (n : Int) (v : Int) (i : Int)) r := by
  intro h1 h2
  refine Ev.step (fun k => by simp only [text_take.l0]; rfl) ?_
  refine Ev.pos (by omega) (Ev.pos (by omega) (Ev.pos (by omega) ?_))
  have hlt := c.toNat_lt
  rw [hc]
  by_cases h : c.toNat / 64 = 2
  · refine Ev.pos (by omega) ?_
    have w1 : wrap64 ((v : Int) * 64) = ((v * 64 : Nat) : Int) := Ev.wrap_id _ (by omega) (by omega)
    have w2 : wrap64 (((c.toNat % 64 : Nat)) : Int) = ((c.toNat % 64 : Nat) : Int) := Ev.wrap_nat _ (by omega)
    rw [and63 _ hlt, w2, w1, or_i64 v _ hv (Nat.mod_lt _ (by decide)), Ev.wrap_succ i (by omega)]
    exact h1 h
  · refine Ev.neg (by omega) ?_
    rw [h2 h]
    exact Ev.now _
theorem l0_end (s : ByteArray) (n v : Nat) : Ev (fun k => text_take.l0 k s (n : Int) (v : Int) (n : Int)) (if size v = n ∧ isP v then ((v : Int), (n : Int)) else (0, 0)) := by
  refine Ev.step (fun k => by simp only [text_take.l0]; rfl) ?_
  refine Ev.neg (by omega) (Ev.bind (Ev.const (size_f v)) ?_)
  by_cases h : size v = n
  · refine Ev.pos (by omega) (Ev.bind (Ev.const (isPoint_f v)) ?_)
    by_cases hp : isP v
    · exact Ev.val (Ev.pos (by simpa using hp) (Ev.now _)) (if_pos ⟨h, hp⟩).symm
    · exact Ev.val (Ev.neg (by simpa using hp) (Ev.now _)) (if_neg (fun hh => hp hh.2)).symm
  · exact Ev.val (Ev.neg (by omega) (Ev.now _)) (if_neg (fun hh => h hh.1)).symm
theorem j0_ev (s : ByteArray) (b n m : Nat) (r : Int × Int) (hn : n = 2 ∨ n = 3 ∨ n = 4) (hb : b < 256) (hm : Go.bits .and .u8 (b : Int) (shr .u8 127 (n : Int)) = (m : Int)) (hm2 : m < 256) :
    (s.size < n → r = (0, 0)) → (n ≤ s.size → Ev (fun k => text_take.l0 k s (n : Int) (m : Int) ((1 : Nat) : Int)) r) → Ev (fun k => text_take.j0 k s (b : Int) (n : Int)) r := by
  intro h1 h2
  refine Ev.step (fun k => by simp only [text_take.j0]; rfl) ?_
  refine Ev.neg (by omega) ?_
  refine Ev.step (fun k => by simp only [text_take.j1]; rfl) ?_
  by_cases h : s.size < n
  · rw [h1 h]
    exact Ev.pos (by simpa using h) (Ev.now _)
  · refine Ev.neg (by simpa using h) (Ev.pos (by omega) ?_)
    rw [hm, Ev.wrap_nat _ (by omega)]
    exact h2 (by omega)
theorem oneR_if (c : Prop) [Decidable c] (v n : Nat) : oneR (if c then some (v, n) else none) = if c then ((v : Int), (n : Int)) else (0, 0) := by split <;> rfl
theorem take_2 (s : ByteArray) (b : UInt8) (t : List UInt8) (hL : s.data.toList = b :: t) (h2 : b.toNat / 32 = 6) : Ev (fun k => text_take.j0 k s (b.toNat : Int) 2) (oneR (one (b :: t))) := by
  have hz := size_list s _ hL
  have hlt := b.toNat_lt
  refine j0_ev s b.toNat 2 (b.toNat % 32) _ (.inl rfl) hlt ?_ (by omega) ?_ ?_
  · have e := u8_and31 (x := (b.toNat : Int)) (by omega) (by omega)
    rw [show shr .u8 127 ((2 : Nat) : Int) = 31 from by decide, e]; omega
  · intro h
    rw [one_2s h2 (by rw [hz, List.length_cons] at h; omega)]; rfl
  · intro h
    cases t with
    | nil => rw [hz] at h; simp only [List.length_cons, List.length_nil] at h; omega
    | cons c t =>
      have b1 := bt_list s _ hL 1
      simp only [List.getD_cons_succ, List.getD_cons_zero] at b1
      have hc := c.toNat_lt
      rw [one_2 h2, oneR_if]
      refine l0_next s 2 _ 1 _ (by omega) (by omega) (by omega) (by omega) c b1 (fun d1 => ?_) (fun d1 => ?_)
      · refine Ev.val (l0_end s 2 _) ?_
        simp only [d1, true_and]
      · simp only [d1, false_and, if_false]
theorem take_3 (s : ByteArray) (b : UInt8) (t : List UInt8) (hL : s.data.toList = b :: t) (h3 : b.toNat / 16 = 14) : Ev (fun k => text_take.j0 k s (b.toNat : Int) 3) (oneR (one (b :: t))) := by
  have hz := size_list s _ hL
  have hlt := b.toNat_lt
  refine j0_ev s b.toNat 3 (b.toNat % 16) _ (.inr (.inl rfl)) hlt ?_ (by omega) ?_ ?_
  · have e := u8_and15 (x := (b.toNat : Int)) (by omega) (by omega)
    rw [show shr .u8 127 ((3 : Nat) : Int) = 15 from by decide, e]; omega
  · intro h
    rw [one_3s h3 (by rw [hz, List.length_cons] at h; omega)]; rfl
  · intro h
    match t, h, hL, hz with
    | [], h, _, hz => rw [hz] at h; simp only [List.length_cons, List.length_nil] at h; omega
    | [c], h, _, hz => rw [hz] at h; simp only [List.length_cons, List.length_nil] at h; omega
    | c :: d :: t, h, hL, hz =>
      have b1 := bt_list s _ hL 1
      have b2 := bt_list s _ hL 2
      simp only [List.getD_cons_succ, List.getD_cons_zero] at b1 b2
      have hc := c.toNat_lt
      have hd := d.toNat_lt
      rw [one_3 h3, oneR_if]
      refine l0_next s 3 _ 1 _ (by omega) (by omega) (by omega) (by omega) c b1 (fun d1 => ?_) (fun d1 => ?_)
      · refine l0_next s 3 _ 2 _ (by omega) (by omega) (by omega) (by omega) d b2 (fun d2 => ?_) (fun d2 => ?_)
        · refine Ev.val (l0_end s 3 _) ?_
          simp only [d1, d2, true_and]
        · simp only [d1, d2, true_and, false_and, if_false]
      · simp only [d1, false_and, if_false]
theorem take_4 (s : ByteArray) (b : UInt8) (t : List UInt8) (hL : s.data.toList = b :: t) (h4 : b.toNat / 8 = 30) : Ev (fun k => text_take.j0 k s (b.toNat : Int) 4) (oneR (one (b :: t))) := by
  have hz := size_list s _ hL
  have hlt := b.toNat_lt
  refine j0_ev s b.toNat 4 (b.toNat % 8) _ (.inr (.inr rfl)) hlt ?_ (by omega) ?_ ?_
  · have e := u8_and7 (x := (b.toNat : Int)) (by omega) (by omega)
    rw [show shr .u8 127 ((4 : Nat) : Int) = 7 from by decide, e]; omega
  · intro h
    rw [one_4s h4 (by rw [hz, List.length_cons] at h; omega)]; rfl
  · intro h
    match t, h, hL, hz with
    | [], h, _, hz => rw [hz] at h; simp only [List.length_cons, List.length_nil] at h; omega
    | [c], h, _, hz => rw [hz] at h; simp only [List.length_cons, List.length_nil] at h; omega
    | [c, d], h, _, hz => rw [hz] at h; simp only [List.length_cons, List.length_nil] at h; omega
    | c :: d :: e :: t, h, hL, hz =>
      have b1 := bt_list s _ hL 1
      have b2 := bt_list s _ hL 2
      have b3 := bt_list s _ hL 3
      simp only [List.getD_cons_succ, List.getD_cons_zero] at b1 b2 b3
      have hc := c.toNat_lt
      have hd := d.toNat_lt
      have he := e.toNat_lt
      rw [one_4 h4, oneR_if]
      refine l0_next s 4 _ 1 _ (by omega) (by omega) (by omega) (by omega) c b1 (fun d1 => ?_) (fun d1 => ?_)
      · refine l0_next s 4 _ 2 _ (by omega) (by omega) (by omega) (by omega) d b2 (fun d2 => ?_) (fun d2 => ?_)
        · refine l0_next s 4 _ 3 _ (by omega) (by omega) (by omega) (by omega) e b3 (fun d3 => ?_) (fun d3 => ?_)
          · refine Ev.val (l0_end s 4 _) ?_
            simp only [d1, d2, d3, true_and]
          · simp only [d1, d2, d3, true_and, false_and, if_false]
        · simp only [d1, d2, true_and, false_and, if_false]
      · simp only [d1, false_and, if_false]
theorem take_ev (s : ByteArray) (hs : 0 < s.size) : Ev (fun k => text_take.f k s) (oneR (one s.data.toList)) := by
  cases hL : s.data.toList with
  | nil => rw [size_list s _ hL] at hs; cases hs
  | cons b t =>
    have h0 := bt_list s _ hL 0
    simp only [List.getD_cons_zero] at h0
    rw [show ((0 : Nat) : Int) = 0 from rfl] at h0
    have hlt := b.toNat_lt
    unfold text_take.f
    rw [h0]
    refine Ev.pos (by omega) ?_
    by_cases c1 : b.toNat < 128
    · rw [one_1 c1, Ev.wrap_nat _ (by omega)]
      exact Ev.pos (by omega) (Ev.now _)
    · refine Ev.neg (by omega) ?_
      by_cases c2 : b.toNat / 32 = 6
      · exact Ev.pos (by omega) (take_2 s b t hL c2)
      · refine Ev.neg (by omega) ?_
        by_cases c3 : b.toNat / 16 = 14
        · exact Ev.pos (by omega) (take_3 s b t hL c3)
        · refine Ev.neg (by omega) ?_
          by_cases c4 : b.toNat / 8 = 30
          · exact Ev.pos (by omega) (take_4 s b t hL c4)
          · refine Ev.neg (by omega) ?_
            rw [one_0 c1 c2 c3 c4]
            refine Ev.step (fun k => by simp only [text_take.j0]; rfl) ?_
            refine Ev.pos trivial ?_
            refine Ev.step (fun k => by simp only [text_take.j1]; rfl) ?_
            exact Ev.pos trivial (Ev.now _)

/-! ### the document's -/
theorem byte_int (n : Nat) (h : n < 256) : ((UInt8.ofNat n).toNat : Int) = (n : Int) := by rw [Tx.toNat_ofNat n h]
theorem bytes_f (v : Nat) (hv : v ≤ 1114111) : oxbowref01_bytes.f (v : Int) = some (strOfNums (Ev.ints (cp v))) := by
  unfold oxbowref01_bytes.f cp cpn
  by_cases h1 : v < 128
  · rw [if_pos (by omega), if_pos h1]
    simp only [Ev.ints, List.map_cons, List.map_nil, byte_int v (by omega)]
    rw [show (v : Int) % 256 = (v : Int) from by omega]
  · rw [if_neg (by omega), if_neg h1]
    have t64 : Int.tdiv (v : Int) 64 = ((v / 64 : Nat) : Int) := by rw [Int.tdiv_eq_ediv_of_nonneg (by omega)]; omega
    have m64 : Int.tmod (v : Int) 64 = ((v % 64 : Nat) : Int) := by rw [Int.tmod_eq_emod_of_nonneg (by omega)]; omega
    by_cases h2 : v < 2048
    · rw [if_pos (by omega), if_pos h2]
      simp only [Ev.ints, List.map_cons, List.map_nil, t64, m64]
      rw [byte_int _ (by omega), byte_int _ (by omega), Ev.wrap_nat _ (by omega), Ev.wrap_id _ (by omega) (by omega), Ev.wrap_id _ (by omega) (by omega)]
      congr 3
      · omega
      · congr 1; omega
    · rw [if_neg (by omega), if_neg h2]
      have n64 : Int.tmod ((v / 64 : Nat) : Int) 64 = ((v / 64 % 64 : Nat) : Int) := by rw [Int.tmod_eq_emod_of_nonneg (by omega)]; omega
      have t12 : Int.tdiv (v : Int) 4096 = ((v / 4096 : Nat) : Int) := by rw [Int.tdiv_eq_ediv_of_nonneg (by omega)]; omega
      by_cases h3 : v < 65536
      · rw [if_pos (by omega), if_pos h3]
        simp only [Ev.ints, List.map_cons, List.map_nil, t64, t12, m64]
        rw [Ev.wrap_nat (v / 64) (by omega), n64, Ev.wrap_nat (v / 4096) (by omega), byte_int _ (by omega), byte_int _ (by omega), byte_int _ (by omega), Ev.wrap_id _ (by omega) (by omega), Ev.wrap_id _ (by omega) (by omega), Ev.wrap_id _ (by omega) (by omega)]
        congr 3
        · omega
        · congr 1
          · omega
          · congr 1; omega
      · rw [if_neg (by omega), if_neg h3]
        have n12 : Int.tmod ((v / 4096 : Nat) : Int) 64 = ((v / 4096 % 64 : Nat) : Int) := by rw [Int.tmod_eq_emod_of_nonneg (by omega)]; omega
        have t18 : Int.tdiv (v : Int) 262144 = ((v / 262144 : Nat) : Int) := by rw [Int.tdiv_eq_ediv_of_nonneg (by omega)]; omega
        simp only [Ev.ints, List.map_cons, List.map_nil, t64, t12, t18, m64]
        rw [Ev.wrap_nat (v / 64) (by omega), n64, Ev.wrap_nat (v / 4096) (by omega), n12, Ev.wrap_nat (v / 262144) (by omega), byte_int _ (by omega), byte_int _ (by omega), byte_int _ (by omega), byte_int _ (by omega), Ev.wrap_id _ (by omega) (by omega), Ev.wrap_id _ (by omega) (by omega), Ev.wrap_id _ (by omega) (by omega), Ev.wrap_id _ (by omega) (by omega)]
        congr 3
        · omega
        · congr 1
          · omega
          · congr 1
            · omega
            · congr 1; omega
/-- What the document's reading makes of the number that the bytes come to. -/
def firstR (L : List UInt8) (v n : Nat) : Int × Int := if isP v ∧ L.take n = cp v then ((v : Int), (n : Int)) else (0, 0)
theorem first_l0_next (s : ByteArray) (n v i : Nat) (r : Int × Int) (hi : i < n) (hs : i < s.size) (hn : n ≤ 4) (hv : v < 16777216) (c : UInt8) (hc : bt s (i : Int) = (c.toNat : Int)) :
    Ev (fun k => oxbowref01_first.l0 k s (n : Int) ((v * 64 + c.toNat % 64 : Nat) : Int) ((i + 1 : Nat) : Int)) r → Ev (fun k => oxbowref01_first.l0 k s (n : Int) (v : Int) (i : Int)) r := by
  intro h1
  refine Ev.step (fun k => by simp only [oxbowref01_first.l0]; rfl) ?_
  refine Ev.pos (by omega) (Ev.pos (by omega) (Ev.pos (by omega) ?_))
  have hlt := c.toNat_lt
  have w1 : wrap64 ((v : Int) * 64) = ((v * 64 : Nat) : Int) := Ev.wrap_id _ (by omega) (by omega)
  have m64 : Int.tmod (c.toNat : Int) 64 = ((c.toNat % 64 : Nat) : Int) := by rw [Int.tmod_eq_emod_of_nonneg (by omega)]; omega
  rw [hc, Ev.wrap_nat _ (by omega), w1, m64, Ev.wrap_add _ _ (by omega), Ev.wrap_succ i (by omega)]
  exact h1
theorem first_l0_end (s : ByteArray) (n v : Nat) (hn : n ≤ s.size) : Ev (fun k => oxbowref01_first.l0 k s (n : Int) (v : Int) (n : Int)) (firstR s.data.toList v n) := by
  refine Ev.step (fun k => by simp only [oxbowref01_first.l0]; rfl) ?_
  refine Ev.neg (by omega) (Ev.bind (Ev.const (point_f v)) ?_)
  unfold firstR
  by_cases hp : isP v
  · refine Ev.pos (by simpa using hp) (Ev.bind (Ev.const (bytes_f v hp.1)) (Ev.pos (by omega) (Ev.pos (by omega) ?_)))
    rw [Ev.toList_data, Ev.toList_data, Ev.strOf_ints, Ev.extract_data, Int.toNat_natCast, List.drop_zero]
    by_cases h : s.data.toList.take n = cp v
    · exact Ev.val (Ev.pos h.symm (Ev.now _)) (if_pos ⟨hp, h⟩).symm
    · exact Ev.val (Ev.neg (fun hh => h hh.symm) (Ev.now _)) (if_neg (fun hh => h hh.2)).symm
  · exact Ev.val (Ev.neg (by simpa using hp) (Ev.now _)) (if_neg (fun hh => hp hh.1)).symm
theorem first_j2 (s : ByteArray) (n v : Nat) (r : Int × Int) (h1 : s.size < n → r = (0, 0)) (h2 : n ≤ s.size → Ev (fun k => oxbowref01_first.l0 k s (n : Int) (v : Int) ((1 : Nat) : Int)) r) : Ev (fun k => oxbowref01_first.j2 k s (n : Int) (v : Int)) r := by
  refine Ev.step (fun k => by simp only [oxbowref01_first.j2]; rfl) ?_
  by_cases h : s.size < n
  · rw [h1 h]
    exact Ev.pos (by omega) (Ev.now _)
  · exact Ev.neg (by omega) (h2 (by omega))
theorem cp_take_short {L : List UInt8} {v n : Nat} (h : L.take n = cp v) (hn : n ≤ L.length) : n = size v := by
  have := congrArg List.length h
  rw [List.length_take, cp_length] at this
  omega
/-- Where the class of the first byte fits, both readings are the same. -/
theorem one_of_firstR (L : List UInt8) (v n : Nat) (hn : n ≤ L.length) (h : ∀ v' k, one L = some (v', k) → v' = v ∧ k = n) : oneR (one L) = firstR L v n := by
  unfold firstR
  by_cases hc : isP v ∧ L.take n = cp v
  · rw [if_pos hc, one_iff.2 ⟨hc.1, cp_take_short hc.2 hn, hc.2⟩]
    rfl
  · rw [if_neg hc]
    cases ho : one L with
    | none => rfl
    | some vk =>
      obtain ⟨v', k⟩ := vk
      obtain ⟨rfl, rfl⟩ := h v' k ho
      obtain ⟨h1, _, h3⟩ := one_some ho
      exact absurd ⟨h1, h3⟩ hc
theorem first_4 (s : ByteArray) (b : UInt8) (t : List UInt8) (hL : s.data.toList = b :: t) (h4 : b.toNat / 8 = 30) : Ev (fun k => oxbowref01_first.j2 k s ((4 : Nat) : Int) ((b.toNat % 8 : Nat) : Int)) (oneR (one (b :: t))) := by
  have hz := size_list s _ hL
  refine first_j2 s 4 _ _ (fun h => ?_) (fun h => ?_)
  · rw [one_4s h4 (by rw [hz, List.length_cons] at h; omega)]; rfl
  · match t, h, hL, hz with
    | [], h, _, hz => rw [hz] at h; simp only [List.length_cons, List.length_nil] at h; omega
    | [c], h, _, hz => rw [hz] at h; simp only [List.length_cons, List.length_nil] at h; omega
    | [c, d], h, _, hz => rw [hz] at h; simp only [List.length_cons, List.length_nil] at h; omega
    | c :: d :: e :: t, h, hL, hz =>
      have b1 := bt_list s _ hL 1
      have b2 := bt_list s _ hL 2
      have b3 := bt_list s _ hL 3
      simp only [List.getD_cons_succ, List.getD_cons_zero] at b1 b2 b3
      have hc := c.toNat_lt
      have hd := d.toNat_lt
      have he := e.toNat_lt
      refine first_l0_next s 4 _ 1 _ (by omega) (by omega) (by omega) (by omega) c b1 (first_l0_next s 4 _ 2 _ (by omega) (by omega) (by omega) (by omega) d b2 (first_l0_next s 4 _ 3 _ (by omega) (by omega) (by omega) (by omega) e b3 ?_))
      refine Ev.val (first_l0_end s 4 _ (by omega)) ?_
      rw [hL]
      refine (one_of_firstR _ _ 4 (by simp only [List.length_cons]; omega) ?_).symm
      intro v' k ho
      rw [one_4 h4] at ho
      split at ho
      · simp only [Option.some.injEq, Prod.mk.injEq] at ho
        exact ⟨ho.1.symm, ho.2.symm⟩
      · cases ho
theorem first_3 (s : ByteArray) (b : UInt8) (t : List UInt8) (hL : s.data.toList = b :: t) (h3 : b.toNat / 16 = 14) : Ev (fun k => oxbowref01_first.j2 k s ((3 : Nat) : Int) ((b.toNat % 16 : Nat) : Int)) (oneR (one (b :: t))) := by
  have hz := size_list s _ hL
  refine first_j2 s 3 _ _ (fun h => ?_) (fun h => ?_)
  · rw [one_3s h3 (by rw [hz, List.length_cons] at h; omega)]; rfl
  · match t, h, hL, hz with
    | [], h, _, hz => rw [hz] at h; simp only [List.length_cons, List.length_nil] at h; omega
    | [c], h, _, hz => rw [hz] at h; simp only [List.length_cons, List.length_nil] at h; omega
    | c :: d :: t, h, hL, hz =>
      have b1 := bt_list s _ hL 1
      have b2 := bt_list s _ hL 2
      simp only [List.getD_cons_succ, List.getD_cons_zero] at b1 b2
      have hc := c.toNat_lt
      have hd := d.toNat_lt
      refine first_l0_next s 3 _ 1 _ (by omega) (by omega) (by omega) (by omega) c b1 (first_l0_next s 3 _ 2 _ (by omega) (by omega) (by omega) (by omega) d b2 ?_)
      refine Ev.val (first_l0_end s 3 _ (by omega)) ?_
      rw [hL]
      refine (one_of_firstR _ _ 3 (by simp only [List.length_cons]; omega) ?_).symm
      intro v' k ho
      rw [one_3 h3] at ho
      split at ho
      · simp only [Option.some.injEq, Prod.mk.injEq] at ho
        exact ⟨ho.1.symm, ho.2.symm⟩
      · cases ho
theorem first_2 (s : ByteArray) (b : UInt8) (t : List UInt8) (hL : s.data.toList = b :: t) (h2 : b.toNat / 32 = 6) : Ev (fun k => oxbowref01_first.j2 k s ((2 : Nat) : Int) ((b.toNat % 32 : Nat) : Int)) (oneR (one (b :: t))) := by
  have hz := size_list s _ hL
  refine first_j2 s 2 _ _ (fun h => ?_) (fun h => ?_)
  · rw [one_2s h2 (by rw [hz, List.length_cons] at h; omega)]; rfl
  · match t, h, hL, hz with
    | [], h, _, hz => rw [hz] at h; simp only [List.length_cons, List.length_nil] at h; omega
    | c :: t, h, hL, hz =>
      have b1 := bt_list s _ hL 1
      simp only [List.getD_cons_succ, List.getD_cons_zero] at b1
      have hc := c.toNat_lt
      refine first_l0_next s 2 _ 1 _ (by omega) (by omega) (by omega) (by omega) c b1 ?_
      refine Ev.val (first_l0_end s 2 _ (by omega)) ?_
      rw [hL]
      refine (one_of_firstR _ _ 2 (by simp only [List.length_cons]; omega) ?_).symm
      intro v' k ho
      rw [one_2 h2] at ho
      split at ho
      · simp only [Option.some.injEq, Prod.mk.injEq] at ho
        exact ⟨ho.1.symm, ho.2.symm⟩
      · cases ho
theorem first_1 (s : ByteArray) (b : UInt8) (t : List UInt8) (hL : s.data.toList = b :: t) (h2 : ¬ b.toNat / 32 = 6) (h3 : ¬ b.toNat / 16 = 14) (h4 : ¬ b.toNat / 8 = 30) : Ev (fun k => oxbowref01_first.j2 k s ((1 : Nat) : Int) (b.toNat : Int)) (oneR (one (b :: t))) := by
  have hz := size_list s _ hL
  refine first_j2 s 1 _ _ (fun h => by rw [hz, List.length_cons] at h; omega) (fun h => ?_)
  refine Ev.val (first_l0_end s 1 _ h) ?_
  rw [hL]
  refine (one_of_firstR _ _ 1 (by simp only [List.length_cons]; omega) ?_).symm
  intro v' k ho
  by_cases c1 : b.toNat < 128
  · rw [one_1 c1] at ho
    simp only [Option.some.injEq, Prod.mk.injEq] at ho
    exact ⟨ho.1.symm, ho.2.symm⟩
  · rw [one_0 c1 h2 h3 h4] at ho
    cases ho
theorem first_j1t (s : ByteArray) (b : UInt8) (t : List UInt8) (hL : s.data.toList = b :: t) (h3 : b.toNat / 16 = 14) (x5 x6 : Int) : Ev (fun k => oxbowref01_first.j1 k s (b.toNat : Int) x5 x6 true) (oneR (one (b :: t))) := by
  have hlt := b.toNat_lt
  refine Ev.step (fun k => by simp only [oxbowref01_first.j1]; rfl) (Ev.pos trivial ?_)
  have e : wrap64 ((b.toNat : Int) - 224) = ((b.toNat % 16 : Nat) : Int) := by rw [Ev.wrap_id _ (by omega) (by omega)]; omega
  rw [e]
  exact first_3 s b t hL h3
theorem first_j1f (s : ByteArray) (b : UInt8) (t : List UInt8) (hL : s.data.toList = b :: t) (h3 : ¬ b.toNat / 16 = 14) (h4 : ¬ b.toNat / 8 = 30) : Ev (fun k => oxbowref01_first.j1 k s (b.toNat : Int) 1 (b.toNat : Int) false) (oneR (one (b :: t))) := by
  have hlt := b.toNat_lt
  refine Ev.step (fun k => by simp only [oxbowref01_first.j1]; rfl) (Ev.neg (by simp) ?_)
  by_cases c2 : b.toNat / 32 = 6
  · have e : wrap64 ((b.toNat : Int) - 192) = ((b.toNat % 32 : Nat) : Int) := by rw [Ev.wrap_id _ (by omega) (by omega)]; omega
    refine Ev.pos (by omega) (Ev.pos (by omega) ?_)
    rw [e]
    exact first_2 s b t hL c2
  · by_cases c2' : 192 ≤ b.toNat
    · exact Ev.pos (by omega) (Ev.neg (by omega) (first_1 s b t hL c2 h3 h4))
    · exact Ev.neg (by omega) (first_1 s b t hL c2 h3 h4)
theorem first_j0f (s : ByteArray) (b : UInt8) (t : List UInt8) (hL : s.data.toList = b :: t) (h4 : ¬ b.toNat / 8 = 30) : Ev (fun k => oxbowref01_first.j0 k s (b.toNat : Int) 1 (b.toNat : Int) false) (oneR (one (b :: t))) := by
  have hlt := b.toNat_lt
  refine Ev.step (fun k => by simp only [oxbowref01_first.j0]; rfl) (Ev.neg (by simp) ?_)
  by_cases c5 : 224 ≤ b.toNat
  · refine Ev.pos (by omega) ?_
    by_cases c3 : b.toNat < 240
    · rw [show decide ((b.toNat : Int) < 240) = true from decide_eq_true (by omega)]
      exact first_j1t s b t hL (by omega) _ _
    · rw [show decide ((b.toNat : Int) < 240) = false from decide_eq_false (by omega)]
      exact first_j1f s b t hL (by omega) h4
  · exact Ev.neg (by omega) (first_j1f s b t hL (by omega) h4)
theorem first_ev (s : ByteArray) (hs : 0 < s.size) : Ev (fun k => oxbowref01_first.f k s) (oneR (one s.data.toList)) := by
  cases hL : s.data.toList with
  | nil => rw [size_list s _ hL] at hs; cases hs
  | cons b t =>
    have h0 := bt_list s _ hL 0
    simp only [List.getD_cons_zero] at h0
    rw [show ((0 : Nat) : Int) = 0 from rfl] at h0
    have hlt := b.toNat_lt
    unfold oxbowref01_first.f
    rw [h0, Ev.wrap_nat _ (by omega)]
    refine Ev.pos (by omega) ?_
    by_cases c4 : b.toNat / 8 = 30
    · refine Ev.pos (by omega) ?_
      have e : wrap64 ((b.toNat : Int) - 240) = ((b.toNat % 8 : Nat) : Int) := by rw [Ev.wrap_id _ (by omega) (by omega)]; omega
      rw [show decide ((b.toNat : Int) < 248) = true from decide_eq_true (by omega)]
      refine Ev.step (fun k => by simp only [oxbowref01_first.j0]; rfl) (Ev.pos trivial ?_)
      rw [e]
      exact first_4 s b t hL c4
    · by_cases c6 : 240 ≤ b.toNat
      · refine Ev.pos (by omega) ?_
        rw [show decide ((b.toNat : Int) < 248) = false from decide_eq_false (by omega)]
        exact first_j0f s b t hL c4
      · exact Ev.neg (by omega) (first_j0f s b t hL c4)

/-! ### the points of a text, its length -/
def ptR (acc : List Int) : Option (List Nat) → List Int × Bool
  | some ps => (acc ++ zs ps, true)
  | none => ([], false)
theorem ptR_cons (acc : List Int) (v : Nat) (o : Option (List Nat)) : ptR acc (o.map (v :: ·)) = ptR (acc ++ [(v : Int)]) o := by
  cases o with
  | none => rfl
  | some ps => simp [ptR, zs]
theorem toList_nil (s : ByteArray) : s.toList = ([] : List UInt8) ↔ s.size = 0 := by
  rw [Ev.toList_data, ← Ev.len_data]
  exact List.length_eq_zero_iff.symm
theorem points_loop : ∀ (n : Nat) (s : ByteArray) (acc : List Int), s.size ≤ n → acc.length + s.size < 17592186044416 → Ev (fun k => text_Points.l0 k s acc) (ptR acc (dec s.data.toList))
  | n, s, acc, hn, hb => by
    refine Ev.step (fun k => by simp only [text_Points.l0]; rfl) ?_
    by_cases h0 : s.size = 0
    · have : s.data.toList = [] := List.eq_nil_of_length_eq_zero (by rw [Ev.len_data]; exact h0)
      rw [this, dec_nil]
      refine Ev.pos ((toList_nil s).2 h0) ?_
      exact Ev.val (Ev.now _) (by simp [ptR, zs])
    · refine Ev.neg (fun h => h0 ((toList_nil s).1 h)) (Ev.bind (take_ev s (by omega)) ?_)
      have hl : s.data.toList ≠ [] := fun h => h0 (by rw [← Ev.len_data, h]; rfl)
      cases ho : one s.data.toList with
      | none =>
        rw [dec_none hl ho]
        exact Ev.pos (show (oneR none).2 = 0 from rfl) (Ev.now _)
      | some vk =>
        obtain ⟨v, k⟩ := vk
        obtain ⟨k0, kl, _⟩ := one_le ho
        rw [Ev.len_data] at kl
        rw [dec_some ho, ptR_cons]
        have hx : (s.extract k s.size).data.toList = s.data.toList.drop k := by
          rw [Ev.extract_data, List.take_of_length_le (by rw [Ev.len_data]; exact Nat.le_refl _)]
        refine Ev.neg (show ¬ ((k : Int) = 0) by omega) (Ev.pos (by omega) (Ev.pos (show (0 : Int) ≤ (k : Int) by omega) (Ev.pos (show (k : Int) ≤ (s.size : Int) by omega) ?_)))
        simp only [oneR, Int.toNat_natCast]
        rw [← hx]
        have hsz : (s.extract k s.size).size = s.size - k := by rw [← Ev.len_data, hx, List.length_drop, Ev.len_data]
        cases n with
        | zero => exact absurd hn (by omega)
        | succ n => exact points_loop n _ _ (by omega) (by rw [List.length_append, hsz]; simp only [List.length_cons, List.length_nil]; omega)
theorem points_ev (s : ByteArray) (hs : s.size < 17592186044416) : Ev (fun k => text_Points.f k s) (ptR [] (dec s.data.toList)) := by
  unfold text_Points.f
  exact points_loop s.size s [] (Nat.le_refl _) (by simpa using hs)
theorem ref_points_loop : ∀ (n : Nat) (s : ByteArray) (acc : List Int), s.size ≤ n → acc.length + s.size < 17592186044416 → Ev (fun k => oxbowref01_Points.l0 k s acc) (ptR acc (dec s.data.toList))
  | n, s, acc, hn, hb => by
    refine Ev.step (fun k => by simp only [oxbowref01_Points.l0]; rfl) ?_
    by_cases h0 : s.size = 0
    · have : s.data.toList = [] := List.eq_nil_of_length_eq_zero (by rw [Ev.len_data]; exact h0)
      rw [this, dec_nil]
      refine Ev.neg (by omega) ?_
      exact Ev.val (Ev.now _) (by simp [ptR, zs])
    · refine Ev.pos (by omega) (Ev.bind (first_ev s (by omega)) ?_)
      have hl : s.data.toList ≠ [] := fun h => h0 (by rw [← Ev.len_data, h]; rfl)
      cases ho : one s.data.toList with
      | none =>
        rw [dec_none hl ho]
        exact Ev.pos (show (oneR none).2 = 0 from rfl) (Ev.now _)
      | some vk =>
        obtain ⟨v, k⟩ := vk
        obtain ⟨k0, kl, _⟩ := one_le ho
        rw [Ev.len_data] at kl
        rw [dec_some ho, ptR_cons]
        have hx : (s.extract k s.size).data.toList = s.data.toList.drop k := by
          rw [Ev.extract_data, List.take_of_length_le (by rw [Ev.len_data]; exact Nat.le_refl _)]
        refine Ev.neg (show ¬ ((k : Int) = 0) by omega) (Ev.pos (by omega) (Ev.pos (show (0 : Int) ≤ (k : Int) by omega) (Ev.pos (show (k : Int) ≤ (s.size : Int) by omega) ?_)))
        simp only [oneR, Int.toNat_natCast]
        rw [← hx]
        have hsz : (s.extract k s.size).size = s.size - k := by rw [← Ev.len_data, hx, List.length_drop, Ev.len_data]
        cases n with
        | zero => exact absurd hn (by omega)
        | succ n => exact ref_points_loop n _ _ (by omega) (by rw [List.length_append, hsz]; simp only [List.length_cons, List.length_nil]; omega)
theorem ref_points_ev (s : ByteArray) (hs : s.size < 17592186044416) : Ev (fun k => oxbowref01_Points.f k s) (ptR [] (dec s.data.toList)) := by
  unfold oxbowref01_Points.f
  exact ref_points_loop s.size s [] (Nat.le_refl _) (by simpa using hs)
def lenR : Option (List Nat) → Int
  | some ps => (ps.length : Int)
  | none => -1
theorem len_ev (s : ByteArray) (hs : s.size < 17592186044416) : Ev (fun k => text_Len.f k s) (lenR (dec s.data.toList)) := by
  unfold text_Len.f
  refine Ev.bind (points_ev s hs) ?_
  cases dec s.data.toList with
  | none => exact Ev.neg (by simp [ptR]) (Ev.now _)
  | some ps => exact Ev.pos rfl (Ev.val (Ev.now _) (by simp [ptR, zs, lenR]))
theorem ref_len_ev (s : ByteArray) (hs : s.size < 17592186044416) : Ev (fun k => oxbowref01_Len.f k s) (lenR (dec s.data.toList)) := by
  unfold oxbowref01_Len.f
  refine Ev.bind (ref_points_ev s hs) ?_
  cases dec s.data.toList with
  | none => exact Ev.neg (by simp [ptR]) (Ev.now _)
  | some ps => exact Ev.pos rfl (Ev.val (Ev.now _) (by simp [ptR, zs, lenR]))

/-! ### the text of code points -/
/-- The string of code points. -/
def st (ps : List Nat) : ByteArray := strOfNums (Ev.ints (enc ps))
theorem st_data (ps : List Nat) : (st ps).data.toList = enc ps := Ev.strOf_ints _
theorem st_size (ps : List Nat) : (st ps).size = (enc ps).length := by rw [← Ev.len_data, st_data]
theorem st_eq {s : ByteArray} {ps : List Nat} (h : dec s.data.toList = some ps) : st ps = s := Ev.ext_data (by rw [st_data, enc_dec h])
theorem st_append (a b : List Nat) : st (a ++ b) = st a ++ st b := Ev.ext_data (by rw [Ev.data_append, st_data, st_data, st_data, enc_append])
theorem dec_st (ps : List Nat) (h : AllP ps) : dec (st ps).data.toList = some ps := by rw [st_data, dec_enc ps h]
theorem shr_i64 (n j : Nat) (hj : j ≤ 64) : shr .i64 (n : Int) (j : Int) = ((n / 2 ^ j : Nat) : Int) := by
  unfold shr
  rw [Int.toNat_natCast, Nat.min_eq_left (by simpa [IntKind.bits] using hj)]
  simp
theorem put_last (b : List Int) (n : Nat) : Ev (fun k => text_put.l0 k b (n : Int) (-1)) b := Ev.step (fun k => by simp only [text_put.l0]; rfl) (Ev.neg (by decide) (Ev.now _))
theorem put_more (b : List Int) (n i : Nat) (hi : i ≤ 2) (hb : b.length < 140737488355328) (r : List Int) :
    Ev (fun k => text_put.l0 k (b ++ [((128 + n / 2 ^ (6 * i) % 64 : Nat) : Int)]) (n : Int) ((i : Int) - 1)) r → Ev (fun k => text_put.l0 k b (n : Int) (i : Int)) r := by
  intro h
  refine Ev.step (fun k => by simp only [text_put.l0]; rfl) ?_
  have w : wrap64 (6 * (i : Int)) = ((6 * i : Nat) : Int) := Ev.wrap_id _ (by omega) (by omega)
  rw [w, shr_i64 n (6 * i) (by omega), Ev.wrap_id ((i : Int) - 1) (by omega) (by omega)]
  refine Ev.pos (by omega) (Ev.pos (by omega) (Ev.pos hb ?_))
  have e : (128 : Int) + ((n / 2 ^ (6 * i) : Nat) : Int) % 64 = ((128 + n / 2 ^ (6 * i) % 64 : Nat) : Int) := by omega
  rw [e]
  exact h
theorem six (n i : Nat) (h : n = i + 1) (hi : i ≤ 3) : wrap64 (6 * wrap64 ((n : Int) - 1)) = ((6 * i : Nat) : Int) := by
  rw [Ev.wrap_id ((n : Int) - 1) (by omega) (by omega), Ev.wrap_id _ (by omega) (by omega)]
  omega
theorem two_less (n i : Nat) (h : n = i + 2) (hi : i ≤ 3) : wrap64 ((n : Int) - 2) = (i : Int) := by
  rw [Ev.wrap_id _ (by omega) (by omega)]
  omega
theorem put_ev (b : List Int) (n : Nat) (hn : isP n) (hb : b.length + 4 < 140737488355328) : Ev (fun k => text_put.f k b (n : Int)) (b ++ Ev.ints (cp n)) := by
  unfold text_put.f
  refine Ev.bind (Ev.const (size_f n)) ?_
  have hm := hn.1
  by_cases h1 : n < 128
  · have hs : size n = 1 := by unfold size; rw [if_pos h1]
    rw [hs]
    refine Ev.pos rfl (Ev.pos (by omega) (Ev.val (Ev.now _) ?_))
    unfold cp cpn
    rw [if_pos h1]
    simp only [Ev.ints, List.map_cons, List.map_nil, byte_int n (by omega)]
    rw [show (n : Int) % 256 = (n : Int) from by omega]
  · by_cases h2 : n < 2048
    · have hs : size n = 2 := by unfold size; rw [if_neg h1, if_pos h2]
      rw [hs]
      rw [six 2 1 rfl (by omega), two_less 2 0 rfl (by omega)]
      refine Ev.neg (by decide) (Ev.pos (by decide) (Ev.pos (by decide) (Ev.pos (by omega) ?_)))
      rw [shr_i64 n (6 * 1) (by omega), show shr .i64 3840 ((2 : Nat) : Int) % 256 = 192 from by decide]
      rw [show ((n / 2 ^ (6 * 1) : Nat) : Int) % 256 = ((n / 64 : Nat) : Int) from by omega, u8_or192 (y := ((n / 64 : Nat) : Int)) (by omega) (by omega)]
      refine put_more _ n 0 (by omega) (by rw [List.length_append]; simp; omega) _ ?_
      refine Ev.val (put_last _ n) ?_
      unfold cp cpn
      rw [if_neg h1, if_pos h2]
      simp only [Ev.ints, List.map_cons, List.map_nil]
      rw [byte_int _ (by omega), byte_int _ (by omega), List.append_assoc]
      congr 2
      simp
    · by_cases h3 : n < 65536
      · have hs : size n = 3 := by unfold size; rw [if_neg h1, if_neg h2, if_pos h3]
        rw [hs]
        rw [six 3 2 rfl (by omega), two_less 3 1 rfl (by omega)]
        refine Ev.neg (by decide) (Ev.pos (by decide) (Ev.pos (by decide) (Ev.pos (by omega) ?_)))
        rw [shr_i64 n (6 * 2) (by omega), show shr .i64 3840 ((3 : Nat) : Int) % 256 = 224 from by decide]
        rw [show ((n / 2 ^ (6 * 2) : Nat) : Int) % 256 = ((n / 4096 : Nat) : Int) from by omega, u8_or224 (y := ((n / 4096 : Nat) : Int)) (by omega) (by omega)]
        refine put_more _ n 1 (by omega) (by rw [List.length_append]; simp; omega) _ ?_
        refine put_more _ n 0 (by omega) (by simp only [List.length_append, List.length_cons, List.length_nil]; omega) _ ?_
        refine Ev.val (put_last _ n) ?_
        unfold cp cpn
        rw [if_neg h1, if_neg h2, if_pos h3]
        simp only [Ev.ints, List.map_cons, List.map_nil]
        rw [byte_int _ (by omega), byte_int _ (by omega), byte_int _ (by omega), List.append_assoc, List.append_assoc]
        congr 2
        simp
      · have hs : size n = 4 := by unfold size; rw [if_neg h1, if_neg h2, if_neg h3]
        rw [hs]
        rw [six 4 3 rfl (by omega), two_less 4 2 rfl (by omega)]
        refine Ev.neg (by decide) (Ev.pos (by decide) (Ev.pos (by decide) (Ev.pos (by omega) ?_)))
        rw [shr_i64 n (6 * 3) (by omega), show shr .i64 3840 ((4 : Nat) : Int) % 256 = 240 from by decide]
        rw [show ((n / 2 ^ (6 * 3) : Nat) : Int) % 256 = ((n / 262144 : Nat) : Int) from by omega, u8_or240 (y := ((n / 262144 : Nat) : Int)) (by omega) (by omega)]
        refine put_more _ n 2 (by omega) (by rw [List.length_append]; simp; omega) _ ?_
        refine put_more _ n 1 (by omega) (by simp only [List.length_append, List.length_cons, List.length_nil]; omega) _ ?_
        refine put_more _ n 0 (by omega) (by simp only [List.length_append, List.length_cons, List.length_nil]; omega) _ ?_
        refine Ev.val (put_last _ n) ?_
        unfold cp cpn
        rw [if_neg h1, if_neg h2, if_neg h3]
        simp only [Ev.ints, List.map_cons, List.map_nil]
        rw [byte_int _ (by omega), byte_int _ (by omega), byte_int _ (by omega), byte_int _ (by omega), List.append_assoc, List.append_assoc, List.append_assoc]
        congr 2
        simp
theorem text_loop (ps : List Nat) (hp : AllP ps) (hl : ps.length < 1099511627776) : ∀ (d i : Nat) (b : List Int), ps.length = i + d → b.length ≤ 4 * i →
    Ev (fun k => text_Text.l0 k b (zs ps) (ps.length : Int) (i : Int)) (strOfNums (b ++ Ev.ints (enc (ps.drop i))), true)
  | 0, i, b, hd, hb => by
    refine Ev.step (fun k => by simp only [text_Text.l0]; rfl) (Ev.neg (by omega) (Ev.val (Ev.now _) ?_))
    rw [List.drop_of_length_le (by omega), enc_nil]
    simp [Ev.ints]
  | d + 1, i, b, hd, hb => by
    refine Ev.step (fun k => by simp only [text_Text.l0]; rfl) ?_
    have hi : i < ps.length := by omega
    have hpi : isP ps[i] := hp _ (List.getElem_mem hi)
    refine Ev.pos (by omega) (Ev.pos (by omega) (Ev.pos (by rw [zs_length]; omega) ?_))
    rw [zs_rd ps i hi]
    refine Ev.bind (Ev.const (isPoint_f ps[i])) (Ev.pos (by simpa using hpi) (Ev.bind (put_ev b ps[i] hpi (by omega)) ?_))
    rw [Ev.wrap_succ i (by omega)]
    refine Ev.val (text_loop ps hp hl d (i + 1) _ (by omega) ?_) ?_
    · rw [List.length_append, Ev.ints_length, cp_length]
      have := size_le ps[i]
      omega
    · rw [List.drop_eq_getElem_cons hi, enc_cons, Ev.ints_append, List.append_assoc]
theorem text_ev (ps : List Nat) (hp : AllP ps) (hl : ps.length < 1099511627776) : Ev (fun k => text_Text.f k (zs ps)) (st ps, true) := by
  unfold text_Text.f
  rw [zs_length]
  exact text_loop ps hp hl ps.length 0 [] (by omega) (by simp)
end Go.Proofs.Ytdpbkomaiafemaa.Ddtx
