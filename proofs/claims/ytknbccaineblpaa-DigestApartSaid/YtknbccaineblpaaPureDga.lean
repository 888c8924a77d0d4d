/- Plain laws of the digest: what its loop and the document's loop come to. -/
import Derived.Test.YtknbccaineblpaaHDapx1
namespace Go.Proofs.Ytknbccaineblpaa.Dga
open Go.RowKit Go.Proofs.Ytknbccaineblpaa.HDap Go.Proofs.YtknbccaineblpaaW.PrintWords Go.Proofs.YtknbccaineblpaaW.PrintLast

theorem ev_pos {α : Type} {c : Prop} [Decidable c] {f g : Nat → Option α} {r : α} (h : c) (hf : Ev f r) : Ev (fun k => if c then f k else g k) r := Ev.congr (fun _ => if_pos h) hf
theorem ev_neg {α : Type} {c : Prop} [Decidable c] {f g : Nat → Option α} {r : α} (h : ¬ c) (hg : Ev g r) : Ev (fun k => if c then f k else g k) r := Ev.congr (fun _ => if_neg h) hg

/-- One byte taken in. -/
def mix (x : Nat) (b : UInt8) : Nat := ((x ^^^ b.toNat) * 16777619) % 4294967296
def ext (x : Nat) (l : List UInt8) : Nat := l.foldl mix x
theorem mix_lt (x : Nat) (b : UInt8) : mix x b < 4294967296 := Nat.mod_lt _ (by decide)
theorem ext_lt (l : List UInt8) : ∀ x, x < 4294967296 → ext x l < 4294967296 := by
  induction l with
  | nil => intro x h; exact h
  | cons b l ih => intro x _; exact ih _ (mix_lt x b)
theorem ext_append (x : Nat) (l m : List UInt8) : ext x (l ++ m) = ext (ext x l) m := List.foldl_append ..

theorem wrap_id (n : Int) (h0 : -9223372036854775808 ≤ n) (h1 : n ≤ 9223372036854775807) : wrap64 n = n := by unfold wrap64; omega
theorem bits_xor (k : IntKind) (j : Nat) (hj : j ≤ k.bits) (hk : ∀ n : Int, 0 ≤ n → n < 2 ^ j → k.wrap n = n) (a b : Nat) (ha : a < 2 ^ j) (hb : b < 2 ^ j) :
    Go.bits .xor k a b = ((a ^^^ b : Nat) : Int) := by
  have hp : 2 ^ j ≤ 2 ^ k.bits := Nat.pow_le_pow_right (by decide) hj
  have ha' : a % 2 ^ k.bits = a := Nat.mod_eq_of_lt (Nat.lt_of_lt_of_le ha hp)
  have hb' : b % 2 ^ k.bits = b := Nat.mod_eq_of_lt (Nat.lt_of_lt_of_le hb hp)
  simp only [Go.bits, BitVec.ofInt_natCast, BitVec.toNat_xor, BitVec.toNat_ofNat, ha', hb']
  exact hk _ (Int.natCast_nonneg _) (by exact_mod_cast Nat.xor_lt_two_pow ha hb)
theorem xor32 (x : Nat) (b : UInt8) (hx : x < 4294967296) : Go.bits .xor .u32 (x : Int) (b.toNat : Int) = ((x ^^^ b.toNat : Nat) : Int) := by
  have hb := b.toNat_lt
  exact bits_xor .u32 32 (by decide) (fun n h0 h1 => by rw [IntKind.wrap_u32]; omega) _ _ hx (by omega)
theorem xor8 (x : Nat) (b : UInt8) (hx : x < 256) : Go.bits .xor .u8 (x : Int) (b.toNat : Int) = ((x ^^^ b.toNat : Nat) : Int) := by
  have hb := b.toNat_lt
  exact bits_xor .u8 8 (by decide) (fun n h0 h1 => by rw [IntKind.wrap_u8]; omega) _ _ hx (by omega)
/-- A byte turns the lowest eight bits alone. -/
theorem xor_low (x b : Nat) (hb : b < 256) : x ^^^ b = x - x % 256 + (x % 256 ^^^ b) := by
  have h1 : (x ^^^ b) % 256 = (x % 256) ^^^ b := by
    have := Nat.xor_mod_two_pow (a := x) (b := b) (n := 8)
    rw [show (2 : Nat) ^ 8 = 256 from rfl] at this
    rw [this, Nat.mod_eq_of_lt hb]
  have h2 : (x ^^^ b) / 256 = x / 256 := by
    have := Nat.shiftRight_xor_distrib (a := x) (b := b) (i := 8)
    simp only [Nat.shiftRight_eq_div_pow] at this
    rw [show (2 : Nat) ^ 8 = 256 from rfl] at this
    rw [this, Nat.div_eq_of_lt hb, Nat.xor_zero]
  have h3 := Nat.div_add_mod (x ^^^ b) 256
  have h4 := Nat.div_add_mod x 256
  omega

theorem bt_get (s : ByteArray) (i : Nat) (h : i < s.size) : bt s (i : Int) = ((s[i]).toNat : Int) := by simp [bt, h]
theorem drop_at (s : ByteArray) (i : Nat) (h : i < s.size) : s.data.toList.drop i = s[i] :: s.data.toList.drop (i + 1) := by
  rw [List.drop_eq_getElem_cons (by simpa using h)]
  rfl

theorem own_loop (s : ByteArray) (hs : s.size ≤ 4611686018427387904) : ∀ (d i x : Nat), s.size - i = d → i ≤ s.size → x < 4294967296 →
    Ev (fun k => digest_Extend.l0 k (x : Int) s (s.size : Int) (i : Int)) (ext x (s.data.toList.drop i) : Int) := by
  intro d
  induction d with
  | zero =>
    intro i x hd hi hx
    refine Ev.step (f := fun _ => some (x : Int)) (fun k => ?_) ?_
    · simp only [digest_Extend.l0]; rw [if_neg (by omega)]
    · rw [List.drop_of_length_le (by simp; omega)]; exact Ev.now _
  | succ d ih =>
    intro i x hd hi hx
    have hlt : i < s.size := by omega
    have hb := (s[i]).toNat_lt
    refine Ev.step (f := fun k => digest_Extend.l0 k (mix x s[i] : Int) s (s.size : Int) ((i + 1 : Nat) : Int)) (fun k => ?_) ?_
    · simp only [digest_Extend.l0]
      rw [if_pos (by omega), if_pos (by omega), if_pos (by omega), bt_get s i hlt, show ((s[i]).toNat : Int) % 4294967296 = ((s[i]).toNat : Int) from by omega, xor32 x _ hx]
      have hw : wrap64 ((i : Int) + 1) = ((i + 1 : Nat) : Int) := by unfold wrap64; omega
      rw [hw]
      congr 1
      unfold mix
      omega
    · rw [drop_at s i hlt]
      exact ih (i + 1) (mix x s[i]) (by omega) (by omega) (mix_lt _ _)

theorem own_ext (s : ByteArray) (hs : s.size ≤ 4611686018427387904) (x : Nat) (hx : x < 4294967296) : Ev (fun k => digest_Extend.f k (x : Int) s) (ext x s.data.toList : Int) := by
  have := own_loop s hs s.size 0 x (by omega) (by omega) hx
  exact this
theorem own_sum (s : ByteArray) (hs : s.size ≤ 4611686018427387904) : Ev (fun k => digest_Sum.f k s) (ext 2166136261 s.data.toList : Int) :=
  Ev.bind (own_ext s hs 2166136261 (by decide)) (Ev.now _)
theorem live_ev : Ev (fun k => oxbowlaw07_live.f k) true := by
  unfold oxbowlaw07_live.f
  refine Ev.bind (own_sum _ (by decide)) (ev_pos (by decide) (Ev.bind (own_sum _ (by decide)) (ev_pos (by decide +kernel) (Ev.bind (own_sum _ (by decide)) (ev_pos (by decide +kernel) ?_)))))
  exact Ev.congr (fun _ => by decide +kernel) (Ev.now true)

theorem mix_back (y : Nat) (h : y < 4294967296) : ((y * 16777619) % 4294967296 * 899433627) % 4294967296 = y := by
  rw [Nat.mod_mul_mod, Nat.mul_assoc]
  omega
theorem xor_back (x b : Nat) : x ^^^ b ^^^ b = x := by rw [Nat.xor_assoc, Nat.xor_self, Nat.xor_zero]
theorem xor_lt32 (x : Nat) (b : UInt8) (hx : x < 4294967296) : x ^^^ b.toNat < 4294967296 := Nat.xor_lt_two_pow (n := 32) hx (by have := b.toNat_lt; omega)
theorem mix_inj (x y : Nat) (b : UInt8) (hx : x < 4294967296) (hy : y < 4294967296) (h : mix x b = mix y b) : x = y := by
  unfold mix at h
  have h1 := mix_back (x ^^^ b.toNat) (xor_lt32 x b hx)
  have h2 := mix_back (y ^^^ b.toNat) (xor_lt32 y b hy)
  rw [h] at h1
  have h3 : x ^^^ b.toNat = y ^^^ b.toNat := h1.symm.trans h2
  rw [← xor_back x b.toNat, h3, xor_back]
theorem mix_apart (x : Nat) (b c : UInt8) (hx : x < 4294967296) (h : mix x b = mix x c) : b = c := by
  unfold mix at h
  have h1 := mix_back (x ^^^ b.toNat) (xor_lt32 x b hx)
  have h2 := mix_back (x ^^^ c.toNat) (xor_lt32 x c hx)
  rw [h] at h1
  have h3 : x ^^^ b.toNat = x ^^^ c.toNat := h1.symm.trans h2
  have h4 := congrArg (x ^^^ ·) h3
  simp only [← Nat.xor_assoc, Nat.xor_self, Nat.zero_xor] at h4
  exact UInt8.toNat_inj.1 h4
theorem ext_inj (l : List UInt8) : ∀ x y, x < 4294967296 → y < 4294967296 → ext x l = ext y l → x = y := by
  induction l with
  | nil => intro x y _ _ h; exact h
  | cons b l ih => intro x y hx hy h; exact mix_inj x y b hx hy (ih _ _ (mix_lt x b) (mix_lt y b) h)
theorem ext_set (l : List UInt8) (i : Nat) (c : UInt8) (hi : i < l.length) (x : Nat) (hx : x < 4294967296) (h : ext x (l.set i c) = ext x l) : l[i] = c := by
  rw [List.set_eq_take_append_cons_drop, if_pos hi, ext_append] at h
  conv at h => rhs; rw [← List.take_append_drop i l, ext_append, List.drop_eq_getElem_cons hi]
  have h1 := ext_inj (l.drop (i + 1)) _ _ (mix_lt (ext x (l.take i)) c) (mix_lt (ext x (l.take i)) l[i]) h
  exact (mix_apart _ _ _ (ext_lt _ x hx) h1).symm

end Go.Proofs.Ytknbccaineblpaa.Dga
