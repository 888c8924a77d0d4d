/- Small words for the plain laws: what a printed function comes to, from some number of rounds on; strings and lists. -/
import Derived.Test.YtdpbkomaiafemaaWWords
import Derived.Test.YtdpbkomaiafemaaWMore
import Derived.Laws.BitsLemmas
import Derived.Lib.Strings
namespace Go.Proofs.Ytdpbkomaiafemaa.Ev
open Go.RowKit Go.Proofs.YtdpbkomaiafemaaW.PrintWords Go.Proofs.YtdpbkomaiafemaaW.PrintLast Go.Proofs.YtdpbkomaiafemaaW.PrintMore
set_option linter.unusedSimpArgs false
set_option linter.unusedVariables false

theorem pos {α : Type} {c : Prop} [Decidable c] {f g : Nat → Option α} {r : α} (h : c) (hf : Ev f r) : Ev (fun k => if c then f k else g k) r := Ev.congr (fun _ => if_pos h) hf
theorem neg {α : Type} {c : Prop} [Decidable c] {f g : Nat → Option α} {r : α} (h : ¬ c) (hg : Ev g r) : Ev (fun k => if c then f k else g k) r := Ev.congr (fun _ => if_neg h) hg
theorem val {α : Type} {g : Nat → Option α} {r r' : α} (h : Ev g r) (e : r = r') : Ev g r' := e ▸ h
theorem const {α : Type} {o : Option α} {r : α} (h : o = some r) : Ev (fun _ => o) r := Ev.congr (fun _ => h) (Ev.now r)
/-- From a head: the first round is unfolded. -/
theorem head {α : Type} {g f : Nat → Option α} {r : α} (h : ∀ k, g (k + 1) = f k) (k : Ev f r) : Ev g r := Ev.step h k

theorem wrap_id (n : Int) (h0 : -9223372036854775808 ≤ n) (h1 : n ≤ 9223372036854775807) : wrap64 n = n := by unfold wrap64; omega
theorem wrap_nat (n : Nat) (h : n < 9223372036854775808) : wrap64 (n : Int) = (n : Int) := wrap_id _ (by omega) (by omega)
theorem wrap_add (a b : Nat) (h : a + b < 9223372036854775808) : wrap64 ((a : Int) + (b : Int)) = ((a + b : Nat) : Int) := by
  rw [wrap_id _ (by omega) (by omega)]
  omega
theorem wrap_succ (a : Nat) (h : a + 1 < 9223372036854775808) : wrap64 ((a : Int) + 1) = ((a + 1 : Nat) : Int) := wrap_id _ (by omega) (by omega)
theorem wrap_sub (a b : Nat) (h : b ≤ a) (h2 : a < 9223372036854775808) : wrap64 ((a : Int) - (b : Int)) = ((a - b : Nat) : Int) := by
  rw [wrap_id _ (by omega) (by omega)]
  omega
theorem wf_i64 {n : Int} (h : (Lit.int .i64 n).wf = true) : -9223372036854775808 ≤ n ∧ n ≤ 9223372036854775807 := by
  simp only [Lit.wf, IntKind.min, IntKind.max, IntKind.signed, IntKind.bits, Bool.and_eq_true, decide_eq_true_eq] at h
  simpa using h
theorem wf_u32 {n : Int} (h : (Lit.int .u32 n).wf = true) : 0 ≤ n ∧ n < 4294967296 := by
  simp only [Lit.wf, IntKind.min, IntKind.max, IntKind.signed, IntKind.bits, Bool.and_eq_true, decide_eq_true_eq] at h
  simp at h
  omega
theorem u64_id (n : Int) (h0 : 0 ≤ n) (h1 : n < 18446744073709551616) : IntKind.u64.wrap n = n := by
  simp [IntKind.wrap, IntKind.bits, IntKind.signed]
  omega

theorem toList_data (s : ByteArray) : s.toList = s.data.toList := Lib.toList_data s
theorem len_data (s : ByteArray) : s.data.toList.length = s.size := by rw [Array.length_toList]; rfl
theorem ext_data {s t : ByteArray} (h : s.data.toList = t.data.toList) : s = t := by
  cases s; cases t
  simp only [ByteArray.mk.injEq]
  exact Array.ext' h
theorem data_append (a b : ByteArray) : (a ++ b).data.toList = a.data.toList ++ b.data.toList := by simp
theorem extract_data (s : ByteArray) (i j : Nat) : (s.extract i j).data.toList = (s.data.toList.take j).drop i := by
  rw [ByteArray.data_extract, Array.toList_extract, List.extract_eq_take_drop, List.drop_take]
theorem bt_get (s : ByteArray) (i : Nat) (h : i < s.size) : bt s (i : Int) = ((s[i]).toNat : Int) := by simp [bt, h]
theorem drop_at (s : ByteArray) (i : Nat) (h : i < s.size) : s.data.toList.drop i = s[i] :: s.data.toList.drop (i + 1) := by
  rw [List.drop_eq_getElem_cons (by simpa using h)]
  rfl
theorem drop_end (s : ByteArray) (i : Nat) (h : s.size ≤ i) : s.data.toList.drop i = [] := List.drop_of_length_le (by rw [len_data]; exact h)
theorem rdOf_get {α : Type} (d : α) (l : List α) (i : Nat) (h : i < l.length) : rdOf d l (i : Int) = l[i] := by
  unfold rdOf
  rw [Int.toNat_natCast, List.getD_eq_getElem?_getD, List.getElem?_eq_getElem h]
  rfl
/-- Bytes as numbers. -/
def ints (l : List UInt8) : List Int := l.map fun b => (b.toNat : Int)
theorem strOf_ints (l : List UInt8) : (strOfNums (ints l)).data.toList = l := by
  rw [strOfNums_data, ints, List.map_map]
  have : ((fun n : Int => UInt8.ofNat n.toNat) ∘ fun b : UInt8 => (b.toNat : Int)) = id := by
    funext b
    simp
  rw [this, List.map_id]
theorem ints_append (l m : List UInt8) : ints (l ++ m) = ints l ++ ints m := List.map_append
theorem ints_length (l : List UInt8) : (ints l).length = l.length := List.length_map _
theorem bytesOf_ints (s : ByteArray) : bytesOf s = ints s.data.toList := rfl
theorem strOf_bytes (s : ByteArray) : strOfNums (ints s.data.toList) = s := ext_data (strOf_ints _)
end Go.Proofs.Ytdpbkomaiafemaa.Ev
