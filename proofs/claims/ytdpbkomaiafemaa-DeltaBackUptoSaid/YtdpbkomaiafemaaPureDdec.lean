/- What the program's own writing of deltas comes to, in plain words. -/
import Derived.Test.YtdpbkomaiafemaaHDdx3
import Derived.Test.YtdpbkomaiafemaaPureDddn
import Derived.Test.YtdpbkomaiafemaaPureDdpn
namespace Go.Proofs.Ytdpbkomaiafemaa.Ddec
open Go.RowKit Go.Proofs.Ytdpbkomaiafemaa.HDd Go.Proofs.Ytdpbkomaiafemaa.Ddtx Go.Proofs.Ytdpbkomaiafemaa.Dddl Go.Proofs.Ytdpbkomaiafemaa.Dddn Go.Proofs.Ytdpbkomaiafemaa.Ddpk Go.Proofs.Ytdpbkomaiafemaa.Pk Go.Proofs.Ytdpbkomaiafemaa.Tx Go.Proofs.Ytdpbkomaiafemaa.Dl Go.Proofs.YtdpbkomaiafemaaW.PrintWords Go.Proofs.YtdpbkomaiafemaaW.PrintLast Go.Proofs.YtdpbkomaiafemaaW.PrintMore
set_option linter.unusedSimpArgs false
set_option linter.unusedVariables false

/-- Bytes as a string. -/
def B (l : List UInt8) : ByteArray := strOfNums (Ev.ints l)
theorem B_data (l : List UInt8) : (B l).data.toList = l := Ev.strOf_ints l
theorem B_size (l : List UInt8) : (B l).size = l.length := by rw [← Ev.len_data, B_data]
theorem B_append (a b : List UInt8) : B (a ++ b) = B a ++ B b := Ev.ext_data (by rw [Ev.data_append, B_data, B_data, B_data])
theorem B_of (s : ByteArray) : B s.data.toList = s := Ev.ext_data (B_data _)
def kindN : O → Nat
  | .keep _ => 1
  | .del _ => 3
  | .ins _ => 2
theorem kindN_le (o : O) : kindN o ≤ 3 := by cases o <;> simp [kindN]
theorem sop_f0 (o : O) : (sop o).f0 = (kindN o : Int) := by cases o <;> rfl
/-- The bytes of an operation behind its kind; of an operation; of a delta. -/
def bodyB : O → List UInt8
  | .keep n => vb n
  | .del n => vb n
  | .ins p => txt (enc p)
def opB (o : O) : List UInt8 := vb (kindN o) ++ bodyB o
def encB (os : List O) : List UInt8 := vb os.length ++ os.flatMap opB
theorem targ_one {os : List O} {o : O} (h : o ∈ os) (ht : targ os ≤ 1000) : targ [o] ≤ 1000 := by
  induction os with
  | nil => cases h
  | cons x os ih =>
    rcases List.mem_cons.1 h with rfl | h
    · cases o <;> simp only [targ] at ht ⊢ <;> omega
    · exact ih h (by cases x <;> simp only [targ] at ht <;> omega)
theorem opB_length (o : O) (hv : VO o) (ht : targ [o] ≤ 1000) : (opB o).length ≤ 5000 := by
  have hk := vb_le (kindN o) (by have := kindN_le o; omega)
  unfold opB
  rw [List.length_append]
  cases o with
  | keep n => have := vb_le n (by have := hv.2; omega); simp only [bodyB]; omega
  | del n => have := vb_le n (by have := hv.2; omega); simp only [bodyB]; omega
  | ins p =>
    have h1 := enc_length_le p
    have h2 : p.length ≤ 1000 := by simpa [targ] using ht
    have := vb_le (enc p).length (by omega)
    simp only [bodyB, txt, List.length_append]
    omega
def encR (d : List S36) : ByteArray × Int :=
  if (lensR d).2.2 = 0 then (match parse d with
    | some os => (B (encB os), 0)
    | none => (⟨#[]⟩, 0)) else (⟨#[]⟩, (lensR d).2.2)
theorem part_ev (o : O) (hv : VO o) (ht : targ [o] ≤ 1000) : Ev (fun k => delta_Encode.part k (sop o)) (B (bodyB o), 0) := by
  unfold delta_Encode.part
  cases o with
  | keep n => exact Ev.neg (show ¬ (1 : Int) = 2 by decide) (num_ev n (by have := hv.2; omega))
  | del n => exact Ev.neg (show ¬ (3 : Int) = 2 by decide) (num_ev n (by have := hv.2; omega))
  | ins p =>
    refine Ev.pos rfl (Ev.val (packText_ev (st p)) ?_)
    have h1 := enc_length_le p
    have h2 : p.length ≤ 1000 := by simpa [targ] using ht
    unfold textR
    rw [if_pos (by rw [st_size]; omega)]
    simp only [bodyB, txt, Prod.mk.injEq, and_true]
    rw [B_append, st_size]
    rfl
theorem enc_loop (os : List O) (hv : V os) (hl : os.length ≤ 3000) (ht : targ os ≤ 1000) : ∀ (r i : Nat) (out : ByteArray), os.length = i + r → out.size ≤ 100 + 5000 * i → Ev (fun k => delta_Encode.l0 k (os.map sop) out (i : Int)) (out ++ B ((os.drop i).flatMap opB), 0)
  | 0, i, out, hi, ho => by
    refine Ev.step (fun k => by simp only [delta_Encode.l0]; rfl) (Ev.neg (by rw [List.length_map]; omega) (Ev.val (Ev.now _) ?_))
    rw [List.drop_of_length_le (by omega)]
    simp only [List.flatMap_nil]
    rw [show B [] = (⟨#[]⟩ : ByteArray) from rfl, em_append]
  | r + 1, i, out, hi, ho => by
    have hil : i < os.length := by omega
    have hvi : VO os[i] := hv _ (List.getElem_mem hil)
    have hti : targ [os[i]] ≤ 1000 := targ_one (List.getElem_mem hil) ht
    have hb := opB_length os[i] hvi hti
    have hk := vb_le (kindN os[i]) (by have := kindN_le os[i]; omega)
    have w1 := Aside0.mk (Ev.wrap_succ i (by omega))
    refine Ev.step (fun k => by simp only [delta_Encode.l0]; rfl) (Ev.pos (by rw [List.length_map]; omega) (Ev.pos (by omega) ?_))
    rw [sop_get os i hil, sop_f0, w1.out]
    have hbl : (opB os[i]).length = (vb (kindN os[i])).length + (bodyB os[i]).length := by simp [opB]
    refine Ev.bind (num_ev (kindN os[i]) (by have := kindN_le os[i]; omega)) (Ev.pos ?_ (Ev.bind (part_ev os[i] hvi hti) (Ev.pos ?_ ?_)))
    · show out.size + (B (vb (kindN os[i]))).size ≤ _
      rw [B_size]; omega
    · show (out ++ B (vb (kindN os[i]))).size + (B (bodyB os[i])).size ≤ _
      rw [ByteArray.size_append, B_size, B_size]; omega
    · refine Ev.val (enc_loop os hv hl ht r (i + 1) _ (by omega) ?_) ?_
      · show ((out ++ B (vb (kindN os[i]))) ++ B (bodyB os[i])).size ≤ _
        rw [ByteArray.size_append, ByteArray.size_append, B_size, B_size]; omega
      · show (((out ++ B (vb (kindN os[i]))) ++ B (bodyB os[i])) ++ _, (0 : Int)) = _
        rw [List.drop_eq_getElem_cons hil, List.flatMap_cons, B_append]
        simp only [opB]
        rw [B_append, ByteArray.append_assoc, ByteArray.append_assoc, ByteArray.append_assoc]
theorem enc_ev (d : List S36) (hd : Sz d) : Ev (fun k => delta_Encode.f k d) (encR d) := by
  unfold delta_Encode.f encR
  refine Ev.bind (check_ev d hd) ?_
  by_cases h0 : (lensR d).2.2 = 0
  · rw [if_pos h0]
    refine Ev.pos h0 ?_
    obtain ⟨os, rfl, hv, hb, ht, hl, he⟩ := lensR_ok h0
    rw [parse_sop hv, List.length_map]
    have hvb := vb_le os.length (by omega)
    refine Ev.bind (num_ev os.length (by omega)) (Ev.pos ?_ ?_)
    · show (B (vb os.length)).size ≤ _
      rw [B_size]; omega
    · refine Ev.val (enc_loop os hv hl ht os.length 0 (B (vb os.length)) (by omega) (by rw [B_size]; omega)) ?_
      simp only [List.drop_zero, encB]
      rw [B_append]
  · rw [if_neg h0]
    exact Ev.neg h0 (Ev.now _)
end Go.Proofs.Ytdpbkomaiafemaa.Ddec
