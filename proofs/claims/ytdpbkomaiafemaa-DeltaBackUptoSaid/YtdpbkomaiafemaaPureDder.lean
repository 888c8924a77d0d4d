/- What the document's writing of deltas comes to, in plain words. -/
import Derived.Test.YtdpbkomaiafemaaHDdx9
import Derived.Test.YtdpbkomaiafemaaPureDdec
import Derived.Test.YtdpbkomaiafemaaPureDdpr
namespace Go.Proofs.Ytdpbkomaiafemaa.Ddec
open Go.RowKit Go.Proofs.Ytdpbkomaiafemaa.HDd Go.Proofs.Ytdpbkomaiafemaa.Ddtx Go.Proofs.Ytdpbkomaiafemaa.Dddl Go.Proofs.Ytdpbkomaiafemaa.Dddn Go.Proofs.Ytdpbkomaiafemaa.Ddpk Go.Proofs.Ytdpbkomaiafemaa.Pk Go.Proofs.Ytdpbkomaiafemaa.Tx Go.Proofs.Ytdpbkomaiafemaa.Dl Go.Proofs.YtdpbkomaiafemaaW.PrintWords Go.Proofs.YtdpbkomaiafemaaW.PrintLast Go.Proofs.YtdpbkomaiafemaaW.PrintMore
set_option linter.unusedSimpArgs false
set_option linter.unusedVariables false

theorem refpart_ev (o : O) (hv : VO o) (ht : targ [o] ≤ 1000) : Ev (fun k => oxbowref09_Encode.part k (sop o)) (B (bodyB o), 0) := by
  unfold oxbowref09_Encode.part
  cases o with
  | keep n => exact Ev.neg (show ¬ (1 : Int) = 2 by decide) (refNum_ev n (by have := hv.2; omega))
  | del n => exact Ev.neg (show ¬ (3 : Int) = 2 by decide) (refNum_ev n (by have := hv.2; omega))
  | ins p =>
    refine Ev.pos rfl (Ev.val (refText_ev (st p)) ?_)
    have h1 := enc_length_le p
    have h2 : p.length ≤ 1000 := by simpa [targ] using ht
    unfold textR
    rw [if_pos (by rw [st_size]; omega)]
    simp only [bodyB, txt, Prod.mk.injEq, and_true]
    rw [B_append, st_size]
    rfl
theorem refenc_loop (os : List O) (hv : V os) (hl : os.length ≤ 3000) (ht : targ os ≤ 1000) : ∀ (r i : Nat) (out : ByteArray), os.length = i + r → out.size ≤ 100 + 5000 * i → Ev (fun k => oxbowref09_Encode.l0 k (os.map sop) out (i : Int)) (out ++ B ((os.drop i).flatMap opB), 0)
  | 0, i, out, hi, ho => by
    refine Ev.step (fun k => by simp only [oxbowref09_Encode.l0]; rfl) (Ev.neg (by rw [List.length_map]; omega) (Ev.val (Ev.now _) ?_))
    rw [List.drop_of_length_le (by omega)]
    simp only [List.flatMap_nil]
    rw [show B [] = (⟨#[]⟩ : ByteArray) from rfl, em_append]
  | r + 1, i, out, hi, ho => by
    have hil : i < os.length := by omega
    have hvi : VO os[i] := hv _ (List.getElem_mem hil)
    have hti : targ [os[i]] ≤ 1000 := targ_one (List.getElem_mem hil) ht
    have hb := opB_length os[i] hvi hti
    have hk := vb_le (kindN os[i]) (by have := kindN_le os[i]; omega)
    have w1 := Aside0.mk (Ev.wrap_succ i (by omega))
    refine Ev.step (fun k => by simp only [oxbowref09_Encode.l0]; rfl) (Ev.pos (by rw [List.length_map]; omega) (Ev.pos (by omega) ?_))
    rw [sop_get os i hil, sop_f0, w1.out]
    have hbl : (opB os[i]).length = (vb (kindN os[i])).length + (bodyB os[i]).length := by simp [opB]
    refine Ev.bind (refNum_ev (kindN os[i]) (by have := kindN_le os[i]; omega)) (Ev.pos ?_ (Ev.bind (refpart_ev os[i] hvi hti) (Ev.pos ?_ ?_)))
    · show out.size + (B (vb (kindN os[i]))).size ≤ _
      rw [B_size]; omega
    · show (out ++ B (vb (kindN os[i]))).size + (B (bodyB os[i])).size ≤ _
      rw [ByteArray.size_append, B_size, B_size]; omega
    · refine Ev.val (refenc_loop os hv hl ht r (i + 1) _ (by omega) ?_) ?_
      · show ((out ++ B (vb (kindN os[i]))) ++ B (bodyB os[i])).size ≤ _
        rw [ByteArray.size_append, ByteArray.size_append, B_size, B_size]; omega
      · show (((out ++ B (vb (kindN os[i]))) ++ B (bodyB os[i])) ++ _, (0 : Int)) = _
        rw [List.drop_eq_getElem_cons hil, List.flatMap_cons, B_append]
        simp only [opB]
        rw [B_append, ByteArray.append_assoc, ByteArray.append_assoc, ByteArray.append_assoc]
theorem refenc_ev (d : List S36) (hd : Sz d) : Ev (fun k => oxbowref09_Encode.f k d) (encR d) := by
  unfold oxbowref09_Encode.f encR
  refine Ev.bind (refcheck_ev d hd) ?_
  by_cases h0 : (lensR d).2.2 = 0
  · rw [if_pos h0]
    refine Ev.pos h0 ?_
    obtain ⟨os, rfl, hv, hb, ht, hl, he⟩ := lensR_ok h0
    rw [parse_sop hv, List.length_map]
    have hvb := vb_le os.length (by omega)
    refine Ev.bind (refNum_ev os.length (by omega)) (Ev.pos ?_ ?_)
    · show (B (vb os.length)).size ≤ _
      rw [B_size]; omega
    · refine Ev.val (refenc_loop os hv hl ht os.length 0 (B (vb os.length)) (by omega) (by rw [B_size]; omega)) ?_
      simp only [List.drop_zero, encB]
      rw [B_append]
  · rw [if_neg h0]
    exact Ev.neg h0 (Ev.now _)
end Go.Proofs.Ytdpbkomaiafemaa.Ddec
