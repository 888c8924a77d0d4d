/- What any delta makes of any text, as the document says: for every text and every delta that are small altogether. -/
import Derived.Test.YtdpbkomaiafemaaHDlx9
import Derived.Test.YtdpbkomaiafemaaPureDldn
namespace Go.Proofs.Ytdpbkomaiafemaa.Pure
open Go.RowKit Go.Proofs.Ytdpbkomaiafemaa.HDl Go.Proofs.Ytdpbkomaiafemaa.Dltx Go.Proofs.Ytdpbkomaiafemaa.Dldl Go.Proofs.Ytdpbkomaiafemaa.Dldn Go.Proofs.Ytdpbkomaiafemaa.Tx Go.Proofs.Ytdpbkomaiafemaa.Dl Go.Proofs.YtdpbkomaiafemaaW.PrintWords Go.Proofs.YtdpbkomaiafemaaW.PrintLast Go.Proofs.YtdpbkomaiafemaaW.PrintMore
set_option linter.unusedSimpArgs false
set_option linter.unusedVariables false

theorem refapply_loop (os : List O) (hv : V os) (hn : os.length ≤ 3000) (l : List Nat) (hl : AllP l) (hm : l.length < 1099511627776) : ∀ (r i a : Nat) (acc : List Nat), os.length = i + r → a + base (os.drop i) ≤ l.length → (acc ++ app (os.drop i) (l.drop a)).length ≤ 1099511627776 →
    Ev (fun k => oxbowref09_Apply.l0 k (os.map sop) (zs l) (st acc) (a : Int) (i : Int)) (st (acc ++ app (os.drop i) (l.drop a)), 0)
  | 0, i, a, acc, hi, hb, ha => by
    refine Ev.step (fun k => by simp only [oxbowref09_Apply.l0]; rfl) (Ev.neg (by rw [List.length_map]; omega) (Ev.val (Ev.now _) ?_))
    rw [List.drop_of_length_le (by omega)]
    simp [app]
  | r + 1, i, a, acc, hi, hb, ha => by
    have hil : i < os.length := by omega
    have ed := List.drop_eq_getElem_cons hil
    have hvi : VO os[i] := hv _ (List.getElem_mem hil)
    refine Ev.step (fun k => by simp only [oxbowref09_Apply.l0]; rfl) (Ev.pos (by rw [List.length_map]; omega) (Ev.pos (by omega) ?_))
    have w2 := Aside0.mk (Ev.wrap_succ i (by omega))
    have w1 := Aside0.mk (Ev.wrap_add a (sN os[i]) (by
      rw [ed] at hb
      cases h : os[i] <;> rw [h] at hb <;> simp only [base, sN] at hb ⊢ <;> omega))
    rw [sop_get os i hil, sop_f1, w2.out, w1.out, ed]
    rw [ed] at hb ha
    have B := fun (q : List Nat) => enc_length_le q
    cases ho : os[i] with
    | keep n =>
      rw [ho] at hb ha hvi
      simp only [base] at hb
      simp only [app] at ha ⊢
      simp only [sN, sop]
      refine Ev.pos trivial (Ev.pos (by omega) (Ev.pos (by omega) (Ev.pos (by rw [zs_length]; omega) ?_)))
      rw [Int.toNat_natCast, Int.toNat_natCast, zs_take, zs_drop]
      have et : (l.take (a + n)).drop a = (l.drop a).take n := by rw [List.drop_take]; congr 1; omega
      rw [et]
      rw [← List.append_assoc] at ha ⊢
      have hs1 : (st acc).size + (st ((l.drop a).take n)).size ≤ 9223372036854775807 := by
        have h1 := B (acc ++ (l.drop a).take n)
        have h2 : (acc ++ (l.drop a).take n).length ≤ 1099511627776 := by rw [List.length_append] at ha; omega
        rw [enc_append, List.length_append] at h1
        rw [st_size, st_size]
        omega
      refine Ev.bind (ref_text_ev _ ((hl.drop a).take n) (by rw [List.length_take, List.length_drop]; omega)) (Ev.pos hs1 (Ev.pos ?_ ?_))
      · rw [ByteArray.size_append]; exact hs1
      · rw [em_append, ← st_append]
        rw [List.drop_drop] at ha ⊢
        exact refapply_loop os hv hn l hl hm r (i + 1) (a + n) _ (by omega) (by omega) ha
    | del n =>
      rw [ho] at hb ha hvi
      simp only [base] at hb
      simp only [app] at ha ⊢
      simp only [sN, sop]
      refine Ev.neg (by decide) (Ev.pos ?_ ?_)
      · have h1 := B acc
        have h2 : acc.length ≤ 1099511627776 := by rw [List.length_append] at ha; omega
        rw [st_size]
        show _ + 0 ≤ _
        omega
      · rw [em_append]
        rw [List.drop_drop] at ha ⊢
        exact refapply_loop os hv hn l hl hm r (i + 1) (a + n) _ (by omega) (by omega) ha
    | ins p =>
      rw [ho] at hb ha hvi
      simp only [base] at hb
      simp only [app] at ha ⊢
      simp only [sN, sop]
      rw [← List.append_assoc] at ha ⊢
      refine Ev.neg (by decide) (Ev.pos ?_ ?_)
      · have h1 := B (acc ++ p)
        have h2 : (acc ++ p).length ≤ 1099511627776 := by rw [List.length_append] at ha; omega
        rw [enc_append, List.length_append] at h1
        rw [st_size, st_size]
        omega
      · rw [← st_append]
        exact refapply_loop os hv hn l hl hm r (i + 1) a _ (by omega) hb ha
theorem refapply_ev (s : ByteArray) (hs : s.size < 1099511627776) (d : List S36) (hd : Sz d) : Ev (fun k => oxbowref09_Apply.f k s d) (applyR s d) := by
  unfold oxbowref09_Apply.f applyR
  refine Ev.bind (ref_points_ev s (by omega)) ?_
  cases hp : dec s.data.toList with
  | none => exact Ev.neg (by simp [ptR]) (Ev.now _)
  | some l =>
    refine Ev.pos rfl (Ev.bind (refbase_ev d hd) ?_)
    simp only [ptR, List.nil_append, zs_length]
    by_cases h0 : (lensR d).2.2 = 0
    · rw [if_pos h0]
      refine Ev.pos h0 ?_
      by_cases h1 : (lensR d).1 = (l.length : Int)
      · rw [if_pos h1]
        refine Ev.pos h1 ?_
        obtain ⟨os, rfl, hv, hb, ht, hl, he⟩ := lensR_ok h0
        rw [parse_sop hv]
        simp only
        rw [he] at h1
        have hbl : base os = l.length := Int.ofNat.inj h1
        have := refapply_loop os hv hl l (dec_allP hp) (by omega) os.length 0 0 [] (by omega) (by simp; omega) (by simp only [List.drop_zero, List.nil_append]; rw [app_length os l (by omega)]; omega)
        rw [st_nil] at this
        simpa using this
      · rw [if_neg h1]
        exact Ev.neg h1 (Ev.now _)
    · rw [if_neg h0]
      exact Ev.neg h0 (Ev.now _)
theorem DeltaApplies : oxbowlaw09_DeltaApplies.Pure := by
  intro s d hs hd hb
  obtain ⟨hz, hl⟩ := sz_of hb
  refine Ev.rounds ?_
  unfold oxbowlaw09_DeltaApplies.f
  refine Ev.bind (a := d) (Ev.const (by unfold oxbowlaw09_Copied.f; rw [if_pos (by simp only [List.length_nil]; omega), List.nil_append])) ?_
  exact Ev.bind (apply_ev s (by omega) d hz) (Ev.bind (refapply_ev s (by omega) d hz) (Ev.pos rfl (Ev.pos rfl (Ev.bind live_ev (Ev.now _)))))
end Go.Proofs.Ytdpbkomaiafemaa.Pure
