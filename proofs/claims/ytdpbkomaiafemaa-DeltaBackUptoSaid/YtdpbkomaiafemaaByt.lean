/- A row of bytes that the call made out of a string ('[]byte(s)'), and what is appended to it: its block bears a mark behind its last cell. Laws for the walk, over any program. -/
import Derived.Lib.AppendStr
import Derived.Lib.ConvBytes
import Derived.Laws.BytesArg
import Derived.Below
import Derived.Tactics
import Derived.WalkKit
namespace Go.Proofs.Ytdpbkomaiafemaa.Byt
open Go.RowKit Go.Lib

/-- The value is a row of the call's own with these cells; a mark may stand behind the last one. -/
def OwnM (w : World) (base : Nat) (e : TypeId) (v : Value) (xs : List Value) : Prop :=
  ∃ g cap cur m, v = .slice (some ⟨g, 0, none⟩) xs.length cap ∧ base ≤ g ∧ w.heap[g]? = some (.cells cur e m) ∧ (∀ j, j < cap → ¬ (m.1 ≤ j ∧ j < m.2)) ∧ xs.length ≤ cap ∧ cap ≤ maxLen ∧ cur.size = cap ∧ cur.toList.take xs.length = xs

variable {P : Program}

theorem OwnM.slice {w : World} {base : Nat} {e : TypeId} {v : Value} {xs : List Value} (h : OwnM w base e v xs) : ∃ A c, v = .slice A xs.length c := by
  obtain ⟨g, cap, cur, m, rfl, _⟩ := h
  exact ⟨_, _, rfl⟩
theorem OwnM.cells {w : World} {base g cap n : Nat} {e : TypeId} {xs : List Value} (h : OwnM w base e (.slice (some ⟨g, 0, none⟩) n cap) xs) : ∀ j u, xs[j]? = some u → w.cell? ((⟨g, 0, none⟩ : Addr).add j) = some u := by
  obtain ⟨g', cap', cur, m, hv, _, hg, _, _, _, _, ht⟩ := h
  injection hv with h1 h2 h3
  injection h1 with h1
  injection h1 with h1
  subst h1
  intro j u hj
  have hadd : (⟨g, 0, none⟩ : Addr).add j = ⟨g, j, none⟩ := by unfold Addr.add; split <;> simp_all
  rw [hadd]
  have hjl : j < xs.length := (List.getElem?_eq_some_iff.1 hj).1
  rw [← ht, List.getElem?_take_of_lt hjl] at hj
  simpa [World.cell?, hg] using hj
theorem OwnM.step {w w1 : World} {base : Nat} {e : TypeId} {v : Value} {xs : List Value} (h : OwnM w base e v xs) (hb : ∀ k, k < w.heap.size → w1.heap[k]? = w.heap[k]?) : OwnM w1 base e v xs := by
  obtain ⟨g, cap, cur, m, hv, hg, hh, r⟩ := h
  exact ⟨g, cap, cur, m, hv, hg, (hb g (Array.getElem?_eq_some_iff.1 hh).1).trans hh, r⟩
theorem OwnM.below {w w1 : World} {base : Nat} {e : TypeId} {v : Value} {xs : List Value} (h : OwnM w base e v xs) (hb : Below w.heap.size w w1) : OwnM w1 base e v xs := h.step (fun k hk => hb.block k hk)

theorem made (w : World) (base : Nat) (e : TypeId) (s : ByteArray) (hbase : base ≤ w.heap.size) (hs : s.size ≤ maxLen) :
    OwnM (bytesWorld w e s) base e (.slice (some ⟨w.heap.size, 0, none⟩) s.size (grownCap w s.size 0 e)) (strCells s) ∧ (∀ k, k < w.heap.size → (bytesWorld w e s).heap[k]? = w.heap[k]?) ∧ Below w.heap.size w (bytesWorld w e s) := by
  have hge := grownCap_ge w s.size 0 e
  have hc : (bytesCells w e s).size = grownCap w s.size 0 e := by
    simp only [bytesCells, Array.size_append, Array.size_map, Array.size_replicate]
    show s.size + _ = _
    omega
  refine ⟨⟨w.heap.size, grownCap w s.size 0 e, bytesCells w e s, _, by rw [strCells_length], hbase, bytesWorld_at_new w e s, ?_, by rw [strCells_length]; exact hge, grownCap_le_maxLen _ _ _ _ hs, hc, ?_⟩, bytesWorld_at_old w e s, ⟨?_, ?_, ?_, by rw [bytesWorld_size]; omega, bytesWorld_at_old w e s⟩⟩
  · intro j hj
    rw [hc]
    simp only
    omega
  · rw [strCells_length]
    simp only [bytesCells, Array.toList_append, strCells]
    rw [List.take_append_of_le_length (by simp)]
    rw [List.take_of_length_le (by simp)]
    simp
  · rfl
  · rfl
  · rfl

theorem run_storeCells_M (g : Nat) (t : TypeId) (m : Nat × Nat) : ∀ (vs : List Value) (o i : Nat) (cur : Array Value) (w : World), w.heap[g]? = some (.cells cur t m) → (∀ j, j < cur.size → ¬ (m.1 ≤ j ∧ j < m.2)) → o + i + vs.length ≤ cur.size → (∀ v ∈ vs, v.oneCell' = true) →
    (storeCells ⟨g, o, none⟩ vs i).run P w = .ok () (w.setRow g (cur.toList.take (o + i) ++ vs ++ cur.toList.drop (o + i + vs.length)).toArray)
  | [], o, i, cur, w, hg, _, _, _ => by
    simp only [storeCells, List.append_nil, List.length_nil, Nat.add_zero, List.take_append_drop, Array.toArray_toList]
    rw [setRow_self w g cur t m hg]
    rfl
  | v :: rest, o, i, cur, w, hg, hm, hl, h1 => by
    have hi : o + i < cur.size := by simp at hl; omega
    have hadd : (⟨g, o, none⟩ : Addr).add i = ⟨g, o + i, none⟩ := by unfold Addr.add; split <;> simp_all
    have hcell : w.cell? ⟨g, o + i, none⟩ = some cur[o + i] := by simp [World.cell?, hg, hi]
    have hfro : w.frozen? ⟨g, o + i, none⟩ = false := by
      have := hm (o + i) hi
      simp [World.frozen?, hg]
      omega
    have hst : (store ((⟨g, o, none⟩ : Addr).add i) v).run P w = .ok () (w.setRow g (cur.setIfInBounds (o + i) v)) := by
      rw [hadd, run_store P w _ v _ (h1 v (by simp)), hcell]
      simp [hfro, setCell_eq_setRow w g (o + i) cur t m v hg]
    have ih := run_storeCells_M g t m rest o (i + 1) (cur.setIfInBounds (o + i) v) (w.setRow g (cur.setIfInBounds (o + i) v)) (setRow_heap w g cur _ t _ hg) (fun j hj => hm j (by simpa using hj)) (by simp at hl ⊢; omega) (fun x hx => h1 x (by simp [hx]))
    simp only [storeCells, Sem.run_bind, hst, Result.andThen_ok, ih, setRow_setRow]
    congr 3
    have e := list_seg_step cur.toList (o + i) v rest (by simp at hl ⊢; omega)
    simpa [Array.toList_setIfInBounds, Nat.add_assoc] using e

/-- Appending a string's bytes. -/
theorem run_append_M_string (w : World) (base : Nat) (t u ty e : TypeId) (i : TypeInfo) (ht : P.underlying t = some (.slice e)) (hu : P.underlying u = some .string) (hi : P.info? e = some i) (hz : i.zero = some (.int .u8 0))
    (hsize : i.size = 1) (hby : i.bytes = 1) (v : Value) (xs : List Value) (hown : OwnM w base e v xs) (s : ByteArray) (hbytes : xs.length + s.size ≤ 140737488355328) (hbase : base ≤ w.heap.size) :
    ∃ v' w', (Builtin.append_ #[t, u] ty #[v, .string s]).run P w = .ok v' w' ∧ OwnM w' base e v' (xs ++ strCells s) ∧ w.grownBy w' v.ownBlock := by
  obtain ⟨g, cap, cur, m, rfl, hbg, hg, hm, hnc, hcm, hcs, htake⟩ := hown
  have hlen : (xs ++ strCells s).length = xs.length + s.size := by rw [List.length_append, strCells_length]
  by_cases hroom : xs.length + s.size ≤ cap
  · have hf := run_firstCells_string (P := P) w 1 s
    have hst := run_storeCells_M (P := P) g e m (strCells s) xs.length 0 cur w hg (by rw [hcs]; exact hm) (by rw [strCells_length]; omega) (strCells_oneCell s)
    simp only [Nat.add_zero, strCells_length] at hst
    refine ⟨.slice (some ⟨g, 0, none⟩) (xs.length + s.size) cap, w.setRow g (cur.toList.take xs.length ++ strCells s ++ cur.toList.drop (xs.length + s.size)).toArray, ?_, ?_, ⟨rfl, rfl, rfl, by simp, fun k _ hk => setRow_other w g k _ (fun e => hk (by simp [Value.ownBlock, e]))⟩⟩
    · simp [Builtin.append_, run_underlying ht, run_underlying hu, sizeOf, typeInfo, hi, hsize, Builtin.lenOf, hroom, hf, Addr.add_lit, hst]
    · refine ⟨g, cap, _, m, by rw [hlen], hbg, setRow_heap w g cur _ e _ hg, hm, by rw [hlen]; exact hroom, hcm, ?_, ?_⟩
      · simp only [List.size_toArray, List.length_append, List.length_take, List.length_drop, Array.length_toList, strCells_length]
        omega
      · rw [htake, hlen]
        have : (xs ++ strCells s).length = xs.length + s.size := hlen
        rw [← this]
        exact List.take_left
  · have hown : OwnM w base e (.slice (some ⟨g, 0, none⟩) xs.length cap) xs := ⟨g, cap, cur, m, rfl, hbg, hg, hm, hnc, hcm, hcs, htake⟩
    have hr := run_append_grow_string (P := P) w t u ty e i (.int .u8 0) ht hu hi hz ⟨g, 0, none⟩ xs.length cap xs (by rw [hsize, Nat.mul_one]) hown.cells s (by omega) (by omega) (by rw [hby]; exact growslice_fits (by omega) (by omega))
    have hge := grownCap_ge w (xs.length + s.size) cap e
    have hcm2 : grownCap w (xs.length + s.size) cap e ≤ maxLen := grownCap_le_maxLen w (xs.length + s.size) cap e (by unfold maxLen; omega)
    refine ⟨_, _, hr, ⟨w.heap.size, _, _, (0, 0), by rw [hlen], hbase, heap_alloc_new w.drew _, by simp, by rw [hlen]; exact hge, hcm2, ?_, ?_⟩, ⟨rfl, rfl, rfl, by simp, fun k hk _ => Below.heap_alloc w.drew _ k hk⟩⟩
    · have hz1 : (Value.int IntKind.u8 0).cells.size = 1 := rfl
      simp only [Array.size_append, List.size_toArray, size_zeroCells, hz1, strCells_length]
      omega
    · simp only [Array.toList_append, List.append_assoc]
      rw [← List.append_assoc]
      exact List.take_left

/-- The operation, for the walk. -/
theorem wpList_append_M {w : World} {ops : Array Oper} {rest : List Oper} {o : Oper} {a : Act} {Q : Exit → Act → World → Prop} (hgd : o.guard = none) (sl x : Operand) (t u : TypeId)
    (ho : o.op = .call { callee := .builtin .append, args := #[sl, x], argTypes := #[t, u] })
    (base : Nat) (e : TypeId) (ht : P.underlying t = some (.slice e)) (hu : P.underlying u = some .string) (hinfo : (P.info? e).map (fun i => (i.zero, i.size, i.bytes)) = some (some (.int .u8 0), 1, 1))
    (v : Value) (xs : List Value) (hs : a.eval sl = v) (hown : OwnM w base e v xs) (s : ByteArray) (hx : a.eval x = .string s)
    (hbytes : xs.length + s.size ≤ 140737488355328) (hbase : base ≤ w.heap.size)
    (h : ∀ v' w', OwnM w' base e v' (xs ++ strCells s) → w.grownBy w' v.ownBlock → wpList P ops Q rest (a.put o.dst v') w') : wpList P ops Q (o :: rest) a w := by
  refine wpList_plain hgd fun K hK => ?_
  obtain ⟨i, hi, hzz⟩ := Option.map_eq_some_iff.1 hinfo
  simp only [Prod.mk.injEq] at hzz
  obtain ⟨v', w', hr, h2, h3⟩ := run_append_M_string (P := P) w base t u o.type e i ht hu hi hzz.1 hzz.2.1 hzz.2.2 v xs hown s hbytes hbase
  unfold Oper.wp execOp
  simp only [ho, resolve, invoke, builtin, Sem.run_bind, Sem.run_pure, Result.andThen_ok, List.map_toArray, List.map_cons, List.map_nil, hs, hx, hr]
  exact hK _ _ (h v' w' h2 h3)

/-- '[]byte(s)', for the walk. -/
theorem wpList_bytes {w : World} {ops : Array Oper} {rest : List Oper} {o : Oper} {a : Act} {Q : Exit → Act → World → Prop} (hgd : o.guard = none) (src dst : TypeId) (x : Operand)
    (ho : o.op = .convert src dst x) (base : Nat) (e : TypeId) (hs : P.underlying src = some .string) (hd : P.underlying dst = some (.slice e)) (he : P.underlying e = some (.int .u8))
    (s : ByteArray) (hx : a.eval x = .string s) (hl : s.size ≤ maxLen) (hbase : base ≤ w.heap.size)
    (h : ∀ v' w', OwnM w' base e v' (strCells s) → (∀ k, v'.ownBlock = some k → w.heap.size ≤ k) → Below w.heap.size w w' → wpList P ops Q rest (a.put o.dst v') w') : wpList P ops Q (o :: rest) a w := by
  refine wpList_plain hgd fun K hK => ?_
  have hr := Lib.run_convert_string_bytes (P := P) w src dst e s hs hd he
  obtain ⟨h1, _, h3⟩ := made w base e s hbase hl
  have hrun : (execOp a.eval o).run P w = .ok (.value (.slice (some ⟨w.heap.size, 0, none⟩) s.size (grownCap w s.size 0 e))) (bytesWorld w e s) := by
    unfold execOp
    simp [ho, hx, hr]
  unfold Oper.wp
  rw [hrun]
  exact hK _ _ (h _ _ h1 (fun k hk => by have : w.heap.size = k := by simpa [Value.ownBlock] using hk
                                         omega) h3)

theorem strCells_append (s t : ByteArray) : strCells (s ++ t) = strCells s ++ strCells t := by simp [strCells]
/-- The bytes of a row as cells. -/
def numCells (xs : List Int) : List Value := xs.map (Value.int .u8)
theorem OwnM.base_le {w : World} {base : Nat} {e : TypeId} {v : Value} {xs : List Value} (h : OwnM w base e v xs) : ∀ k, v.ownBlock = some k → base ≤ k := by
  obtain ⟨g, cap, cur, m, rfl, hb, _⟩ := h
  intro k hk
  have : g = k := by simpa [Value.ownBlock] using hk
  omega
/-- Back to a string. -/
theorem OwnM.toString {w : World} {base : Nat} {e' src dst e : TypeId} {v : Value} {s : ByteArray} (hs : P.underlying src = some (.slice e)) (he : P.underlying e = some (.int .u8)) (hd : P.underlying dst = some .string)
    (h : OwnM w base e' v (strCells s)) : (convert src dst v).run P w = .ok (.string s) w := by
  obtain ⟨A, c, hv⟩ := h.slice
  have h2 := h
  obtain ⟨g, cap, cur, m, rfl, _⟩ := h2
  have hr := run_convert_bytes_arg (P := P) w src e hs he g 0 (strCells s).length cap (s.data.toList.map fun b => (b.toNat : Int)) (by simp [strCells]) (fun i hi => ?_) dst hd
  · rw [hr]
    congr 2
    unfold strOfNums
    rw [List.map_map]
    have : ((fun n : Int => UInt8.ofNat n.toNat) ∘ fun b : UInt8 => (b.toNat : Int)) = id := by
      funext b
      simp
    rw [this, List.map_id]
  · have hl : i < s.data.toList.length := by simpa [strCells] using hi
    have hl' : i < s.data.size := by simpa using hl
    have hc := h.cells (g := g) i (.int .u8 (s.data.toList[i]).toNat) (by simp [strCells, Array.getElem?_eq_getElem hl'])
    have hadd : (⟨g, 0, none⟩ : Addr).add i = ⟨g, 0 + i, none⟩ := by unfold Addr.add; split <;> simp_all
    rw [hadd] at hc
    rw [hc]
    simp [List.getD_eq_getElem?_getD, Array.getElem?_eq_getElem hl']
/-- One byte written into the row. -/
theorem OwnM.set {w : World} {base g n cap : Nat} {e : TypeId} {xs : List Value} (h : OwnM w base e (.slice (some ⟨g, 0, none⟩) n cap) xs) (i : Nat) (hi : i < xs.length) (v : Value) :
    w.frozen? ⟨g, i, none⟩ = false ∧ OwnM (w.setCell ⟨g, i, none⟩ v) base e (.slice (some ⟨g, 0, none⟩) n cap) (xs.set i v) ∧ w.grownBy (w.setCell ⟨g, i, none⟩ v) (some g) := by
  obtain ⟨g', cap', cur, m, hv, hbg, hg, hm, hnc, hcm, hcs, ht⟩ := h
  injection hv with h2 h3 h4
  injection h2 with h2
  injection h2 with h2
  subst h2 h3 h4
  have hi' : i < cur.size := by omega
  have hfro : w.frozen? ⟨g, i, none⟩ = false := by
    have := hm i (by omega)
    simp [World.frozen?, hg]
    omega
  rw [setCell_eq_setRow w g i cur e m v hg]
  refine ⟨hfro, ⟨g, cap, _, m, by rw [List.length_set], hbg, setRow_heap w g cur _ e _ hg, hm, by rw [List.length_set]; exact hnc, hcm, by rw [Array.size_setIfInBounds]; exact hcs, ?_⟩, ⟨rfl, rfl, rfl, by simp, fun k _ hk => setRow_other w g k _ (fun e => hk (by simp [e]))⟩⟩
  rw [Array.toList_setIfInBounds, List.length_set, List.take_set, ht]
theorem OwnM.heap {w w1 : World} {base : Nat} {e : TypeId} {v : Value} {xs : List Value} (h : OwnM w base e v xs) (hb : w1.heap = w.heap) : OwnM w1 base e v xs := h.step (fun k _ => by rw [hb])
theorem strCells_set (s : ByteArray) (i : Nat) (x : Int) (h0 : 0 ≤ x) (h1 : x < 256) : (strCells s).set i (.int .u8 x) = strCells ⟨s.data.setIfInBounds i (UInt8.ofNat x.toNat)⟩ := by
  simp only [strCells, Array.toList_setIfInBounds, List.map_set]
  congr 2
  have : (UInt8.ofNat x.toNat).toNat = x.toNat := by rw [UInt8.toNat_ofNat']; exact Nat.mod_eq_of_lt (by omega)
  rw [this]
  omega
theorem at_zero (g i : Nat) : (⟨g, 0, none⟩ : Addr).add i = ⟨g, i, none⟩ := by unfold Addr.add; split <;> simp_all
end Go.Proofs.Ytdpbkomaiafemaa.Byt
