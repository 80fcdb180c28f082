/-
  A row of bytes that began as '[]byte(s)': its mark stands behind its end, and stays there while the row is appended to in place.
-/
import Derived.Test.YtodegmphcjgipaaGreatDoorBase
import Derived.Lib.AppendStr
import Derived.Lib.UnsafeStr
import Derived.Lib.FrozenHead
import Derived.Lib.ConvBytes
import Derived.Lib.AtoiErrMem
namespace Go.Proofs.YtodegmphcjgipaaGreatDoor
open Go.RowKit

theorem store_marked (P : Program) (g o : Nat) (t : TypeId) (fz : Nat × Nat) : ∀ (vs : List Value) (i : Nat) (cur : Array Value) (w : World), w.heap[g]? = some (.cells cur t fz) → cur.size ≤ fz.1 → o + i + vs.length ≤ cur.size → (∀ u ∈ vs, u.oneCell' = true) →
    (storeCells ⟨g, o, none⟩ vs i).run P w = .ok () (w.setRow g (cur.toList.take (o + i) ++ vs ++ cur.toList.drop (o + i + vs.length)).toArray)
  | [], i, cur, w, hg, _, _, _ => by
    simp only [storeCells, List.append_nil, List.length_nil, Nat.add_zero, List.take_append_drop, Array.toArray_toList]
    rw [setRow_self w g cur t fz hg]; rfl
  | v :: vs, i, cur, w, hg, hm, hl, h1 => by
    have hlt : o + i < cur.size := by simp at hl; omega
    have ha : (⟨g, o, none⟩ : Addr).add i = ⟨g, o + i, none⟩ := by unfold Addr.add; split <;> simp_all
    have hc : w.cell? ⟨g, o + i, none⟩ = some cur[o + i] := by simp [World.cell?, hg, hlt]
    have hf : w.frozen? ⟨g, o + i, none⟩ = false := by
      obtain ⟨a, b⟩ := fz
      simp only at hm
      simp only [World.frozen?, hg, Bool.and_eq_false_iff, decide_eq_false_iff_not]
      left
      omega
    have hs : (store ((⟨g, o, none⟩ : Addr).add i) v).run P w = .ok () (w.setRow g (cur.setIfInBounds (o + i) v)) := by
      rw [ha, run_store P w _ v _ (h1 v (by simp)), hc]
      simp [hf, setCell_eq_setRow w g (o + i) cur t fz v hg]
    have ih := store_marked P g o t fz vs (i + 1) (cur.setIfInBounds (o + i) v) (w.setRow g (cur.setIfInBounds (o + i) v)) (setRow_heap w g cur _ t _ hg) (by simpa using hm) (by simp at hl ⊢; omega) (fun x hx => h1 x (by simp [hx]))
    simp only [storeCells, Sem.run_bind, hs, Result.andThen_ok, ih, setRow_setRow]
    congr 3
    have e := list_seg_step cur.toList (o + i) v vs (by simp at hl ⊢; omega)
    simpa [Array.toList_setIfInBounds, Nat.add_assoc] using e

/-- A row of bytes of the call's own. -/
def RowB (w : World) (base : Nat) (e : TypeId) (v : Value) (n : Nat) (xs : List Value) : Prop :=
  xs.length = n ∧ ∃ g cap cur fz, v = .slice (some ⟨g, 0, none⟩) n cap ∧ base ≤ g ∧ w.heap[g]? = some (.cells cur e fz) ∧ (fz = (0, 0) ∨ cap ≤ fz.1) ∧ n ≤ cap ∧ cap ≤ maxLen ∧ cur.size = cap ∧ cur.toList.take n = xs
theorem RowB.own {w : World} {base : Nat} {e : TypeId} {v : Value} {n : Nat} {xs : List Value} (h : RowB w base e v n xs) : ∃ g, v.ownBlock = some g ∧ base ≤ g ∧ g < w.heap.size := by
  obtain ⟨_, g, cap, cur, fz, rfl, hb, hg, _⟩ := h
  exact ⟨g, rfl, hb, (Array.getElem?_eq_some_iff.1 hg).1⟩
theorem RowB.kept {w w' : World} {base : Nat} {e : TypeId} {v : Value} {n : Nat} {xs : List Value} (h : RowB w base e v n xs) {row : Option Nat} (hg : w.grownBy w' row) (hne : ∀ k, row = some k → v.ownBlock ≠ some k) : RowB w' base e v n xs := by
  obtain ⟨hl, g, cap, cur, fz, rfl, hb, hc, hr⟩ := h
  exact ⟨hl, g, cap, cur, fz, rfl, hb, (hg.block g (Array.getElem?_eq_some_iff.1 hc).1 (fun e => hne g e.symm rfl)).trans hc, hr⟩
theorem RowB.call {w w' : World} {base : Nat} {e : TypeId} {v : Value} {n : Nat} {xs : List Value} (h : RowB w base e v n xs) (hb : Below w.heap.size w w') : RowB w' base e v n xs :=
  h.kept (row := none) ⟨hb.os, hb.tape, hb.output, hb.size, fun k hk _ => hb.block k hk⟩ (fun k e => by cases e)
theorem RowB.cells {w : World} {base : Nat} {e : TypeId} {n c : Nat} {A : Option Addr} {xs : List Value} (h : RowB w base e (.slice A n c) n xs) : ∃ ad, A = some ad ∧ ∀ j u, xs[j]? = some u → w.cell? (ad.add j) = some u := by
  obtain ⟨hl, g, cap, cur, fz, hv, hb, hc, _, _, _, hs, ht⟩ := h
  injection hv with hA
  subst hA
  refine ⟨_, rfl, fun j u hj => ?_⟩
  have hjn : j < n := by rw [← hl]; exact (List.getElem?_eq_some_iff.1 hj).1
  have e0 : (⟨g, 0, none⟩ : Addr).add j = ⟨g, j, none⟩ := by unfold Addr.add; split <;> simp_all
  rw [e0]
  simp only [World.cell?, hc]
  rw [← ht, List.getElem?_take, if_pos hjn] at hj
  simpa using hj
/-- '[]byte(s)'. -/
theorem RowB.new (w : World) (base : Nat) (e : TypeId) (s : ByteArray) (hb : base ≤ w.heap.size) (hs : s.size ≤ 1000000) :
    RowB (Lib.bytesWorld w e s) base e (.slice (some ⟨w.heap.size, 0, none⟩) s.size (grownCap w s.size 0 e)) s.size (Lib.strCells s) := by
  have hge := grownCap_ge w s.size 0 e
  have hcm : grownCap w s.size 0 e ≤ maxLen := grownCap_le_maxLen w s.size 0 e (by unfold maxLen; omega)
  have hsz : (Lib.bytesCells w e s).size = grownCap w s.size 0 e := by
    unfold Lib.bytesCells
    simp
    omega
  refine ⟨Lib.strCells_length s, w.heap.size, _, _, _, rfl, hb, Lib.bytesWorld_at_new w e s, .inr (by rw [hsz]; exact Nat.le_refl _), hge, hcm, hsz, ?_⟩
  unfold Lib.bytesCells
  rw [Array.toList_append, List.take_append_of_le_length (by simp)]
  simp [Lib.strCells, List.take_of_length_le]
/-- 'append(b, s...)'. -/
theorem RowB.append {P : Program} {w : World} {base : Nat} {e : TypeId} {v : Value} {n : Nat} {xs : List Value} (h : RowB w base e v n xs) (hbase : base ≤ w.heap.size) {t u : TypeId} (hT : SlTy P t e (.int .u8 0) 1 1) (hu : P.underlying u = some .string)
    (s : ByteArray) (ty : TypeId) (hsz : n + s.size ≤ 140737488355328) :
    ∃ v' w', (Builtin.append_ #[t, u] ty #[v, .string s]).run P w = .ok v' w' ∧ RowB w' base e v' (n + s.size) (xs ++ Lib.strCells s) ∧ w.grownBy w' v.ownBlock ∧ (v'.ownBlock = v.ownBlock ∨ v'.ownBlock = some w.heap.size) := by
  have h0 := h
  obtain ⟨hl, g, cap, cur, fz, rfl, hbg, hg, hfz, hnc, hcm, hcs, ht⟩ := h
  obtain ⟨htu, i, hi, hz, hs1, hs2⟩ := hT
  by_cases hroom : n + s.size ≤ cap
  · have hf := Lib.run_firstCells_string (P := P) w 1 s
    have hst : (storeCells ⟨g, n, none⟩ (Lib.strCells s) 0).run P w = .ok () (w.setRow g (cur.toList.take n ++ Lib.strCells s ++ cur.toList.drop (n + s.size)).toArray) := by
      rcases hfz with rfl | hfz
      · have := run_storeCells_at P g n e (Lib.strCells s) 0 cur w hg (by rw [Lib.strCells_length]; omega) (Lib.strCells_oneCell s)
        simpa [Lib.strCells_length] using this
      · have := store_marked P g n e fz (Lib.strCells s) 0 cur w hg (by omega) (by rw [Lib.strCells_length]; omega) (Lib.strCells_oneCell s)
        simpa [Lib.strCells_length] using this
    refine ⟨.slice (some ⟨g, 0, none⟩) (n + s.size) cap, w.setRow g (cur.toList.take n ++ Lib.strCells s ++ cur.toList.drop (n + s.size)).toArray, ?_, ⟨by rw [List.length_append, hl, Lib.strCells_length], g, cap, _, fz, rfl, hbg, setRow_heap w g cur _ e _ hg, hfz, hroom, hcm, ?_, ?_⟩, ⟨rfl, rfl, rfl, by simp, fun k _ hk => setRow_other w g k _ (fun e => hk (by simp [Value.ownBlock, e]))⟩, .inl rfl⟩
    · simp [Builtin.append_, run_underlying htu, run_underlying hu, sizeOf, typeInfo, hi, hs1, Builtin.lenOf, hroom, hf, Addr.add_lit, hst]
    · simp only [List.size_toArray, List.length_append, List.length_take, List.length_drop, Array.length_toList, Lib.strCells_length]
      omega
    · rw [ht]
      exact List.take_left' (by rw [List.length_append, hl, Lib.strCells_length])
  · obtain ⟨ad, hA, hcells⟩ := h0.cells
    cases hA
    have hr := Lib.run_append_grow_string (P := P) w t u ty e i (.int .u8 0) htu hu hi hz ⟨g, 0, none⟩ n cap xs (by rw [hs1]; omega) hcells s (by omega) (by omega) (by rw [hs2]; exact growslice_fits (by omega) (by omega))
    refine ⟨_, _, hr, ⟨by rw [List.length_append, hl, Lib.strCells_length], w.heap.size, _, _, (0, 0), rfl, hbase, heap_alloc_new w.drew _, .inl rfl, grownCap_ge _ _ _ _, grownCap_le_maxLen w (n + s.size) cap e (by unfold maxLen; omega), ?_, ?_⟩, ⟨rfl, rfl, rfl, by simp, fun k hk _ => heap_alloc_old w.drew _ hk⟩, .inr rfl⟩
    · have hz1 : (Value.int IntKind.u8 0).cells.size = 1 := rfl
      have hge := grownCap_ge w (n + s.size) cap e
      simp only [Array.size_append, List.size_toArray, size_zeroCells, hz1, hl, Lib.strCells_length]
      omega
    · simp only [Array.toList_append]
      rw [List.append_assoc]
      rw [← List.append_assoc]
      exact List.take_left' (by simp [hl, Lib.strCells_length])

end Go.Proofs.YtodegmphcjgipaaGreatDoor
