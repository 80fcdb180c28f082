/-
  Ranges in a slice: stores into one of them, lists behind lists.
-/
import Derived.Test.YteknnphjkldehaaList
import Derived.Test.YteknnphjkldehaaOMake3
namespace Go.Proofs.Yteknnphjkldehaa
open Go.RowKit

theorem info8i : (Try.prog.info? 3).map (fun i => (i.zero, i.size, i.bytes)) = some (some (.int .i64 0), 1, 8) := by kernel_rfl
theorem i64s : SlTy Try.prog 22 3 (.int .i64 0) 1 8 := ⟨Try.underlying22, info_parts info8i⟩
theorem own_lit (w : World) (e : TypeId) (v : Value) : Own w (w.alloc (.cells #[v] e)) e 1 (.slice (some ⟨w.heap.size, 0, none⟩) 1 1) 1 [v] :=
  ⟨⟨rfl, .inr ⟨w.heap.size, 1, #[v], rfl, Nat.le_refl _, heap_alloc_new _ _, by omega, by unfold maxLen; omega, rfl, rfl⟩⟩, (Below.refl _ _).alloc (Nat.le_refl _) _⟩
theorem cells_rg (L : List Rg) : ∀ u ∈ L.flatMap rangeC, u.oneCell' = true := by
  intro u hu
  rw [List.mem_flatMap] at hu
  obtain ⟨r, _, hu⟩ := hu
  exact one_rg r u (by simpa using hu)
/-- The block of an own row that is not empty, of elements of more than one cell. -/
theorem own_blockK {w : World} {base size : Nat} {e : TypeId} {n c : Nat} {A : Option Addr} {xs : List Value} (h : w.ownsRow base e size (.slice A n c) n xs) (hn : 0 < n) :
    ∃ g, A = some ⟨g, 0, none⟩ ∧ base ≤ g ∧ g < w.heap.size ∧ (∀ j, w.frozen? ⟨g, j, none⟩ = false) ∧ (∀ j u, xs[j]? = some u → w.cell? ⟨g, j, none⟩ = some u) := by
  obtain ⟨hlen, h2⟩ := h
  rcases h2 with ⟨h2, h0⟩ | ⟨g, cap, cur, hv, hg, hblk, hnc, hcm, hcs, htk⟩
  · omega
  · cases hv
    have hlt : g < w.heap.size := (Array.getElem?_eq_some_iff.1 hblk).1
    refine ⟨g, rfl, hg, hlt, fun j => by simp [World.frozen?, hblk], fun j u hj => ?_⟩
    rw [cell_of_row w g j _ e (0, 0) hblk]
    rw [← htk] at hj
    have hlt2 : j < n * size := by
      have := (List.getElem?_eq_some_iff.1 hj).1
      simp at this; omega
    rw [List.getElem?_take_of_lt hlt2, Array.getElem?_toList] at hj
    exact hj
/-- A store into a slice that is read. -/
theorem Rd.store {w : World} {B g j : Nat} {xs : List Value} {u : Value} (h : Rd w B (some ⟨g, 0, none⟩) xs) (hj : j < xs.length) : Rd (w.setCell ⟨g, j, none⟩ u) B (some ⟨g, 0, none⟩) (xs.set j u) := by
  rcases h with rfl | ⟨ad, e, hb, hc⟩
  · simp at hj
  · cases e
    refine .inr ⟨_, rfl, hb, fun i v hv => ?_⟩
    have e0 : ∀ i, (⟨g, 0, none⟩ : Addr).add i = ⟨g, i, none⟩ := fun i => by unfold Addr.add; split <;> simp_all
    have hlt := (List.getElem?_eq_some_iff.1 hv).1
    rw [List.length_set] at hlt
    rw [e0]
    by_cases hij : j = i
    · subst hij
      rw [List.getElem?_set_self hj] at hv
      cases hv
      have hold := hc j _ (List.getElem?_eq_getElem hj)
      rw [e0] at hold
      first | exact World.cell?_setCell_same _ _ _ hold | exact World.cell?_setCell_same (h := hold) .. 
    · rw [List.getElem?_set_ne hij] at hv
      have hold := hc i _ hv
      rw [e0] at hold
      rw [← hold]
      exact World.cell?_setCell_other (h := by intro e; injection e with _ e; exact hij e) ..
theorem below_set' {B g i : Nat} {a w : World} {u : Value} (h : Below B a w) (hg : B ≤ g) : Below B a (w.setCell ⟨g, i, none⟩ u) := h.setCell (p := ⟨g, i, none⟩) hg u
def sets8 (xs : List Value) (k : Nat) (a b c d e f g h : Value) : List Value := (((((((xs.set k a).set (k + 1) b).set (k + 2) c).set (k + 3) d).set (k + 4) e).set (k + 5) f).set (k + 6) g).set (k + 7) h
theorem sets8_at : ∀ (L : List Rg) (i : Nat) (r : Rg), i < L.length → sets8 (L.flatMap rangeC) (i * 8) (.bool r.lo.key.null) (.int .i64 r.lo.key.n) (.string r.lo.key.s) (.int .i64 r.lo.seq) (.bool r.hi.key.null) (.int .i64 r.hi.key.n) (.string r.hi.key.s) (.int .i64 r.hi.seq) = (L.set i r).flatMap rangeC
  | [], i, r, h => by simp at h
  | a :: X, 0, r, _ => by
    rw [List.flatMap_cons, List.set_cons_zero, List.flatMap_cons]
    rfl
  | a :: X, i + 1, r, h => by
    have ih := sets8_at X i r (by simpa using h)
    rw [List.flatMap_cons, List.set_cons_succ, List.flatMap_cons, ← ih]
    have hs : ∀ (ys : List Value) (k : Nat) (u : Value), (rangeC a ++ ys).set ((i + 1) * 8 + k) u = rangeC a ++ ys.set (i * 8 + k) u := by
      intro ys k u
      rw [List.set_append_right _ _ (by show 8 ≤ _; omega)]
      congr 2
      show _ - 8 = _
      omega
    have h0 := fun ys u => hs ys 0 u
    simp only [Nat.add_zero] at h0
    unfold sets8
    rw [h0, hs, hs, hs, hs, hs, hs, hs]

/-- Eight stores into one element. -/
def put8 (w : World) (g k : Nat) (a b c d e f x y : Value) : World := ((((((((w.setCell ⟨g, k, none⟩ a).setCell ⟨g, k + 1, none⟩ b).setCell ⟨g, k + 2, none⟩ c).setCell ⟨g, k + 3, none⟩ d).setCell ⟨g, k + 4, none⟩ e).setCell ⟨g, k + 4 + 1, none⟩ f).setCell ⟨g, k + 4 + 2, none⟩ x).setCell ⟨g, k + 4 + 3, none⟩ y)
section
variable {w w0 : World} {B g g' k : Nat} {a b c d e f x y : Value} {xs cs : List Value} {t : TypeId}
theorem put8_rd (h : Rd w B (some ⟨g, 0, none⟩) xs) (hk : k + 8 ≤ xs.length) : Rd (put8 w g k a b c d e f x y) B (some ⟨g, 0, none⟩) (sets8 xs k a b c d e f x y) := (Rd.store (Rd.store (Rd.store (Rd.store (Rd.store (Rd.store (Rd.store (Rd.store h (j := k) (u := a) (by omega)) (j := k + 1) (u := b) (by simp only [List.length_set]; omega)) (j := k + 2) (u := c) (by simp only [List.length_set]; omega)) (j := k + 3) (u := d) (by simp only [List.length_set]; omega)) (j := k + 4) (u := e) (by simp only [List.length_set]; omega)) (j := k + 4 + 1) (u := f) (by simp only [List.length_set]; omega)) (j := k + 4 + 2) (u := x) (by simp only [List.length_set]; omega)) (j := k + 4 + 3) (u := y) (by simp only [List.length_set]; omega))
theorem put8_blk (h : Blk w g' t cs) (hne : g' ≠ g) : Blk (put8 w g k a b c d e f x y) g' t cs := ((((((((h.grownB (grown_set _ g (k) a) hne).grownB (grown_set _ g (k + 1) b) hne).grownB (grown_set _ g (k + 2) c) hne).grownB (grown_set _ g (k + 3) d) hne).grownB (grown_set _ g (k + 4) e) hne).grownB (grown_set _ g (k + 4 + 1) f) hne).grownB (grown_set _ g (k + 4 + 2) x) hne).grownB (grown_set _ g (k + 4 + 3) y) hne)
theorem put8_below (h : Below B w0 w) (hg : B ≤ g) : Below B w0 (put8 w g k a b c d e f x y) := (below_set' (i := k + 4 + 3) (u := y) (below_set' (i := k + 4 + 2) (u := x) (below_set' (i := k + 4 + 1) (u := f) (below_set' (i := k + 4) (u := e) (below_set' (i := k + 3) (u := d) (below_set' (i := k + 2) (u := c) (below_set' (i := k + 1) (u := b) (below_set' (i := k) (u := a) h hg) hg) hg) hg) hg) hg) hg) hg)
theorem put8_size : (put8 w g k a b c d e f x y).heap.size = w.heap.size := by simp [put8, World.setCell]
end

end Go.Proofs.Yteknnphjkldehaa
