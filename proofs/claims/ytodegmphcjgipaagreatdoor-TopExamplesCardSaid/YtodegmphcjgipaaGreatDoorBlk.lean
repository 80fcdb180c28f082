/-
  Blocks as lists of cells.
-/
import Derived.Test.YtodegmphcjgipaaGreatDoorBase
namespace Go.Proofs.YtodegmphcjgipaaGreatDoor
open Go.RowKit

/-- Block g holds the cells cs. -/
def Blk (w : World) (g : Nat) (t : TypeId) (cs : List Value) : Prop := w.heap[g]? = some (.cells cs.toArray t (0, 0))
section
variable {w w' : World} {g : Nat} {t : TypeId} {cs : List Value}
theorem Blk.lt (h : Blk w g t cs) : g < w.heap.size := (Array.getElem?_eq_some_iff.1 h).1
theorem Blk.cell (h : Blk w g t cs) (i : Nat) : w.cell? ⟨g, i, none⟩ = cs[i]? := by rw [cell_of_row w g i _ t (0, 0) h]; simp
theorem Blk.frozen (h : Blk w g t cs) (i : Nat) : w.frozen? ⟨g, i, none⟩ = false := by unfold Blk at h; simp [World.frozen?, h]
theorem Blk.new (w : World) (t : TypeId) (cs : List Value) : Blk (w.alloc (.cells cs.toArray t)) w.heap.size t cs := heap_alloc_new w _
theorem Blk.drew (h : Blk w g t cs) : Blk w.drew g t cs := h
theorem Blk.drewN (h : Blk w g t cs) (n : Nat) : Blk (w.drewN n) g t cs := h
theorem Blk.below {B : Nat} (h : Blk w g t cs) (hb : Below B w w') (hg : g < B) : Blk w' g t cs := (hb.block g hg).trans h
theorem Blk.call (h : Blk w g t cs) (hb : Below w.heap.size w w') : Blk w' g t cs := h.below hb h.lt
theorem Blk.set_ (h : Blk w g t cs) (i : Nat) (u : Value) : Blk (w.setCell ⟨g, i, none⟩ u) g t (cs.set i u) := by
  unfold Blk at h ⊢
  simp [World.setCell, Array.getElem?_modify, h]
/-- A whole block as a slice. -/
theorem Blk.rd (h : Blk w g t cs) : Rd w w.heap.size (some ⟨g, 0, none⟩) cs :=
  .inr ⟨_, rfl, h.lt, fun j u hj => by
    have e0 : (⟨g, 0, none⟩ : Addr).add j = ⟨g, j, none⟩ := by unfold Addr.add; split <;> simp_all
    rw [e0, h.cell]; exact hj⟩
theorem Blk.own {base n : Nat} (h : Blk w g t cs) (hl : cs.length = n) (hg : base ≤ g) (hn : n ≤ maxLen) : w.ownsRow base t 1 (.slice (some ⟨g, 0, none⟩) n n) n cs :=
  ⟨by omega, .inr ⟨g, n, cs.toArray, rfl, hg, h, Nat.le_refl _, hn, by simp [hl], by rw [Nat.mul_one, ← hl]; simp⟩⟩
end

theorem Blk.cellAt {w : World} {g : Nat} {t : TypeId} {cs : List Value} {u : Value} (h : Blk w g t cs) (i : Nat) (hi : cs[i]? = some u) : w.cell? ⟨g, i, none⟩ = some u := (h.cell i).trans hi
theorem Blk.new' (w : World) (t : TypeId) (cs : Array Value) : Blk (w.alloc (.cells cs t)) w.heap.size t cs.toList := by
  unfold Blk; simpa using heap_alloc_new w (.cells cs t)
theorem Blk.alloc {w : World} {g : Nat} {t : TypeId} {cs : List Value} (h : Blk w g t cs) (o : Obj) : Blk (w.alloc o) g t cs := h.call ((Below.refl _ _).alloc (Nat.le_refl _) o)
/-- Eight cells through a call that turns nothing that was there. -/
theorem keep8 {wa X w2 : World} {p0 p1 p2 p3 p4 p5 p6 p7 : Addr} {v0 v1 v2 v3 v4 v5 v6 v7 : Value}
    (h0 : wa.cell? p0 = some v0) (h1 : wa.cell? p1 = some v1) (h2 : wa.cell? p2 = some v2) (h3 : wa.cell? p3 = some v3) (h4 : wa.cell? p4 = some v4) (h5 : wa.cell? p5 = some v5) (h6 : wa.cell? p6 = some v6) (h7 : wa.cell? p7 = some v7)
    (b0 : p0.block < wa.heap.size) (b1 : p1.block < wa.heap.size) (b2 : p2.block < wa.heap.size) (b3 : p3.block < wa.heap.size) (b4 : p4.block < wa.heap.size) (b5 : p5.block < wa.heap.size) (b6 : p6.block < wa.heap.size) (b7 : p7.block < wa.heap.size)
    (hb : Below X.heap.size X w2) (hX : Below wa.heap.size wa X) :
    Below wa.heap.size wa w2 ∧ w2.cell? p0 = some v0 ∧ w2.cell? p1 = some v1 ∧ w2.cell? p2 = some v2 ∧ w2.cell? p3 = some v3 ∧ w2.cell? p4 = some v4 ∧ w2.cell? p5 = some v5 ∧ w2.cell? p6 = some v6 ∧ w2.cell? p7 = some v7 := by
  have k := bt hX hb
  exact ⟨k, (k.cell b0).trans h0, (k.cell b1).trans h1, (k.cell b2).trans h2, (k.cell b3).trans h3, (k.cell b4).trans h4, (k.cell b5).trans h5, (k.cell b6).trans h6, (k.cell b7).trans h7⟩

end Go.Proofs.YtodegmphcjgipaaGreatDoor
