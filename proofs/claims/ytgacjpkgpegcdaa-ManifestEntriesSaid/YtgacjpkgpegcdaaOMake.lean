/-
  The makers of ranks and ranges.
-/
import Derived.Test.YtgacjpkgpegcdaaOWalks
import Derived.Test.YtgacjpkgpegcdaaKeep
namespace Go.Proofs.Ytgacjpkgpegcdaa
open Go.RowKit

/-- A rank of the makers. -/
def GenR (p : Rk) : Prop := ∃ a b : Nat, a < 12 ∧ b < 3 ∧ p = ⟨⟨false, a, ⟨#[]⟩⟩, b⟩
theorem Blk.grownB {w w' : World} {g' g : Nat} {t : TypeId} {cs : List Value} (h : Blk w g' t cs) (hg : w.grownBy w' (some g)) (hne : g' ≠ g) : Blk w' g' t cs :=
  (hg.block g' h.lt (fun e => by injection e with e; exact hne e)).trans h
theorem grown_set (w : World) (g i : Nat) (v : Value) : w.grownBy (w.setCell ⟨g, i, none⟩ v) (some g) :=
  ⟨rfl, rfl, rfl, by simp [World.setCell], fun k _ hne => Below.heap_setCell w ⟨g, i, none⟩ v k (fun e => hne (by rw [e]))⟩
set_option maxRecDepth 100000 in
set_option maxHeartbeats 400000 in
theorem rank_any (g : Nat) (A : Option Addr) (n c i : Nat) (w : World) (h : Src w g A n c i) :
    Calls Try.prog 70 #[.pointer (some ⟨g, 0, none⟩)] w fun e w' => ∃ p, GenR p ∧ e = .returned (Rv p) ∧ (∃ j, Src w' g A n c j) ∧ w.grownBy w' (some g) := by
  have hlt := h.lt
  have hb0 := Blk.new' w 38 #[.bool false, .int .i64 0, .string ⟨#[]⟩, .int .i64 0]
  have h0 := h.below ((Below.refl w.heap.size w).alloc (Nat.le_refl _) (.cells #[.bool false, .int .i64 0, .string ⟨#[]⟩, .int .i64 0] 38))
  have hg0 : w.grownBy (w.alloc (.cells #[.bool false, .int .i64 0, .string ⟨#[]⟩, .int .i64 0] 38)) (some g) := ⟨rfl, rfl, rfl, by simp, fun k hk _ => heap_alloc_old w _ hk⟩
  go_enter Try.func70, Try.ntmps70
  go_wp2_with fail
  generalize w.alloc (.cells #[.bool false, .int .i64 0, .string ⟨#[]⟩, .int .i64 0] 38) = w0 at *
  refine (next_any g A n c i 12 _ h0 (by omega) (by omega)).mono ?_; rintro e w1 ⟨k1, hk1, rfl, hs1, hg1⟩
  have hb1 := hb0.grownB hg1 (by omega)
  go_wp2_with fail
  refine (next_any g A n c _ 3 _ hs1 (by omega) (by omega)).mono ?_; rintro e w2 ⟨k2, hk2, rfl, hs2, hg2⟩
  have hb2 := hb1.grownB hg2 (by omega)
  have f := fun j => hb2.frozen j
  have c0 := hb2.cellAt 0 rfl
  have c1 := hb2.cellAt 1 rfl
  have c2 := hb2.cellAt 2 rfl
  have c3 := hb2.cellAt 3 rfl
  have hb3 := (((hb2.set_ 0 (.bool false)).set_ 1 (.int .i64 (k1 : Int))).set_ 2 (.string ⟨#[]⟩)).set_ 3 (.int .i64 (k2 : Int))
  have hg3 : w2.grownBy ((((w2.setCell ⟨w.heap.size, 0, none⟩ (.bool false)).setCell ⟨w.heap.size, 1, none⟩ (.int .i64 (k1 : Int))).setCell ⟨w.heap.size, 2, none⟩ (.string ⟨#[]⟩)).setCell ⟨w.heap.size, 3, none⟩ (.int .i64 (k2 : Int))) (some w.heap.size) :=
    (((grown_set w2 w.heap.size 0 _).trans (grown_set _ w.heap.size 1 _)).trans (grown_set _ w.heap.size 2 _)).trans (grown_set _ w.heap.size 3 _)
  go_wp2
  generalize (((w2.setCell ⟨w.heap.size, 0, none⟩ (.bool false)).setCell ⟨w.heap.size, 1, none⟩ (.int .i64 (k1 : Int))).setCell ⟨w.heap.size, 2, none⟩ (.string ⟨#[]⟩)).setCell ⟨w.heap.size, 3, none⟩ (.int .i64 (k2 : Int)) = w3 at *
  have d0 := hb3.cellAt 0 rfl
  have d1 := hb3.cellAt 1 rfl
  have d2 := hb3.cellAt 2 rfl
  have d3 := hb3.cellAt 3 rfl
  refine bodyPost_ret (v := .agg #[.bool false, .int .i64 (k1 : Int), .string ⟨#[]⟩, .int .i64 (k2 : Int)]) (by simp [results, Try.results70, go_sem, d0, d1, d2, d3]) rfl ?_
  refine ⟨⟨⟨false, k1, ⟨#[]⟩⟩, k2⟩, ⟨k1, k2, hk1, hk2, rfl⟩, rfl, ⟨_, hs2.grown hg3 (fun k e => by injection e with e; omega)⟩, ?_⟩
  have hgA := (hg0.trans hg1).trans hg2
  exact ⟨hg3.os.trans hgA.os, hg3.tape.trans hgA.tape, hg3.output.trans hgA.output, Nat.le_trans hgA.size hg3.size, fun k hk hne => (hg3.block k (by have := hgA.size; omega) (fun e => by injection e with e; omega)).trans (hgA.block k hk hne)⟩

end Go.Proofs.Ytgacjpkgpegcdaa
