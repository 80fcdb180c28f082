/-
  Columns and values of the makers.
-/
import Derived.Test.YtnichmblekbccaaZAwake
import Derived.Test.YtnichmblekbccaaList
namespace Go.Proofs.Ytnichmblekbccaa
open Go.RowKit

abbrev colV (ty : Int) (nl : Bool) : Value := .agg #[.string ⟨#[120]⟩, .int .i64 ty, .int .i64 0, .bool nl]
def ColPost (w : World) (nl : Bool) (e : Ending) (w' : World) : Prop := ∃ k : Nat, k < 5 ∧ e = .returned (colV (1 + k) nl) ∧ Below w.heap.size w w'
set_option maxRecDepth 100000 in
set_option maxHeartbeats 1000000 in
theorem column_any (t : Int) (nl : Bool) (w : World) : Calls Try.prog 12 #[.int .i64 t, .bool nl] w (ColPost w nl) := by
  have hA := Blk.new' w 32 #[.string ⟨#[]⟩, .int .i64 0, .int .i64 0, .bool false]
  have hbel : Below w.heap.size w (w.alloc (.cells #[.string ⟨#[]⟩, .int .i64 0, .int .i64 0, .bool false] 32)) := (Below.refl _ _).alloc (Nat.le_refl _) _
  go_enter Try.func12, Try.ntmps12
  go_wp2_with fail
  generalize w.alloc (.cells #[.string ⟨#[]⟩, .int .i64 0, .int .i64 0, .bool false] 32) = w1 at *
  refine (pick_any t 5 _ (by omega) (by omega)).mono ?_; rintro e w2 ⟨rfl, rfl⟩
  have hk := pickN_lt t (show 0 < 5 by omega)
  generalize pickN t 5 = k at *
  have cf := fun j => hA.frozen j
  have c0 := hA.cellAt 0 rfl
  have c1 := hA.cellAt 1 rfl
  have c2 := hA.cellAt 2 rfl
  have c3 := hA.cellAt 3 rfl
  go_wp2
  exact bodyPost_ret (v := .agg #[.string ⟨#[120]⟩, .int .i64 (1 + (k : Int)), .int .i64 0, .bool nl]) (by simp [results, Try.results12, go_sem, c0, c1, c2, c3]) rfl ⟨k, hk, rfl, by repeat' (first | refine below_set ?_ (Nat.le_refl _) | refine Below.drew ?_ | exact hbel)⟩

def lessV (t : Int) (a b : Vl) : Bool := if t == 3 then Op.bytesLess a.s.toList b.s.toList else decide (a.n < b.n)
set_option maxRecDepth 100000 in
set_option maxHeartbeats 1000000 in
theorem less_any (t : Int) (a b : Vl) (w : World) : Calls Try.prog 17 #[.int .i64 t, Vv a, Vv b] w fun e w' => e = .returned (.bool (lessV t a b)) ∧ Below w.heap.size w w' := by
  obtain ⟨an, ai, az⟩ := a
  obtain ⟨bn, bi, bz⟩ := b
  dsimp only [Vv]
  have hbel : Below w.heap.size w ((w.alloc (.cells #[.bool an, .int .i64 ai, .string az] 23)).alloc (.cells #[.bool bn, .int .i64 bi, .string bz] 23)) := ((Below.refl _ _).alloc (Nat.le_refl _) _).alloc (by simp) _
  by_cases ht : (t == 3) = true
  · have HV : Hid (lessV t ⟨an, ai, az⟩ ⟨bn, bi, bz⟩ = Op.bytesLess az.toList bz.toList) := by show _ = _; rw [lessV, if_pos ht]
    go_enter Try.func17, Try.ntmps17
    go_wp2
    go_ret
    exact ⟨by rw [HV.out]; rfl, hbel⟩
  · have ht' : (t == 3) = false := by simpa using ht
    have HV : Hid (lessV t ⟨an, ai, az⟩ ⟨bn, bi, bz⟩ = decide (ai < bi)) := by show _ = _; rw [lessV, if_neg ht]
    clear ht
    go_enter Try.func17, Try.ntmps17
    go_wp2
    go_ret
    exact ⟨by rw [HV.out]; rfl, hbel⟩

end Go.Proofs.Ytnichmblekbccaa
