/-
  Ranges: Contains, in the code and in the reference.
-/
import Derived.Test.YteknnphjkldehaaOWalks
namespace Go.Proofs.Yteknnphjkldehaa
open Go.RowKit

def hasB (t : Int) (r : Rg) (p : Rk) : Bool := decide (cmpR t r.lo p ≤ 0) && decide (cmpR t p r.hi ≤ 0)

set_option maxRecDepth 100000 in
set_option maxHeartbeats 400000 in
theorem contains_any (t : Int) (r : Rg) (p : Rk) (w : World) : Calls Try.prog 39 #[.int .i64 t, Gv r, Rv p] w fun e w' => e = .returned (.bool (hasB t r p)) ∧ Below w.heap.size w w' := by
  obtain ⟨⟨⟨an, ai, az⟩, aq⟩, ⟨⟨bn, bi, bz⟩, bq⟩⟩ := r
  obtain ⟨⟨cn, ci, cz⟩, cq⟩ := p
  dsimp only [Rv, Gv]
  have hA : Blk ((w.alloc (.cells #[.bool an, .int .i64 ai, .string az, .int .i64 aq, .bool bn, .int .i64 bi, .string bz, .int .i64 bq] 37)).alloc (.cells #[.bool cn, .int .i64 ci, .string cz, .int .i64 cq] 33)) w.heap.size 37 [.bool an, .int .i64 ai, .string az, .int .i64 aq, .bool bn, .int .i64 bi, .string bz, .int .i64 bq] :=
    Blk.alloc (Blk.new' w 37 #[.bool an, .int .i64 ai, .string az, .int .i64 aq, .bool bn, .int .i64 bi, .string bz, .int .i64 bq]) _
  have hB : Blk ((w.alloc (.cells #[.bool an, .int .i64 ai, .string az, .int .i64 aq, .bool bn, .int .i64 bi, .string bz, .int .i64 bq] 37)).alloc (.cells #[.bool cn, .int .i64 ci, .string cz, .int .i64 cq] 33)) (w.heap.size + 1) 33 [.bool cn, .int .i64 ci, .string cz, .int .i64 cq] := by
    have := Blk.new' (w.alloc (.cells #[.bool an, .int .i64 ai, .string az, .int .i64 aq, .bool bn, .int .i64 bi, .string bz, .int .i64 bq] 37)) 33 #[.bool cn, .int .i64 ci, .string cz, .int .i64 cq]
    simpa using this
  have hbel : Below w.heap.size w ((w.alloc (.cells #[.bool an, .int .i64 ai, .string az, .int .i64 aq, .bool bn, .int .i64 bi, .string bz, .int .i64 bq] 37)).alloc (.cells #[.bool cn, .int .i64 ci, .string cz, .int .i64 cq] 33)) := ((Below.refl _ _).alloc (Nat.le_refl _) _).alloc (by simp) _
  have HR : Hid (hasB t ⟨⟨⟨an, ai, az⟩, aq⟩, ⟨⟨bn, bi, bz⟩, bq⟩⟩ ⟨⟨cn, ci, cz⟩, cq⟩ = (decide (cmpR t ⟨⟨an, ai, az⟩, aq⟩ ⟨⟨cn, ci, cz⟩, cq⟩ ≤ 0) && decide (cmpR t ⟨⟨cn, ci, cz⟩, cq⟩ ⟨⟨bn, bi, bz⟩, bq⟩ ≤ 0))) := by show _ = _; rfl
  go_enter Try.func39, Try.ntmps39
  go_wp2_with fail
  generalize (w.alloc (.cells #[.bool an, .int .i64 ai, .string az, .int .i64 aq, .bool bn, .int .i64 bi, .string bz, .int .i64 bq] 37)).alloc (.cells #[.bool cn, .int .i64 ci, .string cz, .int .i64 cq] 33) = wa at *
  refine (cmp_rank t ⟨⟨an, ai, az⟩, aq⟩ ⟨⟨cn, ci, cz⟩, cq⟩ wa).mono ?_; rintro e w1 ⟨rfl, hb1⟩
  have a4 := (hA.call hb1).cellAt 4 rfl
  have a5 := (hA.call hb1).cellAt 5 rfl
  have a6 := (hA.call hb1).cellAt 6 rfl
  have a7 := (hA.call hb1).cellAt 7 rfl
  have c0 := (hB.call hb1).cellAt 0 rfl
  have c1 := (hB.call hb1).cellAt 1 rfl
  have c2 := (hB.call hb1).cellAt 2 rfl
  have c3 := (hB.call hb1).cellAt 3 rfl
  clear hA hB
  by_cases h1 : cmpR t ⟨⟨an, ai, az⟩, aq⟩ ⟨⟨cn, ci, cz⟩, cq⟩ ≤ 0
  · go_wp2_with fail
    refine (cmp_rank t ⟨⟨cn, ci, cz⟩, cq⟩ ⟨⟨bn, bi, bz⟩, bq⟩ w1).mono ?_; rintro e w2 ⟨rfl, hb2⟩
    have hd := decide_eq_true h1
    rw [hd] at HR
    clear h1
    go_wp2
    go_ret
    exact ⟨by rw [HR.out, Bool.true_and]; rfl, bt (bt hbel hb1) hb2⟩
  · have hd := decide_eq_false h1
    rw [hd] at HR
    go_wp2
    go_ret
    exact ⟨by rw [HR.out, Bool.false_and]; rfl, bt hbel hb1⟩
set_option maxRecDepth 100000 in
set_option maxHeartbeats 400000 in
theorem rcontains_any (t : Int) (r : Rg) (p : Rk) (w : World) : Calls Try.prog 31 #[.int .i64 t, Gv r, Rv p] w fun e w' => e = .returned (.bool (hasB t r p)) ∧ Below w.heap.size w w' := by
  obtain ⟨⟨⟨an, ai, az⟩, aq⟩, ⟨⟨bn, bi, bz⟩, bq⟩⟩ := r
  obtain ⟨⟨cn, ci, cz⟩, cq⟩ := p
  dsimp only [Rv, Gv]
  have hA : Blk ((w.alloc (.cells #[.bool an, .int .i64 ai, .string az, .int .i64 aq, .bool bn, .int .i64 bi, .string bz, .int .i64 bq] 37)).alloc (.cells #[.bool cn, .int .i64 ci, .string cz, .int .i64 cq] 33)) w.heap.size 37 [.bool an, .int .i64 ai, .string az, .int .i64 aq, .bool bn, .int .i64 bi, .string bz, .int .i64 bq] :=
    Blk.alloc (Blk.new' w 37 #[.bool an, .int .i64 ai, .string az, .int .i64 aq, .bool bn, .int .i64 bi, .string bz, .int .i64 bq]) _
  have hB : Blk ((w.alloc (.cells #[.bool an, .int .i64 ai, .string az, .int .i64 aq, .bool bn, .int .i64 bi, .string bz, .int .i64 bq] 37)).alloc (.cells #[.bool cn, .int .i64 ci, .string cz, .int .i64 cq] 33)) (w.heap.size + 1) 33 [.bool cn, .int .i64 ci, .string cz, .int .i64 cq] := by
    have := Blk.new' (w.alloc (.cells #[.bool an, .int .i64 ai, .string az, .int .i64 aq, .bool bn, .int .i64 bi, .string bz, .int .i64 bq] 37)) 33 #[.bool cn, .int .i64 ci, .string cz, .int .i64 cq]
    simpa using this
  have hbel : Below w.heap.size w ((w.alloc (.cells #[.bool an, .int .i64 ai, .string az, .int .i64 aq, .bool bn, .int .i64 bi, .string bz, .int .i64 bq] 37)).alloc (.cells #[.bool cn, .int .i64 ci, .string cz, .int .i64 cq] 33)) := ((Below.refl _ _).alloc (Nat.le_refl _) _).alloc (by simp) _
  have HR : Hid (hasB t ⟨⟨⟨an, ai, az⟩, aq⟩, ⟨⟨bn, bi, bz⟩, bq⟩⟩ ⟨⟨cn, ci, cz⟩, cq⟩ = (decide (cmpR t ⟨⟨an, ai, az⟩, aq⟩ ⟨⟨cn, ci, cz⟩, cq⟩ ≤ 0) && decide (cmpR t ⟨⟨cn, ci, cz⟩, cq⟩ ⟨⟨bn, bi, bz⟩, bq⟩ ≤ 0))) := by show _ = _; rfl
  go_enter Try.func31, Try.ntmps31
  go_wp2_with fail
  generalize (w.alloc (.cells #[.bool an, .int .i64 ai, .string az, .int .i64 aq, .bool bn, .int .i64 bi, .string bz, .int .i64 bq] 37)).alloc (.cells #[.bool cn, .int .i64 ci, .string cz, .int .i64 cq] 33) = wa at *
  refine (rcmp_rank t ⟨⟨an, ai, az⟩, aq⟩ ⟨⟨cn, ci, cz⟩, cq⟩ wa).mono ?_; rintro e w1 ⟨rfl, hb1⟩
  have a4 := (hA.call hb1).cellAt 4 rfl
  have a5 := (hA.call hb1).cellAt 5 rfl
  have a6 := (hA.call hb1).cellAt 6 rfl
  have a7 := (hA.call hb1).cellAt 7 rfl
  have c0 := (hB.call hb1).cellAt 0 rfl
  have c1 := (hB.call hb1).cellAt 1 rfl
  have c2 := (hB.call hb1).cellAt 2 rfl
  have c3 := (hB.call hb1).cellAt 3 rfl
  clear hA hB
  by_cases h1 : cmpR t ⟨⟨an, ai, az⟩, aq⟩ ⟨⟨cn, ci, cz⟩, cq⟩ ≤ 0
  · go_wp2_with fail
    refine (rcmp_rank t ⟨⟨cn, ci, cz⟩, cq⟩ ⟨⟨bn, bi, bz⟩, bq⟩ w1).mono ?_; rintro e w2 ⟨rfl, hb2⟩
    have hd := decide_eq_true h1
    rw [hd] at HR
    clear h1
    go_wp2
    go_ret
    exact ⟨by rw [HR.out, Bool.true_and]; rfl, bt (bt hbel hb1) hb2⟩
  · have hd := decide_eq_false h1
    rw [hd] at HR
    go_wp2
    go_ret
    exact ⟨by rw [HR.out, Bool.false_and]; rfl, bt hbel hb1⟩

end Go.Proofs.Yteknnphjkldehaa
