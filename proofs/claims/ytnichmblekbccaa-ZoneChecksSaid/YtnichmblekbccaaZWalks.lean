/-
  The lesser and the greater one of two values.
-/
import Derived.Test.YtnichmblekbccaaOWalks
namespace Go.Proofs.Ytnichmblekbccaa
open Go.RowKit

def nullV : Vl := ⟨true, 0, ⟨#[]⟩⟩
def leastV (t : Int) (a b : Vl) : Vl := if a.null && b.null then nullV else if a.null || (!b.null && decide (cmpV t b a < 0)) then b else a
def greatV (t : Int) (a b : Vl) : Vl := if a.null && b.null then nullV else if a.null || (!b.null && decide (0 < cmpV t b a)) then b else a
theorem below_set {B g i : Nat} {a w : World} {u : Value} (h : Below B a w) (hg : B ≤ g) : Below B a (w.setCell ⟨g, i, none⟩ u) := h.setCell (p := ⟨g, i, none⟩) hg u

set_option maxRecDepth 100000 in
set_option maxHeartbeats 1000000 in
theorem least_any (t : Int) (a b : Vl) (w : World) : Calls Try.prog 26 #[.int .i64 t, Vv a, Vv b] w fun e w' => e = .returned (Vv (leastV t a b)) ∧ Below w.heap.size w w' := by
  obtain ⟨an, ai, az⟩ := a
  obtain ⟨bn, bi, bz⟩ := b
  dsimp only [Vv]
  have hA := ((Blk.new' w 23 #[.bool an, .int .i64 ai, .string az]).alloc (.cells #[.bool bn, .int .i64 bi, .string bz] 23)).alloc (.cells #[.bool false, .int .i64 0, .string ⟨#[]⟩] 23)
  have hB := (Blk.new' (w.alloc (.cells #[.bool an, .int .i64 ai, .string az] 23)) 23 #[.bool bn, .int .i64 bi, .string bz]).alloc (.cells #[.bool false, .int .i64 0, .string ⟨#[]⟩] 23)
  have hZ := Blk.new' ((w.alloc (.cells #[.bool an, .int .i64 ai, .string az] 23)).alloc (.cells #[.bool bn, .int .i64 bi, .string bz] 23)) 23 #[.bool false, .int .i64 0, .string ⟨#[]⟩]
  have hbel : Below w.heap.size w (((w.alloc (.cells #[.bool an, .int .i64 ai, .string az] 23)).alloc (.cells #[.bool bn, .int .i64 bi, .string bz] 23)).alloc (.cells #[.bool false, .int .i64 0, .string ⟨#[]⟩] 23)) := (((Below.refl _ _).alloc (Nat.le_refl _) _).alloc (by simp) _).alloc (by simp; omega) _
  have s1 : (w.alloc (.cells #[.bool an, .int .i64 ai, .string az] 23)).heap.size = w.heap.size + 1 := by simp
  have s2 : ((w.alloc (.cells #[.bool an, .int .i64 ai, .string az] 23)).alloc (.cells #[.bool bn, .int .i64 bi, .string bz] 23)).heap.size = w.heap.size + 2 := by simp
  rw [s1] at hB
  rw [s2] at hZ
  clear s1 s2
  go_enter Try.func26, Try.ntmps26
  go_upto_region 1 with fail
  generalize ((w.alloc (.cells #[.bool an, .int .i64 ai, .string az] 23)).alloc (.cells #[.bool bn, .int .i64 bi, .string bz] 23)).alloc (.cells #[.bool false, .int .i64 0, .string ⟨#[]⟩] 23) = wa at *
  have af := fun j => hA.frozen j
  have a0 := hA.cellAt 0 rfl
  have a1 := hA.cellAt 1 rfl
  have a2 := hA.cellAt 2 rfl
  have bf := fun j => hB.frozen j
  have b0 := hB.cellAt 0 rfl
  have b1 := hB.cellAt 1 rfl
  have b2 := hB.cellAt 2 rfl
  have zf := fun j => hZ.frozen j
  have z0 := hZ.cellAt 0 rfl
  have z1 := hZ.cellAt 1 rfl
  have z2 := hZ.cellAt 2 rfl
  cases an <;> cases bn
  · by_cases hc : cmpV t ⟨false, bi, bz⟩ ⟨false, ai, az⟩ < 0
    · have HV : Hid (leastV t ⟨false, ai, az⟩ ⟨false, bi, bz⟩ = ⟨false, bi, bz⟩) := by show _ = _; simp [leastV, hc]
      go_wp2_with fail
      refine (cmp_val t ⟨false, bi, bz⟩ ⟨false, ai, az⟩ _).mono ?_; rintro e w1 ⟨rfl, hb1⟩
      have hB1 := hB.call hb1
      have hZ1 := hZ.call hb1
      clear af a0 a1 a2 bf b0 b1 b2 zf z0 z1 z2
      have bf := fun j => hB1.frozen j
      have b0 := hB1.cellAt 0 rfl
      have b1 := hB1.cellAt 1 rfl
      have b2 := hB1.cellAt 2 rfl
      have zf := fun j => hZ1.frozen j
      have z0 := hZ1.cellAt 0 rfl
      have z1 := hZ1.cellAt 1 rfl
      have z2 := hZ1.cellAt 2 rfl
      go_wp2
      exact bodyPost_ret (v := .agg #[.bool false, .int .i64 bi, .string bz]) (by simp [results, Try.results26, go_sem, z0, z1, z2]) rfl ⟨by rw [HV.out], by repeat' (first | refine below_set ?_ (by omega) | refine Below.drew ?_ | exact bt hbel hb1)⟩
    · have HV : Hid (leastV t ⟨false, ai, az⟩ ⟨false, bi, bz⟩ = ⟨false, ai, az⟩) := by show _ = _; simp [leastV]; omega
      go_wp2_with fail
      refine (cmp_val t ⟨false, bi, bz⟩ ⟨false, ai, az⟩ _).mono ?_; rintro e w1 ⟨rfl, hb1⟩
      have hA1 := hA.call hb1
      have hZ1 := hZ.call hb1
      clear af a0 a1 a2 bf b0 b1 b2 zf z0 z1 z2
      have af := fun j => hA1.frozen j
      have a0 := hA1.cellAt 0 rfl
      have a1 := hA1.cellAt 1 rfl
      have a2 := hA1.cellAt 2 rfl
      have zf := fun j => hZ1.frozen j
      have z0 := hZ1.cellAt 0 rfl
      have z1 := hZ1.cellAt 1 rfl
      have z2 := hZ1.cellAt 2 rfl
      go_wp2
      exact bodyPost_ret (v := .agg #[.bool false, .int .i64 ai, .string az]) (by simp [results, Try.results26, go_sem, z0, z1, z2]) rfl ⟨by rw [HV.out], by repeat' (first | refine below_set ?_ (by omega) | refine Below.drew ?_ | exact bt hbel hb1)⟩
  · have HV : Hid (leastV t ⟨false, ai, az⟩ ⟨true, bi, bz⟩ = ⟨false, ai, az⟩) := by show _ = _; rfl
    go_wp2
    exact bodyPost_ret (v := .agg #[.bool false, .int .i64 ai, .string az]) (by simp [results, Try.results26, go_sem, z0, z1, z2]) rfl ⟨by rw [HV.out], by repeat' (first | refine below_set ?_ (by omega) | refine Below.drew ?_ | exact hbel)⟩
  · have HV : Hid (leastV t ⟨true, ai, az⟩ ⟨false, bi, bz⟩ = ⟨false, bi, bz⟩) := by show _ = _; rfl
    go_wp2
    exact bodyPost_ret (v := .agg #[.bool false, .int .i64 bi, .string bz]) (by simp [results, Try.results26, go_sem, z0, z1, z2]) rfl ⟨by rw [HV.out], by repeat' (first | refine below_set ?_ (by omega) | refine Below.drew ?_ | exact hbel)⟩
  · have HV : Hid (leastV t ⟨true, ai, az⟩ ⟨true, bi, bz⟩ = ⟨true, 0, ⟨#[]⟩⟩) := by show _ = _; rfl
    go_wp2
    exact bodyPost_ret (v := .agg #[.bool true, .int .i64 0, .string ⟨#[]⟩]) (by simp [results, Try.results26, go_sem, z0, z1, z2]) rfl ⟨by rw [HV.out], by repeat' (first | refine below_set ?_ (by omega) | refine Below.drew ?_ | exact hbel)⟩
set_option maxRecDepth 100000 in
set_option maxHeartbeats 1000000 in
theorem great_any (t : Int) (a b : Vl) (w : World) : Calls Try.prog 27 #[.int .i64 t, Vv a, Vv b] w fun e w' => e = .returned (Vv (greatV t a b)) ∧ Below w.heap.size w w' := by
  obtain ⟨an, ai, az⟩ := a
  obtain ⟨bn, bi, bz⟩ := b
  dsimp only [Vv]
  have hA := ((Blk.new' w 23 #[.bool an, .int .i64 ai, .string az]).alloc (.cells #[.bool bn, .int .i64 bi, .string bz] 23)).alloc (.cells #[.bool false, .int .i64 0, .string ⟨#[]⟩] 23)
  have hB := (Blk.new' (w.alloc (.cells #[.bool an, .int .i64 ai, .string az] 23)) 23 #[.bool bn, .int .i64 bi, .string bz]).alloc (.cells #[.bool false, .int .i64 0, .string ⟨#[]⟩] 23)
  have hZ := Blk.new' ((w.alloc (.cells #[.bool an, .int .i64 ai, .string az] 23)).alloc (.cells #[.bool bn, .int .i64 bi, .string bz] 23)) 23 #[.bool false, .int .i64 0, .string ⟨#[]⟩]
  have hbel : Below w.heap.size w (((w.alloc (.cells #[.bool an, .int .i64 ai, .string az] 23)).alloc (.cells #[.bool bn, .int .i64 bi, .string bz] 23)).alloc (.cells #[.bool false, .int .i64 0, .string ⟨#[]⟩] 23)) := (((Below.refl _ _).alloc (Nat.le_refl _) _).alloc (by simp) _).alloc (by simp; omega) _
  have s1 : (w.alloc (.cells #[.bool an, .int .i64 ai, .string az] 23)).heap.size = w.heap.size + 1 := by simp
  have s2 : ((w.alloc (.cells #[.bool an, .int .i64 ai, .string az] 23)).alloc (.cells #[.bool bn, .int .i64 bi, .string bz] 23)).heap.size = w.heap.size + 2 := by simp
  rw [s1] at hB
  rw [s2] at hZ
  clear s1 s2
  go_enter Try.func27, Try.ntmps27
  go_upto_region 1 with fail
  generalize ((w.alloc (.cells #[.bool an, .int .i64 ai, .string az] 23)).alloc (.cells #[.bool bn, .int .i64 bi, .string bz] 23)).alloc (.cells #[.bool false, .int .i64 0, .string ⟨#[]⟩] 23) = wa at *
  have af := fun j => hA.frozen j
  have a0 := hA.cellAt 0 rfl
  have a1 := hA.cellAt 1 rfl
  have a2 := hA.cellAt 2 rfl
  have bf := fun j => hB.frozen j
  have b0 := hB.cellAt 0 rfl
  have b1 := hB.cellAt 1 rfl
  have b2 := hB.cellAt 2 rfl
  have zf := fun j => hZ.frozen j
  have z0 := hZ.cellAt 0 rfl
  have z1 := hZ.cellAt 1 rfl
  have z2 := hZ.cellAt 2 rfl
  cases an <;> cases bn
  · by_cases hc : 0 < cmpV t ⟨false, bi, bz⟩ ⟨false, ai, az⟩
    · have HV : Hid (greatV t ⟨false, ai, az⟩ ⟨false, bi, bz⟩ = ⟨false, bi, bz⟩) := by show _ = _; simp [greatV, hc]
      go_wp2_with fail
      refine (cmp_val t ⟨false, bi, bz⟩ ⟨false, ai, az⟩ _).mono ?_; rintro e w1 ⟨rfl, hb1⟩
      have hB1 := hB.call hb1
      have hZ1 := hZ.call hb1
      clear af a0 a1 a2 bf b0 b1 b2 zf z0 z1 z2
      have bf := fun j => hB1.frozen j
      have b0 := hB1.cellAt 0 rfl
      have b1 := hB1.cellAt 1 rfl
      have b2 := hB1.cellAt 2 rfl
      have zf := fun j => hZ1.frozen j
      have z0 := hZ1.cellAt 0 rfl
      have z1 := hZ1.cellAt 1 rfl
      have z2 := hZ1.cellAt 2 rfl
      go_wp2
      exact bodyPost_ret (v := .agg #[.bool false, .int .i64 bi, .string bz]) (by simp [results, Try.results27, go_sem, z0, z1, z2]) rfl ⟨by rw [HV.out], by repeat' (first | refine below_set ?_ (by omega) | refine Below.drew ?_ | exact bt hbel hb1)⟩
    · have HV : Hid (greatV t ⟨false, ai, az⟩ ⟨false, bi, bz⟩ = ⟨false, ai, az⟩) := by show _ = _; simp [greatV]; omega
      go_wp2_with fail
      refine (cmp_val t ⟨false, bi, bz⟩ ⟨false, ai, az⟩ _).mono ?_; rintro e w1 ⟨rfl, hb1⟩
      have hA1 := hA.call hb1
      have hZ1 := hZ.call hb1
      clear af a0 a1 a2 bf b0 b1 b2 zf z0 z1 z2
      have af := fun j => hA1.frozen j
      have a0 := hA1.cellAt 0 rfl
      have a1 := hA1.cellAt 1 rfl
      have a2 := hA1.cellAt 2 rfl
      have zf := fun j => hZ1.frozen j
      have z0 := hZ1.cellAt 0 rfl
      have z1 := hZ1.cellAt 1 rfl
      have z2 := hZ1.cellAt 2 rfl
      go_wp2
      exact bodyPost_ret (v := .agg #[.bool false, .int .i64 ai, .string az]) (by simp [results, Try.results27, go_sem, z0, z1, z2]) rfl ⟨by rw [HV.out], by repeat' (first | refine below_set ?_ (by omega) | refine Below.drew ?_ | exact bt hbel hb1)⟩
  · have HV : Hid (greatV t ⟨false, ai, az⟩ ⟨true, bi, bz⟩ = ⟨false, ai, az⟩) := by show _ = _; rfl
    go_wp2
    exact bodyPost_ret (v := .agg #[.bool false, .int .i64 ai, .string az]) (by simp [results, Try.results27, go_sem, z0, z1, z2]) rfl ⟨by rw [HV.out], by repeat' (first | refine below_set ?_ (by omega) | refine Below.drew ?_ | exact hbel)⟩
  · have HV : Hid (greatV t ⟨true, ai, az⟩ ⟨false, bi, bz⟩ = ⟨false, bi, bz⟩) := by show _ = _; rfl
    go_wp2
    exact bodyPost_ret (v := .agg #[.bool false, .int .i64 bi, .string bz]) (by simp [results, Try.results27, go_sem, z0, z1, z2]) rfl ⟨by rw [HV.out], by repeat' (first | refine below_set ?_ (by omega) | refine Below.drew ?_ | exact hbel)⟩
  · have HV : Hid (greatV t ⟨true, ai, az⟩ ⟨true, bi, bz⟩ = ⟨true, 0, ⟨#[]⟩⟩) := by show _ = _; rfl
    go_wp2
    exact bodyPost_ret (v := .agg #[.bool true, .int .i64 0, .string ⟨#[]⟩]) (by simp [results, Try.results27, go_sem, z0, z1, z2]) rfl ⟨by rw [HV.out], by repeat' (first | refine below_set ?_ (by omega) | refine Below.drew ?_ | exact hbel)⟩

end Go.Proofs.Ytnichmblekbccaa
