/-
  'awake' of layer 14.
-/
import Derived.Test.YtnichmblekbccaaZLaws
import Derived.Test.YtnichmblekbccaaZRef2
namespace Go.Proofs.Ytnichmblekbccaa
open Go.RowKit

abbrev c0V : Value := .agg #[.string ⟨#[]⟩, .int .i64 1, .int .i64 0, .bool true]
set_option maxRecDepth 100000 in
set_option maxHeartbeats 400000 in
theorem known1 (w : World) : Calls Try.prog 47 #[.int .i64 1] w fun e w' => e = .returned (.bool true) ∧ w = w' := by
  go_enter Try.func47, Try.ntmps47
  go_wp2
  go_ret
  exact ⟨rfl, rfl⟩
set_option maxRecDepth 100000 in
set_option maxHeartbeats 400000 in
theorem perm1 (n : Int) (w : World) : Calls Try.prog 48 #[.int .i64 1, Vv ⟨false, n, ⟨#[]⟩⟩] w fun e w' => e = .returned (.bool true) ∧ Below w.heap.size w w' := by
  dsimp only [Vv]
  go_enter Try.func48, Try.ntmps48
  go_wp2
  go_ret
  exact ⟨rfl, (Below.refl _ _).alloc (Nat.le_refl _) _⟩
set_option maxRecDepth 100000 in
set_option maxHeartbeats 1000000 in
theorem vcheck1 (n : Int) (w : World) : Calls Try.prog 33 #[c0V, Vv ⟨false, n, ⟨#[]⟩⟩] w fun e w' => e = .returned (.int .i64 0) ∧ Below w.heap.size w w' := by
  dsimp only [Vv, c0V]
  have hC := (Blk.new' w 32 #[.string ⟨#[]⟩, .int .i64 1, .int .i64 0, .bool true]).alloc (.cells #[.bool false, .int .i64 n, .string ⟨#[]⟩] 23)
  have hV := Blk.new' (w.alloc (.cells #[.string ⟨#[]⟩, .int .i64 1, .int .i64 0, .bool true] 32)) 23 #[.bool false, .int .i64 n, .string ⟨#[]⟩]
  have s1 : (w.alloc (.cells #[.string ⟨#[]⟩, .int .i64 1, .int .i64 0, .bool true] 32)).heap.size = w.heap.size + 1 := by simp
  rw [s1] at hV
  clear s1
  have hbel : Below w.heap.size w ((w.alloc (.cells #[.string ⟨#[]⟩, .int .i64 1, .int .i64 0, .bool true] 32)).alloc (.cells #[.bool false, .int .i64 n, .string ⟨#[]⟩] 23)) := ((Below.refl _ _).alloc (Nat.le_refl _) _).alloc (by simp) _
  go_enter Try.func33, Try.ntmps33
  go_upto_region 1 with fail
  generalize (w.alloc (.cells #[.string ⟨#[]⟩, .int .i64 1, .int .i64 0, .bool true] 32)).alloc (.cells #[.bool false, .int .i64 n, .string ⟨#[]⟩] 23) = wa at *
  have c0 := hC.cellAt 0 rfl
  have c1 := hC.cellAt 1 rfl
  have c2 := hC.cellAt 2 rfl
  have c3 := hC.cellAt 3 rfl
  have v0 := hV.cellAt 0 rfl
  have v1 := hV.cellAt 1 rfl
  have v2 := hV.cellAt 2 rfl
  go_wp2_with fail
  refine (known1 _).mono ?_; rintro e w1 ⟨rfl, rfl⟩
  go_wp2_with fail
  refine (perm1 n _).mono ?_; rintro e w2 ⟨rfl, hb2⟩
  go_wp2
  go_ret
  exact ⟨rfl, bt hbel hb2⟩
set_option maxRecDepth 100000 in
set_option maxHeartbeats 2000000 in
theorem zcheck1 (w : World) : Calls Try.prog 16 #[c0V, Zv ⟨3, 1, ⟨false, 1, ⟨#[]⟩⟩, ⟨false, 3, ⟨#[]⟩⟩⟩] w fun e w' => e = .returned (.bool true) ∧ Below w.heap.size w w' := by
  dsimp only [Zv, c0V]
  have hC := (Blk.new' w 32 #[.string ⟨#[]⟩, .int .i64 1, .int .i64 0, .bool true]).alloc (.cells #[.int .i64 3, .int .i64 1, .bool false, .int .i64 1, .string ⟨#[]⟩, .bool false, .int .i64 3, .string ⟨#[]⟩] 25)
  have hZ := Blk.new' (w.alloc (.cells #[.string ⟨#[]⟩, .int .i64 1, .int .i64 0, .bool true] 32)) 25 #[.int .i64 3, .int .i64 1, .bool false, .int .i64 1, .string ⟨#[]⟩, .bool false, .int .i64 3, .string ⟨#[]⟩]
  have s1 : (w.alloc (.cells #[.string ⟨#[]⟩, .int .i64 1, .int .i64 0, .bool true] 32)).heap.size = w.heap.size + 1 := by simp
  rw [s1] at hZ
  clear s1
  have hbel : Below w.heap.size w ((w.alloc (.cells #[.string ⟨#[]⟩, .int .i64 1, .int .i64 0, .bool true] 32)).alloc (.cells #[.int .i64 3, .int .i64 1, .bool false, .int .i64 1, .string ⟨#[]⟩, .bool false, .int .i64 3, .string ⟨#[]⟩] 25)) := ((Below.refl _ _).alloc (Nat.le_refl _) _).alloc (by simp) _
  go_enter Try.func16, Try.ntmps16
  go_upto_region 1 with fail
  generalize (w.alloc (.cells #[.string ⟨#[]⟩, .int .i64 1, .int .i64 0, .bool true] 32)).alloc (.cells #[.int .i64 3, .int .i64 1, .bool false, .int .i64 1, .string ⟨#[]⟩, .bool false, .int .i64 3, .string ⟨#[]⟩] 25) = wa at *
  have z0 := hZ.cellAt 0 rfl
  have z1 := hZ.cellAt 1 rfl
  have z2 := hZ.cellAt 2 rfl
  have z3 := hZ.cellAt 3 rfl
  have z4 := hZ.cellAt 4 rfl
  have z5 := hZ.cellAt 5 rfl
  have z6 := hZ.cellAt 6 rfl
  have z7 := hZ.cellAt 7 rfl
  have c0 := hC.cellAt 0 rfl
  have c1 := hC.cellAt 1 rfl
  have c2 := hC.cellAt 2 rfl
  have c3 := hC.cellAt 3 rfl
  go_wp2_with fail
  refine (vcheck1 1 _).mono ?_; rintro e w1 ⟨rfl, hb1⟩
  have hZ1 := hZ.call hb1
  have hC1 := hC.call hb1
  clear z0 z1 z2 z3 z4 z5 z6 z7 c0 c1 c2 c3
  have z0 := hZ1.cellAt 0 rfl
  have z1 := hZ1.cellAt 1 rfl
  have z2 := hZ1.cellAt 2 rfl
  have z3 := hZ1.cellAt 3 rfl
  have z4 := hZ1.cellAt 4 rfl
  have z5 := hZ1.cellAt 5 rfl
  have z6 := hZ1.cellAt 6 rfl
  have z7 := hZ1.cellAt 7 rfl
  have c0 := hC1.cellAt 0 rfl
  have c1 := hC1.cellAt 1 rfl
  have c2 := hC1.cellAt 2 rfl
  have c3 := hC1.cellAt 3 rfl
  go_wp2_with fail
  refine (vcheck1 3 _).mono ?_; rintro e w2 ⟨rfl, hb2⟩
  have hZ2 := hZ1.call hb2
  have hC2 := hC1.call hb2
  clear z0 z1 z2 z3 z4 z5 z6 z7 c0 c1 c2 c3
  have z0 := hZ2.cellAt 0 rfl
  have z1 := hZ2.cellAt 1 rfl
  have z2 := hZ2.cellAt 2 rfl
  have z3 := hZ2.cellAt 3 rfl
  have z4 := hZ2.cellAt 4 rfl
  have z5 := hZ2.cellAt 5 rfl
  have z6 := hZ2.cellAt 6 rfl
  have z7 := hZ2.cellAt 7 rfl
  have c0 := hC2.cellAt 0 rfl
  have c1 := hC2.cellAt 1 rfl
  have c2 := hC2.cellAt 2 rfl
  have c3 := hC2.cellAt 3 rfl
  go_wp2_with fail
  refine (cmp_val 1 ⟨false, 1, ⟨#[]⟩⟩ ⟨false, 3, ⟨#[]⟩⟩ _).mono ?_; rintro e w3 ⟨rfl, hb3⟩
  rw [show cmpV 1 ⟨false, 1, ⟨#[]⟩⟩ ⟨false, 3, ⟨#[]⟩⟩ = -1 from rfl]
  have hZ3 := hZ2.call hb3
  have hC3 := hC2.call hb3
  clear z0 z1 z2 z3 z4 z5 z6 z7 c0 c1 c2 c3
  have z0 := hZ3.cellAt 0 rfl
  have z1 := hZ3.cellAt 1 rfl
  have z2 := hZ3.cellAt 2 rfl
  have z3 := hZ3.cellAt 3 rfl
  have z4 := hZ3.cellAt 4 rfl
  have z5 := hZ3.cellAt 5 rfl
  have z6 := hZ3.cellAt 6 rfl
  have z7 := hZ3.cellAt 7 rfl
  have c0 := hC3.cellAt 0 rfl
  have c1 := hC3.cellAt 1 rfl
  have c2 := hC3.cellAt 2 rfl
  have c3 := hC3.cellAt 3 rfl
  go_wp2
  go_ret
  exact ⟨ret_bool (by first | rfl | (simp; done)), bt (bt (bt hbel hb1) hb2) hb3⟩
set_option maxRecDepth 100000 in
set_option maxHeartbeats 1000000 in
theorem awake14 (w : World) : Calls Try.prog 14 #[] w fun e w' => e = .returned (.bool true) ∧ Below w.heap.size w w' := by
  go_enter Try.func14, Try.ntmps14
  go_wp2_with fail
  refine (four_any _).mono ?_; rintro e w1 ⟨A1, c1, rfl, hx1, hb1⟩
  go_wp2_with fail
  refine (of_any 1 A1 3 c1 fourL _ hx1 rfl (by omega)).mono ?_; rintro e w2 ⟨rfl, hb2⟩
  rw [zone_ex]
  dsimp only [Zv]
  go_wp2_with fail
  refine (four_any _).mono ?_; rintro e w3 ⟨A3, c3, rfl, hx3, hb3⟩
  go_wp2_with fail
  refine (rzone_any 1 A3 3 c3 fourL _ hx3 rfl (by omega)).mono ?_; rintro e w4 ⟨rfl, hb4⟩
  rw [zone_ex]
  dsimp only [Zv]
  go_wp2_with fail
  refine (zcheck1 _).mono ?_; rintro e w5 ⟨rfl, hb5⟩
  go_wp2
  go_ret
  exact ⟨ret_bool (by first | rfl | (simp; done)), bt (bt (bt (bt hb1 hb2) hb3) hb4) hb5⟩

end Go.Proofs.Ytnichmblekbccaa
