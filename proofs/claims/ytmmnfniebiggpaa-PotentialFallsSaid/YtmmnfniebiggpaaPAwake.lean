/-
  The examples of layer 30.
-/
import Derived.Test.YtmmnfniebiggpaaPTicks
namespace Go.Proofs.Ytmmnfniebiggpaa
open Go.RowKit

def atR (n : Int) : Rk := ⟨⟨false, n, ⟨#[]⟩⟩, 0⟩
set_option maxRecDepth 100000 in
set_option maxHeartbeats 400000 in
theorem at_any (n : Int) (w : World) : Calls Try.prog 24 #[.int .i64 n] w fun e w' => e = .returned (Rv (atR n)) ∧ Below w.heap.size w w' := by
  have hb1 := Blk.new' w 38 #[.bool false, .int .i64 n, .string ⟨#[]⟩, .int .i64 0]
  have hbel : Below w.heap.size w (w.alloc (.cells #[.bool false, .int .i64 n, .string ⟨#[]⟩, .int .i64 0] 38)) := (Below.refl _ _).alloc (Nat.le_refl _) _
  go_enter Try.func24, Try.ntmps24
  go_wp2
  generalize w.alloc (.cells #[.bool false, .int .i64 n, .string ⟨#[]⟩, .int .i64 0] 38) = w1 at *
  have d0 := hb1.cellAt 0 rfl
  have d1 := hb1.cellAt 1 rfl
  have d2 := hb1.cellAt 2 rfl
  have d3 := hb1.cellAt 3 rfl
  exact bodyPost_ret (v := .agg #[.bool false, .int .i64 n, .string ⟨#[]⟩, .int .i64 0]) (by simp [results, Try.results24, go_sem, d0, d1, d2, d3]) rfl ⟨rfl, hbel⟩
set_option maxRecDepth 100000 in
set_option maxHeartbeats 400000 in
theorem four_any (w : World) : Calls Try.prog 23 #[] w fun e w' => ∃ v, e = .returned v ∧ w'.ownsRow w.heap.size 38 4 v 4 ([atR 1, atR 3, atR 5, atR 9].flatMap rankC) ∧ Below w.heap.size w w' := by
  go_enter Try.func23, Try.ntmps23
  go_wp2_with fail
  refine (at_any 1 _).mono ?_; rintro e w1 ⟨rfl, hb1⟩
  go_wp2_with fail
  refine (at_any 3 _).mono ?_; rintro e w2 ⟨rfl, hb2⟩
  go_wp2_with fail
  refine (at_any 5 _).mono ?_; rintro e w3 ⟨rfl, hb3⟩
  go_wp2_with fail
  refine (at_any 9 _).mono ?_; rintro e w4 ⟨rfl, hb4⟩
  have hbel := bt (bt (bt (bt hb1 hb2) hb3) hb4) ((Below.refl w4.heap.size w4).alloc (Nat.le_refl _) (.cells #[.bool false, .int .i64 1, .string ⟨#[]⟩, .int .i64 0, .bool false, .int .i64 3, .string ⟨#[]⟩, .int .i64 0, .bool false, .int .i64 5, .string ⟨#[]⟩, .int .i64 0, .bool false, .int .i64 9, .string ⟨#[]⟩, .int .i64 0] 38))
  dsimp only [Rv, atR]
  go_wp2
  go_ret
  have hle := (bt (bt (bt hb1 hb2) hb3) hb4).size
  exact ⟨_, rfl, ⟨rfl, .inr ⟨w4.heap.size, 4, #[.bool false, .int .i64 1, .string ⟨#[]⟩, .int .i64 0, .bool false, .int .i64 3, .string ⟨#[]⟩, .int .i64 0, .bool false, .int .i64 5, .string ⟨#[]⟩, .int .i64 0, .bool false, .int .i64 9, .string ⟨#[]⟩, .int .i64 0], rfl, hle, heap_alloc_new _ _, by omega, by unfold maxLen; omega, rfl, rfl⟩⟩, hbel⟩
set_option maxRecDepth 100000 in
set_option maxHeartbeats 400000 in
theorem two_any (w : World) : Calls Try.prog 22 #[] w fun e w' => ∃ v, e = .returned v ∧ w'.ownsRow w.heap.size 41 8 v 2 ([⟨atR 1, atR 5⟩, ⟨atR 3, atR 9⟩].flatMap rangeC) ∧ Below w.heap.size w w' := by
  go_enter Try.func22, Try.ntmps22
  go_wp2_with fail
  refine (at_any 1 _).mono ?_; rintro e w1 ⟨rfl, hb1⟩
  go_wp2_with fail
  refine (at_any 5 _).mono ?_; rintro e w2 ⟨rfl, hb2⟩
  go_wp2_with fail
  refine (at_any 3 _).mono ?_; rintro e w3 ⟨rfl, hb3⟩
  go_wp2_with fail
  refine (at_any 9 _).mono ?_; rintro e w4 ⟨rfl, hb4⟩
  have hbel := bt (bt (bt (bt hb1 hb2) hb3) hb4) ((Below.refl w4.heap.size w4).alloc (Nat.le_refl _) (.cells #[.bool false, .int .i64 1, .string ⟨#[]⟩, .int .i64 0, .bool false, .int .i64 5, .string ⟨#[]⟩, .int .i64 0, .bool false, .int .i64 3, .string ⟨#[]⟩, .int .i64 0, .bool false, .int .i64 9, .string ⟨#[]⟩, .int .i64 0] 41))
  dsimp only [Rv, atR]
  go_wp2
  go_ret
  have hle := (bt (bt (bt hb1 hb2) hb3) hb4).size
  exact ⟨_, rfl, ⟨rfl, .inr ⟨w4.heap.size, 2, #[.bool false, .int .i64 1, .string ⟨#[]⟩, .int .i64 0, .bool false, .int .i64 5, .string ⟨#[]⟩, .int .i64 0, .bool false, .int .i64 3, .string ⟨#[]⟩, .int .i64 0, .bool false, .int .i64 9, .string ⟨#[]⟩, .int .i64 0], rfl, hle, heap_alloc_new _ _, by omega, by unfold maxLen; omega, rfl, rfl⟩⟩, hbel⟩

theorem psi_ex : psiW 1 [atR 1, atR 3, atR 5, atR 9] (2 : Nat) [⟨atR 1, atR 5⟩, ⟨atR 3, atR 9⟩] = 8 := by decide +kernel
theorem ticks_ex : ticksR 8 1 2 = (50, 0) := by decide
set_option maxRecDepth 100000 in
set_option maxHeartbeats 400000 in
theorem awake30 (w : World) : Calls Try.prog 13 #[] w fun e w' => e = .returned (.bool true) ∧ Below w.heap.size w w' := by
  have ht := fun W => ticks_any 8 1 2 W
  rw [ticks_ex] at ht
  have HT := Lib.hid ht
  clear ht
  go_enter Try.func13, Try.ntmps13
  go_wp2_with fail
  refine (HT.out _).mono ?_; rintro e w0 ⟨rfl, rfl⟩
  go_wp2_with fail
  refine (two_any _).mono ?_; rintro e w1 ⟨v1, rfl, ho1, hb1⟩
  obtain ⟨B1, d1, rfl, _⟩ := own_form ho1
  have hx1 := Rd.of_own ho1
  clear ho1
  go_wp2_with fail
  refine (four_any _).mono ?_; rintro e w2 ⟨v2, rfl, ho2, hb2⟩
  obtain ⟨B2, d2, rfl, _⟩ := own_form ho2
  have hx2 := Rd.of_own ho2
  clear ho2
  go_wp2_with fail
  refine (psi_any 1 B1 2 d1 _ B2 4 d2 _ _ (hx1.call hb2) rfl (by omega) hx2 rfl (by omega)).mono ?_; rintro e w3 ⟨rfl, hb3⟩
  rw [psi_ex]
  go_wp2
  go_ret
  exact ⟨ret_bool (by first | rfl | (simp; done)), bt (bt hb1 hb2) hb3⟩

end Go.Proofs.Ytmmnfniebiggpaa
