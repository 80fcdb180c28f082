/-
  The example of layer 27.
-/
import Derived.Test.YteknnphjkldehaaDPlain
import Derived.Test.YteknnphjkldehaaOMake3
namespace Go.Proofs.Yteknnphjkldehaa
open Go.RowKit

def atR (n : Int) : Rk := ⟨⟨false, n, ⟨#[]⟩⟩, 0⟩
set_option maxRecDepth 100000 in
set_option maxHeartbeats 400000 in
theorem at_any (n : Int) (w : World) : Calls Try.prog 21 #[.int .i64 n] w fun e w' => e = .returned (Rv (atR n)) ∧ Below w.heap.size w w' := by
  have hb1 := Blk.new' w 33 #[.bool false, .int .i64 n, .string ⟨#[]⟩, .int .i64 0]
  have hbel : Below w.heap.size w (w.alloc (.cells #[.bool false, .int .i64 n, .string ⟨#[]⟩, .int .i64 0] 33)) := (Below.refl _ _).alloc (Nat.le_refl _) _
  go_enter Try.func21, Try.ntmps21
  go_wp2
  generalize w.alloc (.cells #[.bool false, .int .i64 n, .string ⟨#[]⟩, .int .i64 0] 33) = w1 at *
  have d0 := hb1.cellAt 0 rfl
  have d1 := hb1.cellAt 1 rfl
  have d2 := hb1.cellAt 2 rfl
  have d3 := hb1.cellAt 3 rfl
  exact bodyPost_ret (v := .agg #[.bool false, .int .i64 n, .string ⟨#[]⟩, .int .i64 0]) (by simp [results, Try.results21, go_sem, d0, d1, d2, d3]) rfl ⟨rfl, hbel⟩
def threeL : List Rg := [⟨atR 1, atR 5⟩, ⟨atR 3, atR 9⟩, ⟨atR 4, atR 4⟩]
set_option maxRecDepth 100000 in
set_option maxHeartbeats 1000000 in
theorem three_any (w : World) : Calls Try.prog 20 #[] w fun e w' => ∃ v, e = .returned v ∧ w'.ownsRow w.heap.size 37 8 v 3 (threeL.flatMap rangeC) ∧ Below w.heap.size w w' := by
  go_enter Try.func20, Try.ntmps20
  go_wp2_with fail
  refine (at_any 1 _).mono ?_; rintro e w1 ⟨rfl, hb1⟩
  go_wp2_with fail
  refine (at_any 5 _).mono ?_; rintro e w2 ⟨rfl, hb2⟩
  go_wp2_with fail
  refine (at_any 3 _).mono ?_; rintro e w3 ⟨rfl, hb3⟩
  go_wp2_with fail
  refine (at_any 9 _).mono ?_; rintro e w4 ⟨rfl, hb4⟩
  go_wp2_with fail
  refine (at_any 4 _).mono ?_; rintro e w5 ⟨rfl, hb5⟩
  go_wp2_with fail
  refine (at_any 4 _).mono ?_; rintro e w6 ⟨rfl, hb6⟩
  have hle := (bt (bt (bt (bt (bt hb1 hb2) hb3) hb4) hb5) hb6).size
  have hbel := bt (bt (bt (bt (bt (bt hb1 hb2) hb3) hb4) hb5) hb6) ((Below.refl w6.heap.size w6).alloc (Nat.le_refl _) (.cells #[.bool false, .int .i64 1, .string ⟨#[]⟩, .int .i64 0, .bool false, .int .i64 5, .string ⟨#[]⟩, .int .i64 0, .bool false, .int .i64 3, .string ⟨#[]⟩, .int .i64 0, .bool false, .int .i64 9, .string ⟨#[]⟩, .int .i64 0, .bool false, .int .i64 4, .string ⟨#[]⟩, .int .i64 0, .bool false, .int .i64 4, .string ⟨#[]⟩, .int .i64 0] 37))
  dsimp only [Rv, atR]
  go_wp2
  go_ret
  exact ⟨_, rfl, ⟨rfl, .inr ⟨w6.heap.size, 3, #[.bool false, .int .i64 1, .string ⟨#[]⟩, .int .i64 0, .bool false, .int .i64 5, .string ⟨#[]⟩, .int .i64 0, .bool false, .int .i64 3, .string ⟨#[]⟩, .int .i64 0, .bool false, .int .i64 9, .string ⟨#[]⟩, .int .i64 0, .bool false, .int .i64 4, .string ⟨#[]⟩, .int .i64 0, .bool false, .int .i64 4, .string ⟨#[]⟩, .int .i64 0], rfl, hle, heap_alloc_new _ _, by omega, by unfold maxLen; omega, rfl, rfl⟩⟩, hbel⟩

theorem ex_most : mostR 1 threeL = (3, atR 4) := by
  have h1 : chkR 1 threeL = true := by decide +kernel
  have h2 : mostL 1 threeL threeL = (3, atR 4) := by rfl
  rw [mostR, h1]; exact h2
theorem ex_chk : chkR 1 threeL = true := by decide +kernel
theorem ex_stab : stabC 1 threeL (atR 3) = 2 := by decide +kernel
set_option maxRecDepth 100000 in
set_option maxHeartbeats 1000000 in
theorem awake27 (w : World) : Calls Try.prog 12 #[] w fun e w' => e = .returned (.bool true) ∧ Below w.heap.size w w' := by
  go_enter Try.func12, Try.ntmps12
  go_wp2_with fail
  refine (three_any _).mono ?_; rintro e w1 ⟨v1, rfl, ho1, hb1⟩
  obtain ⟨B1, d1, rfl, _⟩ := own_form ho1
  have hx1 := Rd.of_own ho1
  clear ho1
  go_wp2_with fail
  refine (depth_any 1 B1 3 d1 threeL _ hx1 rfl (by omega)).mono ?_; rintro e w2 ⟨rfl, hb2⟩
  rw [ex_most]
  go_wp2_with fail
  refine (three_any _).mono ?_; rintro e w3 ⟨v3, rfl, ho3, hb3⟩
  obtain ⟨B3, d3, rfl, _⟩ := own_form ho3
  have hx3 := Rd.of_own ho3
  clear ho3
  go_wp2_with fail
  refine (disj_any 1 B3 3 d3 threeL _ hx3 rfl (by omega)).mono ?_; rintro e w4 ⟨rfl, hb4⟩
  rw [ex_most, ex_chk]
  go_wp2_with fail
  refine (three_any _).mono ?_; rintro e w5 ⟨v5, rfl, ho5, hb5⟩
  obtain ⟨B5, d5, rfl, _⟩ := own_form ho5
  have hx5 := Rd.of_own ho5
  clear ho5
  go_wp2_with fail
  refine (check_any 1 B5 3 d5 threeL _ hx5 rfl (by omega)).mono ?_; rintro e w6 ⟨rfl, hb6⟩
  rw [ex_chk]
  go_wp2
  go_ret
  exact ⟨ret_bool (by first | rfl | (simp; done)), bt (bt (bt (bt (bt hb1 hb2) hb3) hb4) hb5) hb6⟩

end Go.Proofs.Yteknnphjkldehaa
