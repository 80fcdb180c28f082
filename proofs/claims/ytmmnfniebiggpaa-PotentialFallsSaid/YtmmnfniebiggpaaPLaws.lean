/-
  The walks of the laws of layer 30.
-/
import Derived.Test.YtmmnfniebiggpaaPAwake
import Derived.Test.YtmmnfniebiggpaaOMake3
namespace Go.Proofs.Ytmmnfniebiggpaa
open Go.RowKit

def nearL : List Int := [-1, 0, 1, 500, 1073741824, 1073741825]
set_option maxRecDepth 100000 in
set_option maxHeartbeats 400000 in
theorem walk_PotentialTicks (p f n a b : Int) (w : World) (_wp : (Lit.int .i64 p).wf = true) (_wf : (Lit.int .i64 f).wf = true) (_wn : (Lit.int .i64 n).wf = true) (wa : (Lit.int .u8 a).wf = true) (wb : (Lit.int .u8 b).wf = true) :
    Calls Try.prog 3 #[.int .i64 p, .int .i64 f, .int .i64 n, .int .u8 a, .int .u8 b] w fun e w' => e = .returned (.bool true) ∧ Below w.heap.size w w' := by
  obtain ⟨a, rfl, ha⟩ := wf_u8 wa
  obtain ⟨b, rfl, hb⟩ := wf_u8 wb
  clear _wp _wf _wn wa wb
  have hA := Blk.new' w 3 #[.int .i64 (-1), .int .i64 0, .int .i64 1, .int .i64 500, .int .i64 1073741824, .int .i64 1073741825]
  have hbel : Below w.heap.size w (w.alloc (.cells #[.int .i64 (-1), .int .i64 0, .int .i64 1, .int .i64 500, .int .i64 1073741824, .int .i64 1073741825] 3)) := (Below.refl _ _).alloc (Nat.le_refl _) _
  have hget : ∀ j : Nat, j < 6 → ∃ x : Int, ([.int .i64 (-1), .int .i64 0, .int .i64 1, .int .i64 500, .int .i64 1073741824, .int .i64 1073741825] : List Value)[j]? = some (.int .i64 x) := fun j hj => by
    rcases (show j = 0 ∨ j = 1 ∨ j = 2 ∨ j = 3 ∨ j = 4 ∨ j = 5 by omega) with rfl | rfl | rfl | rfl | rfl | rfl <;> exact ⟨_, rfl⟩
  obtain ⟨x, hx⟩ := hget (a % 6) (Nat.mod_lt _ (by omega))
  obtain ⟨y, hy⟩ := hget (b % 6) (Nat.mod_lt _ (by omega))
  have hcx := hA.cellAt (a % 6) hx
  have hcy := hA.cellAt (b % 6) hy
  have hm1 : (a : Int).tmod 6 = ((a % 6 : Nat) : Int) := by rw [Int.tmod_eq_emod_of_nonneg (by omega)]; omega
  have hm2 : (b : Int).tmod 6 = ((b % 6 : Nat) : Int) := by rw [Int.tmod_eq_emod_of_nonneg (by omega)]; omega
  have hl1 : a % 6 < 6 := Nat.mod_lt _ (by omega)
  have hl2 : b % 6 < 6 := Nat.mod_lt _ (by omega)
  clear hget hx hy hA
  go_enter Try.func3, Try.ntmps3
  go_wp2_with fail
  generalize w.alloc (.cells #[.int .i64 (-1), .int .i64 0, .int .i64 1, .int .i64 500, .int .i64 1073741824, .int .i64 1073741825] 3) = wa at *
  go_quiet ((go_at_call 10; exact quiet_same' (pick_any n 20 _ (by omega) (by omega))))
  go_wp2_with fail
  refine (ticks_any p f n _).mono ?_; rintro e w1 ⟨rfl, rfl⟩
  go_wp2_with fail
  refine (rticks_any p f n _).mono ?_; rintro e w1 ⟨rfl, rfl⟩
  go_wp2_with fail
  refine (ticks_any x y _ _).mono ?_; rintro e w1 ⟨rfl, rfl⟩
  go_wp2_with fail
  refine (rticks_any x y _ _).mono ?_; rintro e w1 ⟨rfl, rfl⟩
  go_wp2_with fail
  refine (awake30 _).mono ?_; rintro e w2 ⟨rfl, hb2⟩
  go_wp2
  go_ret
  exact ⟨ret_bool (by first | rfl | (simp; done)), bt (below_drewN hbel _) hb2⟩

end Go.Proofs.Ytmmnfniebiggpaa
