/-
  Ticks of layer 30, in the code and in the reference.
-/
import Derived.Test.YtmmnfniebiggpaaOPsi
namespace Go.Proofs.Ytmmnfniebiggpaa
open Go.RowKit

def ticksR (p f n : Int) : Int × Int := if p < 0 ∨ 1073741824 < p ∨ f < 0 ∨ 1073741824 < f ∨ n < 2 ∨ 16 < n then (0, 4) else ((2 * n + 1) * (p + f + 1), 0)
theorem ticks_no {p f n : Int} (h : p < 0 ∨ 1073741824 < p ∨ f < 0 ∨ 1073741824 < f ∨ n < 2 ∨ 16 < n) : ticksR p f n = (0, 4) := by rw [ticksR, if_pos h]
theorem ticks_yes {p f n : Int} (h : ¬ (p < 0 ∨ 1073741824 < p ∨ f < 0 ∨ 1073741824 < f ∨ n < 2 ∨ 16 < n)) : ticksR p f n = ((2 * n + 1) * (p + f + 1), 0) := by rw [ticksR, if_neg h]
set_option maxRecDepth 100000 in
set_option maxHeartbeats 400000 in
theorem ticks_any (p f n : Int) (w : World) : Calls Try.prog 11 #[.int .i64 p, .int .i64 f, .int .i64 n] w fun e w' => e = .returned (.tuple #[.int .i64 (ticksR p f n).1, .int .i64 (ticksR p f n).2]) ∧ w = w' := by
  by_cases h1 : p < 0
  · have HT := Lib.hid (ticks_no (p := p) (f := f) (n := n) (by omega))
    go_enter Try.func11, Try.ntmps11
    go_wp2
    go_ret2
    exact ⟨by rw [HT.out]; rfl, rfl⟩
  · by_cases h2 : 1073741824 < p
    · have HT := Lib.hid (ticks_no (p := p) (f := f) (n := n) (by omega))
      go_enter Try.func11, Try.ntmps11
      go_wp2
      go_ret2
      exact ⟨by rw [HT.out]; rfl, rfl⟩
    · by_cases h3 : f < 0
      · have HT := Lib.hid (ticks_no (p := p) (f := f) (n := n) (by omega))
        go_enter Try.func11, Try.ntmps11
        go_wp2
        go_ret2
        exact ⟨by rw [HT.out]; rfl, rfl⟩
      · by_cases h4 : 1073741824 < f
        · have HT := Lib.hid (ticks_no (p := p) (f := f) (n := n) (by omega))
          go_enter Try.func11, Try.ntmps11
          go_wp2
          go_ret2
          exact ⟨by rw [HT.out]; rfl, rfl⟩
        · by_cases h5 : n < 2
          · have HT := Lib.hid (ticks_no (p := p) (f := f) (n := n) (by omega))
            go_enter Try.func11, Try.ntmps11
            go_wp2
            go_ret2
            exact ⟨by rw [HT.out]; rfl, rfl⟩
          · by_cases h6 : 16 < n
            · have HT := Lib.hid (ticks_no (p := p) (f := f) (n := n) (by omega))
              go_enter Try.func11, Try.ntmps11
              go_wp2
              go_ret2
              exact ⟨by rw [HT.out]; rfl, rfl⟩
            · have HT := Lib.hid (ticks_yes (p := p) (f := f) (n := n) (by omega))
              have hm1 : 0 ≤ (2 * n + 1) * (p + f + 1) := Int.mul_nonneg (by omega) (by omega)
              have hm2 : (2 * n + 1) * (p + f + 1) ≤ 33 * 2147483649 := Int.le_trans (Int.mul_le_mul_of_nonneg_right (show 2 * n + 1 ≤ 33 by omega) (by omega)) (Int.mul_le_mul_of_nonneg_left (by omega) (by omega))
              have hw := IntWalk.i64_in ((2 * n + 1) * (p + f + 1)) (by omega)
              have hw2 := IntWalk.wrap64_in ((2 * n + 1) * (p + f + 1)) (by omega)
              go_enter Try.func11, Try.ntmps11
              go_wp2
              go_ret2
              exact ⟨by rw [HT.out]; rfl, rfl⟩
set_option maxRecDepth 100000 in
set_option maxHeartbeats 400000 in
theorem rticks_any (p f n : Int) (w : World) : Calls Try.prog 12 #[.int .i64 p, .int .i64 f, .int .i64 n] w fun e w' => e = .returned (.tuple #[.int .i64 (ticksR p f n).1, .int .i64 (ticksR p f n).2]) ∧ w = w' := by
  by_cases h1 : p < 0
  · have HT := Lib.hid (ticks_no (p := p) (f := f) (n := n) (by omega))
    go_enter Try.func12, Try.ntmps12
    go_wp2
    go_ret2
    exact ⟨by rw [HT.out]; rfl, rfl⟩
  · by_cases h2 : 1073741824 < p
    · have HT := Lib.hid (ticks_no (p := p) (f := f) (n := n) (by omega))
      go_enter Try.func12, Try.ntmps12
      go_wp2
      go_ret2
      exact ⟨by rw [HT.out]; rfl, rfl⟩
    · by_cases h3 : f < 0
      · have HT := Lib.hid (ticks_no (p := p) (f := f) (n := n) (by omega))
        go_enter Try.func12, Try.ntmps12
        go_wp2
        go_ret2
        exact ⟨by rw [HT.out]; rfl, rfl⟩
      · by_cases h4 : 1073741824 < f
        · have HT := Lib.hid (ticks_no (p := p) (f := f) (n := n) (by omega))
          go_enter Try.func12, Try.ntmps12
          go_wp2
          go_ret2
          exact ⟨by rw [HT.out]; rfl, rfl⟩
        · by_cases h5 : n < 2
          · have HT := Lib.hid (ticks_no (p := p) (f := f) (n := n) (by omega))
            go_enter Try.func12, Try.ntmps12
            go_wp2
            go_ret2
            exact ⟨by rw [HT.out]; rfl, rfl⟩
          · by_cases h6 : 16 < n
            · have HT := Lib.hid (ticks_no (p := p) (f := f) (n := n) (by omega))
              go_enter Try.func12, Try.ntmps12
              go_wp2
              go_ret2
              exact ⟨by rw [HT.out]; rfl, rfl⟩
            · have HT := Lib.hid (ticks_yes (p := p) (f := f) (n := n) (by omega))
              have hm1 : 0 ≤ (2 * n + 1) * (p + f + 1) := Int.mul_nonneg (by omega) (by omega)
              have hm2 : (2 * n + 1) * (p + f + 1) ≤ 33 * 2147483649 := Int.le_trans (Int.mul_le_mul_of_nonneg_right (show 2 * n + 1 ≤ 33 by omega) (by omega)) (Int.mul_le_mul_of_nonneg_left (by omega) (by omega))
              have hw := IntWalk.i64_in ((2 * n + 1) * (p + f + 1)) (by omega)
              have hw2 := IntWalk.wrap64_in ((2 * n + 1) * (p + f + 1)) (by omega)
              go_enter Try.func12, Try.ntmps12
              go_wp2
              go_ret2
              exact ⟨by rw [HT.out]; rfl, rfl⟩

end Go.Proofs.Ytmmnfniebiggpaa
