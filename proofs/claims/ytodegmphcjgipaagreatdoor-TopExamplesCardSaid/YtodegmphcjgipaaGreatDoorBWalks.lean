/-
  The small functions of layer 2 and their references, each by one contract: the number of binary digits, the number of bytes.
-/
import Derived.Test.YtodegmphcjgipaaGreatDoorLen
import Derived.Test.YtodegmphcjgipaaGreatDoorKeep
namespace Go.Proofs.YtodegmphcjgipaaGreatDoor
open Go.RowKit

theorem ret_i64 {a b : Int} (h : a = b) : Ending.returned (.int .i64 a) = .returned (.int .i64 b) := by rw [h]
theorem ret_bool' {a b : Bool} (h : a = b) : Ending.returned (.bool a) = .returned (.bool b) := by rw [h]

set_option maxRecDepth 100000 in
set_option maxHeartbeats 400000 in
theorem width_any (v : Nat) (w : World) (hv : U64 v) : Calls Tryz.prog 381 #[.int .u64 (v : Int)] w fun e w' => e = .returned (.int .i64 (widthN v)) ∧ w = w' := by
  go_enter Tryz.func381, Tryz.ntmps381
  go_wp2_with fail
  refine (len64_any v _ hv).mono ?_; rintro e w' ⟨rfl, rfl⟩
  go_wp2
  go_ret
  exact ⟨rfl, rfl⟩


/-- Whether n numbers of w bits are permitted. -/
def permB (n w : Int) : Bool := decide (0 ≤ n ∧ n ≤ 4096 ∧ 0 ≤ w ∧ w ≤ 64)
theorem needN_yes {n w : Int} (h : permB n w = true) : needN n w = (n * w + 7) / 8 := by unfold permB at h; unfold needN; rw [if_pos (by simpa using h)]
theorem needN_no {n w : Int} (h : permB n w = false) : needN n w = 0 := by unfold permB at h; unfold needN; rw [if_neg (by simpa using h)]
theorem needN_nat (n w : Nat) (hn : n ≤ 4096) (hw : w ≤ 64) : needN n w = (((n * w + 7) / 8 : Nat) : Int) := by
  rw [needN_yes (by unfold permB; simp; omega)]; simp

set_option maxRecDepth 100000 in
set_option maxHeartbeats 400000 in
theorem perm_any (n k : Int) (w : World) : Calls Tryz.prog 405 #[.int .i64 n, .int .i64 k] w fun e w' => e = .returned (.bool (permB n k)) ∧ w = w' := by
  by_cases h1 : 0 ≤ n
  · by_cases h2 : n ≤ 4096
    · by_cases h3 : 0 ≤ k
      · by_cases h4 : k ≤ 64
        · have hp := Lib.hid (show permB n k = true by unfold permB; simp; omega)
          go_enter Tryz.func405, Tryz.ntmps405
          go_wp2
          go_ret
          exact ⟨by rw [hp.out]; exact ret_bool' (by first | rfl | (simp; done) | (simp; omega)), rfl⟩
        · have hp := Lib.hid (show permB n k = false by unfold permB; simp; omega)
          go_enter Tryz.func405, Tryz.ntmps405
          go_wp2
          go_ret
          exact ⟨by rw [hp.out]; exact ret_bool' (by first | rfl | (simp; done) | (simp; omega)), rfl⟩
      · have hp := Lib.hid (show permB n k = false by unfold permB; simp; omega)
        go_enter Tryz.func405, Tryz.ntmps405
        go_wp2
        go_ret
        exact ⟨by rw [hp.out]; exact ret_bool' (by first | rfl | (simp; done) | (simp; omega)), rfl⟩
    · have hp := Lib.hid (show permB n k = false by unfold permB; simp; omega)
      go_enter Tryz.func405, Tryz.ntmps405
      go_wp2
      go_ret
      exact ⟨by rw [hp.out]; exact ret_bool' (by first | rfl | (simp; done) | (simp; omega)), rfl⟩
  · have hp := Lib.hid (show permB n k = false by unfold permB; simp; omega)
    go_enter Tryz.func405, Tryz.ntmps405
    go_wp2
    go_ret
    exact ⟨by rw [hp.out]; exact ret_bool' (by first | rfl | (simp; done) | (simp; omega)), rfl⟩

theorem mul_bd {n k : Int} (h : 0 ≤ n ∧ n ≤ 4096 ∧ 0 ≤ k ∧ k ≤ 64) : 0 ≤ n * k ∧ n * k ≤ 262144 := by
  obtain ⟨a, b, c, d⟩ := h
  exact ⟨Int.mul_nonneg a c, Int.le_trans (Int.mul_le_mul_of_nonneg_right b c) (by omega)⟩

set_option maxRecDepth 100000 in
set_option maxHeartbeats 400000 in
theorem need_any (n k : Int) (w : World) : Calls Tryz.prog 384 #[.int .i64 n, .int .i64 k] w fun e w' => e = .returned (.int .i64 (needN n k)) ∧ w = w' := by
  cases hp : permB n k
  · have HP := Lib.hid (needN_no hp)
    have hc := fun W => perm_any n k W
    simp only [hp] at hc
    have HC := Lib.hid hc
    clear hc hp
    go_enter Tryz.func384, Tryz.ntmps384
    go_wp2_with fail
    refine (HC.out _).mono ?_; rintro e w' ⟨rfl, rfl⟩
    go_wp2
    go_ret
    exact ⟨by rw [HP.out]; rfl, rfl⟩
  · have HP := Lib.hid (needN_yes hp)
    have hc := fun W => perm_any n k W
    simp only [hp] at hc
    have HC := Lib.hid hc
    obtain ⟨m1, m2⟩ := mul_bd (n := n) (k := k) (by unfold permB at hp; simpa using hp)
    clear hc hp
    go_enter Tryz.func384, Tryz.ntmps384
    go_wp2_with fail
    refine (HC.out _).mono ?_; rintro e w' ⟨rfl, rfl⟩
    go_wp2
    go_ret
    exact ⟨by rw [HP.out]; exact ret_i64 rfl, rfl⟩


end Go.Proofs.YtodegmphcjgipaaGreatDoor
