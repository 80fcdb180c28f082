/-
  The small functions of layer 2 and their references, each by one contract: the number of binary digits, the number of bytes.
-/
import Derived.Test.YtkdbbekoapcgdaaLen
import Derived.Test.YtkdbbekoapcgdaaKeep
namespace Go.Proofs.Ytkdbbekoapcgdaa
open Go.RowKit

theorem ret_i64 {a b : Int} (h : a = b) : Ending.returned (.int .i64 a) = .returned (.int .i64 b) := by rw [h]
theorem ret_bool' {a b : Bool} (h : a = b) : Ending.returned (.bool a) = .returned (.bool b) := by rw [h]

set_option maxRecDepth 100000 in
set_option maxHeartbeats 400000 in
theorem width_any (v : Nat) (w : World) (hv : U64 v) : Calls Try.prog 35 #[.int .u64 (v : Int)] w fun e w' => e = .returned (.int .i64 (widthN v)) ∧ w = w' := by
  go_enter Try.func35, Try.ntmps35
  go_wp2_with fail
  refine (len64_any v _ hv).mono ?_; rintro e w' ⟨rfl, rfl⟩
  go_wp2
  go_ret
  exact ⟨rfl, rfl⟩

set_option maxRecDepth 100000 in
set_option maxHeartbeats 400000 in
theorem rwidth_any (v : Nat) (w : World) (hv : U64 v) : Calls Try.prog 27 #[.int .u64 (v : Int)] w fun e w' => e = .returned (.int .i64 (widthN v)) ∧ w = w' := by
  have hw := width_u64 hv
  go_enter Try.func27, Try.ntmps27
  go_wp2
  go_loop [0, 3] (fun a n => ∃ x k : Nat, a = .int .u64 (x : Int) ∧ n = .int .i64 (k : Int) ∧ Hid (k + widthN x = widthN v) ∧ k ≤ 64) (fun a _ => (intOf a).toNat)
  case atStart => exact ⟨v, 0, rfl, rfl, by show _ = _; omega, by omega⟩
  case round =>
    obtain ⟨x, k, rfl, rfl, hs, hk⟩ := hrel
    by_cases h0 : 0 < x
    · go_wp2
      go_round
      case rel => exact ⟨x / 2, k + 1, by simp, by go_num, by show _ = _; have h := hs.out; rw [widthN_pos (by omega)] at h; omega, by have h := hs.out; rw [widthN_pos (by omega)] at h; omega⟩
      case measure => simp [intOf]; omega
    · have hx : x = 0 := by omega
      subst hx
      go_wp2
      go_ret
      exact ⟨ret_i64 (by have h := hs.out; rw [widthN_zero] at h; omega), rfl⟩

/-- Whether n numbers of w bits are permitted. -/
def permB (n w : Int) : Bool := decide (0 ≤ n ∧ n ≤ 4096 ∧ 0 ≤ w ∧ w ≤ 64)
theorem needN_yes {n w : Int} (h : permB n w = true) : needN n w = (n * w + 7) / 8 := by unfold permB at h; unfold needN; rw [if_pos (by simpa using h)]
theorem needN_no {n w : Int} (h : permB n w = false) : needN n w = 0 := by unfold permB at h; unfold needN; rw [if_neg (by simpa using h)]
theorem needN_nat (n w : Nat) (hn : n ≤ 4096) (hw : w ≤ 64) : needN n w = (((n * w + 7) / 8 : Nat) : Int) := by
  rw [needN_yes (by unfold permB; simp; omega)]; simp

set_option maxRecDepth 100000 in
set_option maxHeartbeats 400000 in
theorem perm_any (n k : Int) (w : World) : Calls Try.prog 47 #[.int .i64 n, .int .i64 k] w fun e w' => e = .returned (.bool (permB n k)) ∧ w = w' := by
  by_cases h1 : 0 ≤ n
  · by_cases h2 : n ≤ 4096
    · by_cases h3 : 0 ≤ k
      · by_cases h4 : k ≤ 64
        · have hp := Lib.hid (show permB n k = true by unfold permB; simp; omega)
          go_enter Try.func47, Try.ntmps47
          go_wp2
          go_ret
          exact ⟨by rw [hp.out]; exact ret_bool' (by first | rfl | (simp; done) | (simp; omega)), rfl⟩
        · have hp := Lib.hid (show permB n k = false by unfold permB; simp; omega)
          go_enter Try.func47, Try.ntmps47
          go_wp2
          go_ret
          exact ⟨by rw [hp.out]; exact ret_bool' (by first | rfl | (simp; done) | (simp; omega)), rfl⟩
      · have hp := Lib.hid (show permB n k = false by unfold permB; simp; omega)
        go_enter Try.func47, Try.ntmps47
        go_wp2
        go_ret
        exact ⟨by rw [hp.out]; exact ret_bool' (by first | rfl | (simp; done) | (simp; omega)), rfl⟩
    · have hp := Lib.hid (show permB n k = false by unfold permB; simp; omega)
      go_enter Try.func47, Try.ntmps47
      go_wp2
      go_ret
      exact ⟨by rw [hp.out]; exact ret_bool' (by first | rfl | (simp; done) | (simp; omega)), rfl⟩
  · have hp := Lib.hid (show permB n k = false by unfold permB; simp; omega)
    go_enter Try.func47, Try.ntmps47
    go_wp2
    go_ret
    exact ⟨by rw [hp.out]; exact ret_bool' (by first | rfl | (simp; done) | (simp; omega)), rfl⟩

theorem mul_bd {n k : Int} (h : 0 ≤ n ∧ n ≤ 4096 ∧ 0 ≤ k ∧ k ≤ 64) : 0 ≤ n * k ∧ n * k ≤ 262144 := by
  obtain ⟨a, b, c, d⟩ := h
  exact ⟨Int.mul_nonneg a c, Int.le_trans (Int.mul_le_mul_of_nonneg_right b c) (by omega)⟩

set_option maxRecDepth 100000 in
set_option maxHeartbeats 400000 in
theorem need_any (n k : Int) (w : World) : Calls Try.prog 42 #[.int .i64 n, .int .i64 k] w fun e w' => e = .returned (.int .i64 (needN n k)) ∧ w = w' := by
  cases hp : permB n k
  · have HP := Lib.hid (needN_no hp)
    have hc := fun W => perm_any n k W
    simp only [hp] at hc
    have HC := Lib.hid hc
    clear hc hp
    go_enter Try.func42, Try.ntmps42
    go_wp2_with fail
    refine (HC.out _).mono ?_; rintro e w' ⟨rfl, rfl⟩
    go_wp2
    go_ret
    exact ⟨by rw [HP.out]; rfl, rfl⟩
  · have HP := Lib.hid (needN_yes hp)
    have hc := fun W => perm_any n k W
    simp only [hp] at hc
    have HC := Lib.hid hc
    obtain ⟨m1, m2⟩ := mul_bd (n := n) (k := k) (by unfold permB at hp; simpa using hp)
    clear hc hp
    go_enter Try.func42, Try.ntmps42
    go_wp2_with fail
    refine (HC.out _).mono ?_; rintro e w' ⟨rfl, rfl⟩
    go_wp2
    go_ret
    exact ⟨by rw [HP.out]; exact ret_i64 rfl, rfl⟩

set_option maxRecDepth 100000 in
set_option maxHeartbeats 400000 in
theorem rneed_any (n k : Int) (w : World) : Calls Try.prog 37 #[.int .i64 n, .int .i64 k] w fun e w' => e = .returned (.int .i64 (needN n k)) ∧ w = w' := by
  by_cases h1 : n < 0
  · have hp := Lib.hid (needN_no (show permB n k = false by unfold permB; simp; omega))
    go_enter Try.func37, Try.ntmps37
    go_wp2
    go_ret
    exact ⟨by rw [hp.out]; rfl, rfl⟩
  · by_cases h2 : 4096 < n
    · have hp := Lib.hid (needN_no (show permB n k = false by unfold permB; simp; omega))
      go_enter Try.func37, Try.ntmps37
      go_wp2
      go_ret
      exact ⟨by rw [hp.out]; rfl, rfl⟩
    · by_cases h3 : k < 0
      · have hp := Lib.hid (needN_no (show permB n k = false by unfold permB; simp; omega))
        go_enter Try.func37, Try.ntmps37
        go_wp2
        go_ret
        exact ⟨by rw [hp.out]; rfl, rfl⟩
      · by_cases h4 : 64 < k
        · have hp := Lib.hid (needN_no (show permB n k = false by unfold permB; simp; omega))
          go_enter Try.func37, Try.ntmps37
          go_wp2
          go_ret
          exact ⟨by rw [hp.out]; rfl, rfl⟩
        · have hp := Lib.hid (needN_yes (show permB n k = true by unfold permB; simp; omega))
          obtain ⟨m1, m2⟩ := mul_bd (n := n) (k := k) (by omega)
          go_enter Try.func37, Try.ntmps37
          go_wp2
          go_ret
          exact ⟨by rw [hp.out]; exact ret_i64 rfl, rfl⟩

end Go.Proofs.Ytkdbbekoapcgdaa
