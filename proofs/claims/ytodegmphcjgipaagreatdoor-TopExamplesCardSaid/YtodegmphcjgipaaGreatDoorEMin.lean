/-
  The least and the greatest element of a list of numbers (slices.Min, slices.Max).
-/
import Derived.Test.YtodegmphcjgipaaGreatDoorBase
import Derived.Lib.MinMax
namespace Go.Proofs.YtodegmphcjgipaaGreatDoor
open Go.RowKit

def minI : List Int → Int | [] => 0 | x :: l => l.foldl min x
def maxI : List Int → Int | [] => 0 | x :: l => l.foldl max x
theorem minI_next {L : List Int} {k : Nat} {x : Int} (h0 : 0 < k) (h : L[k]? = some x) : minI (L.take (k + 1)) = min (minI (L.take k)) x := by
  rw [List.take_add_one, h]
  cases L with
  | nil => simp at h
  | cons a L =>
    cases k with
    | zero => omega
    | succ k => simp [minI, List.foldl_append]
theorem maxI_next {L : List Int} {k : Nat} {x : Int} (h0 : 0 < k) (h : L[k]? = some x) : maxI (L.take (k + 1)) = max (maxI (L.take k)) x := by
  rw [List.take_add_one, h]
  cases L with
  | nil => simp at h
  | cons a L =>
    cases k with
    | zero => omega
    | succ k => simp [maxI, List.foldl_append]
theorem fold_min (l : List Int) : ∀ x : Int, l.foldl min x ≤ x ∧ (∀ y ∈ l, l.foldl min x ≤ y) ∧ (l.foldl min x = x ∨ l.foldl min x ∈ l) := by
  induction l with
  | nil => intro x; simp
  | cons a l ih =>
    intro x
    obtain ⟨h1, h2, h3⟩ := ih (min x a)
    rw [List.foldl_cons]
    refine ⟨by omega, fun y hy => ?_, ?_⟩
    · rcases List.mem_cons.1 hy with rfl | hy
      · omega
      · exact h2 y hy
    · rcases h3 with h3 | h3
      · rcases Int.le_total x a with h | h
        · left; rw [h3]; omega
        · right; rw [h3, Int.min_eq_right h]; simp
      · right; simp [h3]
theorem minI_mem {L : List Int} (h : L ≠ []) : minI L ∈ L := by
  cases L with
  | nil => exact absurd rfl h
  | cons x l =>
    rcases (fold_min l x).2.2 with h | h
    · simp [minI, h]
    · simp [minI, h]
theorem minI_le {L : List Int} {y : Int} (h : y ∈ L) : minI L ≤ y := by
  cases L with
  | nil => cases h
  | cons x l =>
    rcases List.mem_cons.1 h with rfl | h
    · exact (fold_min l _).1
    · exact (fold_min l x).2.1 y h
theorem fold_max (l : List Int) : ∀ x : Int, x ≤ l.foldl max x ∧ (∀ y ∈ l, y ≤ l.foldl max x) ∧ (l.foldl max x = x ∨ l.foldl max x ∈ l) := by
  induction l with
  | nil => intro x; simp
  | cons a l ih =>
    intro x
    obtain ⟨h1, h2, h3⟩ := ih (max x a)
    rw [List.foldl_cons]
    refine ⟨by omega, fun y hy => ?_, ?_⟩
    · rcases List.mem_cons.1 hy with rfl | hy
      · omega
      · exact h2 y hy
    · rcases h3 with h3 | h3
      · rcases Int.le_total x a with h | h
        · right; rw [h3, Int.max_eq_right h]; simp
        · left; rw [h3]; omega
      · right; simp [h3]
theorem maxI_mem {L : List Int} (h : L ≠ []) : maxI L ∈ L := by
  cases L with
  | nil => exact absurd rfl h
  | cons x l =>
    rcases (fold_max l x).2.2 with h | h
    · simp [maxI, h]
    · simp [maxI, h]
theorem maxI_ge {L : List Int} {y : Int} (h : y ∈ L) : y ≤ maxI L := by
  cases L with
  | nil => cases h
  | cons x l =>
    rcases List.mem_cons.1 h with rfl | h
    · exact (fold_max l _).1
    · exact (fold_max l x).2.1 y h

set_option maxRecDepth 100000 in
set_option maxHeartbeats 1000000 in
theorem mini_any (A : Option Addr) (n c : Nat) (L : List Int) (w : World) (hr : Rd w w.heap.size A (L.map (Value.int .i64))) (hn : L.length = n) (h0 : 0 < n) (hm : n ≤ 17592186044416) :
    Calls Tryz.prog 380 #[.slice A n c] w fun e w' => e = .returned (.int .i64 (minI L)) ∧ w = w' := by
  have HN := Lib.hid hn
  obtain ⟨x, hx⟩ : ∃ x, L[0]? = some x := ⟨_, List.getElem?_eq_getElem (by omega)⟩
  obtain ⟨ad, rfl, hadb, c0⟩ := hr.at_ (j := 0) (u := .int .i64 x) (by rw [List.getElem?_map, hx]; rfl)
  have c00 : w.cell? ad = some (.int .i64 x) := by simpa [Addr.add] using c0
  have HX := Lib.hid hx
  clear hn hx
  go_enter Tryz.func380, Tryz.ntmps380
  go_wp2_with fail
  go_loopw [3, 4] (fun m b wr => ∃ k : Nat, b = .int .i64 (k : Int) ∧ 1 ≤ k ∧ k ≤ n ∧ Hid (m = .int .i64 (minI (L.take k))) ∧ wr = w) (fun _ b _ => n - (intOf b).toNat)
  case atStart => exact ⟨1, rfl, by omega, by omega, by show _ = _; rw [show L.take 1 = [x] by rw [List.take_add_one, HX.out]; rfl]; rfl, rfl⟩
  case round =>
    obtain ⟨k, rfl, hk1, hk, HM, rfl⟩ := hrel
    have hm := HM.out
    clear HM
    subst hm
    by_cases hlt : k < n
    · obtain ⟨y, hy⟩ : ∃ y, L[k]? = some y := ⟨_, List.getElem?_eq_getElem (by rw [HN.out]; exact hlt)⟩
      obtain ⟨_, e2, _, ck⟩ := hr.at_ (j := k) (u := .int .i64 y) (by rw [List.getElem?_map, hy]; rfl)
      cases e2
      have HY := Lib.hid (minI_next (L := L) (by omega) hy)
      clear hy
      go_wp2
      go_roundw
      case rel => exact ⟨k + 1, by go_num, by omega, by omega, by show _ = _; rw [HY.out], by trivial⟩
      case measure => simp [intOf]; omega
    · have hk2 : k = n := by omega
      subst hk2
      have HL := Lib.hid (show L.take k = L by rw [← HN.out, List.take_length])
      go_wp2
      go_ret
      exact ⟨by show Ending.returned (.int .i64 (minI (L.take k))) = _; rw [HL.out], by trivial⟩
set_option maxRecDepth 100000 in
set_option maxHeartbeats 1000000 in
theorem minu_any (A : Option Addr) (n c : Nat) (L : List Int) (w : World) (hr : Rd w w.heap.size A (L.map (Value.int .u64))) (hn : L.length = n) (h0 : 0 < n) (hm : n ≤ 17592186044416) :
    Calls Tryz.prog 415 #[.slice A n c] w fun e w' => e = .returned (.int .u64 (minI L)) ∧ w = w' := by
  have HN := Lib.hid hn
  obtain ⟨x, hx⟩ : ∃ x, L[0]? = some x := ⟨_, List.getElem?_eq_getElem (by omega)⟩
  obtain ⟨ad, rfl, hadb, c0⟩ := hr.at_ (j := 0) (u := .int .u64 x) (by rw [List.getElem?_map, hx]; rfl)
  have c00 : w.cell? ad = some (.int .u64 x) := by simpa [Addr.add] using c0
  have HX := Lib.hid hx
  clear hn hx
  go_enter Tryz.func415, Tryz.ntmps415
  go_wp2_with fail
  go_loopw [3, 4] (fun m b wr => ∃ k : Nat, b = .int .i64 (k : Int) ∧ 1 ≤ k ∧ k ≤ n ∧ Hid (m = .int .u64 (minI (L.take k))) ∧ wr = w) (fun _ b _ => n - (intOf b).toNat)
  case atStart => exact ⟨1, rfl, by omega, by omega, by show _ = _; rw [show L.take 1 = [x] by rw [List.take_add_one, HX.out]; rfl]; rfl, rfl⟩
  case round =>
    obtain ⟨k, rfl, hk1, hk, HM, rfl⟩ := hrel
    have hm := HM.out
    clear HM
    subst hm
    by_cases hlt : k < n
    · obtain ⟨y, hy⟩ : ∃ y, L[k]? = some y := ⟨_, List.getElem?_eq_getElem (by rw [HN.out]; exact hlt)⟩
      obtain ⟨_, e2, _, ck⟩ := hr.at_ (j := k) (u := .int .u64 y) (by rw [List.getElem?_map, hy]; rfl)
      cases e2
      have HY := Lib.hid (minI_next (L := L) (by omega) hy)
      clear hy
      go_wp2
      go_roundw
      case rel => exact ⟨k + 1, by go_num, by omega, by omega, by show _ = _; rw [HY.out], by trivial⟩
      case measure => simp [intOf]; omega
    · have hk2 : k = n := by omega
      subst hk2
      have HL := Lib.hid (show L.take k = L by rw [← HN.out, List.take_length])
      go_wp2
      go_ret
      exact ⟨by show Ending.returned (.int .u64 (minI (L.take k))) = _; rw [HL.out], by trivial⟩
set_option maxRecDepth 100000 in
set_option maxHeartbeats 1000000 in
theorem maxu_any (A : Option Addr) (n c : Nat) (L : List Int) (w : World) (hr : Rd w w.heap.size A (L.map (Value.int .u64))) (hn : L.length = n) (h0 : 0 < n) (hm : n ≤ 17592186044416) :
    Calls Tryz.prog 416 #[.slice A n c] w fun e w' => e = .returned (.int .u64 (maxI L)) ∧ w = w' := by
  have HN := Lib.hid hn
  obtain ⟨x, hx⟩ : ∃ x, L[0]? = some x := ⟨_, List.getElem?_eq_getElem (by omega)⟩
  obtain ⟨ad, rfl, hadb, c0⟩ := hr.at_ (j := 0) (u := .int .u64 x) (by rw [List.getElem?_map, hx]; rfl)
  have c00 : w.cell? ad = some (.int .u64 x) := by simpa [Addr.add] using c0
  have HX := Lib.hid hx
  clear hn hx
  go_enter Tryz.func416, Tryz.ntmps416
  go_wp2_with fail
  go_loopw [3, 4] (fun m b wr => ∃ k : Nat, b = .int .i64 (k : Int) ∧ 1 ≤ k ∧ k ≤ n ∧ Hid (m = .int .u64 (maxI (L.take k))) ∧ wr = w) (fun _ b _ => n - (intOf b).toNat)
  case atStart => exact ⟨1, rfl, by omega, by omega, by show _ = _; rw [show L.take 1 = [x] by rw [List.take_add_one, HX.out]; rfl]; rfl, rfl⟩
  case round =>
    obtain ⟨k, rfl, hk1, hk, HM, rfl⟩ := hrel
    have hm := HM.out
    clear HM
    subst hm
    by_cases hlt : k < n
    · obtain ⟨y, hy⟩ : ∃ y, L[k]? = some y := ⟨_, List.getElem?_eq_getElem (by rw [HN.out]; exact hlt)⟩
      obtain ⟨_, e2, _, ck⟩ := hr.at_ (j := k) (u := .int .u64 y) (by rw [List.getElem?_map, hy]; rfl)
      cases e2
      have HY := Lib.hid (maxI_next (L := L) (by omega) hy)
      clear hy
      go_wp2
      go_roundw
      case rel => exact ⟨k + 1, by go_num, by omega, by omega, by show _ = _; rw [HY.out], by trivial⟩
      case measure => simp [intOf]; omega
    · have hk2 : k = n := by omega
      subst hk2
      have HL := Lib.hid (show L.take k = L by rw [← HN.out, List.take_length])
      go_wp2
      go_ret
      exact ⟨by show Ending.returned (.int .u64 (maxI (L.take k))) = _; rw [HL.out], by trivial⟩

end Go.Proofs.YtodegmphcjgipaaGreatDoor
