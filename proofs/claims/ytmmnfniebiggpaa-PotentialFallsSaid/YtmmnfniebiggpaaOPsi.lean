/-
  Psi, in the code and in the reference.
-/
import Derived.Test.YtmmnfniebiggpaaOList
namespace Go.Proofs.Ytmmnfniebiggpaa
open Go.RowKit

def psiW (t : Int) (ranks : List Rk) (k : Int) (L : List Rg) : Int := L.foldl (fun acc r => wrap64 (acc + (widthR t r ranks : Int))) k

set_option maxRecDepth 100000 in
set_option maxHeartbeats 400000 in
theorem psi_any (t : Int) (A : Option Addr) (n c : Nat) (L : List Rg) (A2 : Option Addr) (n2 c2 : Nat) (L2 : List Rk) (w : World) (hr : Rd w w.heap.size A (L.flatMap rangeC)) (hn : L.length = n) (hm : n ≤ 17592186044416) (hr2 : Rd w w.heap.size A2 (L2.flatMap rankC)) (hn2 : L2.length = n2) (hm2 : n2 ≤ 17592186044416) :
    Calls Try.prog 16 #[.int .i64 t, .slice A n c, .slice A2 n2 c2] w fun e w' => e = .returned (.int .i64 (psiW t L2 n L)) ∧ Below w.heap.size w w' := by
  have HN := Lib.hid hn
  have HN2 := Lib.hid hn2
  clear hn hn2
  go_enter Try.func16, Try.ntmps16
  go_wp2_with fail
  go_loopw [7, 14] (fun a b wr => ∃ (i : Nat) (k : Int), b = .int .i64 (i : Int) ∧ a = .int .i64 k ∧ i ≤ n ∧ Hid (k = psiW t L2 n (L.take i)) ∧ Below w.heap.size w wr) (fun _ b _ => n - (intOf b).toNat)
  case atStart => exact ⟨0, n, rfl, rfl, by omega, rfl, Below.refl _ _⟩
  case round =>
    obtain ⟨i, k, rfl, rfl, hi, HK, hb⟩ := hrel
    by_cases hin : i < n
    · obtain ⟨p, hp⟩ : ∃ p, L[i]? = some p := ⟨_, List.getElem?_eq_getElem (by rw [HN.out]; exact hin)⟩
      obtain ⟨ad, rfl, hadb, c0, c1, c2', c3, c4, c5, c6, c7⟩ := (hr.call hb).range hp
      have HP := Lib.hid hp
      obtain ⟨⟨⟨an, ai, az⟩, aq⟩, ⟨⟨bn, bi, bz⟩, bq⟩⟩ := p
      clear hp
      go_wp2_with fail
      refine (width_ranks t ⟨⟨⟨an, ai, az⟩, aq⟩, ⟨⟨bn, bi, bz⟩, bq⟩⟩ A2 n2 c2 L2 _ ((hr2.call hb).call ((Below.refl wr.heap.size wr).alloc (Nat.le_refl _) _)) HN2.out hm2).mono ?_; rintro e w1 ⟨rfl, hb1⟩
      have hb2 := bt (bt hb ((Below.refl wr.heap.size wr).alloc (Nat.le_refl _) _)) hb1
      have HW : Hid (psiW t L2 n (L.take (i + 1)) = wrap64 (k + (widthR t ⟨⟨⟨an, ai, az⟩, aq⟩, ⟨⟨bn, bi, bz⟩, bq⟩⟩ L2 : Int))) := by
        show _ = _
        rw [HK.out, psiW, psiW, List.take_add_one, HP.out, List.foldl_append]
        rfl
      go_wp2
      go_roundw
      case rel => exact ⟨i + 1, _, by go_num, rfl, by omega, by show _ = _; rw [HW.out], hb2⟩
      case measure => simp [intOf]; omega
    · have hin2 : i = n := by omega
      go_wp2
      go_ret
      exact ⟨ret_int (by rw [HK.out, hin2, ← HN.out, List.take_length]), hb⟩
set_option maxRecDepth 100000 in
set_option maxHeartbeats 400000 in
theorem rpsi_any (t : Int) (A : Option Addr) (n c : Nat) (L : List Rg) (A2 : Option Addr) (n2 c2 : Nat) (L2 : List Rk) (w : World) (hr : Rd w w.heap.size A (L.flatMap rangeC)) (hn : L.length = n) (hm : n ≤ 17592186044416) (hr2 : Rd w w.heap.size A2 (L2.flatMap rankC)) (hn2 : L2.length = n2) (hm2 : n2 ≤ 17592186044416) :
    Calls Try.prog 35 #[.int .i64 t, .slice A n c, .slice A2 n2 c2] w fun e w' => e = .returned (.int .i64 (psiW t L2 n L)) ∧ Below w.heap.size w w' := by
  have HN := Lib.hid hn
  have HN2 := Lib.hid hn2
  clear hn hn2
  go_enter Try.func35, Try.ntmps35
  go_wp2_with fail
  go_loopw [7, 14] (fun a b wr => ∃ (i : Nat) (k : Int), b = .int .i64 (i : Int) ∧ a = .int .i64 k ∧ i ≤ n ∧ Hid (k = psiW t L2 n (L.take i)) ∧ Below w.heap.size w wr) (fun _ b _ => n - (intOf b).toNat)
  case atStart => exact ⟨0, n, rfl, rfl, by omega, rfl, Below.refl _ _⟩
  case round =>
    obtain ⟨i, k, rfl, rfl, hi, HK, hb⟩ := hrel
    by_cases hin : i < n
    · obtain ⟨p, hp⟩ : ∃ p, L[i]? = some p := ⟨_, List.getElem?_eq_getElem (by rw [HN.out]; exact hin)⟩
      obtain ⟨ad, rfl, hadb, c0, c1, c2', c3, c4, c5, c6, c7⟩ := (hr.call hb).range hp
      have HP := Lib.hid hp
      obtain ⟨⟨⟨an, ai, az⟩, aq⟩, ⟨⟨bn, bi, bz⟩, bq⟩⟩ := p
      clear hp
      go_wp2_with fail
      refine (rwidth_ranks t ⟨⟨⟨an, ai, az⟩, aq⟩, ⟨⟨bn, bi, bz⟩, bq⟩⟩ A2 n2 c2 L2 _ ((hr2.call hb).call ((Below.refl wr.heap.size wr).alloc (Nat.le_refl _) _)) HN2.out hm2).mono ?_; rintro e w1 ⟨rfl, hb1⟩
      have hb2 := bt (bt hb ((Below.refl wr.heap.size wr).alloc (Nat.le_refl _) _)) hb1
      have HW : Hid (psiW t L2 n (L.take (i + 1)) = wrap64 (k + (widthR t ⟨⟨⟨an, ai, az⟩, aq⟩, ⟨⟨bn, bi, bz⟩, bq⟩⟩ L2 : Int))) := by
        show _ = _
        rw [HK.out, psiW, psiW, List.take_add_one, HP.out, List.foldl_append]
        rfl
      go_wp2
      go_roundw
      case rel => exact ⟨i + 1, _, by go_num, rfl, by omega, by show _ = _; rw [HW.out], hb2⟩
      case measure => simp [intOf]; omega
    · have hin2 : i = n := by omega
      go_wp2
      go_ret
      exact ⟨ret_int (by rw [HK.out, hin2, ← HN.out, List.take_length]), hb⟩

end Go.Proofs.Ytmmnfniebiggpaa
