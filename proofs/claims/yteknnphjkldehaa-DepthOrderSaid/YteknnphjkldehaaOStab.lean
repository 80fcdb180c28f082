/-
  Stab of layer 27, in the code and in the reference.
-/
import Derived.Test.YteknnphjkldehaaOChk
namespace Go.Proofs.Yteknnphjkldehaa
open Go.RowKit

def stabC (t : Int) (L : List Rg) (p : Rk) : Nat := if chkR t L then stabR t L p else 0


set_option maxRecDepth 100000 in
set_option maxHeartbeats 400000 in
theorem rstab_any (t : Int) (A : Option Addr) (n c : Nat) (L : List Rg) (p : Rk) (w : World) (hr : Rd w w.heap.size A (L.flatMap rangeC)) (hn : L.length = n) (hm : n ≤ 17592186044416) :
    Calls Try.prog 17 #[.int .i64 t, .slice A n c, Rv p] w fun e w' => e = .returned (.int .i64 (stabC t L p)) ∧ Below w.heap.size w w' := by
  obtain ⟨⟨cn, ci, cz⟩, cq⟩ := p
  have HN := Lib.hid hn
  dsimp only [Rv]
  have hA0 := Blk.new' w 33 #[.bool cn, .int .i64 ci, .string cz, .int .i64 cq]
  have hbel : Below w.heap.size w (w.alloc (.cells #[.bool cn, .int .i64 ci, .string cz, .int .i64 cq] 33)) := (Below.refl _ _).alloc (Nat.le_refl _) _
  have hra0 := hr.call hbel
  clear hr hn
  go_enter Try.func17, Try.ntmps17
  go_wp2_with fail
  generalize w.alloc (.cells #[.bool cn, .int .i64 ci, .string cz, .int .i64 cq] 33) = wa at *
  refine (rcheck_any t A n c L wa hra0 HN.out hm).mono ?_; rintro e w1 ⟨rfl, hb1⟩
  have hA := hA0.call hb1
  have hra := hra0.call hb1
  have hbel1 := bt hbel hb1
  clear hA0 hra0 hb1 hbel
  cases hc : chkR t L
  · go_wp2
    go_ret
    exact ⟨ret_int (by rw [stabC, hc]; rfl), hbel1⟩
  · have HC : Hid (stabC t L ⟨⟨cn, ci, cz⟩, cq⟩ = stabR t L ⟨⟨cn, ci, cz⟩, cq⟩) := by show _ = _; rw [stabC, hc]; rfl
    clear hc
    go_wp2_with fail
    go_loopw [7, 16] (fun a b wr => ∃ (i k : Nat), b = .int .i64 (i : Int) ∧ a = .int .i64 (k : Int) ∧ i ≤ n ∧ k ≤ i ∧ Hid (k = stabR t (L.take i) ⟨⟨cn, ci, cz⟩, cq⟩) ∧ Below w1.heap.size w1 wr) (fun _ b _ => n - (intOf b).toNat)
    case atStart => exact ⟨0, 0, rfl, rfl, by omega, by omega, rfl, Below.refl _ _⟩
    case round =>
      obtain ⟨i, k, rfl, rfl, hi, hk, HK, hb⟩ := hrel
      by_cases hin : i < n
      · obtain ⟨p, hp⟩ : ∃ p, L[i]? = some p := ⟨_, List.getElem?_eq_getElem (by rw [HN.out]; exact hin)⟩
        obtain ⟨ad, rfl, hadb, c0, c1, c2, c3, c4, c5, c6, c7⟩ := (hra.call hb).range hp
        have HP := Lib.hid hp
        obtain ⟨⟨⟨an, ai, az⟩, aq⟩, ⟨⟨bn, bi, bz⟩, bq⟩⟩ := p
        have hAw := hA.call hb
        have a0 := fun o => (hAw.alloc o).cellAt 0 rfl
        have a1 := fun o => (hAw.alloc o).cellAt 1 rfl
        have a2 := fun o => (hAw.alloc o).cellAt 2 rfl
        have a3 := fun o => (hAw.alloc o).cellAt 3 rfl
        clear hp
        have HW : Hid (stabR t (L.take (i + 1)) ⟨⟨cn, ci, cz⟩, cq⟩ = k + if hasB t ⟨⟨⟨an, ai, az⟩, aq⟩, ⟨⟨bn, bi, bz⟩, bq⟩⟩ ⟨⟨cn, ci, cz⟩, cq⟩ then 1 else 0) := by
          show _ = _
          rw [HK.out, stabR, stabR, List.take_add_one, HP.out, List.countP_append]
          simp [List.countP_cons]
        cases hB : hasB t ⟨⟨⟨an, ai, az⟩, aq⟩, ⟨⟨bn, bi, bz⟩, bq⟩⟩ ⟨⟨cn, ci, cz⟩, cq⟩
        · go_wp2_with fail
          refine (rcontains_any t ⟨⟨⟨an, ai, az⟩, aq⟩, ⟨⟨bn, bi, bz⟩, bq⟩⟩ ⟨⟨cn, ci, cz⟩, cq⟩ _).mono ?_; rintro e w2 ⟨rfl, hb1⟩
          have hb2 := bt (bt hb ((Below.refl wr.heap.size wr).alloc (Nat.le_refl _) _)) hb1
          rw [hB]
          go_wp2
          go_roundw
          case rel => exact ⟨i + 1, k, by go_num, rfl, by omega, by omega, by show _ = _; rw [HW.out, hB]; simp, hb2⟩
          case measure => simp [intOf]; omega
        · go_wp2_with fail
          refine (rcontains_any t ⟨⟨⟨an, ai, az⟩, aq⟩, ⟨⟨bn, bi, bz⟩, bq⟩⟩ ⟨⟨cn, ci, cz⟩, cq⟩ _).mono ?_; rintro e w2 ⟨rfl, hb1⟩
          have hb2 := bt (bt hb ((Below.refl wr.heap.size wr).alloc (Nat.le_refl _) _)) hb1
          rw [hB]
          go_wp2
          go_roundw
          case rel => exact ⟨i + 1, k + 1, by go_num, by go_num, by omega, by omega, by show _ = _; rw [HW.out, hB]; simp, hb2⟩
          case measure => simp [intOf]; omega
      · have hin2 : i = n := by omega
        subst hin2
        go_wp2
        go_ret
        exact ⟨ret_int (by rw [HC.out,HK.out, ← HN.out, List.take_length]), bt hbel1 hb⟩
set_option maxRecDepth 100000 in
set_option maxHeartbeats 400000 in
theorem stab0_any (t : Int) (A : Option Addr) (n c : Nat) (L : List Rg) (p : Rk) (w : World) (hr : Rd w w.heap.size A (L.flatMap rangeC)) (hn : L.length = n) (hm : n ≤ 17592186044416) :
    Calls Try.prog 32 #[.int .i64 t, .slice A n c, Rv p] w fun e w' => e = .returned (.int .i64 (stabR t L p)) ∧ Below w.heap.size w w' := by
  obtain ⟨⟨cn, ci, cz⟩, cq⟩ := p
  have HN := Lib.hid hn
  dsimp only [Rv]
  have hA := Blk.new' w 33 #[.bool cn, .int .i64 ci, .string cz, .int .i64 cq]
  have hbel : Below w.heap.size w (w.alloc (.cells #[.bool cn, .int .i64 ci, .string cz, .int .i64 cq] 33)) := (Below.refl _ _).alloc (Nat.le_refl _) _
  have hra := hr.call hbel
  clear hr hn
  go_enter Try.func32, Try.ntmps32
  go_wp2_with fail
  generalize w.alloc (.cells #[.bool cn, .int .i64 ci, .string cz, .int .i64 cq] 33) = w1 at *
  go_loopw [7, 12] (fun a b wr => ∃ (i k : Nat), b = .int .i64 (i : Int) ∧ a = .int .i64 (k : Int) ∧ i ≤ n ∧ k ≤ i ∧ Hid (k = stabR t (L.take i) ⟨⟨cn, ci, cz⟩, cq⟩) ∧ Below w1.heap.size w1 wr) (fun _ b _ => n - (intOf b).toNat)
  case atStart => exact ⟨0, 0, rfl, rfl, by omega, by omega, rfl, Below.refl _ _⟩
  case round =>
    obtain ⟨i, k, rfl, rfl, hi, hk, HK, hb⟩ := hrel
    by_cases hin : i < n
    · obtain ⟨p, hp⟩ : ∃ p, L[i]? = some p := ⟨_, List.getElem?_eq_getElem (by rw [HN.out]; exact hin)⟩
      obtain ⟨ad, rfl, hadb, c0, c1, c2, c3, c4, c5, c6, c7⟩ := (hra.call hb).range hp
      have HP := Lib.hid hp
      obtain ⟨⟨⟨an, ai, az⟩, aq⟩, ⟨⟨bn, bi, bz⟩, bq⟩⟩ := p
      have hAw := hA.call hb
      have a0 := fun o => (hAw.alloc o).cellAt 0 rfl
      have a1 := fun o => (hAw.alloc o).cellAt 1 rfl
      have a2 := fun o => (hAw.alloc o).cellAt 2 rfl
      have a3 := fun o => (hAw.alloc o).cellAt 3 rfl
      clear hp
      have HW : Hid (stabR t (L.take (i + 1)) ⟨⟨cn, ci, cz⟩, cq⟩ = k + if hasB t ⟨⟨⟨an, ai, az⟩, aq⟩, ⟨⟨bn, bi, bz⟩, bq⟩⟩ ⟨⟨cn, ci, cz⟩, cq⟩ then 1 else 0) := by
        show _ = _
        rw [HK.out, stabR, stabR, List.take_add_one, HP.out, List.countP_append]
        simp [List.countP_cons]
      cases hB : hasB t ⟨⟨⟨an, ai, az⟩, aq⟩, ⟨⟨bn, bi, bz⟩, bq⟩⟩ ⟨⟨cn, ci, cz⟩, cq⟩
      · go_wp2_with fail
        refine (contains_any t ⟨⟨⟨an, ai, az⟩, aq⟩, ⟨⟨bn, bi, bz⟩, bq⟩⟩ ⟨⟨cn, ci, cz⟩, cq⟩ _).mono ?_; rintro e w2 ⟨rfl, hb1⟩
        have hb2 := bt (bt hb ((Below.refl wr.heap.size wr).alloc (Nat.le_refl _) _)) hb1
        rw [hB]
        go_wp2
        go_roundw
        case rel => exact ⟨i + 1, k, by go_num, rfl, by omega, by omega, by show _ = _; rw [HW.out, hB]; simp, hb2⟩
        case measure => simp [intOf]; omega
      · go_wp2_with fail
        refine (contains_any t ⟨⟨⟨an, ai, az⟩, aq⟩, ⟨⟨bn, bi, bz⟩, bq⟩⟩ ⟨⟨cn, ci, cz⟩, cq⟩ _).mono ?_; rintro e w2 ⟨rfl, hb1⟩
        have hb2 := bt (bt hb ((Below.refl wr.heap.size wr).alloc (Nat.le_refl _) _)) hb1
        rw [hB]
        go_wp2
        go_roundw
        case rel => exact ⟨i + 1, k + 1, by go_num, by go_num, by omega, by omega, by show _ = _; rw [HW.out, hB]; simp, hb2⟩
        case measure => simp [intOf]; omega
    · have hin2 : i = n := by omega
      subst hin2
      go_wp2
      go_ret
      exact ⟨ret_int (by rw [show stabR t L ⟨⟨cn, ci, cz⟩, cq⟩ = stabR t L ⟨⟨cn, ci, cz⟩, cq⟩ from rfl,HK.out, ← HN.out, List.take_length]), bt hbel hb⟩
set_option maxRecDepth 100000 in
set_option maxHeartbeats 400000 in
theorem stab_any (t : Int) (A : Option Addr) (n c : Nat) (L : List Rg) (p : Rk) (w : World) (hr : Rd w w.heap.size A (L.flatMap rangeC)) (hn : L.length = n) (hm : n ≤ 17592186044416) :
    Calls Try.prog 22 #[.int .i64 t, .slice A n c, Rv p] w fun e w' => e = .returned (.int .i64 (stabC t L p)) ∧ Below w.heap.size w w' := by
  obtain ⟨⟨cn, ci, cz⟩, cq⟩ := p
  have HN := Lib.hid hn
  dsimp only [Rv]
  have hA0 := Blk.new' w 33 #[.bool cn, .int .i64 ci, .string cz, .int .i64 cq]
  have hbel : Below w.heap.size w (w.alloc (.cells #[.bool cn, .int .i64 ci, .string cz, .int .i64 cq] 33)) := (Below.refl _ _).alloc (Nat.le_refl _) _
  have hra0 := hr.call hbel
  clear hr hn
  go_enter Try.func22, Try.ntmps22
  go_wp2_with fail
  generalize w.alloc (.cells #[.bool cn, .int .i64 ci, .string cz, .int .i64 cq] 33) = wa at *
  refine (check_any t A n c L wa hra0 HN.out hm).mono ?_; rintro e w1 ⟨rfl, hb1⟩
  have hA := hA0.call hb1
  have hra := hra0.call hb1
  have hbel1 := bt hbel hb1
  clear hA0 hra0 hb1 hbel
  cases hc : chkR t L
  · go_wp2
    go_ret
    exact ⟨ret_int (by rw [stabC, hc]; rfl), hbel1⟩
  · have HC : Hid (stabC t L ⟨⟨cn, ci, cz⟩, cq⟩ = stabR t L ⟨⟨cn, ci, cz⟩, cq⟩) := by show _ = _; rw [stabC, hc]; rfl
    clear hc
    have a0 := hA.cellAt 0 rfl
    have a1 := hA.cellAt 1 rfl
    have a2 := hA.cellAt 2 rfl
    have a3 := hA.cellAt 3 rfl
    go_wp2_with fail
    refine (stab0_any t A n c L ⟨⟨cn, ci, cz⟩, cq⟩ w1 hra HN.out hm).mono ?_; rintro e w2 ⟨rfl, hb2⟩
    go_wp2
    go_ret
    exact ⟨ret_int (by rw [HC.out]), bt hbel1 hb2⟩

end Go.Proofs.Yteknnphjkldehaa
