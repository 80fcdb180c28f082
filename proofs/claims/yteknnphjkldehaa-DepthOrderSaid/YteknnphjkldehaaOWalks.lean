/-
  The comparisons of values and of ranks, in the code and in the reference: each returns what cmpV or cmpR says.
-/
import Derived.Test.YteknnphjkldehaaOPlain
import Derived.Test.YteknnphjkldehaaBlk
import Derived.Lib.Hide
import Derived.Deep.RegionHeld3
namespace Go.Proofs.Yteknnphjkldehaa
open Go.RowKit

abbrev Vv (v : Vl) : Value := .agg #[.bool v.null, .int .i64 v.n, .string v.s]
abbrev Rv (r : Rk) : Value := .agg #[.bool r.key.null, .int .i64 r.key.n, .string r.key.s, .int .i64 r.seq]
abbrev Gv (r : Rg) : Value := .agg #[.bool r.lo.key.null, .int .i64 r.lo.key.n, .string r.lo.key.s, .int .i64 r.lo.seq, .bool r.hi.key.null, .int .i64 r.hi.key.n, .string r.hi.key.s, .int .i64 r.hi.seq]
theorem ret_int {a b : Int} (h : a = b) : Ending.returned (.int .i64 a) = .returned (.int .i64 b) := by rw [h]

set_option maxRecDepth 100000 in
theorem isNaN_i64 (x : Int) (w : World) : Calls Try.prog 46 #[.int .i64 x] w fun e w' => e = .returned (.bool false) ∧ w = w' := by
  go_enter Try.func46, Try.ntmps46
  go_wp2
  go_ret
  exact ⟨by simp, rfl⟩
set_option maxRecDepth 100000 in
theorem cmp_i64 (x y : Int) (w : World) : Calls Try.prog 44 #[.int .i64 x, .int .i64 y] w fun e w' => e = .returned (.int .i64 (cmpI x y)) ∧ w = w' := by
  go_enter Try.func44, Try.ntmps44
  go_wp2_with fail
  refine (isNaN_i64 x _).mono ?_; rintro e w' ⟨rfl, rfl⟩
  go_wp2_with fail
  refine (isNaN_i64 y _).mono ?_; rintro e w' ⟨rfl, rfl⟩
  go_wp2
  all_goals (go_ret; refine ⟨ret_int ?_, rfl⟩; unfold cmpI ord3; simp only [decide_eq_true_eq, beq_iff_eq]; (repeat' split) <;> omega)
set_option maxRecDepth 100000 in
theorem isNaN_str (x : ByteArray) (w : World) : Calls Try.prog 47 #[.string x] w fun e w' => e = .returned (.bool false) ∧ w = w' := by
  go_enter Try.func47, Try.ntmps47
  go_wp2
  go_ret
  exact ⟨by simp, rfl⟩
set_option maxRecDepth 100000 in
theorem cmp_str (x y : ByteArray) (w : World) : Calls Try.prog 45 #[.string x, .string y] w fun e w' => e = .returned (.int .i64 (cmpS x y)) ∧ w = w' := by
  go_enter Try.func45, Try.ntmps45
  go_wp2_with fail
  refine (isNaN_str x _).mono ?_; rintro e w' ⟨rfl, rfl⟩
  go_wp2_with fail
  refine (isNaN_str y _).mono ?_; rintro e w' ⟨rfl, rfl⟩
  by_cases h1 : Op.bytesLess x.toList y.toList = true
  · have HR := Lib.hid (show cmpS x y = -1 by unfold cmpS ord3; rw [if_pos h1])
    go_wp2
    go_ret
    exact ⟨by rw [HR.out]; rfl, rfl⟩
  · by_cases h3 : (x.toList == y.toList) = true
    · have HR := Lib.hid (show cmpS x y = 0 by unfold cmpS ord3; rw [if_neg h1, if_pos h3])
      have h1' : Op.bytesLess x.toList y.toList = false := by simpa using h1
      clear h1
      go_wp2
      go_ret
      exact ⟨by rw [HR.out]; rfl, rfl⟩
    · have HR := Lib.hid (show cmpS x y = 1 by unfold cmpS ord3; rw [if_neg h1, if_neg h3])
      have h1' : Op.bytesLess x.toList y.toList = false := by simpa using h1
      have h3' : (x.toList == y.toList) = false := by simpa using h3
      clear h1 h3
      go_wp2
      go_ret
      exact ⟨by rw [HR.out]; rfl, rfl⟩
def orI (x y : Int) : Int := if x == 0 then y else x
theorem orI_0 (y : Int) : orI 0 y = y := rfl
theorem orI_1 {x : Int} (y : Int) (h : (x == 0) = false) : orI x y = x := by unfold orI; rw [h]; rfl
theorem cmpR_or (t : Int) (a b : Rk) : cmpR t a b = orI (cmpV t a.key b.key) (cmpI a.seq b.seq) := rfl
set_option maxRecDepth 100000 in
theorem or_int (x y : Int) (w : World) (g : Nat) (t : TypeId) (h : w.heap[g]? = some (.cells #[.int .i64 x, .int .i64 y] t (0, 0))) : Calls Try.prog 42 #[.slice (some ⟨g, 0, none⟩) 2 2] w fun e w' => e = .returned (.int .i64 (orI x y)) ∧ w = w' := by
  have c0 : w.cell? ⟨g, 0, none⟩ = some (.int .i64 x) := by rw [cell_of_row w g 0 _ t (0, 0) h]; rfl
  have c1 : w.cell? ⟨g, 1, none⟩ = some (.int .i64 y) := by rw [cell_of_row w g 1 _ t (0, 0) h]; rfl
  clear h
  go_enter Try.func42, Try.ntmps42
  go_wp2
  go_loopw [8] (fun a wr => ∃ k : Nat, a = .int .i64 (k : Int) ∧ k ≤ 2 ∧ wr = w ∧ Hid (1 ≤ k → x = 0) ∧ Hid (2 ≤ k → y = 0)) (fun a _ => 2 - (intOf a).toNat)
  case atStart => exact ⟨0, rfl, by omega, rfl, fun h => by omega, fun h => by omega⟩
  case round =>
    obtain ⟨k, rfl, hk, rfl, H1, H2⟩ := hrel
    rcases (show k = 0 ∨ k = 1 ∨ k = 2 by omega) with rfl | rfl | rfl
    · by_cases hx : x = 0
      · subst hx
        go_wp2
        go_roundw
        case rel => exact ⟨1, rfl, by omega, by trivial, fun _ => by trivial, fun h => by omega⟩
        case measure => simp [intOf]
      · have hb : (x == 0) = false := by simpa using hx
        have hb' : (x != 0) = true := by simpa using hx
        have HR := Lib.hid (orI_1 y hb)
        clear hx
        go_wp2
        go_ret
        exact ⟨by rw [HR.out]; rfl, by trivial⟩
    · have hx := H1.out (by omega)
      subst hx
      clear H1
      by_cases hy : y = 0
      · subst hy
        go_wp2
        go_roundw
        case rel => exact ⟨2, rfl, by omega, by trivial, fun _ => by trivial, fun _ => by trivial⟩
        case measure => simp [intOf]
      · have hb' : (y != 0) = true := by simpa using hy
        have HR := Lib.hid (orI_0 y)
        clear hy
        go_wp2
        go_ret
        exact ⟨by rw [HR.out]; rfl, by trivial⟩
    · have hx := H1.out (by omega)
      have hy := H2.out (by omega)
      subst hx
      subst hy
      have HR := Lib.hid (orI_0 0)
      go_wp2
      go_ret
      exact ⟨by rw [HR.out]; rfl, by trivial⟩
set_option maxRecDepth 100000 in
theorem cmp_val (t : Int) (a b : Vl) (w : World) : Calls Try.prog 43 #[.int .i64 t, Vv a, Vv b] w fun e w' => e = .returned (.int .i64 (cmpV t a b)) ∧ Below w.heap.size w w' := by
  obtain ⟨an, ai, az⟩ := a
  obtain ⟨bn, bi, bz⟩ := b
  cases an <;> cases bn
  · by_cases ht : (t == 3) = true
    · have HR := Lib.hid (show cmpV t ⟨false, ai, az⟩ ⟨false, bi, bz⟩ = cmpS az bz by simp only [cmpV, Bool.and_self, Bool.false_eq_true, if_false]; rw [if_pos ht])
      go_enter Try.func43, Try.ntmps43
      go_wp2_with fail
      refine (cmp_str az bz _).mono ?_; rintro e w' ⟨rfl, rfl⟩
      go_wp2
      go_ret
      exact ⟨by rw [HR.out]; rfl, ((Below.refl _ _).alloc (Nat.le_refl _) _).alloc (by simp) _⟩
    · have HR := Lib.hid (show cmpV t ⟨false, ai, az⟩ ⟨false, bi, bz⟩ = cmpI ai bi by simp only [cmpV, Bool.and_self, Bool.false_eq_true, if_false]; rw [if_neg ht])
      have ht' : (t == 3) = false := by simpa using ht
      clear ht
      go_enter Try.func43, Try.ntmps43
      go_wp2_with fail
      refine (cmp_i64 ai bi _).mono ?_; rintro e w' ⟨rfl, rfl⟩
      go_wp2
      go_ret
      exact ⟨by rw [HR.out]; rfl, ((Below.refl _ _).alloc (Nat.le_refl _) _).alloc (by simp) _⟩
  all_goals
    go_enter Try.func43, Try.ntmps43
    go_wp2
    go_ret
    exact ⟨rfl, ((Below.refl _ _).alloc (Nat.le_refl _) _).alloc (by simp) _⟩

set_option maxRecDepth 100000 in
theorem cmp_rank (t : Int) (a b : Rk) (w : World) : Calls Try.prog 37 #[.int .i64 t, Rv a, Rv b] w fun e w' => e = .returned (.int .i64 (cmpR t a b)) ∧ Below w.heap.size w w' := by
  obtain ⟨⟨an, ai, az⟩, aq⟩ := a
  obtain ⟨⟨bn, bi, bz⟩, bq⟩ := b
  dsimp only [Rv]
  have hA : Blk ((w.alloc (.cells #[.bool an, .int .i64 ai, .string az, .int .i64 aq] 33)).alloc (.cells #[.bool bn, .int .i64 bi, .string bz, .int .i64 bq] 33)) w.heap.size 33 [.bool an, .int .i64 ai, .string az, .int .i64 aq] :=
    Blk.alloc (Blk.new' w 33 #[.bool an, .int .i64 ai, .string az, .int .i64 aq]) _
  have hB : Blk ((w.alloc (.cells #[.bool an, .int .i64 ai, .string az, .int .i64 aq] 33)).alloc (.cells #[.bool bn, .int .i64 bi, .string bz, .int .i64 bq] 33)) (w.heap.size + 1) 33 [.bool bn, .int .i64 bi, .string bz, .int .i64 bq] := by
    have := Blk.new' (w.alloc (.cells #[.bool an, .int .i64 ai, .string az, .int .i64 aq] 33)) 33 #[.bool bn, .int .i64 bi, .string bz, .int .i64 bq]
    simpa using this
  have hbel : Below w.heap.size w ((w.alloc (.cells #[.bool an, .int .i64 ai, .string az, .int .i64 aq] 33)).alloc (.cells #[.bool bn, .int .i64 bi, .string bz, .int .i64 bq] 33)) := ((Below.refl _ _).alloc (Nat.le_refl _) _).alloc (by simp) _
  go_enter Try.func37, Try.ntmps37
  go_wp2_with fail
  generalize (w.alloc (.cells #[.bool an, .int .i64 ai, .string az, .int .i64 aq] 33)).alloc (.cells #[.bool bn, .int .i64 bi, .string bz, .int .i64 bq] 33) = wa at *
  have h0 := hA.cellAt 0 rfl
  have h1 := hA.cellAt 1 rfl
  have h2 := hA.cellAt 2 rfl
  have h3 := hA.cellAt 3 rfl
  have h4 := hB.cellAt 0 rfl
  have h5 := hB.cellAt 1 rfl
  have h6 := hB.cellAt 2 rfl
  have h7 := hB.cellAt 3 rfl
  have lA := hA.lt
  have lB := hB.lt
  go_region_held3 (fun w' => Below wa.heap.size wa w' ∧ w'.cell? ⟨w.heap.size, 0, none⟩ = some (.bool an) ∧ w'.cell? ⟨w.heap.size, 1, none⟩ = some (.int .i64 ai) ∧ w'.cell? ⟨w.heap.size, 2, none⟩ = some (.string az) ∧ w'.cell? ⟨w.heap.size, 3, none⟩ = some (.int .i64 aq) ∧ w'.cell? ⟨w.heap.size + 1, 0, none⟩ = some (.bool bn) ∧ w'.cell? ⟨w.heap.size + 1, 1, none⟩ = some (.int .i64 bi) ∧ w'.cell? ⟨w.heap.size + 1, 2, none⟩ = some (.string bz) ∧ w'.cell? ⟨w.heap.size + 1, 3, none⟩ = some (.int .i64 bq)) (first | assumption | exact ⟨⟨rfl, rfl, rfl, Nat.le_refl _, fun _ _ => rfl⟩, h0, h1, h2, h3, h4, h5, h6, h7⟩ | exact keep8 h0 h1 h2 h3 h4 h5 h6 h7 lA lA lA lA lB lB lB lB hb1 (by first | exact Below.refl _ _ | exact ⟨rfl, rfl, rfl, Nat.le_refl _, fun _ _ => rfl⟩) | exact keep8 h0 h1 h2 h3 h4 h5 h6 h7 lA lA lA lA lB lB lB lB ((Below.refl _ _).alloc (Nat.le_refl _) _) (‹Below wa.heap.size wa _ ∧ _›).1 | (trace_state; fail)) (first | (go_at_call 43; refine (cmp_val t ⟨an, ai, az⟩ ⟨bn, bi, bz⟩ _).mono ?_; rintro e w1 ⟨rfl, hb1⟩) | (go_at_call 44; refine (cmp_i64 aq bq _).mono ?_; rintro e w1 ⟨rfl, rfl⟩) | (go_at_call 42; refine (or_int _ _ _ _ _ (heap_alloc_new _ _)).mono ?_; rintro e w2 ⟨rfl, rfl⟩))
  go_wp2
  go_ret
  exact ⟨rfl, bt hbel (‹Below wa.heap.size wa _ ∧ _›).1⟩
set_option maxRecDepth 100000 in
theorem ord_any (l e : Bool) (w : World) : Calls Try.prog 38 #[.bool l, .bool e] w fun e' w' => e' = .returned (.int .i64 (ord3 l e)) ∧ w = w' := by
  cases l <;> cases e
  all_goals
    go_enter Try.func38, Try.ntmps38
    go_wp2
    go_ret
    exact ⟨rfl, rfl⟩
set_option maxRecDepth 100000 in
theorem rcmp_val (t : Int) (a b : Vl) (w : World) : Calls Try.prog 29 #[.int .i64 t, Vv a, Vv b] w fun e w' => e = .returned (.int .i64 (cmpV t a b)) ∧ Below w.heap.size w w' := by
  obtain ⟨an, ai, az⟩ := a
  obtain ⟨bn, bi, bz⟩ := b
  cases an <;> cases bn
  · by_cases ht : (t == 3) = true
    · have HR := Lib.hid (show cmpV t ⟨false, ai, az⟩ ⟨false, bi, bz⟩ = cmpS az bz by simp only [cmpV, Bool.and_self, Bool.false_eq_true, if_false]; rw [if_pos ht])
      go_enter Try.func29, Try.ntmps29
      go_wp2_with fail
      refine (ord_any _ _ _).mono ?_; rintro e w' ⟨rfl, rfl⟩
      go_wp2
      go_ret
      exact ⟨by rw [HR.out]; rfl, ((Below.refl _ _).alloc (Nat.le_refl _) _).alloc (by simp) _⟩
    · have HR := Lib.hid (show cmpV t ⟨false, ai, az⟩ ⟨false, bi, bz⟩ = cmpI ai bi by simp only [cmpV, Bool.and_self, Bool.false_eq_true, if_false]; rw [if_neg ht])
      have ht' : (t == 3) = false := by simpa using ht
      clear ht
      go_enter Try.func29, Try.ntmps29
      go_wp2_with fail
      refine (ord_any _ _ _).mono ?_; rintro e w' ⟨rfl, rfl⟩
      go_wp2
      go_ret
      exact ⟨by rw [HR.out]; rfl, ((Below.refl _ _).alloc (Nat.le_refl _) _).alloc (by simp) _⟩
  all_goals
    go_enter Try.func29, Try.ntmps29
    go_wp2
    go_ret
    exact ⟨rfl, ((Below.refl _ _).alloc (Nat.le_refl _) _).alloc (by simp) _⟩
set_option maxRecDepth 100000 in
theorem rcmp_rank (t : Int) (a b : Rk) (w : World) : Calls Try.prog 16 #[.int .i64 t, Rv a, Rv b] w fun e w' => e = .returned (.int .i64 (cmpR t a b)) ∧ Below w.heap.size w w' := by
  obtain ⟨⟨an, ai, az⟩, aq⟩ := a
  obtain ⟨⟨bn, bi, bz⟩, bq⟩ := b
  dsimp only [Rv]
  have hA : Blk ((w.alloc (.cells #[.bool an, .int .i64 ai, .string az, .int .i64 aq] 33)).alloc (.cells #[.bool bn, .int .i64 bi, .string bz, .int .i64 bq] 33)) w.heap.size 33 [.bool an, .int .i64 ai, .string az, .int .i64 aq] :=
    Blk.alloc (Blk.new' w 33 #[.bool an, .int .i64 ai, .string az, .int .i64 aq]) _
  have hB : Blk ((w.alloc (.cells #[.bool an, .int .i64 ai, .string az, .int .i64 aq] 33)).alloc (.cells #[.bool bn, .int .i64 bi, .string bz, .int .i64 bq] 33)) (w.heap.size + 1) 33 [.bool bn, .int .i64 bi, .string bz, .int .i64 bq] := by
    have := Blk.new' (w.alloc (.cells #[.bool an, .int .i64 ai, .string az, .int .i64 aq] 33)) 33 #[.bool bn, .int .i64 bi, .string bz, .int .i64 bq]
    simpa using this
  have hbel : Below w.heap.size w ((w.alloc (.cells #[.bool an, .int .i64 ai, .string az, .int .i64 aq] 33)).alloc (.cells #[.bool bn, .int .i64 bi, .string bz, .int .i64 bq] 33)) := ((Below.refl _ _).alloc (Nat.le_refl _) _).alloc (by simp) _
  have HR : Hid (cmpR t ⟨⟨an, ai, az⟩, aq⟩ ⟨⟨bn, bi, bz⟩, bq⟩ = if cmpV t ⟨an, ai, az⟩ ⟨bn, bi, bz⟩ == 0 then cmpI aq bq else cmpV t ⟨an, ai, az⟩ ⟨bn, bi, bz⟩) := by show _ = _; rfl
  go_enter Try.func16, Try.ntmps16
  go_wp2_with fail
  generalize (w.alloc (.cells #[.bool an, .int .i64 ai, .string az, .int .i64 aq] 33)).alloc (.cells #[.bool bn, .int .i64 bi, .string bz, .int .i64 bq] 33) = wa at *
  refine (rcmp_val t ⟨an, ai, az⟩ ⟨bn, bi, bz⟩ wa).mono ?_; rintro e w1 ⟨rfl, hb1⟩
  have h3 := (hA.call hb1).cellAt 3 rfl
  have h7 := (hB.call hb1).cellAt 3 rfl
  generalize cmpV t ⟨an, ai, az⟩ ⟨bn, bi, bz⟩ = k at *
  by_cases hk : k = 0
  · subst hk
    by_cases h1 : aq < bq
    · have h2 : Hid (cmpI aq bq = -1) := by show _ = _; simp [cmpI, ord3, h1]
      go_wp2
      go_ret
      exact ⟨by rw [HR.out]; simp [h2.out], bt hbel hb1⟩
    · by_cases h4 : aq = bq
      · have h2 : Hid (cmpI aq bq = 0) := by show _ = _; simp [cmpI, ord3, h4]
        subst h4
        go_wp2
        go_ret
        exact ⟨by rw [HR.out]; simp [h2.out], bt hbel hb1⟩
      · have h2 : Hid (cmpI aq bq = 1) := by show _ = _; simp [cmpI, ord3, h1, h4]
        have h4' : (aq == bq) = false := by simpa using h4
        go_wp2
        go_ret
        exact ⟨by rw [HR.out]; simp [h2.out], bt hbel hb1⟩
  · have hk' : (k == 0) = false := by simpa using hk
    have hk2 : (k != 0) = true := by simpa using hk
    clear hk
    go_wp2
    go_ret
    exact ⟨by rw [HR.out, hk']; rfl, bt hbel hb1⟩

end Go.Proofs.Yteknnphjkldehaa
