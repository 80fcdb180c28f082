/-
  The comparisons of values and of ranks, in the code and in the reference: each returns what cmpV or cmpR says.
-/
import Derived.Test.YtnichmblekbccaaOPlain
import Derived.Test.YtnichmblekbccaaBlk
import Derived.Lib.Hide
import Derived.Deep.RegionHeld3
namespace Go.Proofs.Ytnichmblekbccaa
open Go.RowKit

abbrev Vv (v : Vl) : Value := .agg #[.bool v.null, .int .i64 v.n, .string v.s]
abbrev Rv (r : Rk) : Value := .agg #[.bool r.key.null, .int .i64 r.key.n, .string r.key.s, .int .i64 r.seq]
abbrev Gv (r : Rg) : Value := .agg #[.bool r.lo.key.null, .int .i64 r.lo.key.n, .string r.lo.key.s, .int .i64 r.lo.seq, .bool r.hi.key.null, .int .i64 r.hi.key.n, .string r.hi.key.s, .int .i64 r.hi.seq]
theorem ret_int {a b : Int} (h : a = b) : Ending.returned (.int .i64 a) = .returned (.int .i64 b) := by rw [h]

set_option maxRecDepth 100000 in
theorem isNaN_i64 (x : Int) (w : World) : Calls Try.prog 57 #[.int .i64 x] w fun e w' => e = .returned (.bool false) ∧ w = w' := by
  go_enter Try.func57, Try.ntmps57
  go_wp2
  go_ret
  exact ⟨by simp, rfl⟩
set_option maxRecDepth 100000 in
theorem cmp_i64 (x y : Int) (w : World) : Calls Try.prog 50 #[.int .i64 x, .int .i64 y] w fun e w' => e = .returned (.int .i64 (cmpI x y)) ∧ w = w' := by
  go_enter Try.func50, Try.ntmps50
  go_wp2_with fail
  refine (isNaN_i64 x _).mono ?_; rintro e w' ⟨rfl, rfl⟩
  go_wp2_with fail
  refine (isNaN_i64 y _).mono ?_; rintro e w' ⟨rfl, rfl⟩
  go_wp2
  all_goals (go_ret; refine ⟨ret_int ?_, rfl⟩; unfold cmpI ord3; simp only [decide_eq_true_eq, beq_iff_eq]; (repeat' split) <;> omega)
set_option maxRecDepth 100000 in
theorem isNaN_str (x : ByteArray) (w : World) : Calls Try.prog 56 #[.string x] w fun e w' => e = .returned (.bool false) ∧ w = w' := by
  go_enter Try.func56, Try.ntmps56
  go_wp2
  go_ret
  exact ⟨by simp, rfl⟩
set_option maxRecDepth 100000 in
theorem cmp_str (x y : ByteArray) (w : World) : Calls Try.prog 49 #[.string x, .string y] w fun e w' => e = .returned (.int .i64 (cmpS x y)) ∧ w = w' := by
  go_enter Try.func49, Try.ntmps49
  go_wp2_with fail
  refine (isNaN_str x _).mono ?_; rintro e w' ⟨rfl, rfl⟩
  go_wp2_with fail
  refine (isNaN_str y _).mono ?_; rintro e w' ⟨rfl, rfl⟩
  by_cases h1 : Op.bytesLess x.toList y.toList = true
  · have HR := Lib.hid (show cmpS x y = -1 by unfold cmpS ord3; rw [if_pos h1])
    go_wp2
    go_ret
    exact ⟨by rw [HR.out]; rfl, rfl⟩
  · by_cases h3 : (x.toList == y.toList) = true
    · have HR := Lib.hid (show cmpS x y = 0 by unfold cmpS ord3; rw [if_neg h1, if_pos h3])
      have h1' : Op.bytesLess x.toList y.toList = false := by simpa using h1
      clear h1
      go_wp2
      go_ret
      exact ⟨by rw [HR.out]; rfl, rfl⟩
    · have HR := Lib.hid (show cmpS x y = 1 by unfold cmpS ord3; rw [if_neg h1, if_neg h3])
      have h1' : Op.bytesLess x.toList y.toList = false := by simpa using h1
      have h3' : (x.toList == y.toList) = false := by simpa using h3
      clear h1 h3
      go_wp2
      go_ret
      exact ⟨by rw [HR.out]; rfl, rfl⟩
def orI (x y : Int) : Int := if x == 0 then y else x
theorem orI_0 (y : Int) : orI 0 y = y := rfl
theorem orI_1 {x : Int} (y : Int) (h : (x == 0) = false) : orI x y = x := by unfold orI; rw [h]; rfl
theorem cmpR_or (t : Int) (a b : Rk) : cmpR t a b = orI (cmpV t a.key b.key) (cmpI a.seq b.seq) := rfl
set_option maxRecDepth 100000 in
theorem cmp_val (t : Int) (a b : Vl) (w : World) : Calls Try.prog 34 #[.int .i64 t, Vv a, Vv b] w fun e w' => e = .returned (.int .i64 (cmpV t a b)) ∧ Below w.heap.size w w' := by
  obtain ⟨an, ai, az⟩ := a
  obtain ⟨bn, bi, bz⟩ := b
  cases an <;> cases bn
  · by_cases ht : (t == 3) = true
    · have HR := Lib.hid (show cmpV t ⟨false, ai, az⟩ ⟨false, bi, bz⟩ = cmpS az bz by simp only [cmpV, Bool.and_self, Bool.false_eq_true, if_false]; rw [if_pos ht])
      go_enter Try.func34, Try.ntmps34
      go_wp2_with fail
      refine (cmp_str az bz _).mono ?_; rintro e w' ⟨rfl, rfl⟩
      go_wp2
      go_ret
      exact ⟨by rw [HR.out]; rfl, ((Below.refl _ _).alloc (Nat.le_refl _) _).alloc (by simp) _⟩
    · have HR := Lib.hid (show cmpV t ⟨false, ai, az⟩ ⟨false, bi, bz⟩ = cmpI ai bi by simp only [cmpV, Bool.and_self, Bool.false_eq_true, if_false]; rw [if_neg ht])
      have ht' : (t == 3) = false := by simpa using ht
      clear ht
      go_enter Try.func34, Try.ntmps34
      go_wp2_with fail
      refine (cmp_i64 ai bi _).mono ?_; rintro e w' ⟨rfl, rfl⟩
      go_wp2
      go_ret
      exact ⟨by rw [HR.out]; rfl, ((Below.refl _ _).alloc (Nat.le_refl _) _).alloc (by simp) _⟩
  all_goals
    go_enter Try.func34, Try.ntmps34
    go_wp2
    go_ret
    exact ⟨rfl, ((Below.refl _ _).alloc (Nat.le_refl _) _).alloc (by simp) _⟩

set_option maxRecDepth 100000 in
theorem ord_any (l e : Bool) (w : World) : Calls Try.prog 51 #[.bool l, .bool e] w fun e' w' => e' = .returned (.int .i64 (ord3 l e)) ∧ w = w' := by
  cases l <;> cases e
  all_goals
    go_enter Try.func51, Try.ntmps51
    go_wp2
    go_ret
    exact ⟨rfl, rfl⟩
set_option maxRecDepth 100000 in
theorem rcmp_val (t : Int) (a b : Vl) (w : World) : Calls Try.prog 37 #[.int .i64 t, Vv a, Vv b] w fun e w' => e = .returned (.int .i64 (cmpV t a b)) ∧ Below w.heap.size w w' := by
  obtain ⟨an, ai, az⟩ := a
  obtain ⟨bn, bi, bz⟩ := b
  cases an <;> cases bn
  · by_cases ht : (t == 3) = true
    · have HR := Lib.hid (show cmpV t ⟨false, ai, az⟩ ⟨false, bi, bz⟩ = cmpS az bz by simp only [cmpV, Bool.and_self, Bool.false_eq_true, if_false]; rw [if_pos ht])
      go_enter Try.func37, Try.ntmps37
      go_wp2_with fail
      refine (ord_any _ _ _).mono ?_; rintro e w' ⟨rfl, rfl⟩
      go_wp2
      go_ret
      exact ⟨by rw [HR.out]; rfl, ((Below.refl _ _).alloc (Nat.le_refl _) _).alloc (by simp) _⟩
    · have HR := Lib.hid (show cmpV t ⟨false, ai, az⟩ ⟨false, bi, bz⟩ = cmpI ai bi by simp only [cmpV, Bool.and_self, Bool.false_eq_true, if_false]; rw [if_neg ht])
      have ht' : (t == 3) = false := by simpa using ht
      clear ht
      go_enter Try.func37, Try.ntmps37
      go_wp2_with fail
      refine (ord_any _ _ _).mono ?_; rintro e w' ⟨rfl, rfl⟩
      go_wp2
      go_ret
      exact ⟨by rw [HR.out]; rfl, ((Below.refl _ _).alloc (Nat.le_refl _) _).alloc (by simp) _⟩
  all_goals
    go_enter Try.func37, Try.ntmps37
    go_wp2
    go_ret
    exact ⟨rfl, ((Below.refl _ _).alloc (Nat.le_refl _) _).alloc (by simp) _⟩

end Go.Proofs.Ytnichmblekbccaa
