/-
  The comparisons of values and of ranks, in the code and in the reference: each returns what cmpV or cmpR says.
-/
import Derived.Test.YtgacjpkgpegcdaaOPlain
import Derived.Test.YtgacjpkgpegcdaaBlk
import Derived.Lib.Hide
import Derived.Deep.RegionHeld3
namespace Go.Proofs.Ytgacjpkgpegcdaa
open Go.RowKit

abbrev Vv (v : Vl) : Value := .agg #[.bool v.null, .int .i64 v.n, .string v.s]
abbrev Rv (r : Rk) : Value := .agg #[.bool r.key.null, .int .i64 r.key.n, .string r.key.s, .int .i64 r.seq]
abbrev Gv (r : Rg) : Value := .agg #[.bool r.lo.key.null, .int .i64 r.lo.key.n, .string r.lo.key.s, .int .i64 r.lo.seq, .bool r.hi.key.null, .int .i64 r.hi.key.n, .string r.hi.key.s, .int .i64 r.hi.seq]
theorem ret_int {a b : Int} (h : a = b) : Ending.returned (.int .i64 a) = .returned (.int .i64 b) := by rw [h]

def orI (x y : Int) : Int := if x == 0 then y else x
theorem orI_0 (y : Int) : orI 0 y = y := rfl
theorem orI_1 {x : Int} (y : Int) (h : (x == 0) = false) : orI x y = x := by unfold orI; rw [h]; rfl
theorem cmpR_or (t : Int) (a b : Rk) : cmpR t a b = orI (cmpV t a.key b.key) (cmpI a.seq b.seq) := rfl

set_option maxRecDepth 100000 in
theorem ord_any (l e : Bool) (w : World) : Calls Try.prog 88 #[.bool l, .bool e] w fun e' w' => e' = .returned (.int .i64 (ord3 l e)) ∧ w = w' := by
  cases l <;> cases e
  all_goals
    go_enter Try.func88, Try.ntmps88
    go_wp2
    go_ret
    exact ⟨rfl, rfl⟩
set_option maxRecDepth 100000 in
theorem rcmp_val (t : Int) (a b : Vl) (w : World) : Calls Try.prog 83 #[.int .i64 t, Vv a, Vv b] w fun e w' => e = .returned (.int .i64 (cmpV t a b)) ∧ Below w.heap.size w w' := by
  obtain ⟨an, ai, az⟩ := a
  obtain ⟨bn, bi, bz⟩ := b
  cases an <;> cases bn
  · by_cases ht : (t == 3) = true
    · have HR := Lib.hid (show cmpV t ⟨false, ai, az⟩ ⟨false, bi, bz⟩ = cmpS az bz by simp only [cmpV, Bool.and_self, Bool.false_eq_true, if_false]; rw [if_pos ht])
      go_enter Try.func83, Try.ntmps83
      go_wp2_with fail
      refine (ord_any _ _ _).mono ?_; rintro e w' ⟨rfl, rfl⟩
      go_wp2
      go_ret
      exact ⟨by rw [HR.out]; rfl, ((Below.refl _ _).alloc (Nat.le_refl _) _).alloc (by simp) _⟩
    · have HR := Lib.hid (show cmpV t ⟨false, ai, az⟩ ⟨false, bi, bz⟩ = cmpI ai bi by simp only [cmpV, Bool.and_self, Bool.false_eq_true, if_false]; rw [if_neg ht])
      have ht' : (t == 3) = false := by simpa using ht
      clear ht
      go_enter Try.func83, Try.ntmps83
      go_wp2_with fail
      refine (ord_any _ _ _).mono ?_; rintro e w' ⟨rfl, rfl⟩
      go_wp2
      go_ret
      exact ⟨by rw [HR.out]; rfl, ((Below.refl _ _).alloc (Nat.le_refl _) _).alloc (by simp) _⟩
  all_goals
    go_enter Try.func83, Try.ntmps83
    go_wp2
    go_ret
    exact ⟨rfl, ((Below.refl _ _).alloc (Nat.le_refl _) _).alloc (by simp) _⟩
set_option maxRecDepth 100000 in
theorem rcmp_rank (t : Int) (a b : Rk) (w : World) : Calls Try.prog 71 #[.int .i64 t, Rv a, Rv b] w fun e w' => e = .returned (.int .i64 (cmpR t a b)) ∧ Below w.heap.size w w' := by
  obtain ⟨⟨an, ai, az⟩, aq⟩ := a
  obtain ⟨⟨bn, bi, bz⟩, bq⟩ := b
  dsimp only [Rv]
  have hA : Blk ((w.alloc (.cells #[.bool an, .int .i64 ai, .string az, .int .i64 aq] 38)).alloc (.cells #[.bool bn, .int .i64 bi, .string bz, .int .i64 bq] 38)) w.heap.size 38 [.bool an, .int .i64 ai, .string az, .int .i64 aq] :=
    Blk.alloc (Blk.new' w 38 #[.bool an, .int .i64 ai, .string az, .int .i64 aq]) _
  have hB : Blk ((w.alloc (.cells #[.bool an, .int .i64 ai, .string az, .int .i64 aq] 38)).alloc (.cells #[.bool bn, .int .i64 bi, .string bz, .int .i64 bq] 38)) (w.heap.size + 1) 38 [.bool bn, .int .i64 bi, .string bz, .int .i64 bq] := by
    have := Blk.new' (w.alloc (.cells #[.bool an, .int .i64 ai, .string az, .int .i64 aq] 38)) 38 #[.bool bn, .int .i64 bi, .string bz, .int .i64 bq]
    simpa using this
  have hbel : Below w.heap.size w ((w.alloc (.cells #[.bool an, .int .i64 ai, .string az, .int .i64 aq] 38)).alloc (.cells #[.bool bn, .int .i64 bi, .string bz, .int .i64 bq] 38)) := ((Below.refl _ _).alloc (Nat.le_refl _) _).alloc (by simp) _
  have HR : Hid (cmpR t ⟨⟨an, ai, az⟩, aq⟩ ⟨⟨bn, bi, bz⟩, bq⟩ = if cmpV t ⟨an, ai, az⟩ ⟨bn, bi, bz⟩ == 0 then cmpI aq bq else cmpV t ⟨an, ai, az⟩ ⟨bn, bi, bz⟩) := by show _ = _; rfl
  go_enter Try.func71, Try.ntmps71
  go_wp2_with fail
  generalize (w.alloc (.cells #[.bool an, .int .i64 ai, .string az, .int .i64 aq] 38)).alloc (.cells #[.bool bn, .int .i64 bi, .string bz, .int .i64 bq] 38) = wa at *
  refine (rcmp_val t ⟨an, ai, az⟩ ⟨bn, bi, bz⟩ wa).mono ?_; rintro e w1 ⟨rfl, hb1⟩
  have h3 := (hA.call hb1).cellAt 3 rfl
  have h7 := (hB.call hb1).cellAt 3 rfl
  generalize cmpV t ⟨an, ai, az⟩ ⟨bn, bi, bz⟩ = k at *
  by_cases hk : k = 0
  · subst hk
    by_cases h1 : aq < bq
    · have h2 : Hid (cmpI aq bq = -1) := by show _ = _; simp [cmpI, ord3, h1]
      go_wp2
      go_ret
      exact ⟨by rw [HR.out]; simp [h2.out], bt hbel hb1⟩
    · by_cases h4 : aq = bq
      · have h2 : Hid (cmpI aq bq = 0) := by show _ = _; simp [cmpI, ord3, h4]
        subst h4
        go_wp2
        go_ret
        exact ⟨by rw [HR.out]; simp [h2.out], bt hbel hb1⟩
      · have h2 : Hid (cmpI aq bq = 1) := by show _ = _; simp [cmpI, ord3, h1, h4]
        have h4' : (aq == bq) = false := by simpa using h4
        go_wp2
        go_ret
        exact ⟨by rw [HR.out]; simp [h2.out], bt hbel hb1⟩
  · have hk' : (k == 0) = false := by simpa using hk
    have hk2 : (k != 0) = true := by simpa using hk
    clear hk
    go_wp2
    go_ret
    exact ⟨by rw [HR.out, hk']; rfl, bt hbel hb1⟩

end Go.Proofs.Ytgacjpkgpegcdaa
