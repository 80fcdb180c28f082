/-
  The tests of values of columns: value.Check and the reference's.
-/
import Derived.Test.YtnichmblekbccaaZVals
namespace Go.Proofs.Ytnichmblekbccaa
open Go.RowKit

/-- A column. -/
structure Cl where
  nm : ByteArray
  ty : Int
  sc : Int
  nl : Bool
abbrev Cv (c : Cl) : Value := .agg #[.string c.nm, .int .i64 c.ty, .int .i64 c.sc, .bool c.nl]
def knownB (ty : Int) : Bool := decide (1 ≤ ty) && decide (ty ≤ 5)
theorem known_of {ty : Int} (h1 : 1 ≤ ty) (h2 : ty ≤ 5) : knownB ty = true := by simp [knownB, h1, h2]
theorem known_lo {ty : Int} (h1 : ¬ 1 ≤ ty) : knownB ty = false := by simp [knownB, h1]
theorem known_hi {ty : Int} (h1 : ¬ ty ≤ 5) : knownB ty = false := by simp [knownB, h1]
def chkV (c : Cl) (v : Vl) : Int :=
  if knownB c.ty then
    (if v.null then (if v.s.toList == [] && v.n == 0 then (if c.nl then 0 else 12) else 11)
    else if c.ty == 3 then (if v.n == 0 then (if permV c.ty v then 0 else 4) else 11)
    else if v.s.toList == [] then (if permV c.ty v then 0 else 4) else 11)
  else 1

set_option maxRecDepth 100000 in
set_option maxHeartbeats 400000 in
theorem known_any (ty : Int) (w : World) : Calls Try.prog 47 #[.int .i64 ty] w fun e w' => e = .returned (.bool (knownB ty)) ∧ w = w' := by
  by_cases h1 : 1 ≤ ty
  · by_cases h2 : ty ≤ 5
    · have HR := Lib.hid (known_of h1 h2)
      go_enter Try.func47, Try.ntmps47
      go_wp2
      go_ret
      exact ⟨by first | (rw [HR.out]; done) | (rw [HR.out]; rfl), rfl⟩
    · have HR := Lib.hid (known_hi h2)
      go_enter Try.func47, Try.ntmps47
      go_wp2
      go_ret
      exact ⟨by first | (rw [HR.out]; done) | (rw [HR.out]; rfl), rfl⟩
  · have HR := Lib.hid (known_lo h1)
    go_enter Try.func47, Try.ntmps47
    go_wp2
    go_ret
    exact ⟨by first | (rw [HR.out]; done) | (rw [HR.out]; rfl), rfl⟩
set_option maxRecDepth 100000 in
set_option maxHeartbeats 400000 in
theorem rtyped_any (ty : Int) (w : World) : Calls Try.prog 35 #[.int .i64 ty] w fun e w' => e = .returned (.bool (knownB ty)) ∧ w = w' := by
  by_cases h1 : 1 ≤ ty
  · by_cases h2 : ty ≤ 5
    · have HR := Lib.hid (known_of h1 h2)
      go_enter Try.func35, Try.ntmps35
      go_wp2
      go_ret
      exact ⟨by first | (rw [HR.out]; done) | (rw [HR.out]; rfl), rfl⟩
    · have HR := Lib.hid (known_hi h2)
      go_enter Try.func35, Try.ntmps35
      go_wp2
      go_ret
      exact ⟨by first | (rw [HR.out]; done) | (rw [HR.out]; rfl), rfl⟩
  · have HR := Lib.hid (known_lo h1)
    go_enter Try.func35, Try.ntmps35
    go_wp2
    go_ret
    exact ⟨by first | (rw [HR.out]; done) | (rw [HR.out]; rfl), rfl⟩

theorem perm_else {ty : Int} {v : Vl} (h2 : ty ≠ 2) (h3 : ty ≠ 3) (h4 : ty ≠ 4) (h5 : ty ≠ 5) : permV ty v = true := by
  unfold permV
  rw [if_neg (by simpa using h2), if_neg (by simpa using h3), if_neg (by simpa using h4), if_neg (by simpa using h5)]
set_option maxRecDepth 100000 in
set_option maxHeartbeats 1000000 in
theorem perm_any (ty : Int) (v : Vl) (w : World) : Calls Try.prog 48 #[.int .i64 ty, Vv v] w fun e w' => e = .returned (.bool (permV ty v)) ∧ Below w.heap.size w w' := by
  obtain ⟨vn, vi, vz⟩ := v
  dsimp only [Vv]
  by_cases h2 : ty = 2
  · subst h2
    by_cases n0 : vi = 0
    · subst n0
      have HR : Hid (permV 2 ⟨vn, 0, vz⟩ = true) := by show _ = _; rfl
      go_enter Try.func48, Try.ntmps48
      go_wp2
      go_ret
      exact ⟨by first | (rw [HR.out]; done) | (rw [HR.out]; rfl), (Below.refl _ _).alloc (Nat.le_refl _) _⟩
    · have q0 : (vi == 0) = false := by simpa using n0
      by_cases n1 : vi = 1
      · subst n1
        have HR : Hid (permV 2 ⟨vn, 1, vz⟩ = true) := by show _ = _; rfl
        go_enter Try.func48, Try.ntmps48
        go_wp2
        go_ret
        exact ⟨by first | (rw [HR.out]; done) | (rw [HR.out]; rfl), (Below.refl _ _).alloc (Nat.le_refl _) _⟩
      · have q1 : (vi == 1) = false := by simpa using n1
        have HR : Hid (permV 2 ⟨vn, vi, vz⟩ = false) := by show _ = _; show (vi == 0 || vi == 1) = false; rw [q0, q1]; rfl
        clear n0 n1
        go_enter Try.func48, Try.ntmps48
        go_wp2
        go_ret
        exact ⟨by first | (rw [HR.out]; done) | (rw [HR.out]; rfl), (Below.refl _ _).alloc (Nat.le_refl _) _⟩
  · by_cases h3 : ty = 3
    · subst h3
      by_cases hs : vz.size ≤ 64
      · have HR : Hid (permV 3 ⟨vn, vi, vz⟩ = true) := by show _ = _; exact decide_eq_true hs
        have hd : decide ((vz.size : Int) ≤ 64) = true := by simp; omega
        go_enter Try.func48, Try.ntmps48
        go_wp2
        go_ret
        exact ⟨by first | (rw [HR.out]; done) | (rw [HR.out]; rfl), (Below.refl _ _).alloc (Nat.le_refl _) _⟩
      · have HR : Hid (permV 3 ⟨vn, vi, vz⟩ = false) := by show _ = _; exact decide_eq_false hs
        have hd : decide ((vz.size : Int) ≤ 64) = false := by simp; omega
        go_enter Try.func48, Try.ntmps48
        go_wp2
        go_ret
        exact ⟨by first | (rw [HR.out]; done) | (rw [HR.out]; rfl), (Below.refl _ _).alloc (Nat.le_refl _) _⟩
    · by_cases h4 : ty = 4
      · subst h4
        by_cases l1 : -719162 ≤ vi
        · by_cases l2 : vi ≤ 2932896
          · have HR : Hid (permV 4 ⟨vn, vi, vz⟩ = true) := by show _ = _; show (decide _ && decide _) = true; rw [decide_eq_true l1, decide_eq_true l2]; rfl
            go_enter Try.func48, Try.ntmps48
            go_wp2
            go_ret
            exact ⟨by first | (rw [HR.out]; done) | (rw [HR.out]; rfl), (Below.refl _ _).alloc (Nat.le_refl _) _⟩
          · have HR : Hid (permV 4 ⟨vn, vi, vz⟩ = false) := by show _ = _; show (decide _ && decide _) = false; rw [decide_eq_false l2, Bool.and_false]
            go_enter Try.func48, Try.ntmps48
            go_wp2
            go_ret
            exact ⟨by first | (rw [HR.out]; done) | (rw [HR.out]; rfl), (Below.refl _ _).alloc (Nat.le_refl _) _⟩
        · have HR : Hid (permV 4 ⟨vn, vi, vz⟩ = false) := by show _ = _; show (decide _ && decide _) = false; rw [decide_eq_false l1, Bool.false_and]
          go_enter Try.func48, Try.ntmps48
          go_wp2
          go_ret
          exact ⟨by first | (rw [HR.out]; done) | (rw [HR.out]; rfl), (Below.refl _ _).alloc (Nat.le_refl _) _⟩
      · by_cases h5 : ty = 5
        · subst h5
          by_cases l1 : -999999999999999999 ≤ vi
          · by_cases l2 : vi ≤ 999999999999999999
            · have HR : Hid (permV 5 ⟨vn, vi, vz⟩ = true) := by show _ = _; show (decide _ && decide _) = true; rw [decide_eq_true l1, decide_eq_true l2]; rfl
              go_enter Try.func48, Try.ntmps48
              go_wp2
              go_ret
              exact ⟨by first | (rw [HR.out]; done) | (rw [HR.out]; rfl), (Below.refl _ _).alloc (Nat.le_refl _) _⟩
            · have HR : Hid (permV 5 ⟨vn, vi, vz⟩ = false) := by show _ = _; show (decide _ && decide _) = false; rw [decide_eq_false l2, Bool.and_false]
              go_enter Try.func48, Try.ntmps48
              go_wp2
              go_ret
              exact ⟨by first | (rw [HR.out]; done) | (rw [HR.out]; rfl), (Below.refl _ _).alloc (Nat.le_refl _) _⟩
          · have HR : Hid (permV 5 ⟨vn, vi, vz⟩ = false) := by show _ = _; show (decide _ && decide _) = false; rw [decide_eq_false l1, Bool.false_and]
            go_enter Try.func48, Try.ntmps48
            go_wp2
            go_ret
            exact ⟨by first | (rw [HR.out]; done) | (rw [HR.out]; rfl), (Below.refl _ _).alloc (Nat.le_refl _) _⟩
        · have HR : Hid (permV ty ⟨vn, vi, vz⟩ = true) := perm_else h2 h3 h4 h5
          have q2 : (ty == 2) = false := by simpa using h2
          have q3 : (ty == 3) = false := by simpa using h3
          have q4 : (ty == 4) = false := by simpa using h4
          have q5 : (ty == 5) = false := by simpa using h5
          clear h2 h3 h4 h5
          go_enter Try.func48, Try.ntmps48
          go_wp2
          go_ret
          exact ⟨by first | (rw [HR.out]; done) | (rw [HR.out]; rfl), (Below.refl _ _).alloc (Nat.le_refl _) _⟩

theorem list_ne {z : ByteArray} (h : z ≠ ⟨#[]⟩) : (z.toList == []) = false := by
  simp only [beq_eq_false_iff_ne]
  intro e
  apply h
  apply ByteArray.ext
  apply Array.toList_inj.1
  simpa [ByteArray.toList_eq] using e
set_option maxRecDepth 100000 in
set_option maxHeartbeats 2000000 in
theorem vcheck_any (c : Cl) (v : Vl) (w : World) : Calls Try.prog 33 #[Cv c, Vv v] w fun e w' => e = .returned (.int .i64 (chkV c v)) ∧ Below w.heap.size w w' := by
  obtain ⟨cm, ct, cs, cl⟩ := c
  obtain ⟨vn, vi, vz⟩ := v
  dsimp only [Vv, Cv]
  have hC := (Blk.new' w 32 #[.string cm, .int .i64 ct, .int .i64 cs, .bool cl]).alloc (.cells #[.bool vn, .int .i64 vi, .string vz] 23)
  have hV := Blk.new' (w.alloc (.cells #[.string cm, .int .i64 ct, .int .i64 cs, .bool cl] 32)) 23 #[.bool vn, .int .i64 vi, .string vz]
  have s1 : (w.alloc (.cells #[.string cm, .int .i64 ct, .int .i64 cs, .bool cl] 32)).heap.size = w.heap.size + 1 := by simp
  rw [s1] at hV
  clear s1
  have hbel : Below w.heap.size w ((w.alloc (.cells #[.string cm, .int .i64 ct, .int .i64 cs, .bool cl] 32)).alloc (.cells #[.bool vn, .int .i64 vi, .string vz] 23)) := ((Below.refl _ _).alloc (Nat.le_refl _) _).alloc (by simp) _
  go_enter Try.func33, Try.ntmps33
  go_upto_region 1 with fail
  generalize (w.alloc (.cells #[.string cm, .int .i64 ct, .int .i64 cs, .bool cl] 32)).alloc (.cells #[.bool vn, .int .i64 vi, .string vz] 23) = wa at *
  have c0 := hC.cellAt 0 rfl
  have c1 := hC.cellAt 1 rfl
  have c2 := hC.cellAt 2 rfl
  have c3 := hC.cellAt 3 rfl
  have v0 := hV.cellAt 0 rfl
  have v1 := hV.cellAt 1 rfl
  have v2 := hV.cellAt 2 rfl
  go_wp2_with fail
  refine (known_any ct _).mono ?_; rintro e w1 ⟨rfl, rfl⟩
  cases hk : knownB ct
  · have HR : Hid (chkV ⟨cm, ct, cs, cl⟩ ⟨vn, vi, vz⟩ = 1) := by show _ = _; simp [chkV, hk]
    clear hk
    go_wp2
    go_ret
    exact ⟨by first | (rw [HR.out]; done) | (rw [HR.out]; rfl), hbel⟩
  · cases vn
    · by_cases ht : ct = 3
      · subst ht
        by_cases hi : vi = 0
        · subst hi
          generalize hvi : (0 : Int) = vi at *
          generalize hct : (3 : Int) = ct at *
          subst hvi
          subst hct
          go_wp2_with fail
          refine (perm_any 3 ⟨false, 0, vz⟩ _).mono ?_; rintro e w2 ⟨rfl, hb2⟩
          cases hp : permV 3 ⟨false, 0, vz⟩
          · have HR : Hid (chkV ⟨cm, 3, cs, cl⟩ ⟨false, 0, vz⟩ = 4) := by show _ = _; simp [chkV, hk, hp]
            clear hp
            go_wp2
            go_ret
            exact ⟨by first | (rw [HR.out]; done) | (rw [HR.out]; rfl), bt hbel hb2⟩
          · have HR : Hid (chkV ⟨cm, 3, cs, cl⟩ ⟨false, 0, vz⟩ = 0) := by show _ = _; simp [chkV, hk, hp]
            clear hp
            go_wp2
            go_ret
            exact ⟨by first | (rw [HR.out]; done) | (rw [HR.out]; rfl), bt hbel hb2⟩
        · have q0 : (vi == 0) = false := by simpa using hi
          have q1 : (vi != 0) = true := by simpa using hi
          have HR : Hid (chkV ⟨cm, 3, cs, cl⟩ ⟨false, vi, vz⟩ = 11) := by show _ = _; simp [chkV, hk, hi]
          clear hi
          go_wp2
          go_ret
          exact ⟨by first | (rw [HR.out]; done) | (rw [HR.out]; rfl), hbel⟩
      · have q3 : (ct == 3) = false := by simpa using ht
        have q4 : (ct != 3) = true := by simpa using ht
        by_cases hz : vz = ⟨#[]⟩
        · subst hz
          go_wp2_with fail
          refine (perm_any ct ⟨false, vi, ⟨#[]⟩⟩ _).mono ?_; rintro e w2 ⟨rfl, hb2⟩
          cases hp : permV ct ⟨false, vi, ⟨#[]⟩⟩
          · have HR : Hid (chkV ⟨cm, ct, cs, cl⟩ ⟨false, vi, ⟨#[]⟩⟩ = 4) := by show _ = _; simp [chkV, hk, hp, ht]
            clear hp ht
            go_wp2
            go_ret
            exact ⟨by first | (rw [HR.out]; done) | (rw [HR.out]; rfl), bt hbel hb2⟩
          · have HR : Hid (chkV ⟨cm, ct, cs, cl⟩ ⟨false, vi, ⟨#[]⟩⟩ = 0) := by show _ = _; simp [chkV, hk, hp, ht]
            clear hp ht
            go_wp2
            go_ret
            exact ⟨by first | (rw [HR.out]; done) | (rw [HR.out]; rfl), bt hbel hb2⟩
        · have q5 := list_ne hz
          have HR : Hid (chkV ⟨cm, ct, cs, cl⟩ ⟨false, vi, vz⟩ = 11) := by show _ = _; simp only [chkV, hk, q3, q5]; simp
          clear hz ht
          go_wp2
          go_ret
          exact ⟨by first | (rw [HR.out]; done) | (rw [HR.out]; rfl), hbel⟩
    · by_cases hz : vz = ⟨#[]⟩
      · subst hz
        by_cases hi : vi = 0
        · subst hi
          cases cl
          · have HR : Hid (chkV ⟨cm, ct, cs, false⟩ ⟨true, 0, ⟨#[]⟩⟩ = 12) := by show _ = _; simp [chkV, hk]
            go_wp2
            go_ret
            exact ⟨by first | (rw [HR.out]; done) | (rw [HR.out]; rfl), hbel⟩
          · have HR : Hid (chkV ⟨cm, ct, cs, true⟩ ⟨true, 0, ⟨#[]⟩⟩ = 0) := by show _ = _; simp [chkV, hk]
            go_wp2
            go_ret
            exact ⟨by first | (rw [HR.out]; done) | (rw [HR.out]; rfl), hbel⟩
        · have q0 : (vi == 0) = false := by simpa using hi
          have q1 : (vi != 0) = true := by simpa using hi
          have HR : Hid (chkV ⟨cm, ct, cs, cl⟩ ⟨true, vi, ⟨#[]⟩⟩ = 11) := by show _ = _; simp [chkV, hk, hi]
          clear hi
          go_wp2
          go_ret
          exact ⟨by first | (rw [HR.out]; done) | (rw [HR.out]; rfl), hbel⟩
      · have q5 := list_ne hz
        have HR : Hid (chkV ⟨cm, ct, cs, cl⟩ ⟨true, vi, vz⟩ = 11) := by show _ = _; simp only [chkV, hk, q5]; simp
        clear hz
        go_wp2
        go_ret
        exact ⟨by first | (rw [HR.out]; done) | (rw [HR.out]; rfl), hbel⟩

end Go.Proofs.Ytnichmblekbccaa
