/-
  The maker of a value.
-/
import Derived.Test.YtnichmblekbccaaZMake
namespace Go.Proofs.Ytnichmblekbccaa
open Go.RowKit

/-- Whether the number of a value is permitted for its type. -/
def permV (ty : Int) (v : Vl) : Bool := if ty == 2 then v.n == 0 || v.n == 1 else if ty == 3 then decide (v.s.size ≤ 64) else if ty == 4 then decide (-719162 ≤ v.n) && decide (v.n ≤ 2932896) else if ty == 5 then decide (-999999999999999999 ≤ v.n) && decide (v.n ≤ 999999999999999999) else true
def okV (ty : Int) (v : Vl) : Prop := (v.null = true → v = nullV) ∧ (ty = 3 → v.n = 0) ∧ (ty ≠ 3 → v.s = ⟨#[]⟩) ∧ permV ty v = true ∧ I64 v.n ∧ v.s.size ≤ 64
def ValPost (w : World) (g : Nat) (A : Option Addr) (n c : Nat) (ty : Int) (nl : Bool) (e : Ending) (w' : World) : Prop :=
  ∃ v : Vl, (okV ty v ∧ (v.null = true → nl = true)) ∧ e = .returned (Vv v) ∧ (∃ j, Src w' g A n c j) ∧ w.grownBy w' (some g)
theorem put3_grown (u : World) (z : Nat) (a b c : Value) : u.grownBy (((u.setCell ⟨z, 0, none⟩ a).setCell ⟨z, 1, none⟩ b).setCell ⟨z, 2, none⟩ c) (some z) := ((grown_set u z 0 a).trans (grown_set _ z 1 b)).trans (grown_set _ z 2 c)
theorem grown_side {w u u' : World} {g z : Nat} (hG : w.grownBy u (some g)) (h3 : u.grownBy u' (some z)) (hz : w.heap.size ≤ z) : w.grownBy u' (some g) :=
  ⟨h3.os.trans hG.os, h3.tape.trans hG.tape, h3.output.trans hG.output, Nat.le_trans hG.size h3.size, fun k hk hne => (h3.block k (Nat.lt_of_lt_of_le hk hG.size) (fun e => by injection e with e; omega)).trans (hG.block k hk hne)⟩
theorem ok_int {ty x : Int} {nl : Bool} (h : ty ≠ 3) (hp : permV ty ⟨false, x, ⟨#[]⟩⟩ = true ∧ I64 x) : okV ty ⟨false, x, ⟨#[]⟩⟩ ∧ (false = true → nl = true) := ⟨⟨fun e => (by cases e), fun h' => absurd h' h, fun _ => rfl, hp.1, hp.2, Nat.zero_le _⟩, fun h => by cases h⟩
theorem ok_nullV (ty : Int) : okV ty nullV := by
  refine ⟨fun _ => rfl, fun _ => rfl, fun _ => rfl, ?_, by unfold I64; simp [nullV], Nat.zero_le _⟩
  unfold permV; repeat' split
  all_goals first | rfl | decide
theorem ok_null {ty : Int} : okV ty ⟨true, 0, ⟨#[]⟩⟩ ∧ ((true : Bool) = true → (true : Bool) = true) := ⟨ok_nullV ty, fun h => h⟩
theorem i64_and1 (n : Int) : bits .and .i64 n 1 = n % 2 := by
  have h1 : (BitVec.ofInt 64 1).toNat = 2 ^ 1 - 1 := by decide
  have key : (BitVec.ofInt 64 n &&& BitVec.ofInt 64 1).toNat = (n % ((2 ^ 64 : Nat) : Int)).toNat % 2 ^ 1 := by
    rw [BitVec.toNat_and, BitVec.toNat_ofInt, h1, Nat.and_two_pow_sub_one_eq_mod]
  show IntKind.i64.wrap ((BitVec.ofInt 64 n &&& BitVec.ofInt 64 1).toNat : Nat) = n % 2
  rw [key, IntKind.wrap_i64]
  omega
theorem perm_1 (y : Int) (h : I64 y) : permV 1 ⟨false, id y, ⟨#[]⟩⟩ = true ∧ I64 (id y) := ⟨rfl, h⟩
theorem perm_2 (y : Int) (_ : I64 y) : permV 2 ⟨false, bits BinOp.and IntKind.i64 y 1, ⟨#[]⟩⟩ = true ∧ I64 (bits BinOp.and IntKind.i64 y 1) := by
  rw [i64_and1]
  refine ⟨?_, by unfold I64; omega⟩
  show (y % 2 == 0 || y % 2 == 1) = true
  rcases (show y % 2 = 0 ∨ y % 2 = 1 by omega) with h | h <;> rw [h] <;> rfl
theorem tmod_lt (y : Int) (m : Int) (h : 0 < m) : -m < y.tmod m ∧ y.tmod m < m := ⟨by have := Int.lt_tmod_of_pos y h; omega, Int.tmod_lt_of_pos y h⟩
theorem perm_4 (y : Int) (_ : I64 y) : permV 4 ⟨false, y.tmod 700000, ⟨#[]⟩⟩ = true ∧ I64 (y.tmod 700000) := by
  have := tmod_lt y 700000 (by omega)
  refine ⟨?_, by unfold I64; omega⟩
  show (decide (-719162 ≤ y.tmod 700000) && decide (y.tmod 700000 ≤ 2932896)) = true
  rw [decide_eq_true (by omega), decide_eq_true (by omega)]; rfl
theorem perm_5 (y : Int) (_ : I64 y) : permV 5 ⟨false, y.tmod 1000000000000000000, ⟨#[]⟩⟩ = true ∧ I64 (y.tmod 1000000000000000000) := by
  have := tmod_lt y 1000000000000000000 (by omega)
  refine ⟨?_, by unfold I64; omega⟩
  show (decide (-999999999999999999 ≤ y.tmod 1000000000000000000) && decide (y.tmod 1000000000000000000 ≤ 999999999999999999)) = true
  rw [decide_eq_true (by omega), decide_eq_true (by omega)]; rfl
theorem i64_mod {x : Int} (_h : I64 x) (m : Int) (hm : 0 < m) (hm2 : m ≤ 1000) : I64 (x.tmod m) := by
  have := tmod_lt x m hm
  unfold I64 at *; omega
set_option maxRecDepth 100000 in
set_option maxHeartbeats 2000000 in
theorem kval_1 (g : Nat) (A : Option Addr) (n c i : Nat) (nl : Bool) (w : World) (hs : Src w g A n c i) :
    Calls Try.prog 30 #[.pointer (some ⟨g, 0, none⟩), colV 1 nl] w (ValPost w g A n c 1 nl) := by
  have hlt := hs.lt
  dsimp only [colV]
  have hC := (Blk.new' w 32 #[.string ⟨#[120]⟩, .int .i64 1, .int .i64 0, .bool nl]).alloc (.cells #[.bool false, .int .i64 0, .string ⟨#[]⟩] 23)
  have hZ := Blk.new' (w.alloc (.cells #[.string ⟨#[120]⟩, .int .i64 1, .int .i64 0, .bool nl] 32)) 23 #[.bool false, .int .i64 0, .string ⟨#[]⟩]
  have s1 : (w.alloc (.cells #[.string ⟨#[120]⟩, .int .i64 1, .int .i64 0, .bool nl] 32)).heap.size = w.heap.size + 1 := by simp
  rw [s1] at hZ
  clear s1
  have hb := ((Below.refl w.heap.size w).alloc (Nat.le_refl _) (.cells #[.string ⟨#[120]⟩, .int .i64 1, .int .i64 0, .bool nl] 32)).alloc (by simp) (.cells #[.bool false, .int .i64 0, .string ⟨#[]⟩] 23)
  have hs' := hs.below hb
  have hG : w.grownBy ((w.alloc (.cells #[.string ⟨#[120]⟩, .int .i64 1, .int .i64 0, .bool nl] 32)).alloc (.cells #[.bool false, .int .i64 0, .string ⟨#[]⟩] 23)) (some g) := ⟨hb.os, hb.tape, hb.output, hb.size, fun k hk _ => hb.block k hk⟩
  clear hs hb
  have hs := hs'
  clear hs'
  go_enter Try.func30, Try.ntmps30
  go_upto_region 1 with fail
  generalize (w.alloc (.cells #[.string ⟨#[120]⟩, .int .i64 1, .int .i64 0, .bool nl] 32)).alloc (.cells #[.bool false, .int .i64 0, .string ⟨#[]⟩] 23) = wa at *
  generalize hgz : w.heap.size = gz at *
  cases nl
  · have c0 := hC.cellAt 0 rfl
    have c1 := hC.cellAt 1 rfl
    have c2 := hC.cellAt 2 rfl
    have c3 := hC.cellAt 3 rfl
    have zf := fun j => hZ.frozen j
    have z0 := hZ.cellAt 0 rfl
    have z1 := hZ.cellAt 1 rfl
    have z2 := hZ.cellAt 2 rfl
    go_wp2_with fail
    clear c0 c1 c2 c3 zf z0 z1 z2
    refine (next_any g A n c _ 7 _ hs (by omega) (by omega)).mono ?_; rintro e u ⟨k7, hk7, rfl, hs', hg'⟩
    have hC' := hC.grownB hg' (by omega)
    have hZ' := hZ.grownB hg' (by omega)
    have hG' := hG.trans hg'
    clear hs hC hZ hG hg'
    have hs := hs'
    have hC := hC'
    have hZ := hZ'
    have hG := hG'
    clear hs' hC' hZ' hG'
    go_wp2_with fail
    refine (next_any g A n c _ 8 _ hs (by omega) (by omega)).mono ?_; rintro e u ⟨k8, hk8, rfl, hs', hg'⟩
    have hC' := hC.grownB hg' (by omega)
    have hZ' := hZ.grownB hg' (by omega)
    have hG' := hG.trans hg'
    clear hs hC hZ hG hg'
    have hs := hs'
    have hC := hC'
    have hZ := hZ'
    have hG := hG'
    clear hs' hC' hZ' hG'
    by_cases h80 : k8 = 0
    · subst h80
      go_wp2_with fail
      refine (raw_any g A n c _ _ hs).mono ?_; rintro e u ⟨x, hx, rfl, hs', hg'⟩
      have hC' := hC.grownB hg' (by omega)
      have hZ' := hZ.grownB hg' (by omega)
      have hG' := hG.trans hg'
      clear hs hC hZ hG hg'
      have hs := hs'
      have hC := hC'
      have hZ := hZ'
      have hG := hG'
      clear hs' hC' hZ' hG'
      have c0 := hC.cellAt 0 rfl
      have c1 := hC.cellAt 1 rfl
      have c2 := hC.cellAt 2 rfl
      have c3 := hC.cellAt 3 rfl
      have zf := fun j => hZ.frozen j
      have z0 := hZ.cellAt 0 rfl
      have z1 := hZ.cellAt 1 rfl
      have z2 := hZ.cellAt 2 rfl
      go_wp2
      have hg3 := put3_grown u (gz + 1) (.bool false) (.int .i64 ((id x))) (.string ⟨#[]⟩)
      have hsf := hs.grown hg3 (fun k e => by injection e with e; omega)
      have hGf := grown_side hG hg3 (by omega)
      exact bodyPost_ret (v := .agg #[.bool false, .int .i64 ((id x)), .string ⟨#[]⟩]) (by simp [results, Try.results30, go_sem, z0, z1, z2]) rfl ⟨⟨false, (id x), ⟨#[]⟩⟩, ok_int (by decide) (perm_1 _ hx), rfl, ⟨_, hsf⟩, hGf⟩
    · have q0 : ((k8 : Int) == 0) = false := by simp only [beq_eq_false_iff_ne]; omega
      by_cases h81 : k8 = 1
      · subst h81
        go_wp2_with fail
        refine (raw_any g A n c _ _ hs).mono ?_; rintro e u ⟨x, hx, rfl, hs', hg'⟩
        have hC' := hC.grownB hg' (by omega)
        have hZ' := hZ.grownB hg' (by omega)
        have hG' := hG.trans hg'
        clear hs hC hZ hG hg'
        have hs := hs'
        have hC := hC'
        have hZ := hZ'
        have hG := hG'
        clear hs' hC' hZ' hG'
        have c0 := hC.cellAt 0 rfl
        have c1 := hC.cellAt 1 rfl
        have c2 := hC.cellAt 2 rfl
        have c3 := hC.cellAt 3 rfl
        have zf := fun j => hZ.frozen j
        have z0 := hZ.cellAt 0 rfl
        have z1 := hZ.cellAt 1 rfl
        have z2 := hZ.cellAt 2 rfl
        go_wp2
        have hg3 := put3_grown u (gz + 1) (.bool false) (.int .i64 ((id (x.tmod 1000)))) (.string ⟨#[]⟩)
        have hsf := hs.grown hg3 (fun k e => by injection e with e; omega)
        have hGf := grown_side hG hg3 (by omega)
        exact bodyPost_ret (v := .agg #[.bool false, .int .i64 ((id (x.tmod 1000))), .string ⟨#[]⟩]) (by simp [results, Try.results30, go_sem, z0, z1, z2]) rfl ⟨⟨false, (id (x.tmod 1000)), ⟨#[]⟩⟩, ok_int (by decide) (perm_1 _ (i64_mod hx 1000 (by omega) (by omega))), rfl, ⟨_, hsf⟩, hGf⟩
      · have q1 : ((k8 : Int) == 1) = false := by simp only [beq_eq_false_iff_ne]; omega
        have c0 := hC.cellAt 0 rfl
        have c1 := hC.cellAt 1 rfl
        have c2 := hC.cellAt 2 rfl
        have c3 := hC.cellAt 3 rfl
        have zf := fun j => hZ.frozen j
        have z0 := hZ.cellAt 0 rfl
        have z1 := hZ.cellAt 1 rfl
        have z2 := hZ.cellAt 2 rfl
        go_wp2
        have hg3 := put3_grown u (gz + 1) (.bool false) (.int .i64 ((id ((k7 : Int) - 2)))) (.string ⟨#[]⟩)
        have hsf := hs.grown hg3 (fun k e => by injection e with e; omega)
        have hGf := grown_side hG hg3 (by omega)
        exact bodyPost_ret (v := .agg #[.bool false, .int .i64 ((id ((k7 : Int) - 2))), .string ⟨#[]⟩]) (by simp [results, Try.results30, go_sem, z0, z1, z2]) rfl ⟨⟨false, (id ((k7 : Int) - 2)), ⟨#[]⟩⟩, ok_int (by decide) (perm_1 _ (by unfold I64; omega)), rfl, ⟨_, hsf⟩, hGf⟩
  · have c0 := hC.cellAt 0 rfl
    have c1 := hC.cellAt 1 rfl
    have c2 := hC.cellAt 2 rfl
    have c3 := hC.cellAt 3 rfl
    have zf := fun j => hZ.frozen j
    have z0 := hZ.cellAt 0 rfl
    have z1 := hZ.cellAt 1 rfl
    have z2 := hZ.cellAt 2 rfl
    go_wp2_with fail
    clear c0 c1 c2 c3 zf z0 z1 z2
    refine (next_any g A n c _ 4 _ hs (by omega) (by omega)).mono ?_; rintro e u ⟨k4, hk4, rfl, hs', hg'⟩
    have hC' := hC.grownB hg' (by omega)
    have hZ' := hZ.grownB hg' (by omega)
    have hG' := hG.trans hg'
    clear hs hC hZ hG hg'
    have hs := hs'
    have hC := hC'
    have hZ := hZ'
    have hG := hG'
    clear hs' hC' hZ' hG'
    by_cases h40 : k4 = 0
    · subst h40
      have c0 := hC.cellAt 0 rfl
      have c1 := hC.cellAt 1 rfl
      have c2 := hC.cellAt 2 rfl
      have c3 := hC.cellAt 3 rfl
      have zf := fun j => hZ.frozen j
      have z0 := hZ.cellAt 0 rfl
      have z1 := hZ.cellAt 1 rfl
      have z2 := hZ.cellAt 2 rfl
      go_wp2
      have hg3 := put3_grown u (gz + 1) (.bool true) (.int .i64 (0)) (.string ⟨#[]⟩)
      have hsf := hs.grown hg3 (fun k e => by injection e with e; omega)
      have hGf := grown_side hG hg3 (by omega)
      exact bodyPost_ret (v := .agg #[.bool true, .int .i64 (0), .string ⟨#[]⟩]) (by simp [results, Try.results30, go_sem, z0, z1, z2]) rfl ⟨⟨true, 0, ⟨#[]⟩⟩, ok_null, rfl, ⟨_, hsf⟩, hGf⟩
    · have q4 : ((k4 : Int) == 0) = false := by simp only [beq_eq_false_iff_ne]; omega
      have c0 := hC.cellAt 0 rfl
      have c1 := hC.cellAt 1 rfl
      have c2 := hC.cellAt 2 rfl
      have c3 := hC.cellAt 3 rfl
      have zf := fun j => hZ.frozen j
      have z0 := hZ.cellAt 0 rfl
      have z1 := hZ.cellAt 1 rfl
      have z2 := hZ.cellAt 2 rfl
      go_wp2_with fail
      clear c0 c1 c2 c3 zf z0 z1 z2
      refine (next_any g A n c _ 7 _ hs (by omega) (by omega)).mono ?_; rintro e u ⟨k7, hk7, rfl, hs', hg'⟩
      have hC' := hC.grownB hg' (by omega)
      have hZ' := hZ.grownB hg' (by omega)
      have hG' := hG.trans hg'
      clear hs hC hZ hG hg'
      have hs := hs'
      have hC := hC'
      have hZ := hZ'
      have hG := hG'
      clear hs' hC' hZ' hG'
      go_wp2_with fail
      refine (next_any g A n c _ 8 _ hs (by omega) (by omega)).mono ?_; rintro e u ⟨k8, hk8, rfl, hs', hg'⟩
      have hC' := hC.grownB hg' (by omega)
      have hZ' := hZ.grownB hg' (by omega)
      have hG' := hG.trans hg'
      clear hs hC hZ hG hg'
      have hs := hs'
      have hC := hC'
      have hZ := hZ'
      have hG := hG'
      clear hs' hC' hZ' hG'
      by_cases h80 : k8 = 0
      · subst h80
        go_wp2_with fail
        refine (raw_any g A n c _ _ hs).mono ?_; rintro e u ⟨x, hx, rfl, hs', hg'⟩
        have hC' := hC.grownB hg' (by omega)
        have hZ' := hZ.grownB hg' (by omega)
        have hG' := hG.trans hg'
        clear hs hC hZ hG hg'
        have hs := hs'
        have hC := hC'
        have hZ := hZ'
        have hG := hG'
        clear hs' hC' hZ' hG'
        have c0 := hC.cellAt 0 rfl
        have c1 := hC.cellAt 1 rfl
        have c2 := hC.cellAt 2 rfl
        have c3 := hC.cellAt 3 rfl
        have zf := fun j => hZ.frozen j
        have z0 := hZ.cellAt 0 rfl
        have z1 := hZ.cellAt 1 rfl
        have z2 := hZ.cellAt 2 rfl
        go_wp2
        have hg3 := put3_grown u (gz + 1) (.bool false) (.int .i64 ((id x))) (.string ⟨#[]⟩)
        have hsf := hs.grown hg3 (fun k e => by injection e with e; omega)
        have hGf := grown_side hG hg3 (by omega)
        exact bodyPost_ret (v := .agg #[.bool false, .int .i64 ((id x)), .string ⟨#[]⟩]) (by simp [results, Try.results30, go_sem, z0, z1, z2]) rfl ⟨⟨false, (id x), ⟨#[]⟩⟩, ok_int (by decide) (perm_1 _ hx), rfl, ⟨_, hsf⟩, hGf⟩
      · have q0 : ((k8 : Int) == 0) = false := by simp only [beq_eq_false_iff_ne]; omega
        by_cases h81 : k8 = 1
        · subst h81
          go_wp2_with fail
          refine (raw_any g A n c _ _ hs).mono ?_; rintro e u ⟨x, hx, rfl, hs', hg'⟩
          have hC' := hC.grownB hg' (by omega)
          have hZ' := hZ.grownB hg' (by omega)
          have hG' := hG.trans hg'
          clear hs hC hZ hG hg'
          have hs := hs'
          have hC := hC'
          have hZ := hZ'
          have hG := hG'
          clear hs' hC' hZ' hG'
          have c0 := hC.cellAt 0 rfl
          have c1 := hC.cellAt 1 rfl
          have c2 := hC.cellAt 2 rfl
          have c3 := hC.cellAt 3 rfl
          have zf := fun j => hZ.frozen j
          have z0 := hZ.cellAt 0 rfl
          have z1 := hZ.cellAt 1 rfl
          have z2 := hZ.cellAt 2 rfl
          go_wp2
          have hg3 := put3_grown u (gz + 1) (.bool false) (.int .i64 ((id (x.tmod 1000)))) (.string ⟨#[]⟩)
          have hsf := hs.grown hg3 (fun k e => by injection e with e; omega)
          have hGf := grown_side hG hg3 (by omega)
          exact bodyPost_ret (v := .agg #[.bool false, .int .i64 ((id (x.tmod 1000))), .string ⟨#[]⟩]) (by simp [results, Try.results30, go_sem, z0, z1, z2]) rfl ⟨⟨false, (id (x.tmod 1000)), ⟨#[]⟩⟩, ok_int (by decide) (perm_1 _ (i64_mod hx 1000 (by omega) (by omega))), rfl, ⟨_, hsf⟩, hGf⟩
        · have q1 : ((k8 : Int) == 1) = false := by simp only [beq_eq_false_iff_ne]; omega
          have c0 := hC.cellAt 0 rfl
          have c1 := hC.cellAt 1 rfl
          have c2 := hC.cellAt 2 rfl
          have c3 := hC.cellAt 3 rfl
          have zf := fun j => hZ.frozen j
          have z0 := hZ.cellAt 0 rfl
          have z1 := hZ.cellAt 1 rfl
          have z2 := hZ.cellAt 2 rfl
          go_wp2
          have hg3 := put3_grown u (gz + 1) (.bool false) (.int .i64 ((id ((k7 : Int) - 2)))) (.string ⟨#[]⟩)
          have hsf := hs.grown hg3 (fun k e => by injection e with e; omega)
          have hGf := grown_side hG hg3 (by omega)
          exact bodyPost_ret (v := .agg #[.bool false, .int .i64 ((id ((k7 : Int) - 2))), .string ⟨#[]⟩]) (by simp [results, Try.results30, go_sem, z0, z1, z2]) rfl ⟨⟨false, (id ((k7 : Int) - 2)), ⟨#[]⟩⟩, ok_int (by decide) (perm_1 _ (by unfold I64; omega)), rfl, ⟨_, hsf⟩, hGf⟩
set_option maxRecDepth 100000 in
set_option maxHeartbeats 2000000 in
theorem kval_2 (g : Nat) (A : Option Addr) (n c i : Nat) (nl : Bool) (w : World) (hs : Src w g A n c i) :
    Calls Try.prog 30 #[.pointer (some ⟨g, 0, none⟩), colV 2 nl] w (ValPost w g A n c 2 nl) := by
  have hlt := hs.lt
  dsimp only [colV]
  have hC := (Blk.new' w 32 #[.string ⟨#[120]⟩, .int .i64 2, .int .i64 0, .bool nl]).alloc (.cells #[.bool false, .int .i64 0, .string ⟨#[]⟩] 23)
  have hZ := Blk.new' (w.alloc (.cells #[.string ⟨#[120]⟩, .int .i64 2, .int .i64 0, .bool nl] 32)) 23 #[.bool false, .int .i64 0, .string ⟨#[]⟩]
  have s1 : (w.alloc (.cells #[.string ⟨#[120]⟩, .int .i64 2, .int .i64 0, .bool nl] 32)).heap.size = w.heap.size + 1 := by simp
  rw [s1] at hZ
  clear s1
  have hb := ((Below.refl w.heap.size w).alloc (Nat.le_refl _) (.cells #[.string ⟨#[120]⟩, .int .i64 2, .int .i64 0, .bool nl] 32)).alloc (by simp) (.cells #[.bool false, .int .i64 0, .string ⟨#[]⟩] 23)
  have hs' := hs.below hb
  have hG : w.grownBy ((w.alloc (.cells #[.string ⟨#[120]⟩, .int .i64 2, .int .i64 0, .bool nl] 32)).alloc (.cells #[.bool false, .int .i64 0, .string ⟨#[]⟩] 23)) (some g) := ⟨hb.os, hb.tape, hb.output, hb.size, fun k hk _ => hb.block k hk⟩
  clear hs hb
  have hs := hs'
  clear hs'
  go_enter Try.func30, Try.ntmps30
  go_upto_region 1 with fail
  generalize (w.alloc (.cells #[.string ⟨#[120]⟩, .int .i64 2, .int .i64 0, .bool nl] 32)).alloc (.cells #[.bool false, .int .i64 0, .string ⟨#[]⟩] 23) = wa at *
  generalize hgz : w.heap.size = gz at *
  cases nl
  · have c0 := hC.cellAt 0 rfl
    have c1 := hC.cellAt 1 rfl
    have c2 := hC.cellAt 2 rfl
    have c3 := hC.cellAt 3 rfl
    have zf := fun j => hZ.frozen j
    have z0 := hZ.cellAt 0 rfl
    have z1 := hZ.cellAt 1 rfl
    have z2 := hZ.cellAt 2 rfl
    go_wp2_with fail
    clear c0 c1 c2 c3 zf z0 z1 z2
    refine (next_any g A n c _ 7 _ hs (by omega) (by omega)).mono ?_; rintro e u ⟨k7, hk7, rfl, hs', hg'⟩
    have hC' := hC.grownB hg' (by omega)
    have hZ' := hZ.grownB hg' (by omega)
    have hG' := hG.trans hg'
    clear hs hC hZ hG hg'
    have hs := hs'
    have hC := hC'
    have hZ := hZ'
    have hG := hG'
    clear hs' hC' hZ' hG'
    go_wp2_with fail
    refine (next_any g A n c _ 8 _ hs (by omega) (by omega)).mono ?_; rintro e u ⟨k8, hk8, rfl, hs', hg'⟩
    have hC' := hC.grownB hg' (by omega)
    have hZ' := hZ.grownB hg' (by omega)
    have hG' := hG.trans hg'
    clear hs hC hZ hG hg'
    have hs := hs'
    have hC := hC'
    have hZ := hZ'
    have hG := hG'
    clear hs' hC' hZ' hG'
    by_cases h80 : k8 = 0
    · subst h80
      go_wp2_with fail
      refine (raw_any g A n c _ _ hs).mono ?_; rintro e u ⟨x, hx, rfl, hs', hg'⟩
      have hC' := hC.grownB hg' (by omega)
      have hZ' := hZ.grownB hg' (by omega)
      have hG' := hG.trans hg'
      clear hs hC hZ hG hg'
      have hs := hs'
      have hC := hC'
      have hZ := hZ'
      have hG := hG'
      clear hs' hC' hZ' hG'
      have c0 := hC.cellAt 0 rfl
      have c1 := hC.cellAt 1 rfl
      have c2 := hC.cellAt 2 rfl
      have c3 := hC.cellAt 3 rfl
      have zf := fun j => hZ.frozen j
      have z0 := hZ.cellAt 0 rfl
      have z1 := hZ.cellAt 1 rfl
      have z2 := hZ.cellAt 2 rfl
      go_wp2
      have hg3 := put3_grown u (gz + 1) (.bool false) (.int .i64 (((fun y : Int => bits BinOp.and IntKind.i64 y 1) x))) (.string ⟨#[]⟩)
      have hsf := hs.grown hg3 (fun k e => by injection e with e; omega)
      have hGf := grown_side hG hg3 (by omega)
      exact bodyPost_ret (v := .agg #[.bool false, .int .i64 (((fun y : Int => bits BinOp.and IntKind.i64 y 1) x)), .string ⟨#[]⟩]) (by simp [results, Try.results30, go_sem, z0, z1, z2]) rfl ⟨⟨false, ((fun y : Int => bits BinOp.and IntKind.i64 y 1) x), ⟨#[]⟩⟩, ok_int (by decide) (perm_2 _ hx), rfl, ⟨_, hsf⟩, hGf⟩
    · have q0 : ((k8 : Int) == 0) = false := by simp only [beq_eq_false_iff_ne]; omega
      by_cases h81 : k8 = 1
      · subst h81
        go_wp2_with fail
        refine (raw_any g A n c _ _ hs).mono ?_; rintro e u ⟨x, hx, rfl, hs', hg'⟩
        have hC' := hC.grownB hg' (by omega)
        have hZ' := hZ.grownB hg' (by omega)
        have hG' := hG.trans hg'
        clear hs hC hZ hG hg'
        have hs := hs'
        have hC := hC'
        have hZ := hZ'
        have hG := hG'
        clear hs' hC' hZ' hG'
        have c0 := hC.cellAt 0 rfl
        have c1 := hC.cellAt 1 rfl
        have c2 := hC.cellAt 2 rfl
        have c3 := hC.cellAt 3 rfl
        have zf := fun j => hZ.frozen j
        have z0 := hZ.cellAt 0 rfl
        have z1 := hZ.cellAt 1 rfl
        have z2 := hZ.cellAt 2 rfl
        go_wp2
        have hg3 := put3_grown u (gz + 1) (.bool false) (.int .i64 (((fun y : Int => bits BinOp.and IntKind.i64 y 1) (x.tmod 1000)))) (.string ⟨#[]⟩)
        have hsf := hs.grown hg3 (fun k e => by injection e with e; omega)
        have hGf := grown_side hG hg3 (by omega)
        exact bodyPost_ret (v := .agg #[.bool false, .int .i64 (((fun y : Int => bits BinOp.and IntKind.i64 y 1) (x.tmod 1000))), .string ⟨#[]⟩]) (by simp [results, Try.results30, go_sem, z0, z1, z2]) rfl ⟨⟨false, ((fun y : Int => bits BinOp.and IntKind.i64 y 1) (x.tmod 1000)), ⟨#[]⟩⟩, ok_int (by decide) (perm_2 _ (i64_mod hx 1000 (by omega) (by omega))), rfl, ⟨_, hsf⟩, hGf⟩
      · have q1 : ((k8 : Int) == 1) = false := by simp only [beq_eq_false_iff_ne]; omega
        have c0 := hC.cellAt 0 rfl
        have c1 := hC.cellAt 1 rfl
        have c2 := hC.cellAt 2 rfl
        have c3 := hC.cellAt 3 rfl
        have zf := fun j => hZ.frozen j
        have z0 := hZ.cellAt 0 rfl
        have z1 := hZ.cellAt 1 rfl
        have z2 := hZ.cellAt 2 rfl
        go_wp2
        have hg3 := put3_grown u (gz + 1) (.bool false) (.int .i64 (((fun y : Int => bits BinOp.and IntKind.i64 y 1) ((k7 : Int) - 2)))) (.string ⟨#[]⟩)
        have hsf := hs.grown hg3 (fun k e => by injection e with e; omega)
        have hGf := grown_side hG hg3 (by omega)
        exact bodyPost_ret (v := .agg #[.bool false, .int .i64 (((fun y : Int => bits BinOp.and IntKind.i64 y 1) ((k7 : Int) - 2))), .string ⟨#[]⟩]) (by simp [results, Try.results30, go_sem, z0, z1, z2]) rfl ⟨⟨false, ((fun y : Int => bits BinOp.and IntKind.i64 y 1) ((k7 : Int) - 2)), ⟨#[]⟩⟩, ok_int (by decide) (perm_2 _ (by unfold I64; omega)), rfl, ⟨_, hsf⟩, hGf⟩
  · have c0 := hC.cellAt 0 rfl
    have c1 := hC.cellAt 1 rfl
    have c2 := hC.cellAt 2 rfl
    have c3 := hC.cellAt 3 rfl
    have zf := fun j => hZ.frozen j
    have z0 := hZ.cellAt 0 rfl
    have z1 := hZ.cellAt 1 rfl
    have z2 := hZ.cellAt 2 rfl
    go_wp2_with fail
    clear c0 c1 c2 c3 zf z0 z1 z2
    refine (next_any g A n c _ 4 _ hs (by omega) (by omega)).mono ?_; rintro e u ⟨k4, hk4, rfl, hs', hg'⟩
    have hC' := hC.grownB hg' (by omega)
    have hZ' := hZ.grownB hg' (by omega)
    have hG' := hG.trans hg'
    clear hs hC hZ hG hg'
    have hs := hs'
    have hC := hC'
    have hZ := hZ'
    have hG := hG'
    clear hs' hC' hZ' hG'
    by_cases h40 : k4 = 0
    · subst h40
      have c0 := hC.cellAt 0 rfl
      have c1 := hC.cellAt 1 rfl
      have c2 := hC.cellAt 2 rfl
      have c3 := hC.cellAt 3 rfl
      have zf := fun j => hZ.frozen j
      have z0 := hZ.cellAt 0 rfl
      have z1 := hZ.cellAt 1 rfl
      have z2 := hZ.cellAt 2 rfl
      go_wp2
      have hg3 := put3_grown u (gz + 1) (.bool true) (.int .i64 (0)) (.string ⟨#[]⟩)
      have hsf := hs.grown hg3 (fun k e => by injection e with e; omega)
      have hGf := grown_side hG hg3 (by omega)
      exact bodyPost_ret (v := .agg #[.bool true, .int .i64 (0), .string ⟨#[]⟩]) (by simp [results, Try.results30, go_sem, z0, z1, z2]) rfl ⟨⟨true, 0, ⟨#[]⟩⟩, ok_null, rfl, ⟨_, hsf⟩, hGf⟩
    · have q4 : ((k4 : Int) == 0) = false := by simp only [beq_eq_false_iff_ne]; omega
      have c0 := hC.cellAt 0 rfl
      have c1 := hC.cellAt 1 rfl
      have c2 := hC.cellAt 2 rfl
      have c3 := hC.cellAt 3 rfl
      have zf := fun j => hZ.frozen j
      have z0 := hZ.cellAt 0 rfl
      have z1 := hZ.cellAt 1 rfl
      have z2 := hZ.cellAt 2 rfl
      go_wp2_with fail
      clear c0 c1 c2 c3 zf z0 z1 z2
      refine (next_any g A n c _ 7 _ hs (by omega) (by omega)).mono ?_; rintro e u ⟨k7, hk7, rfl, hs', hg'⟩
      have hC' := hC.grownB hg' (by omega)
      have hZ' := hZ.grownB hg' (by omega)
      have hG' := hG.trans hg'
      clear hs hC hZ hG hg'
      have hs := hs'
      have hC := hC'
      have hZ := hZ'
      have hG := hG'
      clear hs' hC' hZ' hG'
      go_wp2_with fail
      refine (next_any g A n c _ 8 _ hs (by omega) (by omega)).mono ?_; rintro e u ⟨k8, hk8, rfl, hs', hg'⟩
      have hC' := hC.grownB hg' (by omega)
      have hZ' := hZ.grownB hg' (by omega)
      have hG' := hG.trans hg'
      clear hs hC hZ hG hg'
      have hs := hs'
      have hC := hC'
      have hZ := hZ'
      have hG := hG'
      clear hs' hC' hZ' hG'
      by_cases h80 : k8 = 0
      · subst h80
        go_wp2_with fail
        refine (raw_any g A n c _ _ hs).mono ?_; rintro e u ⟨x, hx, rfl, hs', hg'⟩
        have hC' := hC.grownB hg' (by omega)
        have hZ' := hZ.grownB hg' (by omega)
        have hG' := hG.trans hg'
        clear hs hC hZ hG hg'
        have hs := hs'
        have hC := hC'
        have hZ := hZ'
        have hG := hG'
        clear hs' hC' hZ' hG'
        have c0 := hC.cellAt 0 rfl
        have c1 := hC.cellAt 1 rfl
        have c2 := hC.cellAt 2 rfl
        have c3 := hC.cellAt 3 rfl
        have zf := fun j => hZ.frozen j
        have z0 := hZ.cellAt 0 rfl
        have z1 := hZ.cellAt 1 rfl
        have z2 := hZ.cellAt 2 rfl
        go_wp2
        have hg3 := put3_grown u (gz + 1) (.bool false) (.int .i64 (((fun y : Int => bits BinOp.and IntKind.i64 y 1) x))) (.string ⟨#[]⟩)
        have hsf := hs.grown hg3 (fun k e => by injection e with e; omega)
        have hGf := grown_side hG hg3 (by omega)
        exact bodyPost_ret (v := .agg #[.bool false, .int .i64 (((fun y : Int => bits BinOp.and IntKind.i64 y 1) x)), .string ⟨#[]⟩]) (by simp [results, Try.results30, go_sem, z0, z1, z2]) rfl ⟨⟨false, ((fun y : Int => bits BinOp.and IntKind.i64 y 1) x), ⟨#[]⟩⟩, ok_int (by decide) (perm_2 _ hx), rfl, ⟨_, hsf⟩, hGf⟩
      · have q0 : ((k8 : Int) == 0) = false := by simp only [beq_eq_false_iff_ne]; omega
        by_cases h81 : k8 = 1
        · subst h81
          go_wp2_with fail
          refine (raw_any g A n c _ _ hs).mono ?_; rintro e u ⟨x, hx, rfl, hs', hg'⟩
          have hC' := hC.grownB hg' (by omega)
          have hZ' := hZ.grownB hg' (by omega)
          have hG' := hG.trans hg'
          clear hs hC hZ hG hg'
          have hs := hs'
          have hC := hC'
          have hZ := hZ'
          have hG := hG'
          clear hs' hC' hZ' hG'
          have c0 := hC.cellAt 0 rfl
          have c1 := hC.cellAt 1 rfl
          have c2 := hC.cellAt 2 rfl
          have c3 := hC.cellAt 3 rfl
          have zf := fun j => hZ.frozen j
          have z0 := hZ.cellAt 0 rfl
          have z1 := hZ.cellAt 1 rfl
          have z2 := hZ.cellAt 2 rfl
          go_wp2
          have hg3 := put3_grown u (gz + 1) (.bool false) (.int .i64 (((fun y : Int => bits BinOp.and IntKind.i64 y 1) (x.tmod 1000)))) (.string ⟨#[]⟩)
          have hsf := hs.grown hg3 (fun k e => by injection e with e; omega)
          have hGf := grown_side hG hg3 (by omega)
          exact bodyPost_ret (v := .agg #[.bool false, .int .i64 (((fun y : Int => bits BinOp.and IntKind.i64 y 1) (x.tmod 1000))), .string ⟨#[]⟩]) (by simp [results, Try.results30, go_sem, z0, z1, z2]) rfl ⟨⟨false, ((fun y : Int => bits BinOp.and IntKind.i64 y 1) (x.tmod 1000)), ⟨#[]⟩⟩, ok_int (by decide) (perm_2 _ (i64_mod hx 1000 (by omega) (by omega))), rfl, ⟨_, hsf⟩, hGf⟩
        · have q1 : ((k8 : Int) == 1) = false := by simp only [beq_eq_false_iff_ne]; omega
          have c0 := hC.cellAt 0 rfl
          have c1 := hC.cellAt 1 rfl
          have c2 := hC.cellAt 2 rfl
          have c3 := hC.cellAt 3 rfl
          have zf := fun j => hZ.frozen j
          have z0 := hZ.cellAt 0 rfl
          have z1 := hZ.cellAt 1 rfl
          have z2 := hZ.cellAt 2 rfl
          go_wp2
          have hg3 := put3_grown u (gz + 1) (.bool false) (.int .i64 (((fun y : Int => bits BinOp.and IntKind.i64 y 1) ((k7 : Int) - 2)))) (.string ⟨#[]⟩)
          have hsf := hs.grown hg3 (fun k e => by injection e with e; omega)
          have hGf := grown_side hG hg3 (by omega)
          exact bodyPost_ret (v := .agg #[.bool false, .int .i64 (((fun y : Int => bits BinOp.and IntKind.i64 y 1) ((k7 : Int) - 2))), .string ⟨#[]⟩]) (by simp [results, Try.results30, go_sem, z0, z1, z2]) rfl ⟨⟨false, ((fun y : Int => bits BinOp.and IntKind.i64 y 1) ((k7 : Int) - 2)), ⟨#[]⟩⟩, ok_int (by decide) (perm_2 _ (by unfold I64; omega)), rfl, ⟨_, hsf⟩, hGf⟩
set_option maxRecDepth 100000 in
set_option maxHeartbeats 2000000 in
theorem kval_4 (g : Nat) (A : Option Addr) (n c i : Nat) (nl : Bool) (w : World) (hs : Src w g A n c i) :
    Calls Try.prog 30 #[.pointer (some ⟨g, 0, none⟩), colV 4 nl] w (ValPost w g A n c 4 nl) := by
  have hlt := hs.lt
  dsimp only [colV]
  have hC := (Blk.new' w 32 #[.string ⟨#[120]⟩, .int .i64 4, .int .i64 0, .bool nl]).alloc (.cells #[.bool false, .int .i64 0, .string ⟨#[]⟩] 23)
  have hZ := Blk.new' (w.alloc (.cells #[.string ⟨#[120]⟩, .int .i64 4, .int .i64 0, .bool nl] 32)) 23 #[.bool false, .int .i64 0, .string ⟨#[]⟩]
  have s1 : (w.alloc (.cells #[.string ⟨#[120]⟩, .int .i64 4, .int .i64 0, .bool nl] 32)).heap.size = w.heap.size + 1 := by simp
  rw [s1] at hZ
  clear s1
  have hb := ((Below.refl w.heap.size w).alloc (Nat.le_refl _) (.cells #[.string ⟨#[120]⟩, .int .i64 4, .int .i64 0, .bool nl] 32)).alloc (by simp) (.cells #[.bool false, .int .i64 0, .string ⟨#[]⟩] 23)
  have hs' := hs.below hb
  have hG : w.grownBy ((w.alloc (.cells #[.string ⟨#[120]⟩, .int .i64 4, .int .i64 0, .bool nl] 32)).alloc (.cells #[.bool false, .int .i64 0, .string ⟨#[]⟩] 23)) (some g) := ⟨hb.os, hb.tape, hb.output, hb.size, fun k hk _ => hb.block k hk⟩
  clear hs hb
  have hs := hs'
  clear hs'
  go_enter Try.func30, Try.ntmps30
  go_upto_region 1 with fail
  generalize (w.alloc (.cells #[.string ⟨#[120]⟩, .int .i64 4, .int .i64 0, .bool nl] 32)).alloc (.cells #[.bool false, .int .i64 0, .string ⟨#[]⟩] 23) = wa at *
  generalize hgz : w.heap.size = gz at *
  cases nl
  · have c0 := hC.cellAt 0 rfl
    have c1 := hC.cellAt 1 rfl
    have c2 := hC.cellAt 2 rfl
    have c3 := hC.cellAt 3 rfl
    have zf := fun j => hZ.frozen j
    have z0 := hZ.cellAt 0 rfl
    have z1 := hZ.cellAt 1 rfl
    have z2 := hZ.cellAt 2 rfl
    go_wp2_with fail
    clear c0 c1 c2 c3 zf z0 z1 z2
    refine (next_any g A n c _ 7 _ hs (by omega) (by omega)).mono ?_; rintro e u ⟨k7, hk7, rfl, hs', hg'⟩
    have hC' := hC.grownB hg' (by omega)
    have hZ' := hZ.grownB hg' (by omega)
    have hG' := hG.trans hg'
    clear hs hC hZ hG hg'
    have hs := hs'
    have hC := hC'
    have hZ := hZ'
    have hG := hG'
    clear hs' hC' hZ' hG'
    go_wp2_with fail
    refine (next_any g A n c _ 8 _ hs (by omega) (by omega)).mono ?_; rintro e u ⟨k8, hk8, rfl, hs', hg'⟩
    have hC' := hC.grownB hg' (by omega)
    have hZ' := hZ.grownB hg' (by omega)
    have hG' := hG.trans hg'
    clear hs hC hZ hG hg'
    have hs := hs'
    have hC := hC'
    have hZ := hZ'
    have hG := hG'
    clear hs' hC' hZ' hG'
    by_cases h80 : k8 = 0
    · subst h80
      go_wp2_with fail
      refine (raw_any g A n c _ _ hs).mono ?_; rintro e u ⟨x, hx, rfl, hs', hg'⟩
      have hC' := hC.grownB hg' (by omega)
      have hZ' := hZ.grownB hg' (by omega)
      have hG' := hG.trans hg'
      clear hs hC hZ hG hg'
      have hs := hs'
      have hC := hC'
      have hZ := hZ'
      have hG := hG'
      clear hs' hC' hZ' hG'
      have c0 := hC.cellAt 0 rfl
      have c1 := hC.cellAt 1 rfl
      have c2 := hC.cellAt 2 rfl
      have c3 := hC.cellAt 3 rfl
      have zf := fun j => hZ.frozen j
      have z0 := hZ.cellAt 0 rfl
      have z1 := hZ.cellAt 1 rfl
      have z2 := hZ.cellAt 2 rfl
      go_wp2
      have hg3 := put3_grown u (gz + 1) (.bool false) (.int .i64 (((fun y : Int => y.tmod 700000) x))) (.string ⟨#[]⟩)
      have hsf := hs.grown hg3 (fun k e => by injection e with e; omega)
      have hGf := grown_side hG hg3 (by omega)
      exact bodyPost_ret (v := .agg #[.bool false, .int .i64 (((fun y : Int => y.tmod 700000) x)), .string ⟨#[]⟩]) (by simp [results, Try.results30, go_sem, z0, z1, z2]) rfl ⟨⟨false, ((fun y : Int => y.tmod 700000) x), ⟨#[]⟩⟩, ok_int (by decide) (perm_4 _ hx), rfl, ⟨_, hsf⟩, hGf⟩
    · have q0 : ((k8 : Int) == 0) = false := by simp only [beq_eq_false_iff_ne]; omega
      by_cases h81 : k8 = 1
      · subst h81
        go_wp2_with fail
        refine (raw_any g A n c _ _ hs).mono ?_; rintro e u ⟨x, hx, rfl, hs', hg'⟩
        have hC' := hC.grownB hg' (by omega)
        have hZ' := hZ.grownB hg' (by omega)
        have hG' := hG.trans hg'
        clear hs hC hZ hG hg'
        have hs := hs'
        have hC := hC'
        have hZ := hZ'
        have hG := hG'
        clear hs' hC' hZ' hG'
        have c0 := hC.cellAt 0 rfl
        have c1 := hC.cellAt 1 rfl
        have c2 := hC.cellAt 2 rfl
        have c3 := hC.cellAt 3 rfl
        have zf := fun j => hZ.frozen j
        have z0 := hZ.cellAt 0 rfl
        have z1 := hZ.cellAt 1 rfl
        have z2 := hZ.cellAt 2 rfl
        go_wp2
        have hg3 := put3_grown u (gz + 1) (.bool false) (.int .i64 (((fun y : Int => y.tmod 700000) (x.tmod 1000)))) (.string ⟨#[]⟩)
        have hsf := hs.grown hg3 (fun k e => by injection e with e; omega)
        have hGf := grown_side hG hg3 (by omega)
        exact bodyPost_ret (v := .agg #[.bool false, .int .i64 (((fun y : Int => y.tmod 700000) (x.tmod 1000))), .string ⟨#[]⟩]) (by simp [results, Try.results30, go_sem, z0, z1, z2]) rfl ⟨⟨false, ((fun y : Int => y.tmod 700000) (x.tmod 1000)), ⟨#[]⟩⟩, ok_int (by decide) (perm_4 _ (i64_mod hx 1000 (by omega) (by omega))), rfl, ⟨_, hsf⟩, hGf⟩
      · have q1 : ((k8 : Int) == 1) = false := by simp only [beq_eq_false_iff_ne]; omega
        have c0 := hC.cellAt 0 rfl
        have c1 := hC.cellAt 1 rfl
        have c2 := hC.cellAt 2 rfl
        have c3 := hC.cellAt 3 rfl
        have zf := fun j => hZ.frozen j
        have z0 := hZ.cellAt 0 rfl
        have z1 := hZ.cellAt 1 rfl
        have z2 := hZ.cellAt 2 rfl
        go_wp2
        have hg3 := put3_grown u (gz + 1) (.bool false) (.int .i64 (((fun y : Int => y.tmod 700000) ((k7 : Int) - 2)))) (.string ⟨#[]⟩)
        have hsf := hs.grown hg3 (fun k e => by injection e with e; omega)
        have hGf := grown_side hG hg3 (by omega)
        exact bodyPost_ret (v := .agg #[.bool false, .int .i64 (((fun y : Int => y.tmod 700000) ((k7 : Int) - 2))), .string ⟨#[]⟩]) (by simp [results, Try.results30, go_sem, z0, z1, z2]) rfl ⟨⟨false, ((fun y : Int => y.tmod 700000) ((k7 : Int) - 2)), ⟨#[]⟩⟩, ok_int (by decide) (perm_4 _ (by unfold I64; omega)), rfl, ⟨_, hsf⟩, hGf⟩
  · have c0 := hC.cellAt 0 rfl
    have c1 := hC.cellAt 1 rfl
    have c2 := hC.cellAt 2 rfl
    have c3 := hC.cellAt 3 rfl
    have zf := fun j => hZ.frozen j
    have z0 := hZ.cellAt 0 rfl
    have z1 := hZ.cellAt 1 rfl
    have z2 := hZ.cellAt 2 rfl
    go_wp2_with fail
    clear c0 c1 c2 c3 zf z0 z1 z2
    refine (next_any g A n c _ 4 _ hs (by omega) (by omega)).mono ?_; rintro e u ⟨k4, hk4, rfl, hs', hg'⟩
    have hC' := hC.grownB hg' (by omega)
    have hZ' := hZ.grownB hg' (by omega)
    have hG' := hG.trans hg'
    clear hs hC hZ hG hg'
    have hs := hs'
    have hC := hC'
    have hZ := hZ'
    have hG := hG'
    clear hs' hC' hZ' hG'
    by_cases h40 : k4 = 0
    · subst h40
      have c0 := hC.cellAt 0 rfl
      have c1 := hC.cellAt 1 rfl
      have c2 := hC.cellAt 2 rfl
      have c3 := hC.cellAt 3 rfl
      have zf := fun j => hZ.frozen j
      have z0 := hZ.cellAt 0 rfl
      have z1 := hZ.cellAt 1 rfl
      have z2 := hZ.cellAt 2 rfl
      go_wp2
      have hg3 := put3_grown u (gz + 1) (.bool true) (.int .i64 (0)) (.string ⟨#[]⟩)
      have hsf := hs.grown hg3 (fun k e => by injection e with e; omega)
      have hGf := grown_side hG hg3 (by omega)
      exact bodyPost_ret (v := .agg #[.bool true, .int .i64 (0), .string ⟨#[]⟩]) (by simp [results, Try.results30, go_sem, z0, z1, z2]) rfl ⟨⟨true, 0, ⟨#[]⟩⟩, ok_null, rfl, ⟨_, hsf⟩, hGf⟩
    · have q4 : ((k4 : Int) == 0) = false := by simp only [beq_eq_false_iff_ne]; omega
      have c0 := hC.cellAt 0 rfl
      have c1 := hC.cellAt 1 rfl
      have c2 := hC.cellAt 2 rfl
      have c3 := hC.cellAt 3 rfl
      have zf := fun j => hZ.frozen j
      have z0 := hZ.cellAt 0 rfl
      have z1 := hZ.cellAt 1 rfl
      have z2 := hZ.cellAt 2 rfl
      go_wp2_with fail
      clear c0 c1 c2 c3 zf z0 z1 z2
      refine (next_any g A n c _ 7 _ hs (by omega) (by omega)).mono ?_; rintro e u ⟨k7, hk7, rfl, hs', hg'⟩
      have hC' := hC.grownB hg' (by omega)
      have hZ' := hZ.grownB hg' (by omega)
      have hG' := hG.trans hg'
      clear hs hC hZ hG hg'
      have hs := hs'
      have hC := hC'
      have hZ := hZ'
      have hG := hG'
      clear hs' hC' hZ' hG'
      go_wp2_with fail
      refine (next_any g A n c _ 8 _ hs (by omega) (by omega)).mono ?_; rintro e u ⟨k8, hk8, rfl, hs', hg'⟩
      have hC' := hC.grownB hg' (by omega)
      have hZ' := hZ.grownB hg' (by omega)
      have hG' := hG.trans hg'
      clear hs hC hZ hG hg'
      have hs := hs'
      have hC := hC'
      have hZ := hZ'
      have hG := hG'
      clear hs' hC' hZ' hG'
      by_cases h80 : k8 = 0
      · subst h80
        go_wp2_with fail
        refine (raw_any g A n c _ _ hs).mono ?_; rintro e u ⟨x, hx, rfl, hs', hg'⟩
        have hC' := hC.grownB hg' (by omega)
        have hZ' := hZ.grownB hg' (by omega)
        have hG' := hG.trans hg'
        clear hs hC hZ hG hg'
        have hs := hs'
        have hC := hC'
        have hZ := hZ'
        have hG := hG'
        clear hs' hC' hZ' hG'
        have c0 := hC.cellAt 0 rfl
        have c1 := hC.cellAt 1 rfl
        have c2 := hC.cellAt 2 rfl
        have c3 := hC.cellAt 3 rfl
        have zf := fun j => hZ.frozen j
        have z0 := hZ.cellAt 0 rfl
        have z1 := hZ.cellAt 1 rfl
        have z2 := hZ.cellAt 2 rfl
        go_wp2
        have hg3 := put3_grown u (gz + 1) (.bool false) (.int .i64 (((fun y : Int => y.tmod 700000) x))) (.string ⟨#[]⟩)
        have hsf := hs.grown hg3 (fun k e => by injection e with e; omega)
        have hGf := grown_side hG hg3 (by omega)
        exact bodyPost_ret (v := .agg #[.bool false, .int .i64 (((fun y : Int => y.tmod 700000) x)), .string ⟨#[]⟩]) (by simp [results, Try.results30, go_sem, z0, z1, z2]) rfl ⟨⟨false, ((fun y : Int => y.tmod 700000) x), ⟨#[]⟩⟩, ok_int (by decide) (perm_4 _ hx), rfl, ⟨_, hsf⟩, hGf⟩
      · have q0 : ((k8 : Int) == 0) = false := by simp only [beq_eq_false_iff_ne]; omega
        by_cases h81 : k8 = 1
        · subst h81
          go_wp2_with fail
          refine (raw_any g A n c _ _ hs).mono ?_; rintro e u ⟨x, hx, rfl, hs', hg'⟩
          have hC' := hC.grownB hg' (by omega)
          have hZ' := hZ.grownB hg' (by omega)
          have hG' := hG.trans hg'
          clear hs hC hZ hG hg'
          have hs := hs'
          have hC := hC'
          have hZ := hZ'
          have hG := hG'
          clear hs' hC' hZ' hG'
          have c0 := hC.cellAt 0 rfl
          have c1 := hC.cellAt 1 rfl
          have c2 := hC.cellAt 2 rfl
          have c3 := hC.cellAt 3 rfl
          have zf := fun j => hZ.frozen j
          have z0 := hZ.cellAt 0 rfl
          have z1 := hZ.cellAt 1 rfl
          have z2 := hZ.cellAt 2 rfl
          go_wp2
          have hg3 := put3_grown u (gz + 1) (.bool false) (.int .i64 (((fun y : Int => y.tmod 700000) (x.tmod 1000)))) (.string ⟨#[]⟩)
          have hsf := hs.grown hg3 (fun k e => by injection e with e; omega)
          have hGf := grown_side hG hg3 (by omega)
          exact bodyPost_ret (v := .agg #[.bool false, .int .i64 (((fun y : Int => y.tmod 700000) (x.tmod 1000))), .string ⟨#[]⟩]) (by simp [results, Try.results30, go_sem, z0, z1, z2]) rfl ⟨⟨false, ((fun y : Int => y.tmod 700000) (x.tmod 1000)), ⟨#[]⟩⟩, ok_int (by decide) (perm_4 _ (i64_mod hx 1000 (by omega) (by omega))), rfl, ⟨_, hsf⟩, hGf⟩
        · have q1 : ((k8 : Int) == 1) = false := by simp only [beq_eq_false_iff_ne]; omega
          have c0 := hC.cellAt 0 rfl
          have c1 := hC.cellAt 1 rfl
          have c2 := hC.cellAt 2 rfl
          have c3 := hC.cellAt 3 rfl
          have zf := fun j => hZ.frozen j
          have z0 := hZ.cellAt 0 rfl
          have z1 := hZ.cellAt 1 rfl
          have z2 := hZ.cellAt 2 rfl
          go_wp2
          have hg3 := put3_grown u (gz + 1) (.bool false) (.int .i64 (((fun y : Int => y.tmod 700000) ((k7 : Int) - 2)))) (.string ⟨#[]⟩)
          have hsf := hs.grown hg3 (fun k e => by injection e with e; omega)
          have hGf := grown_side hG hg3 (by omega)
          exact bodyPost_ret (v := .agg #[.bool false, .int .i64 (((fun y : Int => y.tmod 700000) ((k7 : Int) - 2))), .string ⟨#[]⟩]) (by simp [results, Try.results30, go_sem, z0, z1, z2]) rfl ⟨⟨false, ((fun y : Int => y.tmod 700000) ((k7 : Int) - 2)), ⟨#[]⟩⟩, ok_int (by decide) (perm_4 _ (by unfold I64; omega)), rfl, ⟨_, hsf⟩, hGf⟩
set_option maxRecDepth 100000 in
set_option maxHeartbeats 2000000 in
theorem kval_5 (g : Nat) (A : Option Addr) (n c i : Nat) (nl : Bool) (w : World) (hs : Src w g A n c i) :
    Calls Try.prog 30 #[.pointer (some ⟨g, 0, none⟩), colV 5 nl] w (ValPost w g A n c 5 nl) := by
  have hlt := hs.lt
  dsimp only [colV]
  have hC := (Blk.new' w 32 #[.string ⟨#[120]⟩, .int .i64 5, .int .i64 0, .bool nl]).alloc (.cells #[.bool false, .int .i64 0, .string ⟨#[]⟩] 23)
  have hZ := Blk.new' (w.alloc (.cells #[.string ⟨#[120]⟩, .int .i64 5, .int .i64 0, .bool nl] 32)) 23 #[.bool false, .int .i64 0, .string ⟨#[]⟩]
  have s1 : (w.alloc (.cells #[.string ⟨#[120]⟩, .int .i64 5, .int .i64 0, .bool nl] 32)).heap.size = w.heap.size + 1 := by simp
  rw [s1] at hZ
  clear s1
  have hb := ((Below.refl w.heap.size w).alloc (Nat.le_refl _) (.cells #[.string ⟨#[120]⟩, .int .i64 5, .int .i64 0, .bool nl] 32)).alloc (by simp) (.cells #[.bool false, .int .i64 0, .string ⟨#[]⟩] 23)
  have hs' := hs.below hb
  have hG : w.grownBy ((w.alloc (.cells #[.string ⟨#[120]⟩, .int .i64 5, .int .i64 0, .bool nl] 32)).alloc (.cells #[.bool false, .int .i64 0, .string ⟨#[]⟩] 23)) (some g) := ⟨hb.os, hb.tape, hb.output, hb.size, fun k hk _ => hb.block k hk⟩
  clear hs hb
  have hs := hs'
  clear hs'
  go_enter Try.func30, Try.ntmps30
  go_upto_region 1 with fail
  generalize (w.alloc (.cells #[.string ⟨#[120]⟩, .int .i64 5, .int .i64 0, .bool nl] 32)).alloc (.cells #[.bool false, .int .i64 0, .string ⟨#[]⟩] 23) = wa at *
  generalize hgz : w.heap.size = gz at *
  cases nl
  · have c0 := hC.cellAt 0 rfl
    have c1 := hC.cellAt 1 rfl
    have c2 := hC.cellAt 2 rfl
    have c3 := hC.cellAt 3 rfl
    have zf := fun j => hZ.frozen j
    have z0 := hZ.cellAt 0 rfl
    have z1 := hZ.cellAt 1 rfl
    have z2 := hZ.cellAt 2 rfl
    go_wp2_with fail
    clear c0 c1 c2 c3 zf z0 z1 z2
    refine (next_any g A n c _ 7 _ hs (by omega) (by omega)).mono ?_; rintro e u ⟨k7, hk7, rfl, hs', hg'⟩
    have hC' := hC.grownB hg' (by omega)
    have hZ' := hZ.grownB hg' (by omega)
    have hG' := hG.trans hg'
    clear hs hC hZ hG hg'
    have hs := hs'
    have hC := hC'
    have hZ := hZ'
    have hG := hG'
    clear hs' hC' hZ' hG'
    go_wp2_with fail
    refine (next_any g A n c _ 8 _ hs (by omega) (by omega)).mono ?_; rintro e u ⟨k8, hk8, rfl, hs', hg'⟩
    have hC' := hC.grownB hg' (by omega)
    have hZ' := hZ.grownB hg' (by omega)
    have hG' := hG.trans hg'
    clear hs hC hZ hG hg'
    have hs := hs'
    have hC := hC'
    have hZ := hZ'
    have hG := hG'
    clear hs' hC' hZ' hG'
    by_cases h80 : k8 = 0
    · subst h80
      go_wp2_with fail
      refine (raw_any g A n c _ _ hs).mono ?_; rintro e u ⟨x, hx, rfl, hs', hg'⟩
      have hC' := hC.grownB hg' (by omega)
      have hZ' := hZ.grownB hg' (by omega)
      have hG' := hG.trans hg'
      clear hs hC hZ hG hg'
      have hs := hs'
      have hC := hC'
      have hZ := hZ'
      have hG := hG'
      clear hs' hC' hZ' hG'
      have c0 := hC.cellAt 0 rfl
      have c1 := hC.cellAt 1 rfl
      have c2 := hC.cellAt 2 rfl
      have c3 := hC.cellAt 3 rfl
      have zf := fun j => hZ.frozen j
      have z0 := hZ.cellAt 0 rfl
      have z1 := hZ.cellAt 1 rfl
      have z2 := hZ.cellAt 2 rfl
      go_wp2
      have hg3 := put3_grown u (gz + 1) (.bool false) (.int .i64 (((fun y : Int => y.tmod 1000000000000000000) x))) (.string ⟨#[]⟩)
      have hsf := hs.grown hg3 (fun k e => by injection e with e; omega)
      have hGf := grown_side hG hg3 (by omega)
      exact bodyPost_ret (v := .agg #[.bool false, .int .i64 (((fun y : Int => y.tmod 1000000000000000000) x)), .string ⟨#[]⟩]) (by simp [results, Try.results30, go_sem, z0, z1, z2]) rfl ⟨⟨false, ((fun y : Int => y.tmod 1000000000000000000) x), ⟨#[]⟩⟩, ok_int (by decide) (perm_5 _ hx), rfl, ⟨_, hsf⟩, hGf⟩
    · have q0 : ((k8 : Int) == 0) = false := by simp only [beq_eq_false_iff_ne]; omega
      by_cases h81 : k8 = 1
      · subst h81
        go_wp2_with fail
        refine (raw_any g A n c _ _ hs).mono ?_; rintro e u ⟨x, hx, rfl, hs', hg'⟩
        have hC' := hC.grownB hg' (by omega)
        have hZ' := hZ.grownB hg' (by omega)
        have hG' := hG.trans hg'
        clear hs hC hZ hG hg'
        have hs := hs'
        have hC := hC'
        have hZ := hZ'
        have hG := hG'
        clear hs' hC' hZ' hG'
        have c0 := hC.cellAt 0 rfl
        have c1 := hC.cellAt 1 rfl
        have c2 := hC.cellAt 2 rfl
        have c3 := hC.cellAt 3 rfl
        have zf := fun j => hZ.frozen j
        have z0 := hZ.cellAt 0 rfl
        have z1 := hZ.cellAt 1 rfl
        have z2 := hZ.cellAt 2 rfl
        go_wp2
        have hg3 := put3_grown u (gz + 1) (.bool false) (.int .i64 (((fun y : Int => y.tmod 1000000000000000000) (x.tmod 1000)))) (.string ⟨#[]⟩)
        have hsf := hs.grown hg3 (fun k e => by injection e with e; omega)
        have hGf := grown_side hG hg3 (by omega)
        exact bodyPost_ret (v := .agg #[.bool false, .int .i64 (((fun y : Int => y.tmod 1000000000000000000) (x.tmod 1000))), .string ⟨#[]⟩]) (by simp [results, Try.results30, go_sem, z0, z1, z2]) rfl ⟨⟨false, ((fun y : Int => y.tmod 1000000000000000000) (x.tmod 1000)), ⟨#[]⟩⟩, ok_int (by decide) (perm_5 _ (i64_mod hx 1000 (by omega) (by omega))), rfl, ⟨_, hsf⟩, hGf⟩
      · have q1 : ((k8 : Int) == 1) = false := by simp only [beq_eq_false_iff_ne]; omega
        have c0 := hC.cellAt 0 rfl
        have c1 := hC.cellAt 1 rfl
        have c2 := hC.cellAt 2 rfl
        have c3 := hC.cellAt 3 rfl
        have zf := fun j => hZ.frozen j
        have z0 := hZ.cellAt 0 rfl
        have z1 := hZ.cellAt 1 rfl
        have z2 := hZ.cellAt 2 rfl
        go_wp2
        have hg3 := put3_grown u (gz + 1) (.bool false) (.int .i64 (((fun y : Int => y.tmod 1000000000000000000) ((k7 : Int) - 2)))) (.string ⟨#[]⟩)
        have hsf := hs.grown hg3 (fun k e => by injection e with e; omega)
        have hGf := grown_side hG hg3 (by omega)
        exact bodyPost_ret (v := .agg #[.bool false, .int .i64 (((fun y : Int => y.tmod 1000000000000000000) ((k7 : Int) - 2))), .string ⟨#[]⟩]) (by simp [results, Try.results30, go_sem, z0, z1, z2]) rfl ⟨⟨false, ((fun y : Int => y.tmod 1000000000000000000) ((k7 : Int) - 2)), ⟨#[]⟩⟩, ok_int (by decide) (perm_5 _ (by unfold I64; omega)), rfl, ⟨_, hsf⟩, hGf⟩
  · have c0 := hC.cellAt 0 rfl
    have c1 := hC.cellAt 1 rfl
    have c2 := hC.cellAt 2 rfl
    have c3 := hC.cellAt 3 rfl
    have zf := fun j => hZ.frozen j
    have z0 := hZ.cellAt 0 rfl
    have z1 := hZ.cellAt 1 rfl
    have z2 := hZ.cellAt 2 rfl
    go_wp2_with fail
    clear c0 c1 c2 c3 zf z0 z1 z2
    refine (next_any g A n c _ 4 _ hs (by omega) (by omega)).mono ?_; rintro e u ⟨k4, hk4, rfl, hs', hg'⟩
    have hC' := hC.grownB hg' (by omega)
    have hZ' := hZ.grownB hg' (by omega)
    have hG' := hG.trans hg'
    clear hs hC hZ hG hg'
    have hs := hs'
    have hC := hC'
    have hZ := hZ'
    have hG := hG'
    clear hs' hC' hZ' hG'
    by_cases h40 : k4 = 0
    · subst h40
      have c0 := hC.cellAt 0 rfl
      have c1 := hC.cellAt 1 rfl
      have c2 := hC.cellAt 2 rfl
      have c3 := hC.cellAt 3 rfl
      have zf := fun j => hZ.frozen j
      have z0 := hZ.cellAt 0 rfl
      have z1 := hZ.cellAt 1 rfl
      have z2 := hZ.cellAt 2 rfl
      go_wp2
      have hg3 := put3_grown u (gz + 1) (.bool true) (.int .i64 (0)) (.string ⟨#[]⟩)
      have hsf := hs.grown hg3 (fun k e => by injection e with e; omega)
      have hGf := grown_side hG hg3 (by omega)
      exact bodyPost_ret (v := .agg #[.bool true, .int .i64 (0), .string ⟨#[]⟩]) (by simp [results, Try.results30, go_sem, z0, z1, z2]) rfl ⟨⟨true, 0, ⟨#[]⟩⟩, ok_null, rfl, ⟨_, hsf⟩, hGf⟩
    · have q4 : ((k4 : Int) == 0) = false := by simp only [beq_eq_false_iff_ne]; omega
      have c0 := hC.cellAt 0 rfl
      have c1 := hC.cellAt 1 rfl
      have c2 := hC.cellAt 2 rfl
      have c3 := hC.cellAt 3 rfl
      have zf := fun j => hZ.frozen j
      have z0 := hZ.cellAt 0 rfl
      have z1 := hZ.cellAt 1 rfl
      have z2 := hZ.cellAt 2 rfl
      go_wp2_with fail
      clear c0 c1 c2 c3 zf z0 z1 z2
      refine (next_any g A n c _ 7 _ hs (by omega) (by omega)).mono ?_; rintro e u ⟨k7, hk7, rfl, hs', hg'⟩
      have hC' := hC.grownB hg' (by omega)
      have hZ' := hZ.grownB hg' (by omega)
      have hG' := hG.trans hg'
      clear hs hC hZ hG hg'
      have hs := hs'
      have hC := hC'
      have hZ := hZ'
      have hG := hG'
      clear hs' hC' hZ' hG'
      go_wp2_with fail
      refine (next_any g A n c _ 8 _ hs (by omega) (by omega)).mono ?_; rintro e u ⟨k8, hk8, rfl, hs', hg'⟩
      have hC' := hC.grownB hg' (by omega)
      have hZ' := hZ.grownB hg' (by omega)
      have hG' := hG.trans hg'
      clear hs hC hZ hG hg'
      have hs := hs'
      have hC := hC'
      have hZ := hZ'
      have hG := hG'
      clear hs' hC' hZ' hG'
      by_cases h80 : k8 = 0
      · subst h80
        go_wp2_with fail
        refine (raw_any g A n c _ _ hs).mono ?_; rintro e u ⟨x, hx, rfl, hs', hg'⟩
        have hC' := hC.grownB hg' (by omega)
        have hZ' := hZ.grownB hg' (by omega)
        have hG' := hG.trans hg'
        clear hs hC hZ hG hg'
        have hs := hs'
        have hC := hC'
        have hZ := hZ'
        have hG := hG'
        clear hs' hC' hZ' hG'
        have c0 := hC.cellAt 0 rfl
        have c1 := hC.cellAt 1 rfl
        have c2 := hC.cellAt 2 rfl
        have c3 := hC.cellAt 3 rfl
        have zf := fun j => hZ.frozen j
        have z0 := hZ.cellAt 0 rfl
        have z1 := hZ.cellAt 1 rfl
        have z2 := hZ.cellAt 2 rfl
        go_wp2
        have hg3 := put3_grown u (gz + 1) (.bool false) (.int .i64 (((fun y : Int => y.tmod 1000000000000000000) x))) (.string ⟨#[]⟩)
        have hsf := hs.grown hg3 (fun k e => by injection e with e; omega)
        have hGf := grown_side hG hg3 (by omega)
        exact bodyPost_ret (v := .agg #[.bool false, .int .i64 (((fun y : Int => y.tmod 1000000000000000000) x)), .string ⟨#[]⟩]) (by simp [results, Try.results30, go_sem, z0, z1, z2]) rfl ⟨⟨false, ((fun y : Int => y.tmod 1000000000000000000) x), ⟨#[]⟩⟩, ok_int (by decide) (perm_5 _ hx), rfl, ⟨_, hsf⟩, hGf⟩
      · have q0 : ((k8 : Int) == 0) = false := by simp only [beq_eq_false_iff_ne]; omega
        by_cases h81 : k8 = 1
        · subst h81
          go_wp2_with fail
          refine (raw_any g A n c _ _ hs).mono ?_; rintro e u ⟨x, hx, rfl, hs', hg'⟩
          have hC' := hC.grownB hg' (by omega)
          have hZ' := hZ.grownB hg' (by omega)
          have hG' := hG.trans hg'
          clear hs hC hZ hG hg'
          have hs := hs'
          have hC := hC'
          have hZ := hZ'
          have hG := hG'
          clear hs' hC' hZ' hG'
          have c0 := hC.cellAt 0 rfl
          have c1 := hC.cellAt 1 rfl
          have c2 := hC.cellAt 2 rfl
          have c3 := hC.cellAt 3 rfl
          have zf := fun j => hZ.frozen j
          have z0 := hZ.cellAt 0 rfl
          have z1 := hZ.cellAt 1 rfl
          have z2 := hZ.cellAt 2 rfl
          go_wp2
          have hg3 := put3_grown u (gz + 1) (.bool false) (.int .i64 (((fun y : Int => y.tmod 1000000000000000000) (x.tmod 1000)))) (.string ⟨#[]⟩)
          have hsf := hs.grown hg3 (fun k e => by injection e with e; omega)
          have hGf := grown_side hG hg3 (by omega)
          exact bodyPost_ret (v := .agg #[.bool false, .int .i64 (((fun y : Int => y.tmod 1000000000000000000) (x.tmod 1000))), .string ⟨#[]⟩]) (by simp [results, Try.results30, go_sem, z0, z1, z2]) rfl ⟨⟨false, ((fun y : Int => y.tmod 1000000000000000000) (x.tmod 1000)), ⟨#[]⟩⟩, ok_int (by decide) (perm_5 _ (i64_mod hx 1000 (by omega) (by omega))), rfl, ⟨_, hsf⟩, hGf⟩
        · have q1 : ((k8 : Int) == 1) = false := by simp only [beq_eq_false_iff_ne]; omega
          have c0 := hC.cellAt 0 rfl
          have c1 := hC.cellAt 1 rfl
          have c2 := hC.cellAt 2 rfl
          have c3 := hC.cellAt 3 rfl
          have zf := fun j => hZ.frozen j
          have z0 := hZ.cellAt 0 rfl
          have z1 := hZ.cellAt 1 rfl
          have z2 := hZ.cellAt 2 rfl
          go_wp2
          have hg3 := put3_grown u (gz + 1) (.bool false) (.int .i64 (((fun y : Int => y.tmod 1000000000000000000) ((k7 : Int) - 2)))) (.string ⟨#[]⟩)
          have hsf := hs.grown hg3 (fun k e => by injection e with e; omega)
          have hGf := grown_side hG hg3 (by omega)
          exact bodyPost_ret (v := .agg #[.bool false, .int .i64 (((fun y : Int => y.tmod 1000000000000000000) ((k7 : Int) - 2))), .string ⟨#[]⟩]) (by simp [results, Try.results30, go_sem, z0, z1, z2]) rfl ⟨⟨false, ((fun y : Int => y.tmod 1000000000000000000) ((k7 : Int) - 2)), ⟨#[]⟩⟩, ok_int (by decide) (perm_5 _ (by unfold I64; omega)), rfl, ⟨_, hsf⟩, hGf⟩

end Go.Proofs.Ytnichmblekbccaa
