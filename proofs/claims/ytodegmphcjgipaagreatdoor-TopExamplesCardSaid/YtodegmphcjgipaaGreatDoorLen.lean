/-
  The library's math/bits.Len64 at this translation, by the shelf's contract (laid in plain words by the kit's lay-shelf.mjs and lay-plain.mjs).
-/
import Derived.Shelf.Strconv.Itoa0
import Derived.Test.YtodegmphcjgipaaGreatDoorBPlain
namespace Go.Proofs.YtodegmphcjgipaaGreatDoor
open Go.Shelf Go.RowKit
def lays129_ren : Go.Shelf.Ren := ⟨fun | 129 => 290 | n => n, fun | 53 => 169 | 3 => 3 | 4 => 4 | 46 => 272 | 5 => 5 | 9 => 9 | n => n, fun | n => n⟩
theorem lays129 : Go.Proofs.Lays.n129 Tryz.prog lays129_ren := {
  mixed := by kernel_rfl
  f129 := Tryz.func290.trans (congrArg some (by kernel_rfl))
  t3 := Tryz.underlying3
  a3 := Tryz.isAgg3
  z3 := Tryz.sizeOf3
  v3 := Tryz.zeroValue3
  t4 := Tryz.underlying4
  a4 := Tryz.isAgg4
  z4 := Tryz.sizeOf4
  v4 := Tryz.zeroValue4
  t5 := Tryz.underlying5
  a5 := Tryz.isAgg5
  z5 := Tryz.sizeOf5
  v5 := Tryz.zeroValue5
  t9 := Tryz.underlying9
  a9 := Tryz.isAgg9
  z9 := Tryz.sizeOf9
  v9 := Tryz.zeroValue9
  t46 := Tryz.underlying272
  a46 := Tryz.isAgg272
  z46 := Tryz.sizeOf272
  v46 := Tryz.zeroValue272
  t53 := Tryz.underlying169
  a53 := Tryz.isAgg169
  z53 := Tryz.sizeOf169
  v53 := Tryz.zeroValue169 }

theorem bitLenAux_eq : ∀ (k v : Nat), v < 2 ^ k → Lib.bitLenAux k v = widthN v
  | 0, v, h => by
    have : v = 0 := by simpa using h
    subst this; rw [widthN_zero]; simp [Lib.bitLenAux]
  | k + 1, v, h => by
    by_cases hv : v = 0
    · subst hv; rw [widthN_zero]; simp [Lib.bitLenAux]
    · rw [widthN_pos hv, ← bitLenAux_eq k (v / 2) (by rw [Nat.pow_succ] at h; omega)]
      simp [Lib.bitLenAux, hv]; omega
theorem len64_any (v : Nat) (w : World) (hv : U64 v) : Calls Tryz.prog 290 #[.int .u64 (v : Int)] w fun e w' => e = .returned (.int .i64 (widthN v)) ∧ w = w' := by
  have hv' := hv
  unfold U64 at hv'
  refine (Any.bits_Len64 lays129 (v : Int) w (by omega) (by omega)).mono ?_
  rintro e w' ⟨rfl, rfl⟩
  refine ⟨?_, rfl⟩
  rw [Int.toNat_natCast, Lib.bitLen, bitLenAux_eq 64 v (by omega)]

end Go.Proofs.YtodegmphcjgipaaGreatDoor
