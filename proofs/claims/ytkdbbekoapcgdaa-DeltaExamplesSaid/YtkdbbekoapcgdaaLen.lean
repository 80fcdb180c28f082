/-
  The library's math/bits.Len64 at this translation, by the shelf's contract (laid in plain words by the kit's lay-shelf.mjs and lay-plain.mjs).
-/
import Derived.Shelf.Strconv.Itoa0
import Derived.Test.YtkdbbekoapcgdaaBPlain
namespace Go.Proofs.Ytkdbbekoapcgdaa
open Go.Shelf Go.RowKit
def lays129_ren : Go.Shelf.Ren := ⟨fun | 129 => 46 | n => n, fun | 53 => 38 | 3 => 3 | 4 => 4 | 46 => 51 | 5 => 5 | 9 => 9 | n => n, fun | n => n⟩
theorem lays129 : Go.Proofs.Lays.n129 Try.prog lays129_ren := {
  mixed := by kernel_rfl
  f129 := Try.func46.trans (congrArg some (by kernel_rfl))
  t3 := Try.underlying3
  a3 := Try.isAgg3
  z3 := Try.sizeOf3
  v3 := Try.zeroValue3
  t4 := Try.underlying4
  a4 := Try.isAgg4
  z4 := Try.sizeOf4
  v4 := Try.zeroValue4
  t5 := Try.underlying5
  a5 := Try.isAgg5
  z5 := Try.sizeOf5
  v5 := Try.zeroValue5
  t9 := Try.underlying9
  a9 := Try.isAgg9
  z9 := Try.sizeOf9
  v9 := Try.zeroValue9
  t46 := Try.underlying51
  a46 := Try.isAgg51
  z46 := Try.sizeOf51
  v46 := Try.zeroValue51
  t53 := Try.underlying38
  a53 := Try.isAgg38
  z53 := Try.sizeOf38
  v53 := Try.zeroValue38 }

theorem bitLenAux_eq : ∀ (k v : Nat), v < 2 ^ k → Lib.bitLenAux k v = widthN v
  | 0, v, h => by
    have : v = 0 := by simpa using h
    subst this; rw [widthN_zero]; simp [Lib.bitLenAux]
  | k + 1, v, h => by
    by_cases hv : v = 0
    · subst hv; rw [widthN_zero]; simp [Lib.bitLenAux]
    · rw [widthN_pos hv, ← bitLenAux_eq k (v / 2) (by rw [Nat.pow_succ] at h; omega)]
      simp [Lib.bitLenAux, hv]; omega
theorem len64_any (v : Nat) (w : World) (hv : U64 v) : Calls Try.prog 46 #[.int .u64 (v : Int)] w fun e w' => e = .returned (.int .i64 (widthN v)) ∧ w = w' := by
  have hv' := hv
  unfold U64 at hv'
  refine (Any.bits_Len64 lays129 (v : Int) w (by omega) (by omega)).mono ?_
  rintro e w' ⟨rfl, rfl⟩
  refine ⟨?_, rfl⟩
  rw [Int.toNat_natCast, Lib.bitLen, bitLenAux_eq 64 v (by omega)]

end Go.Proofs.Ytkdbbekoapcgdaa
