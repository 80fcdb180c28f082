/-
  The makers of lists of ranks and ranges.
-/
import Derived.Test.YteknnphjkldehaaOMake
import Derived.Test.YteknnphjkldehaaOList
namespace Go.Proofs.Yteknnphjkldehaa
open Go.RowKit

abbrev zeroRk : Value := .agg #[.bool false, .int .i64 0, .string ⟨#[]⟩, .int .i64 0]
abbrev zeroRg : Value := .agg #[.bool false, .int .i64 0, .string ⟨#[]⟩, .int .i64 0, .bool false, .int .i64 0, .string ⟨#[]⟩, .int .i64 0]
theorem infoRk : (Try.prog.info? 33).map (fun i => (i.zero, i.size, i.bytes)) = some (some zeroRk, 4, 40) := by kernel_rfl
theorem infoRg : (Try.prog.info? 37).map (fun i => (i.zero, i.size, i.bytes)) = some (some zeroRg, 8, 80) := by kernel_rfl
theorem rgs : SlTy Try.prog 23 37 zeroRg 8 80 := ⟨Try.underlying23, info_parts infoRg⟩
theorem one_rk (p : Rk) : ∀ u ∈ (rankC p).toArray.toList, u.oneCell' = true := by
  intro u hu; simp [rankC] at hu; rcases hu with rfl | rfl | rfl | rfl <;> rfl
theorem one_rg (p : Rg) : ∀ u ∈ (rangeC p).toArray.toList, u.oneCell' = true := by
  intro u hu; simp [rangeC, rankC] at hu; rcases hu with rfl | rfl | rfl | rfl | rfl | rfl | rfl | rfl <;> rfl


end Go.Proofs.Yteknnphjkldehaa
