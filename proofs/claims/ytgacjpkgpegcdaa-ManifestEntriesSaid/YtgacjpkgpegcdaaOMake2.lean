/-
  The makers of lists of ranks and ranges.
-/
import Derived.Test.YtgacjpkgpegcdaaOMake
import Derived.Test.YtgacjpkgpegcdaaOList
namespace Go.Proofs.Ytgacjpkgpegcdaa
open Go.RowKit

abbrev zeroRk : Value := .agg #[.bool false, .int .i64 0, .string ⟨#[]⟩, .int .i64 0]
abbrev zeroRg : Value := .agg #[.bool false, .int .i64 0, .string ⟨#[]⟩, .int .i64 0, .bool false, .int .i64 0, .string ⟨#[]⟩, .int .i64 0]
theorem infoRk : (Try.prog.info? 38).map (fun i => (i.zero, i.size, i.bytes)) = some (some zeroRk, 4, 40) := by kernel_rfl
theorem rks : SlTy Try.prog 73 38 zeroRk 4 40 := ⟨Try.underlying73, info_parts infoRk⟩
theorem infoRg : (Try.prog.info? 87).map (fun i => (i.zero, i.size, i.bytes)) = some (some zeroRg, 8, 80) := by kernel_rfl
theorem rgs : SlTy Try.prog 84 87 zeroRg 8 80 := ⟨Try.underlying84, info_parts infoRg⟩
theorem one_rk (p : Rk) : ∀ u ∈ (rankC p).toArray.toList, u.oneCell' = true := by
  intro u hu; simp [rankC] at hu; rcases hu with rfl | rfl | rfl | rfl <;> rfl
theorem one_rg (p : Rg) : ∀ u ∈ (rangeC p).toArray.toList, u.oneCell' = true := by
  intro u hu; simp [rangeC, rankC] at hu; rcases hu with rfl | rfl | rfl | rfl | rfl | rfl | rfl | rfl <;> rfl


end Go.Proofs.Ytgacjpkgpegcdaa
