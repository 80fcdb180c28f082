/-
  No cell of these rows narrows 'for every input' (looked for: loops, veiled, ifaces, maps, wideKeys, modest, calm, conditions, laid).
  DERIVED. THE GIVEN ROWS OF THIS SEAT. 8 by the template 'for every input the law returns true; each argument reads behind the call as it read before'; 0 by the template 'total and deterministic' (their statements: YtgacjpkgpegcdaaTotals.lean).
  GIVEN WITH THE SEED: the statements are not yours to turn. If you find one false, say at which input.
  Laid BY PROGRAM, IN A SANDBOX (cutbox-rows.mjs): the forced cells as the released guide's own fill.sh prints them over the translation 031420510e730ee4… (all of the seat's roots in one cut). By AI agents, Wed Nov 11 2026. No macro, syntax, notation, axiom, sorry.
-/
import Derived.Test.YtgacjpkgpegcdaaChecked
import GoSem.Claim
import GoSem.ClaimJoined
import GoSem.ClaimMapViews
import Derived.JoinedTies
import Derived.KernelRfl
namespace Go.Proofs.Ytgacjpkgpegcdaa
/- THE CELL 'sum', in the pinned program and in every row, IS THE sha256 OF THE DUMP (.gsa) THAT YtgacjpkgpegcdaaProg.lean LOADS. Nothing in Lean hashes anything: it is a label: what it is worth is what the hold of that sum in a sandbox is worth. -/
noncomputable def Try.pinned : Pinned := { name := "ytgacjpkgpegcdaa", sum := "031420510e730ee4f15b5b993e188eb65546290b32bbbc9f3d5b3fd13865d397", checked := Try.checked }
namespace Rows
def none {H : Type} : Left H := { results := [], args := [] }

/-- 'micropartlaw19.ManifestExamples': WHATEVER THE INPUT: true; the input reads as it did. -/
def manifestExamplesSpec : ChangeSpec := { name := "manifestExamples", fn := fun _ => fun
  | [] => { results := [.lit (.bool true)], args := [] }
  | _ => none }
def manifestExamplesRow : OpenClaim := { program := "ytgacjpkgpegcdaa", sum := "031420510e730ee4f15b5b993e188eb65546290b32bbbc9f3d5b3fd13865d397", func := "micropart/micropartlaw19.ManifestExamples", spec := "manifestExamples", inPlace := ["internal/abi.NoEscape"], unfollowed := true, recurses := true, apart := false }
def ManifestExamplesSaid : Prop := manifestExamplesRow.holds Try.pinned (OpenSpec.ofChange manifestExamplesSpec)

/-- ITS FALSE NEIGHBOUR: 'it returns false'. Refute it at one input. -/
def manifestExamplesWrong : ChangeSpec := { name := "manifestExamples", fn := fun _ => fun
  | [] => { results := [.lit (.bool false)], args := [] }
  | _ => none }
def ManifestExamplesWrongFalsely : Prop := manifestExamplesRow.holds Try.pinned (OpenSpec.ofChange manifestExamplesWrong)

/-- 'micropartlaw19.ManifestEntries': WHATEVER THE INPUT: true; the input reads as it did. -/
def manifestEntriesSpec : ChangeSpec := { name := "manifestEntries", fn := fun _ => fun
  | [d1, d2, d3, d4] => { results := [.lit (.bool true)], args := [d1, d2, d3, d4] }
  | _ => none }
def manifestEntriesRow : OpenClaim := { program := "ytgacjpkgpegcdaa", sum := "031420510e730ee4f15b5b993e188eb65546290b32bbbc9f3d5b3fd13865d397", func := "micropart/micropartlaw19.ManifestEntries", spec := "manifestEntries", inPlace := ["internal/abi.NoEscape"], unfollowed := true, recurses := true, apart := false }
def ManifestEntriesSaid : Prop := manifestEntriesRow.holds Try.pinned (OpenSpec.ofChange manifestEntriesSpec)

/-- ITS FALSE NEIGHBOUR: 'it returns false'. Refute it at one input. -/
def manifestEntriesWrong : ChangeSpec := { name := "manifestEntries", fn := fun _ => fun
  | [d1, d2, d3, d4] => { results := [.lit (.bool false)], args := [d1, d2, d3, d4] }
  | _ => none }
def ManifestEntriesWrongFalsely : Prop := manifestEntriesRow.holds Try.pinned (OpenSpec.ofChange manifestEntriesWrong)

/-- 'micropartlaw19.ManifestScans': WHATEVER THE INPUT: true; the input reads as it did. -/
def manifestScansSpec : ChangeSpec := { name := "manifestScans", fn := fun _ => fun
  | [d1, d2, d3, d4] => { results := [.lit (.bool true)], args := [d1, d2, d3, d4] }
  | _ => none }
def manifestScansRow : OpenClaim := { program := "ytgacjpkgpegcdaa", sum := "031420510e730ee4f15b5b993e188eb65546290b32bbbc9f3d5b3fd13865d397", func := "micropart/micropartlaw19.ManifestScans", spec := "manifestScans", inPlace := ["internal/abi.NoEscape"], unfollowed := true, recurses := true, apart := false }
def ManifestScansSaid : Prop := manifestScansRow.holds Try.pinned (OpenSpec.ofChange manifestScansSpec)

/-- ITS FALSE NEIGHBOUR: 'it returns false'. Refute it at one input. -/
def manifestScansWrong : ChangeSpec := { name := "manifestScans", fn := fun _ => fun
  | [d1, d2, d3, d4] => { results := [.lit (.bool false)], args := [d1, d2, d3, d4] }
  | _ => none }
def ManifestScansWrongFalsely : Prop := manifestScansRow.holds Try.pinned (OpenSpec.ofChange manifestScansWrong)

/-- 'micropartlaw19.ManifestSealed': WHATEVER THE INPUT: true; the input reads as it did. -/
def manifestSealedSpec : ChangeSpec := { name := "manifestSealed", fn := fun _ => fun
  | [d1, d2, d3, d4] => { results := [.lit (.bool true)], args := [d1, d2, d3, d4] }
  | _ => none }
def manifestSealedRow : OpenClaim := { program := "ytgacjpkgpegcdaa", sum := "031420510e730ee4f15b5b993e188eb65546290b32bbbc9f3d5b3fd13865d397", func := "micropart/micropartlaw19.ManifestSealed", spec := "manifestSealed", inPlace := ["internal/abi.NoEscape"], unfollowed := true, recurses := true, apart := false }
def ManifestSealedSaid : Prop := manifestSealedRow.holds Try.pinned (OpenSpec.ofChange manifestSealedSpec)

/-- ITS FALSE NEIGHBOUR: 'it returns false'. Refute it at one input. -/
def manifestSealedWrong : ChangeSpec := { name := "manifestSealed", fn := fun _ => fun
  | [d1, d2, d3, d4] => { results := [.lit (.bool false)], args := [d1, d2, d3, d4] }
  | _ => none }
def ManifestSealedWrongFalsely : Prop := manifestSealedRow.holds Try.pinned (OpenSpec.ofChange manifestSealedWrong)

/-- 'micropartlaw19.ManifestTorn': WHATEVER THE INPUT: true; the input reads as it did. -/
def manifestTornSpec : ChangeSpec := { name := "manifestTorn", fn := fun _ => fun
  | [d1, d2] => { results := [.lit (.bool true)], args := [d1, d2] }
  | _ => none }
def manifestTornRow : OpenClaim := { program := "ytgacjpkgpegcdaa", sum := "031420510e730ee4f15b5b993e188eb65546290b32bbbc9f3d5b3fd13865d397", func := "micropart/micropartlaw19.ManifestTorn", spec := "manifestTorn", inPlace := ["internal/abi.NoEscape"], unfollowed := true, recurses := true, apart := false }
def ManifestTornSaid : Prop := manifestTornRow.holds Try.pinned (OpenSpec.ofChange manifestTornSpec)

/-- ITS FALSE NEIGHBOUR: 'it returns false'. Refute it at one input. -/
def manifestTornWrong : ChangeSpec := { name := "manifestTorn", fn := fun _ => fun
  | [d1, d2] => { results := [.lit (.bool false)], args := [d1, d2] }
  | _ => none }
def ManifestTornWrongFalsely : Prop := manifestTornRow.holds Try.pinned (OpenSpec.ofChange manifestTornWrong)

/-- 'micropartlaw19.ManifestChecks': WHATEVER THE INPUT: true; the input reads as it did. -/
def manifestChecksSpec : ChangeSpec := { name := "manifestChecks", fn := fun _ => fun
  | [d1, d2, d3, d4, d5, d6] => { results := [.lit (.bool true)], args := [d1, d2, d3, d4, d5, d6] }
  | _ => none }
def manifestChecksRow : OpenClaim := { program := "ytgacjpkgpegcdaa", sum := "031420510e730ee4f15b5b993e188eb65546290b32bbbc9f3d5b3fd13865d397", func := "micropart/micropartlaw19.ManifestChecks", spec := "manifestChecks", inPlace := ["internal/abi.NoEscape"], unfollowed := true, recurses := true, apart := false }
def ManifestChecksSaid : Prop := manifestChecksRow.holds Try.pinned (OpenSpec.ofChange manifestChecksSpec)

/-- ITS FALSE NEIGHBOUR: 'it returns false'. Refute it at one input. -/
def manifestChecksWrong : ChangeSpec := { name := "manifestChecks", fn := fun _ => fun
  | [d1, d2, d3, d4, d5, d6] => { results := [.lit (.bool false)], args := [d1, d2, d3, d4, d5, d6] }
  | _ => none }
def ManifestChecksWrongFalsely : Prop := manifestChecksRow.holds Try.pinned (OpenSpec.ofChange manifestChecksWrong)

/-- 'micropartlaw19.ManifestRoundTrip': WHATEVER THE INPUT: true; the input reads as it did. -/
def manifestRoundTripSpec : ChangeSpec := { name := "manifestRoundTrip", fn := fun _ => fun
  | [d1, d2, d3] => { results := [.lit (.bool true)], args := [d1, d2, d3] }
  | _ => none }
def manifestRoundTripRow : OpenClaim := { program := "ytgacjpkgpegcdaa", sum := "031420510e730ee4f15b5b993e188eb65546290b32bbbc9f3d5b3fd13865d397", func := "micropart/micropartlaw19.ManifestRoundTrip", spec := "manifestRoundTrip", inPlace := ["internal/abi.NoEscape"], unfollowed := true, recurses := true, apart := false }
def ManifestRoundTripSaid : Prop := manifestRoundTripRow.holds Try.pinned (OpenSpec.ofChange manifestRoundTripSpec)

/-- ITS FALSE NEIGHBOUR: 'it returns false'. Refute it at one input. -/
def manifestRoundTripWrong : ChangeSpec := { name := "manifestRoundTrip", fn := fun _ => fun
  | [d1, d2, d3] => { results := [.lit (.bool false)], args := [d1, d2, d3] }
  | _ => none }
def ManifestRoundTripWrongFalsely : Prop := manifestRoundTripRow.holds Try.pinned (OpenSpec.ofChange manifestRoundTripWrong)

/-- 'micropartlaw19.ManifestBounds': WHATEVER THE INPUT: true; the input reads as it did. -/
def manifestBoundsSpec : ChangeSpec := { name := "manifestBounds", fn := fun _ => fun
  | [d1, d2] => { results := [.lit (.bool true)], args := [d1, d2] }
  | _ => none }
def manifestBoundsRow : OpenClaim := { program := "ytgacjpkgpegcdaa", sum := "031420510e730ee4f15b5b993e188eb65546290b32bbbc9f3d5b3fd13865d397", func := "micropart/micropartlaw19.ManifestBounds", spec := "manifestBounds", inPlace := ["internal/abi.NoEscape"], unfollowed := true, recurses := true, apart := false }
def ManifestBoundsSaid : Prop := manifestBoundsRow.holds Try.pinned (OpenSpec.ofChange manifestBoundsSpec)

/-- ITS FALSE NEIGHBOUR: 'it returns false'. Refute it at one input. -/
def manifestBoundsWrong : ChangeSpec := { name := "manifestBounds", fn := fun _ => fun
  | [d1, d2] => { results := [.lit (.bool false)], args := [d1, d2] }
  | _ => none }
def ManifestBoundsWrongFalsely : Prop := manifestBoundsRow.holds Try.pinned (OpenSpec.ofChange manifestBoundsWrong)

/- THE SECOND FORM. 'bulk': how many values and letters a reading holds, each counted each time it is reached (what is shared counts as often as it is met; a slice's spare places count too). A statement '..UptoSaid' is the law's where the arguments, and the package variables that the reading takes, are together of bulk at most 1048576: NARROWER than '..Said'. Prove '..Said' where nothing that the law and all that it calls make is longer than what came in: it says more and counts as full. Else prove '..UptoSaid'. A law counts once. -/
mutual
def uptoBulk {H : Type} : DataW H → Nat
  | .lit (.string bytes) => bytes.length + 1
  | .lit _ => 1
  | .nil => 1
  | .ptr d => uptoBulk d + 1
  | .slice elems spare => uptoBulkAll elems + uptoBulkAll spare + 1
  | .agg parts => uptoBulkAll parts + 1
  | .iface _ d => uptoBulk d + 1
  | .map entries => uptoBulkEntries entries + 1
  | .held _ => 1
def uptoBulkAll {H : Type} : List (DataW H) → Nat
  | [] => 0
  | d :: r => uptoBulk d + uptoBulkAll r
def uptoBulkEntries {H : Type} : List (Lit × DataW H) → Nat
  | [] => 0
  | x :: r => uptoBulkEntry x + uptoBulkEntries r
def uptoBulkEntry {H : Type} : Lit × DataW H → Nat
  | (.string bytes, d) => bytes.length + uptoBulk d + 1
  | (_, d) => uptoBulk d + 1
 end
def uptoSmall : (H : Type) → List (DataW H) → Bool := fun _ ds => decide (uptoBulkAll ds ≤ 1048576)
def OpenSpec.upto (s : _root_.Go.ChangeSpec) : _root_.Go.OpenSpec := { _root_.Go.OpenSpec.ofChange s with cond := some uptoSmall }

/-- 'micropartlaw19.ManifestExamples', WHERE WHAT IT READS IS OF BULK AT MOST 1048576: true; the input reads as it did. -/
def manifestExamplesUptoRow : OpenClaim := { program := "ytgacjpkgpegcdaa", sum := "031420510e730ee4f15b5b993e188eb65546290b32bbbc9f3d5b3fd13865d397", func := "micropart/micropartlaw19.ManifestExamples", spec := "manifestExamples", inPlace := ["internal/abi.NoEscape"], unfollowed := true, recurses := true, apart := false, narrowed := true }
def ManifestExamplesUptoSaid : Prop := manifestExamplesUptoRow.holds Try.pinned (OpenSpec.upto manifestExamplesSpec)

/-- 'micropartlaw19.ManifestEntries', WHERE WHAT IT READS IS OF BULK AT MOST 1048576: true; the input reads as it did. -/
def manifestEntriesUptoRow : OpenClaim := { program := "ytgacjpkgpegcdaa", sum := "031420510e730ee4f15b5b993e188eb65546290b32bbbc9f3d5b3fd13865d397", func := "micropart/micropartlaw19.ManifestEntries", spec := "manifestEntries", inPlace := ["internal/abi.NoEscape"], unfollowed := true, recurses := true, apart := false, narrowed := true }
def ManifestEntriesUptoSaid : Prop := manifestEntriesUptoRow.holds Try.pinned (OpenSpec.upto manifestEntriesSpec)

/-- 'micropartlaw19.ManifestScans', WHERE WHAT IT READS IS OF BULK AT MOST 1048576: true; the input reads as it did. -/
def manifestScansUptoRow : OpenClaim := { program := "ytgacjpkgpegcdaa", sum := "031420510e730ee4f15b5b993e188eb65546290b32bbbc9f3d5b3fd13865d397", func := "micropart/micropartlaw19.ManifestScans", spec := "manifestScans", inPlace := ["internal/abi.NoEscape"], unfollowed := true, recurses := true, apart := false, narrowed := true }
def ManifestScansUptoSaid : Prop := manifestScansUptoRow.holds Try.pinned (OpenSpec.upto manifestScansSpec)

/-- 'micropartlaw19.ManifestSealed', WHERE WHAT IT READS IS OF BULK AT MOST 1048576: true; the input reads as it did. -/
def manifestSealedUptoRow : OpenClaim := { program := "ytgacjpkgpegcdaa", sum := "031420510e730ee4f15b5b993e188eb65546290b32bbbc9f3d5b3fd13865d397", func := "micropart/micropartlaw19.ManifestSealed", spec := "manifestSealed", inPlace := ["internal/abi.NoEscape"], unfollowed := true, recurses := true, apart := false, narrowed := true }
def ManifestSealedUptoSaid : Prop := manifestSealedUptoRow.holds Try.pinned (OpenSpec.upto manifestSealedSpec)

/-- 'micropartlaw19.ManifestTorn', WHERE WHAT IT READS IS OF BULK AT MOST 1048576: true; the input reads as it did. -/
def manifestTornUptoRow : OpenClaim := { program := "ytgacjpkgpegcdaa", sum := "031420510e730ee4f15b5b993e188eb65546290b32bbbc9f3d5b3fd13865d397", func := "micropart/micropartlaw19.ManifestTorn", spec := "manifestTorn", inPlace := ["internal/abi.NoEscape"], unfollowed := true, recurses := true, apart := false, narrowed := true }
def ManifestTornUptoSaid : Prop := manifestTornUptoRow.holds Try.pinned (OpenSpec.upto manifestTornSpec)

/-- 'micropartlaw19.ManifestChecks', WHERE WHAT IT READS IS OF BULK AT MOST 1048576: true; the input reads as it did. -/
def manifestChecksUptoRow : OpenClaim := { program := "ytgacjpkgpegcdaa", sum := "031420510e730ee4f15b5b993e188eb65546290b32bbbc9f3d5b3fd13865d397", func := "micropart/micropartlaw19.ManifestChecks", spec := "manifestChecks", inPlace := ["internal/abi.NoEscape"], unfollowed := true, recurses := true, apart := false, narrowed := true }
def ManifestChecksUptoSaid : Prop := manifestChecksUptoRow.holds Try.pinned (OpenSpec.upto manifestChecksSpec)

/-- 'micropartlaw19.ManifestRoundTrip', WHERE WHAT IT READS IS OF BULK AT MOST 1048576: true; the input reads as it did. -/
def manifestRoundTripUptoRow : OpenClaim := { program := "ytgacjpkgpegcdaa", sum := "031420510e730ee4f15b5b993e188eb65546290b32bbbc9f3d5b3fd13865d397", func := "micropart/micropartlaw19.ManifestRoundTrip", spec := "manifestRoundTrip", inPlace := ["internal/abi.NoEscape"], unfollowed := true, recurses := true, apart := false, narrowed := true }
def ManifestRoundTripUptoSaid : Prop := manifestRoundTripUptoRow.holds Try.pinned (OpenSpec.upto manifestRoundTripSpec)

/-- 'micropartlaw19.ManifestBounds', WHERE WHAT IT READS IS OF BULK AT MOST 1048576: true; the input reads as it did. -/
def manifestBoundsUptoRow : OpenClaim := { program := "ytgacjpkgpegcdaa", sum := "031420510e730ee4f15b5b993e188eb65546290b32bbbc9f3d5b3fd13865d397", func := "micropart/micropartlaw19.ManifestBounds", spec := "manifestBounds", inPlace := ["internal/abi.NoEscape"], unfollowed := true, recurses := true, apart := false, narrowed := true }
def ManifestBoundsUptoSaid : Prop := manifestBoundsUptoRow.holds Try.pinned (OpenSpec.upto manifestBoundsSpec)

end Rows
end Go.Proofs.Ytgacjpkgpegcdaa
