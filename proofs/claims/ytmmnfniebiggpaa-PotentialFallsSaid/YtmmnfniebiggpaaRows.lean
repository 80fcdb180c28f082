/-
  No cell of these rows narrows 'for every input' (looked for: loops, veiled, ifaces, maps, wideKeys, modest, calm, conditions, laid).
  DERIVED. THE GIVEN ROWS OF THIS SEAT. 7 by the template 'for every input the law returns true; each argument reads behind the call as it read before'; 0 by the template 'total and deterministic' (their statements: YtmmnfniebiggpaaTotals.lean).
  GIVEN WITH THE SEED: the statements are not yours to turn. If you find one false, say at which input.
  Laid BY PROGRAM, IN A SANDBOX (cutbox-rows.mjs): the forced cells as the released guide's own fill.sh prints them over the translation 240284dfea62d7aa… (all of the seat's roots in one cut). By AI agents, Wed Nov 11 2026. No macro, syntax, notation, axiom, sorry.
-/
import Derived.Test.YtmmnfniebiggpaaChecked
import GoSem.Claim
import GoSem.ClaimJoined
import GoSem.ClaimMapViews
import Derived.JoinedTies
import Derived.KernelRfl
namespace Go.Proofs.Ytmmnfniebiggpaa
/- THE CELL 'sum', in the pinned program and in every row, IS THE sha256 OF THE DUMP (.gsa) THAT YtmmnfniebiggpaaProg.lean LOADS. Nothing in Lean hashes anything: it is a label: what it is worth is what the hold of that sum in a sandbox is worth. -/
noncomputable def Try.pinned : Pinned := { name := "ytmmnfniebiggpaa", sum := "240284dfea62d7aa3682376af5bde19b3db0d2eff8239b5c51a4a794db328b80", checked := Try.checked }
namespace Rows
def none {H : Type} : Left H := { results := [], args := [] }

/-- 'micropartlaw30.PotentialTicks': WHATEVER THE INPUT: true; the input reads as it did. -/
def potentialTicksSpec : ChangeSpec := { name := "potentialTicks", fn := fun _ => fun
  | [d1, d2, d3, d4, d5] => { results := [.lit (.bool true)], args := [d1, d2, d3, d4, d5] }
  | _ => none }
def potentialTicksRow : OpenClaim := { program := "ytmmnfniebiggpaa", sum := "240284dfea62d7aa3682376af5bde19b3db0d2eff8239b5c51a4a794db328b80", func := "micropart/micropartlaw30.PotentialTicks", spec := "potentialTicks", apart := false }
def PotentialTicksSaid : Prop := potentialTicksRow.holds Try.pinned (OpenSpec.ofChange potentialTicksSpec)

/-- ITS FALSE NEIGHBOUR: 'it returns false'. Refute it at one input. -/
def potentialTicksWrong : ChangeSpec := { name := "potentialTicks", fn := fun _ => fun
  | [d1, d2, d3, d4, d5] => { results := [.lit (.bool false)], args := [d1, d2, d3, d4, d5] }
  | _ => none }
def PotentialTicksWrongFalsely : Prop := potentialTicksRow.holds Try.pinned (OpenSpec.ofChange potentialTicksWrong)

/-- 'micropartlaw30.PotentialBounds': WHATEVER THE INPUT: true; the input reads as it did. -/
def potentialBoundsSpec : ChangeSpec := { name := "potentialBounds", fn := fun _ => fun
  | [d1, d2] => { results := [.lit (.bool true)], args := [d1, d2] }
  | _ => none }
def potentialBoundsRow : OpenClaim := { program := "ytmmnfniebiggpaa", sum := "240284dfea62d7aa3682376af5bde19b3db0d2eff8239b5c51a4a794db328b80", func := "micropart/micropartlaw30.PotentialBounds", spec := "potentialBounds", apart := false }
def PotentialBoundsSaid : Prop := potentialBoundsRow.holds Try.pinned (OpenSpec.ofChange potentialBoundsSpec)

/-- ITS FALSE NEIGHBOUR: 'it returns false'. Refute it at one input. -/
def potentialBoundsWrong : ChangeSpec := { name := "potentialBounds", fn := fun _ => fun
  | [d1, d2] => { results := [.lit (.bool false)], args := [d1, d2] }
  | _ => none }
def PotentialBoundsWrongFalsely : Prop := potentialBoundsRow.holds Try.pinned (OpenSpec.ofChange potentialBoundsWrong)

/-- 'micropartlaw30.PotentialIsSumOfStabs': WHATEVER THE INPUT: true; the input reads as it did. -/
def potentialIsSumOfStabsSpec : ChangeSpec := { name := "potentialIsSumOfStabs", fn := fun _ => fun
  | [d1, d2] => { results := [.lit (.bool true)], args := [d1, d2] }
  | _ => none }
def potentialIsSumOfStabsRow : OpenClaim := { program := "ytmmnfniebiggpaa", sum := "240284dfea62d7aa3682376af5bde19b3db0d2eff8239b5c51a4a794db328b80", func := "micropart/micropartlaw30.PotentialIsSumOfStabs", spec := "potentialIsSumOfStabs", apart := false }
def PotentialIsSumOfStabsSaid : Prop := potentialIsSumOfStabsRow.holds Try.pinned (OpenSpec.ofChange potentialIsSumOfStabsSpec)

/-- ITS FALSE NEIGHBOUR: 'it returns false'. Refute it at one input. -/
def potentialIsSumOfStabsWrong : ChangeSpec := { name := "potentialIsSumOfStabs", fn := fun _ => fun
  | [d1, d2] => { results := [.lit (.bool false)], args := [d1, d2] }
  | _ => none }
def PotentialIsSumOfStabsWrongFalsely : Prop := potentialIsSumOfStabsRow.holds Try.pinned (OpenSpec.ofChange potentialIsSumOfStabsWrong)

/-- 'micropartlaw30.PotentialFalls': WHATEVER THE INPUT: true; the input reads as it did. -/
def potentialFallsSpec : ChangeSpec := { name := "potentialFalls", fn := fun _ => fun
  | [d1, d2, d3, d4] => { results := [.lit (.bool true)], args := [d1, d2, d3, d4] }
  | _ => none }
def potentialFallsRow : OpenClaim := { program := "ytmmnfniebiggpaa", sum := "240284dfea62d7aa3682376af5bde19b3db0d2eff8239b5c51a4a794db328b80", func := "micropart/micropartlaw30.PotentialFalls", spec := "potentialFalls", apart := false }
def PotentialFallsSaid : Prop := potentialFallsRow.holds Try.pinned (OpenSpec.ofChange potentialFallsSpec)

/-- ITS FALSE NEIGHBOUR: 'it returns false'. Refute it at one input. -/
def potentialFallsWrong : ChangeSpec := { name := "potentialFalls", fn := fun _ => fun
  | [d1, d2, d3, d4] => { results := [.lit (.bool false)], args := [d1, d2, d3, d4] }
  | _ => none }
def PotentialFallsWrongFalsely : Prop := potentialFallsRow.holds Try.pinned (OpenSpec.ofChange potentialFallsWrong)

/-- 'micropartlaw30.PotentialExamples': WHATEVER THE INPUT: true; the input reads as it did. -/
def potentialExamplesSpec : ChangeSpec := { name := "potentialExamples", fn := fun _ => fun
  | [] => { results := [.lit (.bool true)], args := [] }
  | _ => none }
def potentialExamplesRow : OpenClaim := { program := "ytmmnfniebiggpaa", sum := "240284dfea62d7aa3682376af5bde19b3db0d2eff8239b5c51a4a794db328b80", func := "micropart/micropartlaw30.PotentialExamples", spec := "potentialExamples", unfollowed := true, recurses := true, apart := false }
def PotentialExamplesSaid : Prop := potentialExamplesRow.holds Try.pinned (OpenSpec.ofChange potentialExamplesSpec)

/-- ITS FALSE NEIGHBOUR: 'it returns false'. Refute it at one input. -/
def potentialExamplesWrong : ChangeSpec := { name := "potentialExamples", fn := fun _ => fun
  | [] => { results := [.lit (.bool false)], args := [] }
  | _ => none }
def PotentialExamplesWrongFalsely : Prop := potentialExamplesRow.holds Try.pinned (OpenSpec.ofChange potentialExamplesWrong)

/-- 'micropartlaw30.PotentialValues': WHATEVER THE INPUT: true; the input reads as it did. -/
def potentialValuesSpec : ChangeSpec := { name := "potentialValues", fn := fun _ => fun
  | [d1, d2, d3, d4, d5, d6] => { results := [.lit (.bool true)], args := [d1, d2, d3, d4, d5, d6] }
  | _ => none }
def potentialValuesRow : OpenClaim := { program := "ytmmnfniebiggpaa", sum := "240284dfea62d7aa3682376af5bde19b3db0d2eff8239b5c51a4a794db328b80", func := "micropart/micropartlaw30.PotentialValues", spec := "potentialValues", unfollowed := true, recurses := true, apart := false }
def PotentialValuesSaid : Prop := potentialValuesRow.holds Try.pinned (OpenSpec.ofChange potentialValuesSpec)

/-- ITS FALSE NEIGHBOUR: 'it returns false'. Refute it at one input. -/
def potentialValuesWrong : ChangeSpec := { name := "potentialValues", fn := fun _ => fun
  | [d1, d2, d3, d4, d5, d6] => { results := [.lit (.bool false)], args := [d1, d2, d3, d4, d5, d6] }
  | _ => none }
def PotentialValuesWrongFalsely : Prop := potentialValuesRow.holds Try.pinned (OpenSpec.ofChange potentialValuesWrong)

/-- 'micropartlaw30.PotentialHull': WHATEVER THE INPUT: true; the input reads as it did. -/
def potentialHullSpec : ChangeSpec := { name := "potentialHull", fn := fun _ => fun
  | [d] => { results := [.lit (.bool true)], args := [d] }
  | _ => none }
def potentialHullRow : OpenClaim := { program := "ytmmnfniebiggpaa", sum := "240284dfea62d7aa3682376af5bde19b3db0d2eff8239b5c51a4a794db328b80", func := "micropart/micropartlaw30.PotentialHull", spec := "potentialHull", unfollowed := true, recurses := true, apart := false }
def PotentialHullSaid : Prop := potentialHullRow.holds Try.pinned (OpenSpec.ofChange potentialHullSpec)

/-- ITS FALSE NEIGHBOUR: 'it returns false'. Refute it at one input. -/
def potentialHullWrong : ChangeSpec := { name := "potentialHull", fn := fun _ => fun
  | [d] => { results := [.lit (.bool false)], args := [d] }
  | _ => none }
def PotentialHullWrongFalsely : Prop := potentialHullRow.holds Try.pinned (OpenSpec.ofChange potentialHullWrong)

/- THE SECOND FORM. 'bulk': how many values and letters a reading holds, each counted each time it is reached (what is shared counts as often as it is met; a slice's spare places count too). A statement '..UptoSaid' is the law's where the arguments, and the package variables that the reading takes, are together of bulk at most 1048576: NARROWER than '..Said'. Prove '..Said' where nothing that the law and all that it calls make is longer than what came in: it says more and counts as full. Else prove '..UptoSaid'. A law counts once. -/
mutual
def uptoBulk {H : Type} : DataW H → Nat
  | .lit (.string bytes) => bytes.length + 1
  | .lit _ => 1
  | .nil => 1
  | .ptr d => uptoBulk d + 1
  | .slice elems spare => uptoBulkAll elems + uptoBulkAll spare + 1
  | .agg parts => uptoBulkAll parts + 1
  | .iface _ d => uptoBulk d + 1
  | .map entries => uptoBulkEntries entries + 1
  | .held _ => 1
def uptoBulkAll {H : Type} : List (DataW H) → Nat
  | [] => 0
  | d :: r => uptoBulk d + uptoBulkAll r
def uptoBulkEntries {H : Type} : List (Lit × DataW H) → Nat
  | [] => 0
  | x :: r => uptoBulkEntry x + uptoBulkEntries r
def uptoBulkEntry {H : Type} : Lit × DataW H → Nat
  | (.string bytes, d) => bytes.length + uptoBulk d + 1
  | (_, d) => uptoBulk d + 1
 end
def uptoSmall : (H : Type) → List (DataW H) → Bool := fun _ ds => decide (uptoBulkAll ds ≤ 1048576)
def OpenSpec.upto (s : _root_.Go.ChangeSpec) : _root_.Go.OpenSpec := { _root_.Go.OpenSpec.ofChange s with cond := some uptoSmall }

/-- 'micropartlaw30.PotentialTicks', WHERE WHAT IT READS IS OF BULK AT MOST 1048576: true; the input reads as it did. -/
def potentialTicksUptoRow : OpenClaim := { program := "ytmmnfniebiggpaa", sum := "240284dfea62d7aa3682376af5bde19b3db0d2eff8239b5c51a4a794db328b80", func := "micropart/micropartlaw30.PotentialTicks", spec := "potentialTicks", apart := false, narrowed := true }
def PotentialTicksUptoSaid : Prop := potentialTicksUptoRow.holds Try.pinned (OpenSpec.upto potentialTicksSpec)

/-- 'micropartlaw30.PotentialBounds', WHERE WHAT IT READS IS OF BULK AT MOST 1048576: true; the input reads as it did. -/
def potentialBoundsUptoRow : OpenClaim := { program := "ytmmnfniebiggpaa", sum := "240284dfea62d7aa3682376af5bde19b3db0d2eff8239b5c51a4a794db328b80", func := "micropart/micropartlaw30.PotentialBounds", spec := "potentialBounds", apart := false, narrowed := true }
def PotentialBoundsUptoSaid : Prop := potentialBoundsUptoRow.holds Try.pinned (OpenSpec.upto potentialBoundsSpec)

/-- 'micropartlaw30.PotentialIsSumOfStabs', WHERE WHAT IT READS IS OF BULK AT MOST 1048576: true; the input reads as it did. -/
def potentialIsSumOfStabsUptoRow : OpenClaim := { program := "ytmmnfniebiggpaa", sum := "240284dfea62d7aa3682376af5bde19b3db0d2eff8239b5c51a4a794db328b80", func := "micropart/micropartlaw30.PotentialIsSumOfStabs", spec := "potentialIsSumOfStabs", apart := false, narrowed := true }
def PotentialIsSumOfStabsUptoSaid : Prop := potentialIsSumOfStabsUptoRow.holds Try.pinned (OpenSpec.upto potentialIsSumOfStabsSpec)

/-- 'micropartlaw30.PotentialFalls', WHERE WHAT IT READS IS OF BULK AT MOST 1048576: true; the input reads as it did. -/
def potentialFallsUptoRow : OpenClaim := { program := "ytmmnfniebiggpaa", sum := "240284dfea62d7aa3682376af5bde19b3db0d2eff8239b5c51a4a794db328b80", func := "micropart/micropartlaw30.PotentialFalls", spec := "potentialFalls", apart := false, narrowed := true }
def PotentialFallsUptoSaid : Prop := potentialFallsUptoRow.holds Try.pinned (OpenSpec.upto potentialFallsSpec)

/-- 'micropartlaw30.PotentialExamples', WHERE WHAT IT READS IS OF BULK AT MOST 1048576: true; the input reads as it did. -/
def potentialExamplesUptoRow : OpenClaim := { program := "ytmmnfniebiggpaa", sum := "240284dfea62d7aa3682376af5bde19b3db0d2eff8239b5c51a4a794db328b80", func := "micropart/micropartlaw30.PotentialExamples", spec := "potentialExamples", unfollowed := true, recurses := true, apart := false, narrowed := true }
def PotentialExamplesUptoSaid : Prop := potentialExamplesUptoRow.holds Try.pinned (OpenSpec.upto potentialExamplesSpec)

/-- 'micropartlaw30.PotentialValues', WHERE WHAT IT READS IS OF BULK AT MOST 1048576: true; the input reads as it did. -/
def potentialValuesUptoRow : OpenClaim := { program := "ytmmnfniebiggpaa", sum := "240284dfea62d7aa3682376af5bde19b3db0d2eff8239b5c51a4a794db328b80", func := "micropart/micropartlaw30.PotentialValues", spec := "potentialValues", unfollowed := true, recurses := true, apart := false, narrowed := true }
def PotentialValuesUptoSaid : Prop := potentialValuesUptoRow.holds Try.pinned (OpenSpec.upto potentialValuesSpec)

/-- 'micropartlaw30.PotentialHull', WHERE WHAT IT READS IS OF BULK AT MOST 1048576: true; the input reads as it did. -/
def potentialHullUptoRow : OpenClaim := { program := "ytmmnfniebiggpaa", sum := "240284dfea62d7aa3682376af5bde19b3db0d2eff8239b5c51a4a794db328b80", func := "micropart/micropartlaw30.PotentialHull", spec := "potentialHull", unfollowed := true, recurses := true, apart := false, narrowed := true }
def PotentialHullUptoSaid : Prop := potentialHullUptoRow.holds Try.pinned (OpenSpec.upto potentialHullSpec)

end Rows
end Go.Proofs.Ytmmnfniebiggpaa
