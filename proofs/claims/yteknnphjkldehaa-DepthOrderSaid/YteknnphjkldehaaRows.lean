/-
  No cell of these rows narrows 'for every input' (looked for: loops, veiled, ifaces, maps, wideKeys, modest, calm, conditions, laid).
  DERIVED. THE GIVEN ROWS OF THIS SEAT. 8 by the template 'for every input the law returns true; each argument reads behind the call as it read before'; 0 by the template 'total and deterministic' (their statements: YteknnphjkldehaaTotals.lean).
  GIVEN WITH THE SEED: the statements are not yours to turn. If you find one false, say at which input.
  Laid BY PROGRAM, IN A SANDBOX (cutbox-rows.mjs): the forced cells as the released guide's own fill.sh prints them over the translation 820bc19a6337e3af… (all of the seat's roots in one cut). By AI agents, Wed Nov 11 2026. No macro, syntax, notation, axiom, sorry.
-/
import Derived.Test.YteknnphjkldehaaChecked
import GoSem.Claim
import GoSem.ClaimJoined
import GoSem.ClaimMapViews
import Derived.JoinedTies
import Derived.KernelRfl
namespace Go.Proofs.Yteknnphjkldehaa
/- THE CELL 'sum', in the pinned program and in every row, IS THE sha256 OF THE DUMP (.gsa) THAT YteknnphjkldehaaProg.lean LOADS. Nothing in Lean hashes anything: it is a label: what it is worth is what the hold of that sum in a sandbox is worth. -/
noncomputable def Try.pinned : Pinned := { name := "yteknnphjkldehaa", sum := "820bc19a6337e3af57285a932f2f5cfe9d1cb541f0d22b2f0ae86baf86cbfe48", checked := Try.checked }
namespace Rows
def none {H : Type} : Left H := { results := [], args := [] }

/-- 'micropartlaw27.DepthDisjoint': WHATEVER THE INPUT: true; the input reads as it did. -/
def depthDisjointSpec : ChangeSpec := { name := "depthDisjoint", fn := fun _ => fun
  | [d] => { results := [.lit (.bool true)], args := [d] }
  | _ => none }
def depthDisjointRow : OpenClaim := { program := "yteknnphjkldehaa", sum := "820bc19a6337e3af57285a932f2f5cfe9d1cb541f0d22b2f0ae86baf86cbfe48", func := "micropart/micropartlaw27.DepthDisjoint", spec := "depthDisjoint", unfollowed := true, recurses := true, apart := false }
def DepthDisjointSaid : Prop := depthDisjointRow.holds Try.pinned (OpenSpec.ofChange depthDisjointSpec)

/-- ITS FALSE NEIGHBOUR: 'it returns false'. Refute it at one input. -/
def depthDisjointWrong : ChangeSpec := { name := "depthDisjoint", fn := fun _ => fun
  | [d] => { results := [.lit (.bool false)], args := [d] }
  | _ => none }
def DepthDisjointWrongFalsely : Prop := depthDisjointRow.holds Try.pinned (OpenSpec.ofChange depthDisjointWrong)

/-- 'micropartlaw27.DepthMore': WHATEVER THE INPUT: true; the input reads as it did. -/
def depthMoreSpec : ChangeSpec := { name := "depthMore", fn := fun _ => fun
  | [d1, d2] => { results := [.lit (.bool true)], args := [d1, d2] }
  | _ => none }
def depthMoreRow : OpenClaim := { program := "yteknnphjkldehaa", sum := "820bc19a6337e3af57285a932f2f5cfe9d1cb541f0d22b2f0ae86baf86cbfe48", func := "micropart/micropartlaw27.DepthMore", spec := "depthMore", unfollowed := true, recurses := true, apart := false }
def DepthMoreSaid : Prop := depthMoreRow.holds Try.pinned (OpenSpec.ofChange depthMoreSpec)

/-- ITS FALSE NEIGHBOUR: 'it returns false'. Refute it at one input. -/
def depthMoreWrong : ChangeSpec := { name := "depthMore", fn := fun _ => fun
  | [d1, d2] => { results := [.lit (.bool false)], args := [d1, d2] }
  | _ => none }
def DepthMoreWrongFalsely : Prop := depthMoreRow.holds Try.pinned (OpenSpec.ofChange depthMoreWrong)

/-- 'micropartlaw27.DepthPeakIsLeast': WHATEVER THE INPUT: true; the input reads as it did. -/
def depthPeakIsLeastSpec : ChangeSpec := { name := "depthPeakIsLeast", fn := fun _ => fun
  | [d] => { results := [.lit (.bool true)], args := [d] }
  | _ => none }
def depthPeakIsLeastRow : OpenClaim := { program := "yteknnphjkldehaa", sum := "820bc19a6337e3af57285a932f2f5cfe9d1cb541f0d22b2f0ae86baf86cbfe48", func := "micropart/micropartlaw27.DepthPeakIsLeast", spec := "depthPeakIsLeast", unfollowed := true, recurses := true, apart := false }
def DepthPeakIsLeastSaid : Prop := depthPeakIsLeastRow.holds Try.pinned (OpenSpec.ofChange depthPeakIsLeastSpec)

/-- ITS FALSE NEIGHBOUR: 'it returns false'. Refute it at one input. -/
def depthPeakIsLeastWrong : ChangeSpec := { name := "depthPeakIsLeast", fn := fun _ => fun
  | [d] => { results := [.lit (.bool false)], args := [d] }
  | _ => none }
def DepthPeakIsLeastWrongFalsely : Prop := depthPeakIsLeastRow.holds Try.pinned (OpenSpec.ofChange depthPeakIsLeastWrong)

/-- 'micropartlaw27.DepthOrder': WHATEVER THE INPUT: true; the input reads as it did. -/
def depthOrderSpec : ChangeSpec := { name := "depthOrder", fn := fun _ => fun
  | [d1, d2] => { results := [.lit (.bool true)], args := [d1, d2] }
  | _ => none }
def depthOrderRow : OpenClaim := { program := "yteknnphjkldehaa", sum := "820bc19a6337e3af57285a932f2f5cfe9d1cb541f0d22b2f0ae86baf86cbfe48", func := "micropart/micropartlaw27.DepthOrder", spec := "depthOrder", unfollowed := true, recurses := true, apart := false }
def DepthOrderSaid : Prop := depthOrderRow.holds Try.pinned (OpenSpec.ofChange depthOrderSpec)

/-- ITS FALSE NEIGHBOUR: 'it returns false'. Refute it at one input. -/
def depthOrderWrong : ChangeSpec := { name := "depthOrder", fn := fun _ => fun
  | [d1, d2] => { results := [.lit (.bool false)], args := [d1, d2] }
  | _ => none }
def DepthOrderWrongFalsely : Prop := depthOrderRow.holds Try.pinned (OpenSpec.ofChange depthOrderWrong)

/-- 'micropartlaw27.DepthExamples': WHATEVER THE INPUT: true; the input reads as it did. -/
def depthExamplesSpec : ChangeSpec := { name := "depthExamples", fn := fun _ => fun
  | [] => { results := [.lit (.bool true)], args := [] }
  | _ => none }
def depthExamplesRow : OpenClaim := { program := "yteknnphjkldehaa", sum := "820bc19a6337e3af57285a932f2f5cfe9d1cb541f0d22b2f0ae86baf86cbfe48", func := "micropart/micropartlaw27.DepthExamples", spec := "depthExamples", unfollowed := true, recurses := true, apart := false }
def DepthExamplesSaid : Prop := depthExamplesRow.holds Try.pinned (OpenSpec.ofChange depthExamplesSpec)

/-- ITS FALSE NEIGHBOUR: 'it returns false'. Refute it at one input. -/
def depthExamplesWrong : ChangeSpec := { name := "depthExamples", fn := fun _ => fun
  | [] => { results := [.lit (.bool false)], args := [] }
  | _ => none }
def DepthExamplesWrongFalsely : Prop := depthExamplesRow.holds Try.pinned (OpenSpec.ofChange depthExamplesWrong)

/-- 'micropartlaw27.DepthRaw': WHATEVER THE INPUT: true; the input reads as it did. -/
def depthRawSpec : ChangeSpec := { name := "depthRaw", fn := fun _ => fun
  | [d1, d2, d3] => { results := [.lit (.bool true)], args := [d1, d2, d3] }
  | _ => none }
def depthRawRow : OpenClaim := { program := "yteknnphjkldehaa", sum := "820bc19a6337e3af57285a932f2f5cfe9d1cb541f0d22b2f0ae86baf86cbfe48", func := "micropart/micropartlaw27.DepthRaw", spec := "depthRaw", unfollowed := true, recurses := true, apart := false }
def DepthRawSaid : Prop := depthRawRow.holds Try.pinned (OpenSpec.ofChange depthRawSpec)

/-- ITS FALSE NEIGHBOUR: 'it returns false'. Refute it at one input. -/
def depthRawWrong : ChangeSpec := { name := "depthRaw", fn := fun _ => fun
  | [d1, d2, d3] => { results := [.lit (.bool false)], args := [d1, d2, d3] }
  | _ => none }
def DepthRawWrongFalsely : Prop := depthRawRow.holds Try.pinned (OpenSpec.ofChange depthRawWrong)

/-- 'micropartlaw27.DepthGenerated': WHATEVER THE INPUT: true; the input reads as it did. -/
def depthGeneratedSpec : ChangeSpec := { name := "depthGenerated", fn := fun _ => fun
  | [d1, d2, d3, d4] => { results := [.lit (.bool true)], args := [d1, d2, d3, d4] }
  | _ => none }
def depthGeneratedRow : OpenClaim := { program := "yteknnphjkldehaa", sum := "820bc19a6337e3af57285a932f2f5cfe9d1cb541f0d22b2f0ae86baf86cbfe48", func := "micropart/micropartlaw27.DepthGenerated", spec := "depthGenerated", unfollowed := true, recurses := true, apart := false }
def DepthGeneratedSaid : Prop := depthGeneratedRow.holds Try.pinned (OpenSpec.ofChange depthGeneratedSpec)

/-- ITS FALSE NEIGHBOUR: 'it returns false'. Refute it at one input. -/
def depthGeneratedWrong : ChangeSpec := { name := "depthGenerated", fn := fun _ => fun
  | [d1, d2, d3, d4] => { results := [.lit (.bool false)], args := [d1, d2, d3, d4] }
  | _ => none }
def DepthGeneratedWrongFalsely : Prop := depthGeneratedRow.holds Try.pinned (OpenSpec.ofChange depthGeneratedWrong)

/-- 'micropartlaw27.DepthIsGreatest': WHATEVER THE INPUT: true; the input reads as it did. -/
def depthIsGreatestSpec : ChangeSpec := { name := "depthIsGreatest", fn := fun _ => fun
  | [d] => { results := [.lit (.bool true)], args := [d] }
  | _ => none }
def depthIsGreatestRow : OpenClaim := { program := "yteknnphjkldehaa", sum := "820bc19a6337e3af57285a932f2f5cfe9d1cb541f0d22b2f0ae86baf86cbfe48", func := "micropart/micropartlaw27.DepthIsGreatest", spec := "depthIsGreatest", unfollowed := true, recurses := true, apart := false }
def DepthIsGreatestSaid : Prop := depthIsGreatestRow.holds Try.pinned (OpenSpec.ofChange depthIsGreatestSpec)

/-- ITS FALSE NEIGHBOUR: 'it returns false'. Refute it at one input. -/
def depthIsGreatestWrong : ChangeSpec := { name := "depthIsGreatest", fn := fun _ => fun
  | [d] => { results := [.lit (.bool false)], args := [d] }
  | _ => none }
def DepthIsGreatestWrongFalsely : Prop := depthIsGreatestRow.holds Try.pinned (OpenSpec.ofChange depthIsGreatestWrong)

/- THE SECOND FORM. 'bulk': how many values and letters a reading holds, each counted each time it is reached (what is shared counts as often as it is met; a slice's spare places count too). A statement '..UptoSaid' is the law's where the arguments, and the package variables that the reading takes, are together of bulk at most 1048576: NARROWER than '..Said'. Prove '..Said' where nothing that the law and all that it calls make is longer than what came in: it says more and counts as full. Else prove '..UptoSaid'. A law counts once. -/
mutual
def uptoBulk {H : Type} : DataW H → Nat
  | .lit (.string bytes) => bytes.length + 1
  | .lit _ => 1
  | .nil => 1
  | .ptr d => uptoBulk d + 1
  | .slice elems spare => uptoBulkAll elems + uptoBulkAll spare + 1
  | .agg parts => uptoBulkAll parts + 1
  | .iface _ d => uptoBulk d + 1
  | .map entries => uptoBulkEntries entries + 1
  | .held _ => 1
def uptoBulkAll {H : Type} : List (DataW H) → Nat
  | [] => 0
  | d :: r => uptoBulk d + uptoBulkAll r
def uptoBulkEntries {H : Type} : List (Lit × DataW H) → Nat
  | [] => 0
  | x :: r => uptoBulkEntry x + uptoBulkEntries r
def uptoBulkEntry {H : Type} : Lit × DataW H → Nat
  | (.string bytes, d) => bytes.length + uptoBulk d + 1
  | (_, d) => uptoBulk d + 1
 end
def uptoSmall : (H : Type) → List (DataW H) → Bool := fun _ ds => decide (uptoBulkAll ds ≤ 1048576)
def OpenSpec.upto (s : _root_.Go.ChangeSpec) : _root_.Go.OpenSpec := { _root_.Go.OpenSpec.ofChange s with cond := some uptoSmall }

/-- 'micropartlaw27.DepthDisjoint', WHERE WHAT IT READS IS OF BULK AT MOST 1048576: true; the input reads as it did. -/
def depthDisjointUptoRow : OpenClaim := { program := "yteknnphjkldehaa", sum := "820bc19a6337e3af57285a932f2f5cfe9d1cb541f0d22b2f0ae86baf86cbfe48", func := "micropart/micropartlaw27.DepthDisjoint", spec := "depthDisjoint", unfollowed := true, recurses := true, apart := false, narrowed := true }
def DepthDisjointUptoSaid : Prop := depthDisjointUptoRow.holds Try.pinned (OpenSpec.upto depthDisjointSpec)

/-- 'micropartlaw27.DepthMore', WHERE WHAT IT READS IS OF BULK AT MOST 1048576: true; the input reads as it did. -/
def depthMoreUptoRow : OpenClaim := { program := "yteknnphjkldehaa", sum := "820bc19a6337e3af57285a932f2f5cfe9d1cb541f0d22b2f0ae86baf86cbfe48", func := "micropart/micropartlaw27.DepthMore", spec := "depthMore", unfollowed := true, recurses := true, apart := false, narrowed := true }
def DepthMoreUptoSaid : Prop := depthMoreUptoRow.holds Try.pinned (OpenSpec.upto depthMoreSpec)

/-- 'micropartlaw27.DepthPeakIsLeast', WHERE WHAT IT READS IS OF BULK AT MOST 1048576: true; the input reads as it did. -/
def depthPeakIsLeastUptoRow : OpenClaim := { program := "yteknnphjkldehaa", sum := "820bc19a6337e3af57285a932f2f5cfe9d1cb541f0d22b2f0ae86baf86cbfe48", func := "micropart/micropartlaw27.DepthPeakIsLeast", spec := "depthPeakIsLeast", unfollowed := true, recurses := true, apart := false, narrowed := true }
def DepthPeakIsLeastUptoSaid : Prop := depthPeakIsLeastUptoRow.holds Try.pinned (OpenSpec.upto depthPeakIsLeastSpec)

/-- 'micropartlaw27.DepthOrder', WHERE WHAT IT READS IS OF BULK AT MOST 1048576: true; the input reads as it did. -/
def depthOrderUptoRow : OpenClaim := { program := "yteknnphjkldehaa", sum := "820bc19a6337e3af57285a932f2f5cfe9d1cb541f0d22b2f0ae86baf86cbfe48", func := "micropart/micropartlaw27.DepthOrder", spec := "depthOrder", unfollowed := true, recurses := true, apart := false, narrowed := true }
def DepthOrderUptoSaid : Prop := depthOrderUptoRow.holds Try.pinned (OpenSpec.upto depthOrderSpec)

/-- 'micropartlaw27.DepthExamples', WHERE WHAT IT READS IS OF BULK AT MOST 1048576: true; the input reads as it did. -/
def depthExamplesUptoRow : OpenClaim := { program := "yteknnphjkldehaa", sum := "820bc19a6337e3af57285a932f2f5cfe9d1cb541f0d22b2f0ae86baf86cbfe48", func := "micropart/micropartlaw27.DepthExamples", spec := "depthExamples", unfollowed := true, recurses := true, apart := false, narrowed := true }
def DepthExamplesUptoSaid : Prop := depthExamplesUptoRow.holds Try.pinned (OpenSpec.upto depthExamplesSpec)

/-- 'micropartlaw27.DepthRaw', WHERE WHAT IT READS IS OF BULK AT MOST 1048576: true; the input reads as it did. -/
def depthRawUptoRow : OpenClaim := { program := "yteknnphjkldehaa", sum := "820bc19a6337e3af57285a932f2f5cfe9d1cb541f0d22b2f0ae86baf86cbfe48", func := "micropart/micropartlaw27.DepthRaw", spec := "depthRaw", unfollowed := true, recurses := true, apart := false, narrowed := true }
def DepthRawUptoSaid : Prop := depthRawUptoRow.holds Try.pinned (OpenSpec.upto depthRawSpec)

/-- 'micropartlaw27.DepthGenerated', WHERE WHAT IT READS IS OF BULK AT MOST 1048576: true; the input reads as it did. -/
def depthGeneratedUptoRow : OpenClaim := { program := "yteknnphjkldehaa", sum := "820bc19a6337e3af57285a932f2f5cfe9d1cb541f0d22b2f0ae86baf86cbfe48", func := "micropart/micropartlaw27.DepthGenerated", spec := "depthGenerated", unfollowed := true, recurses := true, apart := false, narrowed := true }
def DepthGeneratedUptoSaid : Prop := depthGeneratedUptoRow.holds Try.pinned (OpenSpec.upto depthGeneratedSpec)

/-- 'micropartlaw27.DepthIsGreatest', WHERE WHAT IT READS IS OF BULK AT MOST 1048576: true; the input reads as it did. -/
def depthIsGreatestUptoRow : OpenClaim := { program := "yteknnphjkldehaa", sum := "820bc19a6337e3af57285a932f2f5cfe9d1cb541f0d22b2f0ae86baf86cbfe48", func := "micropart/micropartlaw27.DepthIsGreatest", spec := "depthIsGreatest", unfollowed := true, recurses := true, apart := false, narrowed := true }
def DepthIsGreatestUptoSaid : Prop := depthIsGreatestUptoRow.holds Try.pinned (OpenSpec.upto depthIsGreatestSpec)

end Rows
end Go.Proofs.Yteknnphjkldehaa
