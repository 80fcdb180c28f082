/-
  No cell of these rows narrows 'for every input' (looked for: loops, veiled, ifaces, maps, wideKeys, modest, calm, conditions, laid).
  DERIVED. THE GIVEN ROWS OF THIS SEAT. 7 by the template 'for every input the law returns true; each argument reads behind the call as it read before'; 0 by the template 'total and deterministic' (their statements: YtmehnfggfiinaaaTotals.lean).
  GIVEN WITH THE SEED: the statements are not yours to turn. If you find one false, say at which input.
  Laid BY PROGRAM, IN A SANDBOX (cutbox-rows.mjs): the forced cells as the released guide's own fill.sh prints them over the translation de826e40a100ba3e… (all of the seat's roots in one cut). By AI agents, Wed Nov 11 2026. No macro, syntax, notation, axiom, sorry.
-/
import Derived.Test.YtmehnfggfiinaaaChecked
import GoSem.Claim
import GoSem.ClaimJoined
import GoSem.ClaimMapViews
import Derived.JoinedTies
import Derived.KernelRfl
namespace Go.Proofs.Ytmehnfggfiinaaa
/- THE CELL 'sum', in the pinned program and in every row, IS THE sha256 OF THE DUMP (.gsa) THAT YtmehnfggfiinaaaProg.lean LOADS. Nothing in Lean hashes anything: it is a label: what it is worth is what the hold of that sum in a sandbox is worth. -/
noncomputable def Try.pinned : Pinned := { name := "ytmehnfggfiinaaa", sum := "de826e40a100ba3ef538fe46b91dfa49bce6cabc1ed1eed1b88cc9f454ea5b00", checked := Try.checked }
namespace Rows
def none {H : Type} : Left H := { results := [], args := [] }

/-- 'micropartlaw2.BitpackExamples': WHATEVER THE INPUT: true; the input reads as it did. -/
def bitpackExamplesSpec : ChangeSpec := { name := "bitpackExamples", fn := fun _ => fun
  | [] => { results := [.lit (.bool true)], args := [] }
  | _ => none }
def bitpackExamplesRow : OpenClaim := { program := "ytmehnfggfiinaaa", sum := "de826e40a100ba3ef538fe46b91dfa49bce6cabc1ed1eed1b88cc9f454ea5b00", func := "micropart/micropartlaw2.BitpackExamples", spec := "bitpackExamples", apart := false }
def BitpackExamplesSaid : Prop := bitpackExamplesRow.holds Try.pinned (OpenSpec.ofChange bitpackExamplesSpec)

/-- ITS FALSE NEIGHBOUR: 'it returns false'. Refute it at one input. -/
def bitpackExamplesWrong : ChangeSpec := { name := "bitpackExamples", fn := fun _ => fun
  | [] => { results := [.lit (.bool false)], args := [] }
  | _ => none }
def BitpackExamplesWrongFalsely : Prop := bitpackExamplesRow.holds Try.pinned (OpenSpec.ofChange bitpackExamplesWrong)

/-- 'micropartlaw2.BitpackWidths': WHATEVER THE INPUT: true; the input reads as it did. -/
def bitpackWidthsSpec : ChangeSpec := { name := "bitpackWidths", fn := fun _ => fun
  | [d1, d2, d3, d4] => { results := [.lit (.bool true)], args := [d1, d2, d3, d4] }
  | _ => none }
def bitpackWidthsRow : OpenClaim := { program := "ytmehnfggfiinaaa", sum := "de826e40a100ba3ef538fe46b91dfa49bce6cabc1ed1eed1b88cc9f454ea5b00", func := "micropart/micropartlaw2.BitpackWidths", spec := "bitpackWidths", apart := false }
def BitpackWidthsSaid : Prop := bitpackWidthsRow.holds Try.pinned (OpenSpec.ofChange bitpackWidthsSpec)

/-- ITS FALSE NEIGHBOUR: 'it returns false'. Refute it at one input. -/
def bitpackWidthsWrong : ChangeSpec := { name := "bitpackWidths", fn := fun _ => fun
  | [d1, d2, d3, d4] => { results := [.lit (.bool false)], args := [d1, d2, d3, d4] }
  | _ => none }
def BitpackWidthsWrongFalsely : Prop := bitpackWidthsRow.holds Try.pinned (OpenSpec.ofChange bitpackWidthsWrong)

/-- 'micropartlaw2.BitpackPacks': WHATEVER THE INPUT: true; the input reads as it did. -/
def bitpackPacksSpec : ChangeSpec := { name := "bitpackPacks", fn := fun _ => fun
  | [d1, d2, d3] => { results := [.lit (.bool true)], args := [d1, d2, d3] }
  | _ => none }
def bitpackPacksRow : OpenClaim := { program := "ytmehnfggfiinaaa", sum := "de826e40a100ba3ef538fe46b91dfa49bce6cabc1ed1eed1b88cc9f454ea5b00", func := "micropart/micropartlaw2.BitpackPacks", spec := "bitpackPacks", apart := false }
def BitpackPacksSaid : Prop := bitpackPacksRow.holds Try.pinned (OpenSpec.ofChange bitpackPacksSpec)

/-- ITS FALSE NEIGHBOUR: 'it returns false'. Refute it at one input. -/
def bitpackPacksWrong : ChangeSpec := { name := "bitpackPacks", fn := fun _ => fun
  | [d1, d2, d3] => { results := [.lit (.bool false)], args := [d1, d2, d3] }
  | _ => none }
def BitpackPacksWrongFalsely : Prop := bitpackPacksRow.holds Try.pinned (OpenSpec.ofChange bitpackPacksWrong)

/-- 'micropartlaw2.BitpackConcat': WHATEVER THE INPUT: true; the input reads as it did. -/
def bitpackConcatSpec : ChangeSpec := { name := "bitpackConcat", fn := fun _ => fun
  | [d1, d2, d3] => { results := [.lit (.bool true)], args := [d1, d2, d3] }
  | _ => none }
def bitpackConcatRow : OpenClaim := { program := "ytmehnfggfiinaaa", sum := "de826e40a100ba3ef538fe46b91dfa49bce6cabc1ed1eed1b88cc9f454ea5b00", func := "micropart/micropartlaw2.BitpackConcat", spec := "bitpackConcat", apart := false }
def BitpackConcatSaid : Prop := bitpackConcatRow.holds Try.pinned (OpenSpec.ofChange bitpackConcatSpec)

/-- ITS FALSE NEIGHBOUR: 'it returns false'. Refute it at one input. -/
def bitpackConcatWrong : ChangeSpec := { name := "bitpackConcat", fn := fun _ => fun
  | [d1, d2, d3] => { results := [.lit (.bool false)], args := [d1, d2, d3] }
  | _ => none }
def BitpackConcatWrongFalsely : Prop := bitpackConcatRow.holds Try.pinned (OpenSpec.ofChange bitpackConcatWrong)

/-- 'micropartlaw2.BitpackUnpacks': WHATEVER THE INPUT: true; the input reads as it did. -/
def bitpackUnpacksSpec : ChangeSpec := { name := "bitpackUnpacks", fn := fun _ => fun
  | [d1, d2, d3] => { results := [.lit (.bool true)], args := [d1, d2, d3] }
  | _ => none }
def bitpackUnpacksRow : OpenClaim := { program := "ytmehnfggfiinaaa", sum := "de826e40a100ba3ef538fe46b91dfa49bce6cabc1ed1eed1b88cc9f454ea5b00", func := "micropart/micropartlaw2.BitpackUnpacks", spec := "bitpackUnpacks", apart := false }
def BitpackUnpacksSaid : Prop := bitpackUnpacksRow.holds Try.pinned (OpenSpec.ofChange bitpackUnpacksSpec)

/-- ITS FALSE NEIGHBOUR: 'it returns false'. Refute it at one input. -/
def bitpackUnpacksWrong : ChangeSpec := { name := "bitpackUnpacks", fn := fun _ => fun
  | [d1, d2, d3] => { results := [.lit (.bool false)], args := [d1, d2, d3] }
  | _ => none }
def BitpackUnpacksWrongFalsely : Prop := bitpackUnpacksRow.holds Try.pinned (OpenSpec.ofChange bitpackUnpacksWrong)

/-- 'micropartlaw2.BitpackRoundTrip': WHATEVER THE INPUT: true; the input reads as it did. -/
def bitpackRoundTripSpec : ChangeSpec := { name := "bitpackRoundTrip", fn := fun _ => fun
  | [d1, d2] => { results := [.lit (.bool true)], args := [d1, d2] }
  | _ => none }
def bitpackRoundTripRow : OpenClaim := { program := "ytmehnfggfiinaaa", sum := "de826e40a100ba3ef538fe46b91dfa49bce6cabc1ed1eed1b88cc9f454ea5b00", func := "micropart/micropartlaw2.BitpackRoundTrip", spec := "bitpackRoundTrip", apart := false }
def BitpackRoundTripSaid : Prop := bitpackRoundTripRow.holds Try.pinned (OpenSpec.ofChange bitpackRoundTripSpec)

/-- ITS FALSE NEIGHBOUR: 'it returns false'. Refute it at one input. -/
def bitpackRoundTripWrong : ChangeSpec := { name := "bitpackRoundTrip", fn := fun _ => fun
  | [d1, d2] => { results := [.lit (.bool false)], args := [d1, d2] }
  | _ => none }
def BitpackRoundTripWrongFalsely : Prop := bitpackRoundTripRow.holds Try.pinned (OpenSpec.ofChange bitpackRoundTripWrong)

/-- 'micropartlaw2.BitpackRefuses': WHATEVER THE INPUT: true; the input reads as it did. -/
def bitpackRefusesSpec : ChangeSpec := { name := "bitpackRefuses", fn := fun _ => fun
  | [d1, d2, d3, d4] => { results := [.lit (.bool true)], args := [d1, d2, d3, d4] }
  | _ => none }
def bitpackRefusesRow : OpenClaim := { program := "ytmehnfggfiinaaa", sum := "de826e40a100ba3ef538fe46b91dfa49bce6cabc1ed1eed1b88cc9f454ea5b00", func := "micropart/micropartlaw2.BitpackRefuses", spec := "bitpackRefuses", apart := false }
def BitpackRefusesSaid : Prop := bitpackRefusesRow.holds Try.pinned (OpenSpec.ofChange bitpackRefusesSpec)

/-- ITS FALSE NEIGHBOUR: 'it returns false'. Refute it at one input. -/
def bitpackRefusesWrong : ChangeSpec := { name := "bitpackRefuses", fn := fun _ => fun
  | [d1, d2, d3, d4] => { results := [.lit (.bool false)], args := [d1, d2, d3, d4] }
  | _ => none }
def BitpackRefusesWrongFalsely : Prop := bitpackRefusesRow.holds Try.pinned (OpenSpec.ofChange bitpackRefusesWrong)

/- THE SECOND FORM. 'bulk': how many values and letters a reading holds, each counted each time it is reached (what is shared counts as often as it is met; a slice's spare places count too). A statement '..UptoSaid' is the law's where the arguments, and the package variables that the reading takes, are together of bulk at most 1048576: NARROWER than '..Said'. Prove '..Said' where nothing that the law and all that it calls make is longer than what came in: it says more and counts as full. Else prove '..UptoSaid'. A law counts once. -/
mutual
def uptoBulk {H : Type} : DataW H → Nat
  | .lit (.string bytes) => bytes.length + 1
  | .lit _ => 1
  | .nil => 1
  | .ptr d => uptoBulk d + 1
  | .slice elems spare => uptoBulkAll elems + uptoBulkAll spare + 1
  | .agg parts => uptoBulkAll parts + 1
  | .iface _ d => uptoBulk d + 1
  | .map entries => uptoBulkEntries entries + 1
  | .held _ => 1
def uptoBulkAll {H : Type} : List (DataW H) → Nat
  | [] => 0
  | d :: r => uptoBulk d + uptoBulkAll r
def uptoBulkEntries {H : Type} : List (Lit × DataW H) → Nat
  | [] => 0
  | x :: r => uptoBulkEntry x + uptoBulkEntries r
def uptoBulkEntry {H : Type} : Lit × DataW H → Nat
  | (.string bytes, d) => bytes.length + uptoBulk d + 1
  | (_, d) => uptoBulk d + 1
 end
def uptoSmall : (H : Type) → List (DataW H) → Bool := fun _ ds => decide (uptoBulkAll ds ≤ 1048576)
def OpenSpec.upto (s : _root_.Go.ChangeSpec) : _root_.Go.OpenSpec := { _root_.Go.OpenSpec.ofChange s with cond := some uptoSmall }

/-- 'micropartlaw2.BitpackExamples', WHERE WHAT IT READS IS OF BULK AT MOST 1048576: true; the input reads as it did. -/
def bitpackExamplesUptoRow : OpenClaim := { program := "ytmehnfggfiinaaa", sum := "de826e40a100ba3ef538fe46b91dfa49bce6cabc1ed1eed1b88cc9f454ea5b00", func := "micropart/micropartlaw2.BitpackExamples", spec := "bitpackExamples", apart := false, narrowed := true }
def BitpackExamplesUptoSaid : Prop := bitpackExamplesUptoRow.holds Try.pinned (OpenSpec.upto bitpackExamplesSpec)

/-- 'micropartlaw2.BitpackWidths', WHERE WHAT IT READS IS OF BULK AT MOST 1048576: true; the input reads as it did. -/
def bitpackWidthsUptoRow : OpenClaim := { program := "ytmehnfggfiinaaa", sum := "de826e40a100ba3ef538fe46b91dfa49bce6cabc1ed1eed1b88cc9f454ea5b00", func := "micropart/micropartlaw2.BitpackWidths", spec := "bitpackWidths", apart := false, narrowed := true }
def BitpackWidthsUptoSaid : Prop := bitpackWidthsUptoRow.holds Try.pinned (OpenSpec.upto bitpackWidthsSpec)

/-- 'micropartlaw2.BitpackPacks', WHERE WHAT IT READS IS OF BULK AT MOST 1048576: true; the input reads as it did. -/
def bitpackPacksUptoRow : OpenClaim := { program := "ytmehnfggfiinaaa", sum := "de826e40a100ba3ef538fe46b91dfa49bce6cabc1ed1eed1b88cc9f454ea5b00", func := "micropart/micropartlaw2.BitpackPacks", spec := "bitpackPacks", apart := false, narrowed := true }
def BitpackPacksUptoSaid : Prop := bitpackPacksUptoRow.holds Try.pinned (OpenSpec.upto bitpackPacksSpec)

/-- 'micropartlaw2.BitpackConcat', WHERE WHAT IT READS IS OF BULK AT MOST 1048576: true; the input reads as it did. -/
def bitpackConcatUptoRow : OpenClaim := { program := "ytmehnfggfiinaaa", sum := "de826e40a100ba3ef538fe46b91dfa49bce6cabc1ed1eed1b88cc9f454ea5b00", func := "micropart/micropartlaw2.BitpackConcat", spec := "bitpackConcat", apart := false, narrowed := true }
def BitpackConcatUptoSaid : Prop := bitpackConcatUptoRow.holds Try.pinned (OpenSpec.upto bitpackConcatSpec)

/-- 'micropartlaw2.BitpackUnpacks', WHERE WHAT IT READS IS OF BULK AT MOST 1048576: true; the input reads as it did. -/
def bitpackUnpacksUptoRow : OpenClaim := { program := "ytmehnfggfiinaaa", sum := "de826e40a100ba3ef538fe46b91dfa49bce6cabc1ed1eed1b88cc9f454ea5b00", func := "micropart/micropartlaw2.BitpackUnpacks", spec := "bitpackUnpacks", apart := false, narrowed := true }
def BitpackUnpacksUptoSaid : Prop := bitpackUnpacksUptoRow.holds Try.pinned (OpenSpec.upto bitpackUnpacksSpec)

/-- 'micropartlaw2.BitpackRoundTrip', WHERE WHAT IT READS IS OF BULK AT MOST 1048576: true; the input reads as it did. -/
def bitpackRoundTripUptoRow : OpenClaim := { program := "ytmehnfggfiinaaa", sum := "de826e40a100ba3ef538fe46b91dfa49bce6cabc1ed1eed1b88cc9f454ea5b00", func := "micropart/micropartlaw2.BitpackRoundTrip", spec := "bitpackRoundTrip", apart := false, narrowed := true }
def BitpackRoundTripUptoSaid : Prop := bitpackRoundTripUptoRow.holds Try.pinned (OpenSpec.upto bitpackRoundTripSpec)

/-- 'micropartlaw2.BitpackRefuses', WHERE WHAT IT READS IS OF BULK AT MOST 1048576: true; the input reads as it did. -/
def bitpackRefusesUptoRow : OpenClaim := { program := "ytmehnfggfiinaaa", sum := "de826e40a100ba3ef538fe46b91dfa49bce6cabc1ed1eed1b88cc9f454ea5b00", func := "micropart/micropartlaw2.BitpackRefuses", spec := "bitpackRefuses", apart := false, narrowed := true }
def BitpackRefusesUptoSaid : Prop := bitpackRefusesUptoRow.holds Try.pinned (OpenSpec.upto bitpackRefusesSpec)

end Rows
end Go.Proofs.Ytmehnfggfiinaaa
