/-
  DERIVED. GIVEN WITH THE SEED: THE CARDS: each row of YtodegmphcjgipaaGreatDoorRows.lean that lists a variable, with what it lists TIED to the program's text (the seventh form; the later family's looks); each row that meets fmt, with fmt's text TOLD by the authors' own Lean function (tested against real Go, not proved from fmt's source: count such statements apart). THE CARD IS WHAT COUNTS. Prove the row's statement (the work); the ties are given (YtodegmphcjgipaaGreatDoorTie.lean); close each card by the builder's one call (the guide's Derived/Test/ToyasCard.lean, 'card_holds'). Laid BY PROGRAM, IN A SANDBOX (cutbox-door.mjs). By AI agents, Wed Nov 11 2026. No macro, syntax, notation, axiom, sorry.
-/
import Derived.Test.YtodegmphcjgipaaGreatDoorRows
import GoSem.ClaimSeven
namespace Go.Proofs.YtodegmphcjgipaaGreatDoor
namespace Rows

/-- THE TIED CARD OF 'microparttop.TopExamples'. -/
def topExamplesCard : Claim7 := { stood := { row := topExamplesRow, standIns := [], harness := (true, "071ab838925111e3175f2a6c8e76c01c86009372012b47118d3b09941e8761c2"), looks := true }, kinds := [], alts := [], laidByText := true, laidKinds := [.data, .data, .data, .sentinel, .sentinel], laidTests := true, laidLooks := .later }
def TopExamplesCardSaid : Prop := Claim7.holds Tryz.pinned (.plain (OpenSpec.ofChange topExamplesSpec)) topExamplesCard

/-- THE SECOND FORM's CARD OF 'microparttop.TopExamples'. -/
def topExamplesUptoCard : Claim7 := { stood := { row := topExamplesUptoRow, standIns := [], harness := (true, "071ab838925111e3175f2a6c8e76c01c86009372012b47118d3b09941e8761c2"), looks := true }, kinds := [], alts := [], laidByText := true, laidKinds := [.data, .data, .data, .sentinel, .sentinel], laidTests := true, laidLooks := .later }
def TopExamplesUptoCardSaid : Prop := Claim7.holds Tryz.pinned (.plain (OpenSpec.upto topExamplesSpec)) topExamplesUptoCard
end Rows
end Go.Proofs.YtodegmphcjgipaaGreatDoor
