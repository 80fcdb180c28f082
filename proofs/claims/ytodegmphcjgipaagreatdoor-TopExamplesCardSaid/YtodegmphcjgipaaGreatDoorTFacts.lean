/-
  The closed facts of the row of TopExamples, together.
-/
import Derived.Test.YtodegmphcjgipaaGreatDoorTFactsA
import Derived.Test.YtodegmphcjgipaaGreatDoorTFactsB
import Derived.Test.YtodegmphcjgipaaGreatDoorTFactsC
import Derived.Test.YtodegmphcjgipaaGreatDoorTFactsD
namespace Go.Proofs.YtodegmphcjgipaaGreatDoor
open Go
theorem and2 {a b : Bool} (h : a = true) (k : b = true) : (a && b) = true := by rw [h, k]; rfl
set_option maxRecDepth 100000 in
theorem facts_ok : joinedFacts Tryz.pinned.checked.prog 3 Tryz.f3 Rows.topExamplesSpec Rows.topExamplesRow = true := by
  unfold joinedFacts
  exact (and2 (and2 (and2 (and2 (and2 (and2 (and2 (and2 (and2 (and2 (and2 (and2 (and2 (and2 (and2 (and2 (and2 (and2 (and2 (and2 (and2 (and2 (and2 (and2 (and2 (and2 (and2 (and2 (and2 (and2 (and2 fact1 fact2) fact3) fact4) fact5) fact6) fact7) fact8) fact9) fact10) fact11) fact12) fact13) fact14) fact15) fact16) fact17) fact18) fact19) fact20) fact21) fact22) fact23) fact24) fact25) fact26) fact27) fact28) fact29) fact30) fact31) fact32)
end Go.Proofs.YtodegmphcjgipaaGreatDoor
