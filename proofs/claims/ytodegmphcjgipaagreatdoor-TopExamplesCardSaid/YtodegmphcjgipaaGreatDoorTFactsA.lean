/-
  Closed facts of the row of TopExamples.
-/
import Derived.Test.YtodegmphcjgipaaGreatDoorTie
import Derived.ProofKit
import Derived.LaidMore
import Derived.OpenShut
import Derived.Stop.Joined
namespace Go.Proofs.YtodegmphcjgipaaGreatDoor
open Go
set_option maxRecDepth 100000 in
theorem fact10 : ((Rows.topExamplesRow.inPlace == Tryz.pinned.checked.prog.inPlace 3)) = true := by kernel_rfl
end Go.Proofs.YtodegmphcjgipaaGreatDoor
