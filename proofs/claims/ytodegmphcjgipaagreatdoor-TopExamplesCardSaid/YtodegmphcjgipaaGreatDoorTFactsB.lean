/-
  Closed facts of the row of TopExamples.
-/
import Derived.Test.YtodegmphcjgipaaGreatDoorTie
import Derived.ProofKit
import Derived.LaidMore
import Derived.OpenShut
import Derived.Stop.Joined
namespace Go.Proofs.YtodegmphcjgipaaGreatDoor
open Go
set_option maxRecDepth 100000 in
theorem fact11 : ((Rows.topExamplesRow.unfollowed == Tryz.pinned.checked.prog.unfollowed 3)) = true := by kernel_rfl
set_option maxRecDepth 100000 in
theorem fact12 : ((Rows.topExamplesRow.recurses == Tryz.pinned.checked.prog.recurses 3)) = true := by kernel_rfl
end Go.Proofs.YtodegmphcjgipaaGreatDoor
