/-
  Calls of the run, each checked by itself: 1 to 4.
-/
import Derived.Test.YtodegmphcjgipaaGreatDoorTM
import Derived.KernelRfl
namespace Go.Proofs.YtodegmphcjgipaaGreatDoor
namespace Ev
open Go
set_option maxRecDepth 100000 in
theorem memo1_ok : memo1.ok tab 400 = true := by kernel_rfl
set_option maxRecDepth 100000 in
theorem memo2_ok : memo2.ok tab 400 = true := by kernel_rfl
set_option maxRecDepth 100000 in
theorem memo3_ok : memo3.ok tab 400 = true := by kernel_rfl
set_option maxRecDepth 100000 in
theorem memo4_ok : memo4.ok tab 400 = true := by kernel_rfl
end Ev
end Go.Proofs.YtodegmphcjgipaaGreatDoor
