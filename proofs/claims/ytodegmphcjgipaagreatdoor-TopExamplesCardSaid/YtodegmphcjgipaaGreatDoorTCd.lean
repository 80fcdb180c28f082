/-
  Calls of the run, each checked by itself: 14 to 16.
-/
import Derived.Test.YtodegmphcjgipaaGreatDoorTM
import Derived.KernelRfl
namespace Go.Proofs.YtodegmphcjgipaaGreatDoor
namespace Ev
open Go
set_option maxRecDepth 100000 in
theorem memo14_ok : memo14.ok tab 400 = true := by kernel_rfl
set_option maxRecDepth 100000 in
theorem memo15_ok : memo15.ok tab 400 = true := by kernel_rfl
set_option maxRecDepth 100000 in
theorem memo16_ok : memo16.ok tab 400 = true := by kernel_rfl
end Ev
end Go.Proofs.YtodegmphcjgipaaGreatDoor
