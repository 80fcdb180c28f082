/-
  Calls of the run, each checked by itself: 5 to 8.
-/
import Derived.Test.YtodegmphcjgipaaGreatDoorTM
import Derived.KernelRfl
namespace Go.Proofs.YtodegmphcjgipaaGreatDoor
namespace Ev
open Go
set_option maxRecDepth 100000 in
theorem memo5_ok : memo5.ok tab 400 = true := by kernel_rfl
set_option maxRecDepth 100000 in
theorem memo6_ok : memo6.ok tab 400 = true := by kernel_rfl
set_option maxRecDepth 100000 in
theorem memo7_ok : memo7.ok tab 400 = true := by kernel_rfl
set_option maxRecDepth 100000 in
theorem memo8_ok : memo8.ok tab 400 = true := by kernel_rfl
end Ev
end Go.Proofs.YtodegmphcjgipaaGreatDoor
