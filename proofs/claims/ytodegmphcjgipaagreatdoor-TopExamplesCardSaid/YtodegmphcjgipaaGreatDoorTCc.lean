/-
  Calls of the run, each checked by itself: 9 to 13.
-/
import Derived.Test.YtodegmphcjgipaaGreatDoorTM
import Derived.KernelRfl
namespace Go.Proofs.YtodegmphcjgipaaGreatDoor
namespace Ev
open Go
set_option maxRecDepth 100000 in
theorem memo9_ok : memo9.ok tab 400 = true := by kernel_rfl
set_option maxRecDepth 100000 in
theorem memo10_ok : memo10.ok tab 400 = true := by kernel_rfl
set_option maxRecDepth 100000 in
theorem memo11_ok : memo11.ok tab 400 = true := by kernel_rfl
set_option maxRecDepth 100000 in
theorem memo12_ok : memo12.ok tab 400 = true := by kernel_rfl
set_option maxRecDepth 100000 in
theorem memo13_ok : memo13.ok tab 400 = true := by kernel_rfl
end Ev
end Go.Proofs.YtodegmphcjgipaaGreatDoor
