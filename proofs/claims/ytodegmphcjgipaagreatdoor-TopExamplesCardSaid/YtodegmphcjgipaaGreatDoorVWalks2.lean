/-
  The functions of layer 1 and their references, each by one contract: Zig, Zag, Size, the reference's Put.
-/
import Derived.Test.YtodegmphcjgipaaGreatDoorVWalks
namespace Go.Proofs.YtodegmphcjgipaaGreatDoor
open Go.RowKit

set_option maxRecDepth 100000 in
theorem zig_any (n : Int) (w : World) (hn : I64 n) : Calls Tryz.prog 192 #[.int .i64 n] w fun e w' => e = .returned (.int .u64 (zigN n)) ∧ w = w' := by
  go_enter Tryz.func192, Tryz.ntmps192
  go_wp2
  go_ret
  exact ⟨ret_intk (zig_bits hn), rfl⟩
set_option maxRecDepth 100000 in
theorem zag_any (v : Nat) (w : World) (hv : U64 v) : Calls Tryz.prog 373 #[.int .u64 v] w fun e w' => e = .returned (.int .i64 (zagI v)) ∧ w = w' := by
  go_enter Tryz.func373, Tryz.ntmps373
  go_wp2
  go_ret
  exact ⟨ret_intk (zag_bits hv), rfl⟩

theorem putL_300 : putL 300 = [172, 2] := by
  rw [putL_ge (by omega), putL_lt (by omega)]; rfl
theorem put_300 (w : World) : Calls Tryz.prog 78 #[.int .u64 300] w fun e w' => e = .returned (.string ⟨#[172, 2]⟩) ∧ Below w.heap.size w w' := by
  have h := put_any 300 w (by unfold U64; omega)
  rw [putL_300] at h
  exact h



theorem ret_str {x y : ByteArray} (h : x = y) : Ending.returned (.string x) = .returned (.string y) := by rw [h]
theorem sv_eq {a b : List UInt8} (h : a = b) : Value.string ⟨a.toArray⟩ = Sv b := by rw [h]



end Go.Proofs.YtodegmphcjgipaaGreatDoor
