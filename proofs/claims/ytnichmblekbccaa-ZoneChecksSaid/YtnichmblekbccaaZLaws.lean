/-
  The example of layer 14.
-/
import Derived.Test.YtnichmblekbccaaZOf
namespace Go.Proofs.Ytnichmblekbccaa
open Go.RowKit

def fourL : List Vl := [⟨false, 3, ⟨#[]⟩⟩, ⟨true, 0, ⟨#[]⟩⟩, ⟨false, 1, ⟨#[]⟩⟩]
theorem zone_ex : zoneL 1 (3 : Nat) fourL = ⟨3, 1, ⟨false, 1, ⟨#[]⟩⟩, ⟨false, 3, ⟨#[]⟩⟩⟩ := by rfl
def FourPost (w : World) (e : Ending) (w' : World) : Prop := ∃ (A : Option Addr) (c : Nat), e = .returned (.slice A 3 c) ∧ Rd w' w'.heap.size A (fourL.flatMap valC) ∧ Below w.heap.size w w'
set_option maxRecDepth 100000 in
set_option maxHeartbeats 400000 in
theorem four_any (w : World) : Calls Try.prog 11 #[] w (FourPost w) := by
  have hA := Blk.new' w 23 #[.bool false, .int .i64 3, .string ⟨#[]⟩, .bool true, .int .i64 0, .string ⟨#[]⟩, .bool false, .int .i64 1, .string ⟨#[]⟩]
  have hbel : Below w.heap.size w (w.alloc (.cells #[.bool false, .int .i64 3, .string ⟨#[]⟩, .bool true, .int .i64 0, .string ⟨#[]⟩, .bool false, .int .i64 1, .string ⟨#[]⟩] 23)) := (Below.refl _ _).alloc (Nat.le_refl _) _
  go_enter Try.func11, Try.ntmps11
  go_wp2
  go_ret
  exact ⟨_, _, rfl, hA.rd, hbel⟩
set_option maxRecDepth 100000 in
set_option maxHeartbeats 400000 in
theorem walk_ZoneExamples (w : World) : Calls Try.prog 3 #[] w fun e w' => e = .returned (.bool true) ∧ Below w.heap.size w w' := by
  go_enter Try.func3, Try.ntmps3
  go_wp2_with fail
  refine (four_any _).mono ?_; rintro e w1 ⟨A1, c1, rfl, hx1, hb1⟩
  go_wp2_with fail
  refine (of_any 1 A1 3 c1 fourL _ hx1 rfl (by omega)).mono ?_; rintro e w2 ⟨rfl, hb2⟩
  rw [zone_ex]
  dsimp only [Zv]
  go_wp2
  go_ret
  exact ⟨ret_bool (by first | rfl | (simp; done)), bt hb1 hb2⟩

end Go.Proofs.Ytnichmblekbccaa
