/-
  microparttop.TopExamples returns true: the tied card.
-/
import Derived.Test.YtodegmphcjgipaaGreatDoorTRow
import Derived.Test.YtodegmphcjgipaaGreatDoorTGoes
import Derived.Test.YtodegmphcjgipaaGreatDoorCards
import Derived.Test.YtodegmphcjgipaaGreatDoorTie
import Derived.SevenTiedAt
namespace Go.Proofs.YtodegmphcjgipaaGreatDoor
open Go

theorem func_three : Tryz.prog.funcNamed Rows.topExamplesRow.func = some 3 := by kernel_rfl
theorem no_params : Tryz.f3.params = #[] := by kernel_rfl
theorem looks_true : true = Tryz.pinned.checked.prog.looks [] := by kernel_rfl
theorem card_holds : Rows.TopExamplesCardSaid :=
  Claim7.holds_tied_plain_at .later [] [.data, .data, .data, .sentinel, .sentinel] true (true, "071ab838925111e3175f2a6c8e76c01c86009372012b47118d3b09941e8761c2") true
    row_holds (fun _ h => by cases h) (by kernel_rfl) (fun _ h => by cases h) topExamples_row_tie rfl ⟨rfl, rfl⟩ (by kernel_rfl) rfl
    (fun f fn hf hfn => by
      obtain rfl : f = 3 := Option.some.inj (func_three.symm.trans hf) |>.symm
      obtain rfl : fn = Tryz.f3 := (Option.some.inj (Tryz.func3.symm.trans hfn)).symm
      exact ⟨looks_true, fun j t ht => by rw [no_params] at ht; simp at ht⟩)
    goesBy_none
#print axioms card_holds
end Go.Proofs.YtodegmphcjgipaaGreatDoor
