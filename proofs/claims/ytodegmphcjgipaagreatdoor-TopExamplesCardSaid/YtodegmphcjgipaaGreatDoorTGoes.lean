/-
  No function of the program starts a goroutine.
-/
import Derived.Test.YtodegmphcjgipaaGreatDoorTie
import Derived.ProofKit
import Derived.Stop.Joined
namespace Go.Proofs.YtodegmphcjgipaaGreatDoor
set_option maxRecDepth 100000 in
theorem goes_all : Tryz.prog.funcs.toList.all (fun fn => !fn.goes) = true := by kernel_rfl
theorem goes_none (f : FuncId) : Tryz.prog.goes f = false := by
  have h : ∀ fn ∈ Tryz.prog.funcs, fn.goes = false := fun fn hf => by
    have := List.all_eq_true.1 goes_all fn (by simpa using hf)
    simpa using this
  have h1 : ∀ g : Nat, (Tryz.prog.funcs[g]?).any Func.goes = false := fun g => by
    cases e : Tryz.prog.funcs[g]? with
    | none => rfl
    | some fn => exact h fn (Array.mem_of_getElem? e)
  have h2 : Tryz.prog.funcs.any Func.goes = false := by
    rw [← Array.any_toList, List.any_eq_false]
    intro fn hf
    rw [h fn (by simpa using hf)]; decide
  unfold Program.goes
  rw [h2, Bool.and_false, Bool.or_false]
  rw [List.any_eq_false]
  intro g _
  rw [h1 g]; decide
theorem goesBy_of {P : Program} (h : ∀ f, P.goes f = false) (c : OpenClaim) (hs : c.start = .entering) : c.goesBy P = false := by
  unfold OpenClaim.goesBy Program.goesAt Program.goesFrom
  rw [hs]
  cases P.funcNamed c.func <;> simp [h]
theorem goesBy_none : false = Rows.topExamplesRow.goesBy Tryz.pinned.checked.prog := (goesBy_of (P := Tryz.prog) goes_none Rows.topExamplesRow rfl).symm
end Go.Proofs.YtodegmphcjgipaaGreatDoor
