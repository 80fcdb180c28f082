/-
  The reference's EncodeDelta.
-/
import Derived.Test.YtkdbbekoapcgdaaEEnc2
import Derived.Test.YtkdbbekoapcgdaaBPack
namespace Go.Proofs.Ytkdbbekoapcgdaa
open Go.RowKit Go.Shelf

attribute [local go_sem] Oper.semAt_some

theorem rencode_none (A : Option Addr) (n c : Nat) (w : World) (h : n = 0 ∨ 4096 < n) :
    Calls Try.prog 12 #[.slice A n c] w fun e w' => e = .returned (Sv []) ∧ Below w.heap.size w w' := by
  go_enter Try.func12, Try.ntmps12
  rcases h with rfl | h
  · go_wp2_with fail
    exact ⟨rfl, _, by simp [results, Try.results12, go_sem], rfl, Below.refl _ _⟩
  · have hd0 : ((n : Int) == 0) = false := by simp; omega
    have hd1 : decide ((4096 : Int) < (n : Int)) = true := by simp; omega
    go_wp2_with fail
    exact ⟨rfl, _, by simp [results, Try.results12, go_sem], rfl, Below.refl _ _⟩

end Go.Proofs.Ytkdbbekoapcgdaa
