/-
  Plain law of layer 30: Psi of short lists.
-/
import Derived.Test.YtmmnfniebiggpaaOPsi
namespace Go.Proofs.Ytmmnfniebiggpaa
open Go.RowKit

theorem widthR_le (t : Int) (r : Rg) (p : List Rk) : widthR t r p ≤ p.length := List.countP_le_length
def wsum (t : Int) (p : List Rk) : List Rg → Nat
  | [] => 0
  | r :: L => widthR t r p + wsum t p L
theorem wsum_le (t : Int) (p : List Rk) : ∀ L, wsum t p L ≤ L.length * p.length
  | [] => by simp [wsum]
  | r :: L => by
    have h := wsum_le t p L
    have h2 := widthR_le t r p
    rw [wsum, List.length_cons, Nat.succ_mul]; omega
theorem psiW_sum (t : Int) (p : List Rk) : ∀ (L : List Rg) (k : Nat), k + L.length * p.length ≤ 1000000 → psiW t p k L = ((k + wsum t p L : Nat) : Int)
  | [], k, _ => by simp [psiW, wsum]
  | r :: L, k, h => by
    have h2 := widthR_le t r p
    rw [List.length_cons, Nat.succ_mul] at h
    have e : wrap64 ((k : Int) + (widthR t r p : Int)) = ((k + widthR t r p : Nat) : Int) := by
      rw [IntWalk.wrap64_in _ (by omega)]; omega
    have ih := psiW_sum t p L (k + widthR t r p) (by omega)
    unfold psiW at ih ⊢
    rw [List.foldl_cons, e, ih, wsum, Nat.add_assoc]

end Go.Proofs.Ytmmnfniebiggpaa
