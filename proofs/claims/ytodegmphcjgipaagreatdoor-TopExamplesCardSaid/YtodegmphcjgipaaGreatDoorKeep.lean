/-
  The helpers of the statements: Pick, and the source of arbitrary numbers.
-/
import Derived.Test.YtodegmphcjgipaaGreatDoorWide
namespace Go.Proofs.YtodegmphcjgipaaGreatDoor
open Go.RowKit

/-- What Pick returns. -/
def pickN (v : Int) (n : Nat) : Nat := (v % 18446744073709551616).toNat % n
theorem pickN_lt (v : Int) {n : Nat} (h : 0 < n) : pickN v n < n := Nat.mod_lt _ h
theorem pick_wrap (v : Int) {n : Nat} (h0 : 0 < n) (h : n ≤ 4611686018427387904) : wrap64 ((IntKind.u64.wrap v).tmod (n : Int)) = (pickN v n : Int) := by
  have w1 : ∀ m : Int, IntKind.u64.wrap m = m % 18446744073709551616 := fun m => by simp [IntKind.wrap, IntKind.bits, IntKind.signed]
  have e1 : v % 18446744073709551616 = (((v % 18446744073709551616).toNat : Nat) : Int) := by omega
  have hl := pickN_lt v h0
  rw [w1, e1, Int.tmod_eq_emod_of_nonneg (by omega)]
  have e3 : (((v % 18446744073709551616).toNat : Nat) : Int) % (n : Int) = (pickN v n : Int) := by unfold pickN; simp
  rw [e3]
  unfold wrap64
  omega

theorem quiet_same {P : Program} {f : FuncId} {args : Array Value} {w : World} {v : Value} (h : Calls P f args w fun e w' => e = .returned v ∧ w = w') : Calls P f args w fun e w'' => e = .returned v ∧ ∃ m, w'' = w.drewN m :=
  h.mono fun _ _ ⟨he, hm⟩ => ⟨he, 0, by rw [← hm]; rfl⟩
theorem quiet_same' {P : Program} {f : FuncId} {args : Array Value} {w : World} {n : Nat} {v : Value} (h : Calls P f args (w.drewN n) fun e w' => e = .returned v ∧ w.drewN n = w') : Calls P f args (w.drewN n) fun e w'' => e = .returned v ∧ ∃ m, w'' = w.drewN m :=
  h.mono fun _ _ ⟨he, hm⟩ => ⟨he, n, hm.symm⟩

end Go.Proofs.YtodegmphcjgipaaGreatDoor
