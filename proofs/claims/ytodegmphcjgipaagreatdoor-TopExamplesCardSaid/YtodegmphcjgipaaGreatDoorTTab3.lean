/-
  The table of functions is the program's; every function is checked.
-/
import Derived.Test.YtodegmphcjgipaaGreatDoorTTab2
namespace Go.Proofs.YtodegmphcjgipaaGreatDoor
namespace Ev
open Go Go.RowKit

noncomputable def hasBody (fn : Func) : Bool := Option.rec false (fun _ => true) fn.body
noncomputable def buildF (l : List Func) : Nat → Tr Func → Tr Func := List.rec (motive := fun _ => Nat → Tr Func → Tr Func) (fun _ t => t) (fun fn _ ih i t => ih (Nat.succ i) (bi (hasBody fn) (t.set i fn) t)) l
theorem buildF_t : ∀ (l : List Func) (i : Nat) (t : Tr Func) (k : Nat) (fn : Func), (buildF l i t).get k = some fn → (t.get k = some fn) ∨ (i ≤ k ∧ l[k - i]? = some fn ∧ hasBody fn = true)
  | [], i, t, k, fn, h => .inl h
  | x :: l, i, t, k, fn, h => by
    rcases buildF_t l (i + 1) _ k fn (show (buildF l (i + 1) (bi (hasBody x) (t.set i x) t)).get k = some fn from h) with q | ⟨q1, q2, q3⟩
    · cases hb : hasBody x with
      | false => rw [hb, bi_f] at q; exact .inl q
      | true =>
        rw [hb, bi_t, Tr.get_set] at q
        by_cases e : k = i
        · subst e
          rw [if_pos rfl] at q
          cases q
          exact .inr ⟨Nat.le_refl _, by simp, hb⟩
        · rw [if_neg e] at q; exact .inl q
    · refine .inr ⟨by omega, ?_, q3⟩
      rw [show k - i = (k - (i + 1)) + 1 by omega]
      exact q2
set_option maxRecDepth 100000 in
theorem funcs_eq : funcs = buildF Tryz.prog.funcs.toList 0 .nil := by kernel_rfl
noncomputable def fnChk (fn : Func) : Bool := bi (fn.name == "runtime.NumGoroutine") false (Option.rec true (fun c => chkCode fn.ntmps c) fn.body)
set_option maxRecDepth 100000 in
theorem funcs_all : allT funcs (fun _ fn => fnChk fn) = true := by kernel_rfl
theorem funcs_get {f : FuncId} {fn : Func} (h : funcs.get f = some fn) : Tryz.prog.funcs[f]? = some fn ∧ fn.body.isSome = true ∧ (fn.name == "runtime.NumGoroutine") = false := by
  have hall := allT_t funcs _ funcs_all f fn h
  have h' := h
  rw [funcs_eq] at h'
  rcases buildF_t _ _ _ _ _ h' with q | ⟨-, q2, q3⟩
  · rw [Tr.get_nil] at q; cases q
  · refine ⟨by simpa using q2, ?_, ?_⟩
    · cases hb : fn.body with
      | none => unfold hasBody at q3; rw [hb] at q3; cases (show false = true from q3)
      | some c => rfl
    · cases hn : fn.name == "runtime.NumGoroutine" with
      | false => rfl
      | true => unfold fnChk at hall; rw [hn] at hall; cases (show false = true from hall)
theorem funcs_chk {f : FuncId} {fn : Func} (h : funcs.get f = some fn) {c : Code} (hc : fn.body = some c) : chkCode fn.ntmps c = true := by
  have hall := allT_t funcs _ funcs_all f fn h
  unfold fnChk at hall
  cases hn : fn.name == "runtime.NumGoroutine" with
  | false => rw [hn, hc] at hall; exact hall
  | true => rw [hn] at hall; cases (show false = true from hall)
end Ev
end Go.Proofs.YtodegmphcjgipaaGreatDoor
