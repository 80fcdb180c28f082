/-
  The evaluator's table for this program.
-/
import Derived.Test.YtodegmphcjgipaaGreatDoorTTab3
import Derived.Test.YtodegmphcjgipaaGreatDoorTMemo
import Derived.Test.YtodegmphcjgipaaGreatDoorTRng
namespace Go.Proofs.YtodegmphcjgipaaGreatDoor
namespace Ev
open Go
noncomputable def exts : Tr Ext := ((Tr.nil.set 194 .noEscape).set 361 .cmpString).set 335 .add64
noncomputable def meths (t : TypeId) (m : String) : Option FuncId := bi (Nat.beq t 342) (bi (m == "Len") (some 235) (bi (m == "Less") (some 435) (bi (m == "Pop") (some 436) (bi (m == "Push") (some 437) (bi (m == "Swap") (some 438) none))))) none
noncomputable def eqs (t : TypeId) : Bool := bi (Nat.beq t 37) true (bi (Nat.beq t 83) true (bi (Nat.beq t 232) true (bi (Nat.beq t 377) true (Nat.beq t 85))))
noncomputable def st0 : St := ⟨.nil, 6⟩
noncomputable def summ0 (f : FuncId) : Option SumF := bi (Nat.beq f 116) (some sumTable) (bi (Nat.beq f 115) (some sumSum) (bi (Nat.beq f 277) (some sumDelta) none))
noncomputable def tab0 : Tab := ⟨types, funcs, exts, meths, eqs, 6, summ0⟩
noncomputable def summ1 (f : FuncId) : Option SumF := bi (Nat.beq f 18) (some (sumRng Tryz.f18 119 tab0 (evCall tab0 100))) (summ0 f)
noncomputable def tab : Tab := ⟨types, funcs, exts, meths, eqs, 6, summ1⟩
end Ev
end Go.Proofs.YtodegmphcjgipaaGreatDoor
