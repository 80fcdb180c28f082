/-
  A function that ranges over slices.Chunk (one chunk at most) and returns behind it: how the evaluator runs it.
-/
import Derived.Test.YtodegmphcjgipaaGreatDoorTC
namespace Go.Proofs.YtodegmphcjgipaaGreatDoor
namespace Ev
open Go

noncomputable def onSeq {β : Type} (c : Code) (k : Code → Code → Option β) : Option β := Code.rec (motive := fun _ => Option β) none (fun _ _ _ => none) (fun a b _ _ => k a b) (fun _ _ _ _ _ => none) (fun _ _ _ => none) (fun _ _ => none) (fun _ _ _ _ _ _ => none) (fun _ => none) (fun _ _ => none) (fun _ => none) (fun _ => none) none (fun _ => none) c
noncomputable def onBlock {β : Type} (c : Code) (k : Nat → Code → Option β) : Option β := Code.rec (motive := fun _ => Option β) none (fun _ _ _ => none) (fun _ _ _ _ => none) (fun _ _ _ _ _ => none) (fun i c _ => k i c) (fun _ _ => none) (fun _ _ _ _ _ _ => none) (fun _ => none) (fun _ _ => none) (fun _ => none) (fun _ => none) none (fun _ => none) c
noncomputable def onRange {β : Type} (c : Code) (k : Operand → Array Tmp → Code → Code → Option β) : Option β := Code.rec (motive := fun _ => Option β) none (fun _ _ _ => none) (fun _ _ _ _ => none) (fun _ _ _ _ _ => none) (fun _ _ _ => none) (fun _ _ => none) (fun g ps a b _ _ => k g ps a b) (fun _ => none) (fun _ _ => none) (fun _ => none) (fun _ => none) none (fun _ => none) c
noncomputable def onRegion {β : Type} (c : Code) (k : Nat → Array Oper → Bool → Option β) : Option β := Code.rec (motive := fun _ => Option β) none (fun i o d => k i o d) (fun _ _ _ _ => none) (fun _ _ _ _ _ => none) (fun _ _ _ => none) (fun _ _ => none) (fun _ _ _ _ _ _ => none) (fun _ => none) (fun _ _ => none) (fun _ => none) (fun _ => none) none (fun _ => none) c
noncomputable def onRet {β : Type} (c : Code) (k : Option β) : Option β := Code.rec (motive := fun _ => Option β) none (fun _ _ _ => none) (fun _ _ _ _ => none) (fun _ _ _ _ _ => none) (fun _ _ _ => none) (fun _ _ => none) (fun _ _ _ _ _ _ => none) (fun _ => none) (fun _ _ => none) (fun _ => none) (fun _ => none) k (fun _ => none) c
noncomputable def onTmp {β : Type} (x : Operand) (k : Nat → Option β) : Option β := Operand.rec (motive := fun _ => Option β) k (fun _ => none) (fun _ => none) (fun _ => none) x
noncomputable def one? {α β : Type} (l : List α) (k : α → Option β) : Option β := List.rec none (fun x r _ => List.rec (k x) (fun _ _ _ => none) r) l
noncomputable def two? {α β : Type} (l : List α) (k : α → α → Option β) : Option β := List.rec none (fun x r _ => one? r (k x)) l

noncomputable def asgTmp (o : Op) : Option Nat := Op.rec (motive := fun _ => Option Nat) (fun _ => none) (fun x => onTmp x some) (fun _ _ _ => none) (fun _ => none) (fun _ _ => none) (fun _ _ => none) (fun _ _ _ => none) (fun _ _ _ _ => none) (fun _ _ => none) (fun _ _ _ => none) (fun _ => none) (fun _ => none) (fun _ => none) (fun _ _ _ _ _ => none) (fun _ _ _ => none) (fun _ _ _ => none) (fun _ _ => none) (fun _ _ => none) (fun _ _ _ => none) (fun _ _ => none) (fun _ _ => none) (fun _ _ _ => none) (fun _ _ _ _ _ => none) (fun _ _ _ => none) (fun _ _ _ => none) (fun _ _ _ => none) (fun _ _ _ => none) (fun _ _ _ _ => none) (fun _ _ _ _ => none) (fun _ _ _ => none) (fun _ _ _ _ => none) (fun _ _ => none) (fun _ _ => none) (fun _ => none) (fun _ _ _ _ => none) (fun _ _ => none) (fun _ => none) (fun _ => none) (fun _ => none) (fun _ => none) (fun _ _ => none) (fun _ _ _ => none) (fun _ _ => none) o
/-- 'd = p' -/
noncomputable def asgOf (o : Oper) (p : Nat) : Option Nat := ob (asgTmp o.op) fun t => bi (Nat.beq t p) (Option.rec (ob o.dst some) (fun _ => none) o.guard) none
/-- the loop's pieces -/
structure Parts where
  iR : Nat
  opsR : Array Oper
  bl : Nat
  g : Nat
  p : Nat
  ps : Array Tmp
  iA : Nat
  oA : Oper
  d : Nat
  bb : Nat
  iB : Nat
  opsB : Array Oper
noncomputable def partsOf (c : Code) : Option Parts := onSeq c fun x y => onRegion x fun iR opsR dR => onBlock y fun bl z => onRange z fun g ps asg body => onTmp g fun g => one? ps.toList fun p => onRegion asg fun iA opsA dA => one? opsA.toList fun oA => ob (asgOf oA p) fun d => onBlock body fun bb u => onRegion u fun iB opsB dB =>
  bi dR none (bi dA none (bi dB (some ⟨iR, opsR, bl, g, p, ps, iA, oA, d, bb, iB, opsB⟩) none))
/-- what follows the loop -/
structure Tail where
  i : Nat
  ops : Array Oper
noncomputable def tailOf (c : Code) : Option Tail := onSeq c fun x y => onRegion x fun i ops d => bi d none (onRet y (some ⟨i, ops⟩))

/-- the blocks in which the iterator keeps its slice and its number -/
structure Boxes where
  b1 : Nat
  b2 : Nat
noncomputable def boxes (fr : F) (g : Nat) (it : FuncId) : Option Boxes := ob (fr.get g) fun v => v.onFunc fun f a b => bi (Nat.beq f it) (bi (Nat.beq (len a) 0) (two? b fun x y => x.onPtr fun b1 o1 => y.onPtr fun b2 o2 => bi (Nat.beq o1 0) (bi (Nat.beq o2 0) (bi (Nat.beq b1 b2) none (some ⟨b1, b2⟩)) none) none) none) none
noncomputable def cell0 (st : St) (b : Nat) : Option V := ob (st.heap.get b) fun bl => bl.cells.get 0
noncomputable def chunkV (m : Nat) (v : V) : Option (Option V) := V.rec (motive_1 := fun _ => Nat → Option (Option V)) (motive_2 := fun _ => PUnit) (fun _ _ => none) (fun _ _ _ => none) (fun _ _ => none) (fun _ _ _ => none) (fun _ => none)
  (fun b o n _c e m => bi (Nat.beq n 0) (some none) (bi (Nat.ble n m) (some (some (.slice b o n n e))) none)) (fun _ => some none) (fun _ _ _ _ _ _ => none) (fun _ => none) (fun _ _ _ _ => none) (fun _ => none) (fun _ _ _ => none) (fun _ _ _ => none) ⟨⟩ (fun _ _ _ _ => ⟨⟩) v m
/-- the chunk that comes, if one comes -/
noncomputable def chunkOf (st : St) (x : Boxes) : Option (Option V) := ob (cell0 st x.b2) fun w => w.onInt fun k z => bi (keq k .i64) (nat? z fun m => bi (Nat.ble 1 m) (bi (Nat.ble m 1000000) (ob (cell0 st x.b1) fun v => chunkV m v) none) none) none
noncomputable def drop2 (st : St) (x : Boxes) : St := ⟨(st.heap.del x.b1).del x.b2, st.nxt⟩
noncomputable def Out.only (x : Out) (k : F → St → Out) : Out := Out.rec .fail k (fun _ _ _ => .fail) (fun _ _ => .fail) x
noncomputable def outO (x : Option Out) : Out := Option.rec .fail (fun x => x) x
noncomputable def evTail (t : Tail) (T : Tab) (cf : CallF) (fr : F) (st : St) : Out := (evOpers t.ops.toList T cf t.ops fr st).only .ret
noncomputable def evRound (q : Parts) (T : Tab) (cf : CallF) (fr : F) (v : V) (st : St) (k : St → Out) : Out :=
  (evDraw (order q.opsB) T cf q.opsB [] ((fr.set q.p v).set q.d v) st).only fun _ st3 => k st3
noncomputable def evRng (q : Parts) (t : Tail) (it : FuncId) (T : Tab) (cf : CallF) (fr : F) (st : St) : Out :=
  (evOpers q.opsR.toList T cf q.opsR fr st).only fun fr1 st1 => outO (ob (boxes fr1 q.g it) fun x => ob (chunkOf st1 x) fun c => some (Option.rec (evTail t T cf fr1 (drop2 st1 x)) (fun v => evRound q T cf fr1 v (drop2 st1 x) fun st3 => evTail t T cf fr1 st3) c))
abbrev TopF := FuncId → Tab → CallF → F → St → Out
noncomputable def topSeq (a b : Code) (ih : TopF) : TopF := fun it T cf fr st => Option.rec ((evCode a T cf fr st).only (ih it T cf)) (fun q => outO (ob (tailOf b) fun t => some (evRng q t it T cf fr st))) (partsOf a)
noncomputable def evTop (c : Code) : TopF := Code.rec (motive := fun _ => TopF) (fun _ _ _ _ _ => .fail) (fun _ _ _ _ _ _ _ _ => .fail) (fun a b _ ih => topSeq a b ih) (fun _ _ _ _ _ _ _ _ _ _ => .fail) (fun _ _ _ _ _ _ _ _ => .fail) (fun _ _ _ _ _ _ _ => .fail) (fun _ _ _ _ _ _ _ _ _ _ _ => .fail) (fun _ _ _ _ _ _ => .fail) (fun _ _ _ _ _ _ _ => .fail) (fun _ _ _ _ _ _ => .fail) (fun _ _ _ _ _ _ => .fail) (fun _ _ _ _ _ => .fail) (fun _ _ _ _ _ _ => .fail) c
noncomputable def retOnly (fn : Func) (T : Tab) (x : Out) : Ret := Out.rec .fail (fun _ _ => .fail) (fun _ _ _ => .fail) (retOf fn T) x
/-- a call of such a function -/
noncomputable def sumRng (fn : Func) (it : FuncId) (T : Tab) (cf : CallF) : List V → St → Ret := fun args st => Option.rec .fail (fun c => bi (Nat.ble (len args) fn.ntmps) (retOnly fn T (evTop c it T cf (enter args 0 .nil) st)) .fail) fn.body
/-- the encoding of one small number, or of two that rise a little -/
noncomputable def dEnc (l : List V) : Option (List Nat) := ob (lget l 0) fun v => v.onInt fun k a => bi (keq k .i64) (nat? a fun x => bi (Nat.blt x 64)
  (bi (Nat.beq (len l) 1) (some [Nat.mul 2 x]) (bi (Nat.beq (len l) 2) (ob (lget l 1) fun u => u.onInt fun j b => bi (keq j .i64) (nat? b fun y => bi (Nat.ble x y) (bi (Nat.blt (Nat.sub y x) 64) (some [Nat.mul 2 x, Nat.mul 2 (Nat.sub y x), 0]) none) none) none) none)) none) none
noncomputable def isNils (v : V) : Bool := Nat.beq (nilTag v) 2
noncomputable def sumDelta : List V → St → Ret := fun args st => Option.rec .fail (fun r => r) (one? args fun a => bi (isNils a) (some (.val (.str []) st)) (a.onSlice fun b o n _ _ => ob (st.heap.get b) fun bl => ob (rd n bl.cells o) fun l => ob (dEnc l) fun s => some (.val (.str s) st)))
end Ev
end Go.Proofs.YtodegmphcjgipaaGreatDoor
