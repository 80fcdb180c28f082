/-
  A call that has been run by itself is not run again: its result is told, where the memory holds what it held.
-/
import Derived.Test.YtodegmphcjgipaaGreatDoorTSum
namespace Go.Proofs.YtodegmphcjgipaaGreatDoor
namespace Ev
open Go Go.RowKit

noncomputable def eqBlk (a b : Blk) : Bool := bi (Nat.beq a.n b.n) (bi (Nat.beq a.wf b.wf) (bi (Nat.beq a.ty b.ty) (bi (eqB a.hd b.hd) (eqTr a.cells b.cells) false) false) false) false
theorem eqBlk_t {a b : Blk} (h : eqBlk a b = true) : a = b := by
  obtain ⟨h1, h2⟩ := bi_ff (show bi (Nat.beq a.n b.n) (bi (Nat.beq a.wf b.wf) (bi (Nat.beq a.ty b.ty) (bi (eqB a.hd b.hd) (eqTr a.cells b.cells) false) false) false) false = true from h)
  obtain ⟨h3, h4⟩ := bi_ff h2
  obtain ⟨h5, h6⟩ := bi_ff h4
  obtain ⟨h7, h8⟩ := bi_ff h6
  have e1 := beq_t h1; have e2 := beq_t h3; have e3 := beq_t h5; have e4 := eqB_t h7; have e5 := eqTr_t h8
  cases a; cases b
  simp only at e1 e2 e3 e4 e5
  subst e1 e2 e3 e4 e5; rfl
noncomputable def subO (x y : Option Blk) : Bool := Option.rec true (fun a => Option.rec false (fun b => eqBlk a b) y) x
noncomputable def subT (a : Tr Blk) : Tr Blk → Bool := Tr.rec (motive := fun _ => Tr Blk → Bool) (fun _ => true) (fun _ x _ il ir b => Tr.rec false (fun l' x' r' _ _ => bi (subO x x') (bi (il l') (ir r') false) false) b) a
theorem subO_t {x y : Option Blk} (h : subO x y = true) {a : Blk} (e : x = some a) : y = some a := by
  subst e
  cases y with
  | none => cases (show false = true from h)
  | some b => rw [eqBlk_t (show eqBlk a b = true from h)]
theorem subT_t : ∀ {a b : Tr Blk}, subT a b = true → ∀ k x, a.get k = some x → b.get k = some x
  | .nil, _, _, k, x, e => by rw [Tr.get_nil] at e; cases e
  | .node l x r, .nil, h, _, _, _ => by cases (show false = true from h)
  | .node l x r, .node l' x' r', h, k, y, e => by
    obtain ⟨h1, h2⟩ := bi_ff (show bi (subO x x') (bi (subT l l') (subT r r') false) false = true from h)
    obtain ⟨h3, h4⟩ := bi_ff h2
    rw [Tr.get_node] at e ⊢
    by_cases hk : k = 0
    · subst hk
      rw [beq_self, bi_t] at e ⊢
      exact subO_t h1 e
    · rw [beq_ne hk, bi_f] at e ⊢
      by_cases ho : k % 2 = 1
      · rw [show Nat.beq (k % 2) 1 = true by rw [ho]; rfl, bi_t] at e ⊢
        exact subT_t h3 _ _ e
      · rw [beq_ne ho, bi_f] at e ⊢
        exact subT_t h4 _ _ e
/-- fewer blocks, the same next name -/
noncomputable def subSt (a b : St) : Bool := bi (Nat.beq a.nxt b.nxt) (subT a.heap b.heap) false
theorem subSt_rel {T : Tab} {W : Base} {ρ : Map} {a b : St} {w : World} (hs : subSt a b = true) (h : Rel T W ρ b w) : Rel T W ρ a w := by
  obtain ⟨h1, h2⟩ := bi_ff (show bi (Nat.beq a.nxt b.nxt) (subT a.heap b.heap) false = true from hs)
  have := beq_t h1
  exact h.sub (fun k x e => subT_t h2 k x e) (by omega)
theorem subSt_nxt {a b : St} (hs : subSt a b = true) : a.nxt = b.nxt := beq_t (bi_ff (show bi (Nat.beq a.nxt b.nxt) (subT a.heap b.heap) false = true from hs)).1

structure Memo where
  f : FuncId
  args : List V
  st : St
  v : V
  st' : St
/-- what a call gives is what is told of it, or more -/
noncomputable def retIs (r : Ret) (v : V) (st : St) : Bool := Ret.rec false (fun u s => bi (eqV u v) (subSt st s) false) r
noncomputable def Memo.ok (T : Tab) (n : Nat) (m : Memo) : Bool := retIs (evCall T n m.f m.args m.st) m.v m.st'
noncomputable def Memo.tell (m : Memo) : SumF := fun args st => bi (eqVs args m.args) (bi (subSt m.st st) (.val m.v m.st') .fail) .fail
noncomputable def tellAll (l : List Memo) : FuncId → SumF := List.rec (motive := fun _ => FuncId → SumF) (fun _ _ _ => .fail) (fun m _ ih f args st => bi (bi (Nat.beq m.f f) (Nat.beq m.st.nxt st.nxt) false) (m.tell args st) (ih f args st)) l
noncomputable def isMemo (l : List Memo) (f : FuncId) : Bool := List.rec false (fun m _ ih => bi (Nat.beq m.f f) true ih) l
/-- a table that tells such calls -/
noncomputable def Tab.with (T : Tab) (l : List Memo) : Tab := ⟨T.types, T.funcs, T.exts, T.meths, T.eqs, T.globals, fun f => bi (isMemo l f) (some (tellAll l f)) (T.summ f)⟩

section
variable {P : Program} {T : Tab}
theorem SumsAt.tab {W : Base} {f : FuncId} {s : SumF} (h : SumsAt P T W f s) {T' : Tab} (e : T'.globals = T.globals) : SumsAt P T' W f s := fun args st v st' hv ρ w xs hR hx =>
  (h args st v st' hv ρ w xs (hR.tab e.symm) hx).mono fun q w' hq => by
    cases q with
    | returned x =>
      obtain ⟨σ, h1, h2, h3⟩ := hq
      exact ⟨σ, h1, h2.tab e, h3⟩
    | panicked c => exact hq.elim
    | outgrown => exact hq.elim
theorem Memo.sums {m : Memo} {n : Nat} (hc : ∀ W, CallOk P T W (evCall T n)) (hm : m.ok T n = true) : Sums P T m.f m.tell := by
  intro W args st v st' hv ρ w xs hR hx
  have hv' : bi (eqVs args m.args) (bi (subSt m.st st) (.val m.v m.st') .fail) .fail = Ret.val v st' := hv
  cases h1 : eqVs args m.args with
  | false => rw [h1] at hv'; cases (show Ret.fail = Ret.val v st' from hv')
  | true =>
    rw [h1, bi_t] at hv'
    cases h2 : subSt m.st st with
    | false => rw [h2] at hv'; cases (show Ret.fail = Ret.val v st' from hv')
    | true =>
      rw [h2, bi_t] at hv'
      cases hv'
      have e := eqVs_t _ _ h1
      subst e
      have hok : retIs (evCall T n m.f m.args m.st) m.v m.st' = true := hm
      cases hr : evCall T n m.f m.args m.st with
      | fail => rw [hr] at hok; cases (show false = true from hok)
      | val u s =>
        rw [hr] at hok
        obtain ⟨h3, h4⟩ := bi_ff (show bi (eqV u m.v) (subSt m.st' s) false = true from hok)
        have := eqV_t _ _ h3
        subst this
        refine (hc W m.f m.args m.st _ s hr ρ w xs (subSt_rel h2 hR) hx).mono fun q w' hq => ?_
        cases q with
        | returned x =>
          obtain ⟨σ, g1, g2, g3⟩ := hq
          refine ⟨σ, ?_, subSt_rel h4 g2, g3⟩
          rw [← subSt_nxt h2, subSt_nxt h4]
          exact g1
        | panicked c => exact hq.elim
        | outgrown => exact hq.elim
theorem tellAll_sums : ∀ (l : List Memo) (f : FuncId), (∀ m ∈ l, Sums P T m.f m.tell) → Sums P T f (tellAll l f)
  | [], f, _ => fun W args st v st' hv => by cases (show Ret.fail = Ret.val v st' from hv)
  | m :: l, f, h => fun W args st v st' hv => by
    have hv' : bi (bi (Nat.beq m.f f) (Nat.beq m.st.nxt st.nxt) false) (m.tell args st) (tellAll l f args st) = Ret.val v st' := hv
    cases hb : bi (Nat.beq m.f f) (Nat.beq m.st.nxt st.nxt) false with
    | false =>
      rw [hb, bi_f] at hv'
      exact tellAll_sums l f (fun m hm => h m (by simp [hm])) W args st v st' hv'
    | true =>
      rw [hb, bi_t] at hv'
      have e := beq_t (bi_ff hb).1
      exact e ▸ h m (by simp) W args st v st' hv'
theorem sumOk_with (l : List Memo) (h : ∀ m ∈ l, Sums P T m.f m.tell) (W : Base) (hs : SumOk P T W) : SumOk P (T.with l) W := by
  intro f s hf
  have hf' : bi (isMemo l f) (some (tellAll l f)) (T.summ f) = some s := hf
  cases hi : isMemo l f with
  | true =>
    rw [hi, bi_t] at hf'
    cases hf'
    exact (tellAll_sums l f h W).tab rfl
  | false =>
    rw [hi, bi_f] at hf'
    exact SumsAt.tab (T := T) (hs f s hf') rfl
end
end Ev
end Go.Proofs.YtodegmphcjgipaaGreatDoor
