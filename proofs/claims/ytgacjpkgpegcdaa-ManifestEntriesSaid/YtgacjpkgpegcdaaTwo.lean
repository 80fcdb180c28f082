/-
  'l = append(l, x)' beside a row that is read: where the new slice lies.
-/
import Derived.Test.YtgacjpkgpegcdaaWide
import Derived.Maps.AppendAt
namespace Go.Proofs.Ytgacjpkgpegcdaa
open Go.RowKit

/-- The slice at A holds the cells ys, in another block than the one that v owns. -/
def RdA (w : World) (v : Value) (A : Option Addr) (ys : List Value) : Prop :=
  ys = [] ∨ ∃ ad, A = some ad ∧ ad.block < w.heap.size ∧ (∀ k, v.ownBlock = some k → ad.block ≠ k) ∧ ∀ (j : Nat) (u : Value), ys[j]? = some u → w.cell? (ad.add j) = some u
theorem RdA.rd {w : World} {v : Value} {A : Option Addr} {ys : List Value} (h : RdA w v A ys) : Rd w w.heap.size A ys := by
  rcases h with h | ⟨ad, e, hb, _, hc⟩
  · exact .inl h
  · exact .inr ⟨ad, e, hb, hc⟩
/-- A row that was made behind v's own. -/
theorem RdA.new {w0 w w' : World} {e e' : TypeId} {size size' n n' c : Nat} {v : Value} {xs ys : List Value} {A : Option Addr} (h : Own w0 w e size v n xs) (hr : w'.ownsRow w.heap.size e' size' (.slice A n' c) n' ys) : RdA w' v A ys := by
  rcases hr.2 with ⟨hv, h0⟩ | ⟨g, cap, cur, hv, hb, hg, _⟩
  · exact .inl (List.eq_nil_of_length_eq_zero (by rw [hr.1, h0]; omega))
  · injection hv with hA
    subst hA
    refine .inr ⟨_, rfl, (Array.getElem?_eq_some_iff.1 hg).1, fun k hk e => ?_, fun j u hj => hr.cells (g := g) rfl j u hj⟩
    have := (h.1.lt k hk).2
    simp only at e
    omega
theorem RdA.grown {w w' : World} {v v' : Value} {A : Option Addr} {ys : List Value} (h : RdA w v A ys) (hg : w.grownBy w' v.ownBlock) (hv : v'.ownBlock = v.ownBlock ∨ ∃ k, v'.ownBlock = some k ∧ w.heap.size ≤ k) : RdA w' v' A ys := by
  rcases h with h | ⟨ad, e, hb, hne, hc⟩
  · exact .inl h
  · refine .inr ⟨ad, e, by have := hg.size; omega, fun k hk e' => ?_, fun j u hj => ?_⟩
    · rcases hv with hv | ⟨k', hv, hk'⟩
      · rw [hv] at hk; exact hne k hk e'
      · rw [hv] at hk; cases hk; omega
    · rw [← hc j u hj]
      exact World.cell?_of_block (hg.block (ad.add j).block (by rw [block_of_add]; exact hb) (fun e' => by rw [block_of_add] at e'; exact hne _ e'.symm rfl))
theorem RdA.call {w w' : World} {v : Value} {A : Option Addr} {ys : List Value} (h : RdA w v A ys) (hb : Below w.heap.size w w') : RdA w' v A ys := by
  rcases h with h | ⟨ad, e, hlt, hne, hc⟩
  · exact .inl h
  · exact .inr ⟨ad, e, by have := hb.size; omega, hne, fun j u hj => (hb.cell (by rw [block_of_add]; exact hlt)).trans (hc j u hj)⟩
theorem RdA.alloc {w : World} {v : Value} {A : Option Addr} {ys : List Value} (h : RdA w v A ys) (o : Obj) : RdA (w.alloc o) v A ys := h.call ((Below.refl _ _).alloc (Nat.le_refl _) o)
theorem RdA.drew {w : World} {v : Value} {A : Option Addr} {ys : List Value} (h : RdA w v A ys) : RdA w.drew v A ys := h
theorem RdA.at_ {w : World} {v : Value} {A : Option Addr} {ys : List Value} {j : Nat} {u : Value} (h : RdA w v A ys) (hj : ys[j]? = some u) : ∃ ad, A = some ad ∧ ad.block < w.heap.size ∧ w.cell? (ad.add j) = some u := h.rd.at_ hj
/-- What an appending step hands on. -/
def After2 (w0 w1 : World) (e : TypeId) (size : Nat) (v : Value) (n : Nat) (xs news : List Value) (v' : Value) (w' : World) : Prop :=
  Own w0 w' e size v' (n + 1) (xs ++ news) ∧ ∀ A ys, RdA w1 v A ys → RdA w' v' A ys
/-- 'l = append(l, x)' of one element: what lies in other rows is kept. -/
theorem own_one2 {P : Program} {w0 w1 : World} {e : TypeId} {size bytes : Nat} {v : Value} {n : Nat} {xs : List Value} (hb : Own w0 w1 e size v n xs)
    {t : TypeId} {z : Value} (hT : SlTy P t e z size bytes) (hzs : z.cells.size = size) (hsz : 0 < size) {cs : Array Value} (hcs : cs.size = size) (h1 : ∀ u ∈ cs.toList, u.oneCell' = true)
    (hfit : (n + 1) * bytes ≤ 140737488355328) (h63 : n + 1 ≤ maxLen)
    {ops : Array Oper} {rest : List Oper} {o : Oper} {a : Act} {Q : Exit → Act → World → Prop}
    (h : ∀ v' w', After2 w0 w1 e size v n xs cs.toList v' w' → wpList P ops Q rest (a.put o.dst v') w')
    (hgd : o.guard = none) (s x : Operand) (ho : o.op = .call { callee := .builtin .append, args := #[s, x], argTypes := #[t, t] })
    (hs : a.eval s = v) (hx : a.eval x = .slice (some ⟨w1.heap.size, 0, none⟩) 1 1) : wpList P ops Q (o :: rest) a (w1.alloc (.cells cs e)) := by
  obtain ⟨ht, i, hi, hz, hs1, hs2⟩ := hT
  have hb' := hb.alloc (.cells cs e)
  refine wpList_append_own_at _ hgd s x t ho w0.heap.size e i z size bytes ht hi hz hs1 hs2 hzs hsz v n xs hs hb'.1 ⟨w1.heap.size, 0, none⟩ 1 1 cs.toList hx (by simp [hcs]) ?_ h1 h63 hfit hb'.2.size ?_
  · intro j u hj
    have e0 : (⟨w1.heap.size, 0, none⟩ : Addr).add j = ⟨w1.heap.size, j, none⟩ := by unfold Addr.add; split <;> simp_all
    rw [e0, World.cell?_alloc_mark]
    simpa using hj
  · intro v' w' ho' hg _ hat
    exact h v' w' ⟨hb'.grown ho' hg, fun A ys hr => (hr.alloc _).grown hg (by
      rcases hat with h | h
      · exact .inl h
      · exact .inr ⟨_, h, Nat.le_refl _⟩)⟩
/-- The same as one step of a region that draws. -/
theorem step_one2 {P : Program} {w0 w1 : World} {e : TypeId} {size bytes : Nat} {v : Value} {n : Nat} {xs : List Value} (hb : Own w0 w1 e size v n xs)
    {t : TypeId} {z : Value} (hT : SlTy P t e z size bytes) (hzs : z.cells.size = size) (hsz : 0 < size) {cs : Array Value} (hcs : cs.size = size) (h1 : ∀ u ∈ cs.toList, u.oneCell' = true)
    (hfit : (n + 1) * bytes ≤ 140737488355328) (h63 : n + 1 ≤ maxLen)
    {ops : Array Oper} {o : Oper} {a : Act} {K : Act → World → Prop} {Q : Exit → Act → World → Prop} {E : Prop}
    (hgd : o.guard = none) (s x : Operand) (ho : o.op = .call { callee := .builtin .append, args := #[s, x], argTypes := #[t, t] })
    (hs : a.eval s = v) (hx : a.eval x = .slice (some ⟨w1.heap.size, 0, none⟩) 1 1) (h : ∀ v' w', After2 w0 w1 e size v n xs cs.toList v' w' → K (a.put o.dst v') w') :
    if Region.wanted o (yielded ops a.tmps) = true then Oper.wp P o a (w1.alloc (.cells cs e)) K Q else E := by
  obtain ⟨ht, i, hi, hz, hs1, hs2⟩ := hT
  have hb' := hb.alloc (.cells cs e)
  have hnews : ∀ (j : Nat) (u : Value), cs.toList[j]? = some u → (w1.alloc (.cells cs e)).cell? ((⟨w1.heap.size, 0, none⟩ : Addr).add j) = some u := by
    intro j u hj
    have e0 : (⟨w1.heap.size, 0, none⟩ : Addr).add j = ⟨w1.heap.size, j, none⟩ := by unfold Addr.add; split <;> simp_all
    rw [e0, World.cell?_alloc_mark]
    simpa using hj
  rw [if_pos (by simp [Region.wanted, hgd])]
  obtain ⟨v', w', hr, ho', hg, _, hat⟩ := run_append_own_at (P := P) (w1.alloc (.cells cs e)) w0.heap.size t o.type e i z size bytes ht hi hz hs1 hs2 hzs hsz v n xs hb'.1 ⟨w1.heap.size, 0, none⟩ 1 1 cs.toList (by simp [hcs]) hnews h1 h63 hfit hb'.2.size
  unfold Oper.wp execOp
  simp only [ho, resolve, invoke, builtin, Sem.run_bind, Sem.run_pure, Result.andThen_ok, List.map_toArray, List.map_cons, List.map_nil, hs, hx, hr]
  exact h v' w' ⟨hb'.grown ho' hg, fun A ys hr => (hr.alloc _).grown hg (by
    rcases hat with h | h
    · exact .inl h
    · exact .inr ⟨_, h, Nat.le_refl _⟩)⟩

end Go.Proofs.Ytgacjpkgpegcdaa
