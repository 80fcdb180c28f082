/-
  Slices appended to slices, and elements of an own row that are stored.
-/
import Derived.Test.YtodegmphcjgipaaGreatDoorWide
import Derived.Deep.Upon
namespace Go.Proofs.YtodegmphcjgipaaGreatDoor
open Go.RowKit

/-- 'l = append(l, m...)'. -/
theorem own_list {P : Program} {w0 w1 : World} {e : TypeId} {size bytes : Nat} {v : Value} {n : Nat} {xs : List Value} (hb : Own w0 w1 e size v n xs)
    {t : TypeId} {z : Value} (hT : SlTy P t e z size bytes) (hzs : z.cells.size = size) (hsz : 0 < size) {A : Option Addr} {m c : Nat} {news : List Value}
    (hr : Rd w1 w1.heap.size A news) (hl : news.length = m * size) (h1 : ∀ u ∈ news, u.oneCell' = true)
    (hfit : (n + m + (n + m) / 4 + 192) * bytes ≤ 281474976710656) (h63 : n + m ≤ maxLen)
    {ops : Array Oper} {rest : List Oper} {o : Oper} {a : Act} {Q : Exit → Act → World → Prop}
    (h : ∀ v' w', Own w0 w' e size v' (n + m) (xs ++ news) → wpList P ops Q rest (a.put o.dst v') w')
    (hgd : o.guard = none) (s x : Operand) (ho : o.op = .call { callee := .builtin .append, args := #[s, x], argTypes := #[t, t] })
    (hs : a.eval s = v) (hx : a.eval x = .slice A m c) : wpList P ops Q (o :: rest) a w1 := by
  obtain ⟨ht, i, hi, hz, hs1, hs2⟩ := hT
  cases A with
  | some ad =>
    refine wpList_append_own_wide _ hgd s x t ho w0.heap.size e i z size bytes ht hi hz hs1 hs2 hzs hsz v n xs hs hb.1 ad m c news hx hl ?_ h1 h63 hfit hb.2.size ?_
    · rcases hr with rfl | ⟨ad', e', _, hc⟩
      · intro j u hj; simp at hj
      · cases e'; exact hc
    · intro v' w' ho' hg _
      exact h v' w' (hb.grown ho' hg)
  | none =>
    have hn : news = [] := by
      rcases hr with hr | ⟨_, e', _⟩
      · exact hr
      · cases e'
    subst hn
    have hm : m = 0 := by
      have h0 : m * size = 0 := hl.symm
      rcases Nat.mul_eq_zero.1 h0 with h0 | h0
      · exact h0
      · omega
    subst hm
    obtain ⟨B, d, rfl, hd⟩ := own_form hb.1
    refine wpList_plain hgd fun K hK => ?_
    have hr := run_append_nothing (P := P) w1 t t o.type e i ht hi B n d hd (.slice none 0 c) (_root_.Go.Src.ofNil w1 ht c)
    unfold Oper.wp execOp
    simp only [ho, resolve, invoke, builtin, Sem.run_bind, Sem.run_pure, Result.andThen_ok, List.map_toArray, List.map_cons, List.map_nil, hs, hx, hr]
    exact hK _ _ (h _ _ (by simpa using hb))

/-- The block of an own row that is not empty. -/
theorem own_block {w : World} {base : Nat} {e : TypeId} {n c : Nat} {A : Option Addr} {xs : List Value} {i : Nat} (h : w.ownsRow base e 1 (.slice A n c) n xs) (hi : i < n) :
    ∃ g, A = some ⟨g, 0, none⟩ ∧ base ≤ g ∧ g < w.heap.size ∧ (∀ j, w.frozen? ⟨g, j, none⟩ = false) ∧ (∀ j, j < n → w.cell? ⟨g, j, none⟩ = xs[j]?) ∧
      ∀ j u, j < n → (w.setCell ⟨g, j, none⟩ u).ownsRow base e 1 (.slice (some ⟨g, 0, none⟩) n c) n (xs.set j u) := by
  obtain ⟨hlen, h2⟩ := h
  rcases h2 with ⟨h2, _⟩ | ⟨g, cap, cur, hv, hg, hblk, hnc, hcm, hcs, htk⟩
  · cases h2; omega
  · cases hv
    have hlt : g < w.heap.size := (Array.getElem?_eq_some_iff.1 hblk).1
    rw [Nat.mul_one] at htk hlen hcs
    refine ⟨g, rfl, hg, hlt, fun j => by simp [World.frozen?, hblk], fun j hj => ?_, fun j u hj => ⟨by simp [hlen], .inr ⟨g, c, cur.set! j u, rfl, hg, ?_, hnc, hcm, by simp [hcs], ?_⟩⟩⟩
    · rw [cell_of_row w g j _ e (0, 0) hblk, ← htk, List.getElem?_take_of_lt hj, Array.getElem?_toList]
    · simp [World.setCell, Array.getElem?_modify, hblk]
    · rw [Nat.mul_one, ← htk]
      simp [List.take_set]

end Go.Proofs.YtodegmphcjgipaaGreatDoor
