/-
  delta.Encode at every list.
-/
import Derived.Test.YtodegmphcjgipaaGreatDoorEEnc
namespace Go.Proofs.YtodegmphcjgipaaGreatDoor
open Go.RowKit Go.Shelf

attribute [local go_sem] Oper.semAt_some

theorem encode_none (A : Option Addr) (n c : Nat) (w : World) (h : n = 0 ∨ 4096 < n) :
    Calls Tryz.prog 277 #[.slice A n c] w fun e w' => e = .returned (Sv []) ∧ Below w.heap.size w w' := by
  refine calls_of_wp Tryz.func277 rfl ?_
  simp only [Tryz.ntmps277, List.size_toArray, List.length_cons, List.length_nil, Nat.reduceAdd, Nat.reduceSub, Array.replicate_succ, Array.replicate_zero, List.push_toArray, List.append_toArray, List.nil_append, List.cons_append]
  rcases h with rfl | h
  · go_wp2_with fail
    exact ⟨rfl, _, by simp [results, Tryz.results277, go_sem], rfl, Below.refl _ _⟩
  · have hd0 : ((n : Int) == 0) = false := by simp; omega
    have hd1 : decide ((4096 : Int) < (n : Int)) = true := by simp; omega
    go_wp2_with fail
    exact ⟨rfl, _, by simp [results, Tryz.results277, go_sem], rfl, Below.refl _ _⟩
theorem encode_any (A : Option Addr) (n c : Nat) (L : List Int) (w : World) (hr : Rd w w.heap.size A (L.map Iv)) (hn : L.length = n) (hc : n ≤ c) (hz : ∀ z ∈ L, I64 z) :
    Calls Tryz.prog 277 #[.slice A n c] w fun e w' => e = .returned (Sv (encD L)) ∧ Below w.heap.size w w' := by
  by_cases h : n = 0 ∨ 4096 < n
  · have e : encD L = [] := by
      unfold encD
      rw [if_pos]
      rcases h with h | h
      · exact .inl (List.length_eq_zero_iff.1 (by omega))
      · exact .inr (by omega)
    rw [e]
    exact encode_none A n c w h
  · exact encode_in A n c L w hr hn (by omega) (by omega) hc hz

end Go.Proofs.YtodegmphcjgipaaGreatDoor
