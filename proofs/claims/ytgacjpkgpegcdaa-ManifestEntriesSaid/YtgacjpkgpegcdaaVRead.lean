/-
  Plain law of layer 1, second part: what was read at an index, and what is read where a number was put.
-/
import Derived.Test.YtgacjpkgpegcdaaVPlain
namespace Go.Proofs.Ytgacjpkgpegcdaa

theorem getL_drop {s r : List UInt8} {v i : Nat} (hv : U64 v) (h : s.drop i = putL v ++ r) : getL s i = (v, ((i + (putL v).length : Nat) : Int), 0) := by
  have hi : i ≤ s.length := by
    rcases Nat.lt_or_ge s.length i with h1 | h1
    · have := putL_pos v
      rw [List.drop_eq_nil_of_le (by omega)] at h
      have := congrArg List.length h
      simp at this; omega
    · exact h1
  rw [getL_in hi]
  have := getGo_put s r i v 0 0 (by simpa using h) (by unfold U64 at hv; omega) (Or.inl rfl)
  simpa using this
/-- What was read at an index. -/
theorem getL_read {s : List UInt8} {i v : Nat} {j : Int} (h : getL s i = (v, j, 0)) : ∃ m : Nat, j = ((i + m : Nat) : Int) ∧ 1 ≤ m ∧ i + m ≤ s.length ∧ s.drop i = putL v ++ s.drop (i + m) := by
  have hi : i ≤ s.length := by
    rcases Nat.lt_or_ge s.length i with h1 | h1
    · rw [getL_out (Or.inr (by omega))] at h; cases h
    · exact h1
  rw [getL_in hi] at h
  rcases getGo_short s i 10 0 0 v j 0 rfl h with ⟨_, x, n, hv, hj, h1, h2, h3, _⟩ | ⟨h0, _⟩
  · refine ⟨n, by simpa using hj, h1, by simpa using h2, ?_⟩
    have e : v = x := by simpa using hv
    subst e
    rw [h3, Nat.add_zero, ← List.drop_drop, List.take_append_drop]
  · exact absurd rfl h0
theorem getL_err {s : List UInt8} {i : Int} : (getL s i).2.2 = 0 ∨ (getL s i).2.2 = 2 ∨ (getL s i).2.2 = 4 ∨ (getL s i).2.2 = 8 ∨ (getL s i).2.2 = 10 := by
  have h : ∀ (f k v b : Nat), (getGo s b f k v).2.2 = 0 ∨ (getGo s b f k v).2.2 = 2 ∨ (getGo s b f k v).2.2 = 4 ∨ (getGo s b f k v).2.2 = 8 ∨ (getGo s b f k v).2.2 = 10 := by
    intro f
    induction f with
    | zero => intro k v b; simp [getGo]
    | succ f ih =>
      intro k v b
      rw [getGo]
      split
      · simp
      · split
        · simp
        · split
          · split <;> simp
          · exact ih _ _ _
  unfold getL
  split
  · simp
  · exact h _ _ _ _


/-- What Get returns: a number and the index behind it, or an error and zeros. -/
theorem getL_cases (s : List UInt8) (i : Int) : (∃ (v : Nat) (a m : Nat), i = (a : Int) ∧ getL s i = (v, ((a + m : Nat) : Int), 0) ∧ U64 v ∧ 1 ≤ m ∧ a + m ≤ s.length ∧ s.drop a = putL v ++ s.drop (a + m)) ∨ (∃ e : Int, e ≠ 0 ∧ getL s i = (0, 0, e)) := by
  have hU := getL_U64 s i
  obtain ⟨v, j, e, hr⟩ : ∃ v j e, getL s i = (v, j, e) := ⟨_, _, _, rfl⟩
  by_cases he : e = 0
  · subst he
    left
    by_cases hi : i < 0 ∨ (s.length : Int) < i
    · rw [getL_out hi] at hr; cases hr
    · obtain ⟨a, rfl⟩ := Int.eq_ofNat_of_zero_le (show 0 ≤ i by omega)
      obtain ⟨m, rfl, h1, h2, h3⟩ := getL_read hr
      rw [hr] at hU
      exact ⟨v, a, m, rfl, hr, hU, h1, h2, h3⟩
  · right
    by_cases hi : i < 0 ∨ (s.length : Int) < i
    · rw [getL_out hi] at hr ⊢
      cases hr
      exact ⟨4, by decide, rfl⟩
    · obtain ⟨a, rfl⟩ := Int.eq_ofNat_of_zero_le (show 0 ≤ i by omega)
      have h0 := getL_in (s := s) (at_ := a) (by omega)
      rw [h0] at hr
      rcases getGo_short s a 10 0 0 v j e rfl hr with ⟨h1, _⟩ | ⟨_, h2, h3⟩
      · exact absurd h1 he
      · subst h2; subst h3
        exact ⟨e, he, h0.trans hr⟩

end Go.Proofs.Ytgacjpkgpegcdaa
