/-
  Plain law of layer 27, second part: the depth is the greatest number of ranges over a rank, and it is met at the peak.
-/
import Derived.Test.YteknnphjkldehaaDPlain
import Derived.Test.YteknnphjkldehaaOMake3
namespace Go.Proofs.Yteknnphjkldehaa

theorem gen_chk {L : List Rg} (h : ∀ p ∈ L, GenG p) (hl : L.length ≤ 256) : chkR 1 L = true := by
  unfold chkR
  rw [decide_eq_true hl, Bool.true_and]
  simp only [Bool.not_eq_true', List.any_eq_false]
  intro r hr
  have := (h r hr).2.2
  simp [badR]
  omega
theorem most_chk {t : Int} {L : List Rg} (h : chkR t L = true) : (mostR t L).1 = maxF t L L 0 := by
  rw [← depth_most, depthC, h, if_pos rfl, depF_max h]
/-- Of the ranges over a rank one begins last. -/
theorem last_lo {t : Int} {p : Rk} : ∀ {X : List Rg}, (∃ r ∈ X, hasB t r p = true) → ∃ r ∈ X, hasB t r p = true ∧ ∀ s ∈ X, hasB t s p = true → cmpR t s.lo r.lo ≤ 0
  | [], h => by simp at h
  | a :: X, h => by
    by_cases hX : ∃ r ∈ X, hasB t r p = true
    · obtain ⟨r, hr, hp, hall⟩ := last_lo hX
      cases ha : hasB t a p
      · refine ⟨r, by simp [hr], hp, fun s hs hsp => ?_⟩
        rcases List.mem_cons.1 hs with rfl | hs
        · rw [ha] at hsp; cases hsp
        · exact hall s hs hsp
      · rcases (ord3R t).total a.lo r.lo with h1 | h1
        · refine ⟨r, by simp [hr], hp, fun s hs hsp => ?_⟩
          rcases List.mem_cons.1 hs with rfl | hs
          · exact h1
          · exact hall s hs hsp
        · refine ⟨a, by simp, ha, fun s hs hsp => ?_⟩
          rcases List.mem_cons.1 hs with rfl | hs
          · rw [(ord3R t).refl]; omega
          · exact (ord3R t).trans _ _ _ (hall s hs hsp) h1
    · obtain ⟨r, hr, hp⟩ := h
      have hra : r = a := by
        rcases List.mem_cons.1 hr with h1 | h1
        · exact h1
        · exact absurd ⟨r, h1, hp⟩ hX
      subst hra
      refine ⟨r, by simp, hp, fun s hs hsp => ?_⟩
      rcases List.mem_cons.1 hs with rfl | hs
      · rw [(ord3R t).refl]; omega
      · exact absurd ⟨s, hs, hsp⟩ hX
theorem stab_at_lo {t : Int} {L : List Rg} {p : Rk} (h : 0 < stabR t L p) : ∃ r ∈ L, stabR t L p ≤ stabR t L r.lo := by
  obtain ⟨r0, hr0, hp0⟩ := List.countP_pos_iff.1 h
  obtain ⟨r, hr, hp, hall⟩ := last_lo ⟨r0, hr0, hp0⟩
  refine ⟨r, hr, List.countP_mono_left fun s hs hsp => ?_⟩
  have h1 := hall s hs hsp
  unfold hasB at hsp hp ⊢
  simp only [Bool.and_eq_true, decide_eq_true_eq] at hsp hp ⊢
  exact ⟨h1, (ord3R t).trans _ _ _ hp.1 hsp.2⟩
theorem stab_le_max (t : Int) (L : List Rg) (p : Rk) : stabR t L p ≤ maxF t L L 0 := by
  rcases Nat.eq_zero_or_pos (stabR t L p) with h | h
  · omega
  · obtain ⟨r, hr, h1⟩ := stab_at_lo h
    have := (maxF_ge t L L 0).2 r hr
    omega
theorem stab_le_depth {t : Int} {L : List Rg} (h : chkR t L = true) (p : Rk) : stabC t L p ≤ (mostR t L).1 := by
  rw [stab_chk h, most_chk h]; exact stab_le_max t L p
/-- The peak lies in as many ranges as the depth says. -/
theorem most_at (t : Int) (L : List Rg) : ∀ (X : List Rg) (s : Nat × Rk), (s.1 = 0 ∨ stabR t L s.2 = s.1) → ((X.foldl (mostS t L) s).1 = 0 ∨ stabR t L (X.foldl (mostS t L) s).2 = (X.foldl (mostS t L) s).1)
  | [], s, h => h
  | a :: X, s, h => by
    rw [List.foldl_cons]
    refine most_at t L X _ ?_
    unfold mostS
    split
    · exact .inr rfl
    · exact h
theorem peak_at {t : Int} {L : List Rg} (h : chkR t L = true) (hne : L ≠ []) : 0 < (mostR t L).1 ∧ stabC t L (mostR t L).2 = (mostR t L).1 := by
  have h0 : 0 < (mostR t L).1 := by
    rw [most_chk h]
    cases L with
    | nil => exact absurd rfl hne
    | cons a X =>
      have h1 := (maxF_ge t (a :: X) (a :: X) 0).2 a (by simp)
      have h2 := stab_pos h (r := a) (by simp)
      omega
  refine ⟨h0, ?_⟩
  rw [stab_chk h]
  rw [mostR, h, if_pos rfl] at h0 ⊢
  rcases most_at t L L (0, zeroR) (.inl rfl) with h1 | h1
  · exact absurd h1 (by unfold mostL at h0; omega)
  · exact h1
/-- A rank of the makers in which the depth is met. -/
theorem depth_grid {L : List Rg} (hg : ∀ p ∈ L, GenG p) (h : chkR 1 L = true) : ∃ k s : Int, -1 ≤ k ∧ k < 13 ∧ 0 ≤ s ∧ s < 3 ∧ stabC 1 L ⟨⟨false, k, ⟨#[]⟩⟩, s⟩ = (mostR 1 L).1 := by
  rw [most_chk h]
  rcases maxF_hit 1 L L 0 with h1 | ⟨r, hr, h1⟩
  · refine ⟨0, 0, by omega, by omega, by omega, by omega, ?_⟩
    have := stab_le_max 1 L ⟨⟨false, 0, ⟨#[]⟩⟩, 0⟩
    rw [stab_chk h]
    omega
  · obtain ⟨a, b, ha, hb, e⟩ := (hg r hr).1
    refine ⟨a, b, by omega, by omega, by omega, by omega, ?_⟩
    rw [stab_chk h, h1, e]

end Go.Proofs.Yteknnphjkldehaa
