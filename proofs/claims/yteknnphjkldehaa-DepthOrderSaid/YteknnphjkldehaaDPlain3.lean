/-
  Plain law of layer 27, third part: the peak is the least of the beginnings that lie in most ranges.
-/
import Derived.Test.YteknnphjkldehaaDPlain2
namespace Go.Proofs.Yteknnphjkldehaa

def lastQ (t : Int) (L : List Rg) (s : Nat × Rk) (r : Rg) : Prop := stabR t L r.lo < s.1 ∨ (stabR t L r.lo = s.1 ∧ 0 ≤ cmpR t r.lo s.2)
theorem lastQ_self (t : Int) (L : List Rg) (s : Nat × Rk) (a : Rg) : lastQ t L (mostS t L s a) a := by
  unfold lastQ mostS
  by_cases h : s.1 < stabR t L a.lo ∨ (stabR t L a.lo = s.1 ∧ cmpR t a.lo s.2 < 0)
  · rw [if_pos h]
    exact .inr ⟨rfl, by rw [(ord3R t).refl]; omega⟩
  · rw [if_neg h]
    rcases Nat.lt_trichotomy (stabR t L a.lo) s.1 with h1 | h1 | h1
    · exact .inl h1
    · exact .inr ⟨h1, by omega⟩
    · exact absurd (.inl h1) h
theorem lastQ_keep {t : Int} {L : List Rg} {s : Nat × Rk} {r : Rg} (a : Rg) (hq : lastQ t L s r) : lastQ t L (mostS t L s a) r := by
  unfold lastQ at hq ⊢
  unfold mostS
  by_cases h : s.1 < stabR t L a.lo ∨ (stabR t L a.lo = s.1 ∧ cmpR t a.lo s.2 < 0)
  · rw [if_pos h]
    dsimp only
    rcases h with h | ⟨h, h2⟩
    · rcases hq with hq | ⟨hq, _⟩
      · exact .inl (by omega)
      · exact .inl (by omega)
    · rcases hq with hq | ⟨hq, h3⟩
      · exact .inl (by omega)
      · refine .inr ⟨by omega, ?_⟩
        have n1 := (ord3R t).neg r.lo s.2
        have n2 := (ord3R t).neg a.lo r.lo
        have := (ord3R t).trans a.lo s.2 r.lo (by omega) (by omega)
        omega
  · rw [if_neg h]; exact hq
theorem lastQ_fold (t : Int) (L : List Rg) : ∀ (X : List Rg) (s : Nat × Rk), (∀ r, lastQ t L s r → lastQ t L (X.foldl (mostS t L) s) r) ∧ ∀ r ∈ X, lastQ t L (X.foldl (mostS t L) s) r
  | [], s => ⟨fun _ h => h, by simp⟩
  | a :: X, s => by
    have ih := lastQ_fold t L X (mostS t L s a)
    rw [List.foldl_cons]
    refine ⟨fun r h => ih.1 r (lastQ_keep a h), fun r hr => ?_⟩
    rcases List.mem_cons.1 hr with rfl | h
    · exact ih.1 _ (lastQ_self t L s _)
    · exact ih.2 r h
theorem most_mem (t : Int) (L : List Rg) : ∀ (X : List Rg) (s : Nat × Rk), X.foldl (mostS t L) s = s ∨ ∃ r ∈ X, (X.foldl (mostS t L) s).2 = r.lo
  | [], s => .inl rfl
  | a :: X, s => by
    rw [List.foldl_cons]
    rcases most_mem t L X (mostS t L s a) with h | ⟨r, hr, h⟩
    · rw [h]
      unfold mostS
      split
      · exact .inr ⟨a, by simp, rfl⟩
      · exact .inl rfl
    · exact .inr ⟨r, by simp [hr], h⟩
/-- No beginning of a range before the peak lies in as many ranges. -/
theorem peak_least {t : Int} {L : List Rg} (h : chkR t L = true) {r : Rg} (hr : r ∈ L) (hlt : cmpR t r.lo (mostR t L).2 < 0) : stabC t L r.lo < (mostR t L).1 := by
  have hq := (lastQ_fold t L L (0, zeroR)).2 r hr
  rw [stab_chk h]
  rw [mostR, h, if_pos rfl] at hlt ⊢
  rcases hq with hq | ⟨_, h2⟩
  · exact hq
  · unfold mostL at hlt; omega
theorem peak_begins {t : Int} {L : List Rg} (h : chkR t L = true) (hne : L ≠ []) : ∃ r ∈ L, r.lo = (mostR t L).2 := by
  have h0 := (peak_at h hne).1
  rw [mostR, h, if_pos rfl] at h0 ⊢
  rcases most_mem t L L (0, zeroR) with h1 | ⟨r, hr, h1⟩
  · unfold mostL at h0; rw [h1] at h0; simp at h0
  · exact ⟨r, hr, h1.symm⟩

theorem peak_gen {L : List Rg} (hg : ∀ p ∈ L, GenG p) (h : chkR 1 L = true) : GenR (mostR 1 L).2 := by
  cases L with
  | nil => exact ⟨0, 0, by omega, by omega, rfl⟩
  | cons a X =>
    obtain ⟨r, hr, e⟩ := peak_begins h (by simp)
    rw [← e]
    exact (hg r hr).1

end Go.Proofs.Yteknnphjkldehaa
