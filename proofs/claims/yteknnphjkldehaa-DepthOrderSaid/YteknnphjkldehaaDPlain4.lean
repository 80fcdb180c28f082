/-
  Plain law of layer 27, fourth part: the order of the ranges has no influence.
-/
import Derived.Test.YteknnphjkldehaaDPlain3
namespace Go.Proofs.Yteknnphjkldehaa

theorem stab_perm {t : Int} {L M : List Rg} (h : L.Perm M) (p : Rk) : stabR t L p = stabR t M p := h.countP_eq _
theorem chk_perm {t : Int} {L M : List Rg} (h : L.Perm M) : chkR t L = chkR t M := by
  unfold chkR
  rw [h.length_eq]
  congr 2
  rw [Bool.eq_iff_iff, List.any_eq_true, List.any_eq_true]
  exact ⟨fun ⟨x, hx, e⟩ => ⟨x, h.mem_iff.1 hx, e⟩, fun ⟨x, hx, e⟩ => ⟨x, h.mem_iff.2 hx, e⟩⟩
theorem max_perm {t : Int} {L M : List Rg} (h : L.Perm M) : maxF t L L 0 ≤ maxF t M M 0 := by
  rcases maxF_hit t L L 0 with h1 | ⟨r, hr, h1⟩
  · omega
  · have := (maxF_ge t M M 0).2 r (h.mem_iff.1 hr)
    rw [h1, stab_perm h]
    exact this
theorem depth_perm {t : Int} {L M : List Rg} (h : L.Perm M) (hc : chkR t L = true) : (mostR t L).1 = (mostR t M).1 := by
  rw [most_chk hc, most_chk (by rw [← chk_perm h]; exact hc)]
  exact Nat.le_antisymm (max_perm h) (max_perm h.symm)
/-- Ranks of the makers that compare as equal are equal. -/
theorem gen_eq {a b : Rk} (ha : GenR a) (hb : GenR b) (h : cmpR 1 a b = 0) : a = b := by
  obtain ⟨x, y, _, _, rfl⟩ := ha
  obtain ⟨u, v, _, _, rfl⟩ := hb
  have h1 : (x : Int) = u ∧ (y : Int) = v := by
    unfold cmpR at h
    simp only [cmpV, cmpI, ord3, Bool.and_self, Bool.false_eq_true, if_false] at h
    have h13 : ((1 : Int) == 3) = false := rfl
    rw [h13] at h
    simp only [Bool.false_eq_true, if_false, decide_eq_true_eq, beq_iff_eq] at h
    repeat' split at h
    all_goals (first | omega | (simp at *; omega))
  rw [h1.1, h1.2]
theorem peak_perm {L M : List Rg} (h : L.Perm M) (hg : ∀ p ∈ L, GenG p) (hc : chkR 1 L = true) : mostR 1 L = mostR 1 M := by
  have hc2 : chkR 1 M = true := by rw [← chk_perm h]; exact hc
  have hd := depth_perm h hc
  have hg2 : ∀ p ∈ M, GenG p := fun p hp => hg p (h.mem_iff.2 hp)
  refine Prod.ext hd ?_
  cases L with
  | nil =>
    have : M = [] := List.eq_nil_of_length_eq_zero (by rw [← h.length_eq]; rfl)
    subst this
    rfl
  | cons a X =>
    have hne : M ≠ [] := by
      intro e
      subst e
      have := h.length_eq
      simp at this
    obtain ⟨r, hr, er⟩ := peak_begins hc (by simp : a :: X ≠ [])
    obtain ⟨s, hs, es⟩ := peak_begins hc2 hne
    have hpr := (peak_at hc (by simp : a :: X ≠ [])).2
    have hps := (peak_at hc2 hne).2
    rw [stab_chk hc] at hpr
    rw [stab_chk hc2] at hps
    refine gen_eq (peak_gen hg hc) (peak_gen hg2 hc2) ?_
    have c1 : ¬ cmpR 1 (mostR 1 M).2 (mostR 1 (a :: X)).2 < 0 := fun hlt => by
      have := peak_least hc (h.mem_iff.2 hs) (by rw [es]; exact hlt)
      rw [stab_chk hc, stab_perm h, es, hps, hd] at this
      omega
    have c2 : ¬ cmpR 1 (mostR 1 (a :: X)).2 (mostR 1 M).2 < 0 := fun hlt => by
      have := peak_least hc2 (h.mem_iff.1 hr) (by rw [er]; exact hlt)
      rw [stab_chk hc2, ← stab_perm h, er, hpr, hd] at this
      omega
    have := (ord3R 1).neg (mostR 1 M).2 (mostR 1 (a :: X)).2
    omega

end Go.Proofs.Yteknnphjkldehaa
