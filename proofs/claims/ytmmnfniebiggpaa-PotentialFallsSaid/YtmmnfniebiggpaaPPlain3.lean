/-
  Plain law of layer 30, third part: ranges with a rank in common, replaced by disjoint ranges within their hull.
-/
import Derived.Test.YtmmnfniebiggpaaPPlain2
namespace Go.Proofs.Ytmmnfniebiggpaa

theorem stab_one (t : Int) (a : Rg) (p : Rk) : stabR t [a] p = if hasB t a p then 1 else 0 := by
  unfold stabR
  rw [List.countP_cons, List.countP_nil]; simp
theorem stab_two (t : Int) (a b : Rg) (p : Rk) : stabR t [a, b] p = (if hasB t a p then 1 else 0) + if hasB t b p then 1 else 0 := by
  unfold stabR
  rw [List.countP_cons, List.countP_cons, List.countP_nil]; omega
/-- Ranges that all contain x cover their hull. -/
theorem hull_cover {t : Int} {h : Rg} {T : List Rg} {x p : Rk} (hx : ∀ r ∈ h :: T, hasB t r x = true) (hp : hasB t (hullT t h T) p = true) : 1 ≤ stabR t (h :: T) p := by
  obtain ⟨⟨r, hr, er⟩, ⟨s, hs, es⟩⟩ := hullT_mem t T h
  unfold hasB at hp
  simp only [Bool.and_eq_true, decide_eq_true_eq] at hp
  refine List.countP_pos_iff.2 ?_
  rcases (ord3R t).total p x with h1 | h1
  · have h2 := hx r hr
    unfold hasB at h2
    simp only [Bool.and_eq_true, decide_eq_true_eq] at h2
    refine ⟨r, hr, ?_⟩
    unfold hasB
    simp only [Bool.and_eq_true, decide_eq_true_eq]
    exact ⟨by rw [er]; exact hp.1, (ord3R t).trans _ _ _ h1 h2.2⟩
  · have h2 := hx s hs
    unfold hasB at h2
    simp only [Bool.and_eq_true, decide_eq_true_eq] at h2
    refine ⟨s, hs, ?_⟩
    unfold hasB
    simp only [Bool.and_eq_true, decide_eq_true_eq]
    exact ⟨(ord3R t).trans _ _ _ h2.1 h1, by rw [es]; exact hp.2⟩
theorem stab_all {t : Int} {L : List Rg} {x : Rk} (hx : ∀ r ∈ L, hasB t r x = true) : stabR t L x = L.length := by
  unfold stabR
  rw [List.countP_eq_length]
  exact hx
/-- A sum over ranks, of which one is x. -/
theorem ssum_drop {t : Int} {L M : List Rg} {x : Rk} {k : Nat} (hle : ∀ p, stabR t M p ≤ stabR t L p) (hx : stabR t M x + k ≤ stabR t L x) : ∀ {P : List Rk}, x ∈ P → ssum t M P + k ≤ ssum t L P
  | p :: P, h => by
    rw [ssum, ssum]
    have h0 := hle p
    rcases List.mem_cons.1 h with rfl | h
    · have : ∀ Q, ssum t M Q ≤ ssum t L Q := by
        intro Q
        induction Q with
        | nil => exact Nat.le_refl _
        | cons q Q ih => rw [ssum, ssum]; have := hle q; omega
      have := this P
      omega
    · have := ssum_drop hle hx h
      omega
  | [], h => by cases h
theorem fall_le {t : Int} {h : Rg} {T M : List Rg} {x : Rk} {P : List Rk} (hx : ∀ r ∈ h :: T, hasB t r x = true) (hM : ∀ p, stabR t M p ≤ 1 ∧ (1 ≤ stabR t M p → hasB t (hullT t h T) p = true)) (hl : M.length ≤ 2) (h2 : 2 ≤ (h :: T).length) (hxP : x ∈ P) :
    M.length + ssum t M P + ((h :: T).length - 1) ≤ (h :: T).length + ssum t (h :: T) P := by
  have hle : ∀ p, stabR t M p ≤ stabR t (h :: T) p := fun p => by
    have h1 := hM p
    rcases Nat.eq_zero_or_pos (stabR t M p) with h0 | h0
    · omega
    · have := hull_cover hx (h1.2 h0)
      omega
  have hxx : stabR t M x + ((h :: T).length - 1) ≤ stabR t (h :: T) x := by
    rw [stab_all hx]
    have := (hM x).1
    omega
  have := ssum_drop hle hxx hxP
  omega
theorem fall_hull {t : Int} {H : Rg} : ∀ p, stabR t [H] p ≤ 1 ∧ (1 ≤ stabR t [H] p → hasB t H p = true) := fun p => by
  rw [stab_one]
  cases hasB t H p <;> simp
theorem fall_cut {t : Int} {H : Rg} {k k' : Rk} (h1 : cmpR t H.lo k ≤ 0) (h2 : cmpR t k H.hi < 0) (h3 : cmpR t k k' < 0) : ∀ p, stabR t [⟨H.lo, k⟩, ⟨k', H.hi⟩] p ≤ 1 ∧ (1 ≤ stabR t [⟨H.lo, k⟩, ⟨k', H.hi⟩] p → hasB t H p = true) := fun p => by
  rw [stab_two]
  cases ha : hasB t ⟨H.lo, k⟩ p <;> cases hb : hasB t ⟨k', H.hi⟩ p
  · simp
  · refine ⟨by simp, fun _ => ?_⟩
    unfold hasB at hb ⊢
    simp only [Bool.and_eq_true, decide_eq_true_eq] at hb ⊢
    exact ⟨(ord3R t).trans _ _ _ h1 ((ord3R t).trans _ _ _ (by omega) hb.1), hb.2⟩
  · refine ⟨by simp, fun _ => ?_⟩
    unfold hasB at ha ⊢
    simp only [Bool.and_eq_true, decide_eq_true_eq] at ha ⊢
    exact ⟨ha.1, (ord3R t).trans _ _ _ ha.2 (by omega)⟩
  · exfalso
    unfold hasB at ha hb
    simp only [Bool.and_eq_true, decide_eq_true_eq] at ha hb
    have := (ord3R t).trans _ _ _ hb.1 ha.2
    have n := (ord3R t).neg k k'
    omega
theorem cut_lt (n : Int) : cmpR 1 ⟨⟨false, n, ⟨#[]⟩⟩, 1⟩ ⟨⟨false, n, ⟨#[]⟩⟩, 2⟩ < 0 := by
  simp [cmpR, cmpV, cmpI, ord3]

end Go.Proofs.Ytmmnfniebiggpaa
