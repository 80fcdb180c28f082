/-
  Plain law of layer 27: the greatest depth, its least rank, and disjoint ranges, without any program.
-/
import Derived.Test.YteknnphjkldehaaDRef2
namespace Go.Proofs.Yteknnphjkldehaa

theorem chk_lo {t : Int} {L : List Rg} (h : chkR t L = true) : ∀ r ∈ L, cmpR t r.lo r.hi ≤ 0 := by
  intro r hr
  unfold chkR at h
  rw [Bool.and_eq_true] at h
  have h2 := h.2
  simp only [Bool.not_eq_true', List.any_eq_false, badR] at h2
  have := h2 r hr
  simp at this
  omega
theorem hasB_lo {t : Int} {r : Rg} (h : cmpR t r.lo r.hi ≤ 0) : hasB t r r.lo = true := by
  unfold hasB
  rw [(ord3R t).refl]
  simp [h]
theorem stab_chk {t : Int} {L : List Rg} (h : chkR t L = true) (p : Rk) : stabC t L p = stabR t L p := by rw [stabC, h]; rfl
theorem stab_pos {t : Int} {L : List Rg} (h : chkR t L = true) {r : Rg} (hr : r ∈ L) : 1 ≤ stabR t L r.lo :=
  List.countP_pos_iff.2 ⟨r, hr, hasB_lo (chk_lo h r hr)⟩

def maxF (t : Int) (L X : List Rg) (k : Nat) : Nat := X.foldl (fun d r => max d (stabR t L r.lo)) k
theorem maxF_ge (t : Int) (L : List Rg) : ∀ (X : List Rg) (k : Nat), k ≤ maxF t L X k ∧ ∀ r ∈ X, stabR t L r.lo ≤ maxF t L X k
  | [], k => ⟨Nat.le_refl _, by simp⟩
  | a :: X, k => by
    have ih := maxF_ge t L X (max k (stabR t L a.lo))
    unfold maxF at ih ⊢
    rw [List.foldl_cons]
    refine ⟨by omega, fun r hr => ?_⟩
    rcases List.mem_cons.1 hr with rfl | h
    · omega
    · exact ih.2 r h
theorem maxF_hit (t : Int) (L : List Rg) : ∀ (X : List Rg) (k : Nat), maxF t L X k = k ∨ ∃ r ∈ X, maxF t L X k = stabR t L r.lo
  | [], k => .inl rfl
  | a :: X, k => by
    have ih := maxF_hit t L X (max k (stabR t L a.lo))
    unfold maxF at ih ⊢
    rw [List.foldl_cons]
    rcases ih with h | ⟨r, hr, h⟩
    · rcases Nat.le_total k (stabR t L a.lo) with h1 | h1
      · exact .inr ⟨a, by simp, by rw [h, Nat.max_eq_right h1]⟩
      · exact .inl (by rw [h, Nat.max_eq_left h1])
    · exact .inr ⟨r, List.mem_cons_of_mem _ hr, h⟩
theorem depF_max {t : Int} {L : List Rg} (h : chkR t L = true) (X : List Rg) : depF t L X = maxF t L X 0 := by
  unfold depF maxF
  congr 1
  funext d r
  rw [depS, stab_chk h]
theorem most_fst (t : Int) (L : List Rg) : ∀ (X : List Rg) (s : Nat × Rk), (X.foldl (mostS t L) s).1 = maxF t L X s.1
  | [], s => rfl
  | a :: X, s => by
    have ih := most_fst t L X (mostS t L s a)
    unfold maxF at ih ⊢
    rw [List.foldl_cons, List.foldl_cons, ih]
    congr 1
    unfold mostS
    split
    · show stabR t L a.lo = _; omega
    · omega
theorem depth_most (t : Int) (L : List Rg) : depthC t L = (mostR t L).1 := by
  unfold depthC mostR
  cases h : chkR t L
  · rfl
  · rw [if_pos rfl, if_pos rfl, depF_max h]
    exact (most_fst t L L (0, zeroR)).symm

theorem most_peak (t : Int) (L : List Rg) (d : Nat) (hd : 0 < d) (hc : ∀ p, stabC t L p = stabR t L p) : ∀ (X : List Rg) (s : Nat × Rk) (u : Rk × Bool), s.1 ≤ d → (∀ r ∈ X, stabR t L r.lo ≤ d) → u = (if s.1 = d then (s.2, true) else (zeroR, false)) →
    X.foldl (pkS t L d) u = (if (X.foldl (mostS t L) s).1 = d then ((X.foldl (mostS t L) s).2, true) else (zeroR, false))
  | [], s, u, _, _, hu => hu
  | a :: X, s, u, hs, hX, hu => by
    rw [List.foldl_cons, List.foldl_cons]
    have ha := hX a (by simp)
    refine most_peak t L d hd hc X _ _ ?_ (fun r hr => hX r (by simp [hr])) ?_
    · unfold mostS; split
      · exact ha
      · exact hs
    · subst hu
      obtain ⟨k, z⟩ := s
      dsimp only at hs
      unfold pkS mostS
      rw [hc]
      dsimp only
      by_cases h1 : stabR t L a.lo = d
      · by_cases h2 : k = d
        · subst h2
          by_cases h3 : cmpR t a.lo z < 0
          · simp [h1, hd, h3]
          · simp [h1, h3]
        · have h4 : k < d := by omega
          simp [h1, hd, h2, h4]
      · by_cases h2 : k = d
        · subst h2
          have h4 : ¬ k < stabR t L a.lo := by omega
          simp [h1, h4]
        · by_cases h4 : k < stabR t L a.lo ∨ stabR t L a.lo = k ∧ cmpR t a.lo z < 0
          · rw [if_pos h4, if_neg (fun h => h1 h.2.1)]
            simp [h1, h2]
          · rw [if_neg h4, if_neg (fun h => h1 h.2.1)]
theorem peak_same (t : Int) (L : List Rg) : pkR t L = ((mostR t L).2, decide (0 < (mostR t L).1)) := by
  unfold pkR
  cases h : chkR t L
  · have hd : depthC t L = 0 := by rw [depthC, h]; rfl
    have hm : mostR t L = (0, zeroR) := by rw [mostR, h]; rfl
    rw [hd, hm]
    have : ∀ (X : List Rg) (u : Rk × Bool), X.foldl (pkS t L 0) u = u := by
      intro X
      induction X with
      | nil => intro u; rfl
      | cons a X ih =>
        intro u
        rw [List.foldl_cons, show pkS t L 0 u a = u from if_neg (by simp)]
        exact ih u
    exact this L _
  · have hm : mostR t L = mostL t L L := by rw [mostR, h]; rfl
    have hdm := depth_most t L
    cases L with
    | nil => rfl
    | cons a X =>
      have hd : 0 < depthC t (a :: X) := by
        rw [depthC, h, if_pos rfl, depF_max h]
        have h1 := (maxF_ge t (a :: X) (a :: X) 0).2 a (by simp)
        have h2 := stab_pos h (r := a) (by simp)
        omega
      have hall : ∀ r ∈ a :: X, stabR t (a :: X) r.lo ≤ depthC t (a :: X) := by
        intro r hr
        rw [depthC, h, if_pos rfl, depF_max h]
        exact (maxF_ge t _ _ 0).2 r hr
      have hp := most_peak t (a :: X) (depthC t (a :: X)) hd (stab_chk h) (a :: X) (0, zeroR) (zeroR, false) (by simp) hall (by rw [if_neg (by dsimp only; omega)])
      unfold pkF
      rw [hp]
      rw [hm] at hdm ⊢
      unfold mostL at hdm ⊢
      rw [if_pos hdm.symm, ← hdm, decide_eq_true hd]

/-! ### Disjoint ranges -/
theorem stab_cons (t : Int) (a : Rg) (X : List Rg) (p : Rk) : stabR t (a :: X) p = (if hasB t a p then 1 else 0) + stabR t X p := by
  unfold stabR
  rw [List.countP_cons]
  omega
theorem apart_cons {t : Int} {a : Rg} {X : List Rg} : apart t (a :: X) ↔ (∀ b ∈ X, meetB t b a = false) ∧ apart t X := by
  unfold apart; rw [List.pairwise_cons]
theorem has_meet {t : Int} {a b : Rg} {p : Rk} (ha : hasB t a p = true) (hb : hasB t b p = true) : meetB t b a = true := by
  unfold hasB at ha hb
  simp only [Bool.and_eq_true, decide_eq_true_eq] at ha hb
  unfold meetB
  simp only [Bool.and_eq_true, decide_eq_true_eq]
  exact ⟨(ord3R t).trans _ _ _ hb.1 ha.2, (ord3R t).trans _ _ _ ha.1 hb.2⟩
theorem apart_stab {t : Int} : ∀ {L : List Rg}, apart t L → ∀ p, stabR t L p ≤ 1
  | [], _, p => by simp [stabR]
  | a :: X, h, p => by
    rw [stab_cons]
    have h' := apart_cons.1 h
    have ih := apart_stab h'.2 p
    cases ha : hasB t a p
    · simpa using ih
    · have : stabR t X p = 0 := by
        unfold stabR
        rw [List.countP_eq_zero]
        intro b hb hbp
        have := h'.1 b hb
        rw [has_meet ha hbp] at this
        cases this
      rw [this]; simp
theorem not_apart {t : Int} : ∀ {L : List Rg}, (∀ r ∈ L, cmpR t r.lo r.hi ≤ 0) → ¬ apart t L → ∃ r ∈ L, 2 ≤ stabR t L r.lo
  | [], _, h => absurd List.Pairwise.nil h
  | a :: X, hv, h => by
    by_cases hX : apart t X
    · have : ∃ b ∈ X, meetB t b a = true := by
        false_or_by_contra
        rename_i hn
        refine h (apart_cons.2 ⟨fun b hb => ?_, hX⟩)
        cases hm : meetB t b a
        · rfl
        · exact absurd ⟨b, hb, hm⟩ hn
      obtain ⟨b, hb, hm⟩ := this
      unfold meetB at hm
      simp only [Bool.and_eq_true, decide_eq_true_eq] at hm
      have va := hv a (by simp)
      have vb := hv b (by simp [hb])
      rcases (ord3R t).total a.lo b.lo with h1 | h1
      · refine ⟨b, by simp [hb], ?_⟩
        rw [stab_cons, show hasB t a b.lo = true by unfold hasB; simp [h1, hm.1]]
        have : 0 < stabR t X b.lo := List.countP_pos_iff.2 ⟨b, hb, hasB_lo vb⟩
        simp; omega
      · refine ⟨a, by simp, ?_⟩
        rw [stab_cons, hasB_lo va]
        have : 0 < stabR t X a.lo := List.countP_pos_iff.2 ⟨b, hb, by unfold hasB; simp [h1, hm.2]⟩
        simp; omega
    · obtain ⟨r, hr, h2⟩ := not_apart (fun r hr => hv r (by simp [hr])) hX
      refine ⟨r, by simp [hr], ?_⟩
      rw [stab_cons]
      omega
theorem disj_same (t : Int) (L : List Rg) : (chkR t L && decide ((mostR t L).1 ≤ 1)) = (chkR t L && decide (apart t L)) := by
  cases h : chkR t L
  · rfl
  · rw [Bool.true_and, Bool.true_and, ← depth_most, depthC, h, if_pos rfl, depF_max h]
    by_cases ha : apart t L
    · rw [decide_eq_true ha]
      simp only [decide_eq_true_eq]
      rcases maxF_hit t L L 0 with h1 | ⟨r, _, h1⟩
      · omega
      · rw [h1]; exact apart_stab ha _
    · rw [decide_eq_false ha]
      simp only [decide_eq_false_iff_not]
      obtain ⟨r, hr, h2⟩ := not_apart (chk_lo h) ha
      have := (maxF_ge t L L 0).2 r hr
      omega

end Go.Proofs.Yteknnphjkldehaa
