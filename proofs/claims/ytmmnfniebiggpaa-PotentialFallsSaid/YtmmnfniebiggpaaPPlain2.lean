/-
  Plain law of layer 30, second part: Psi as a sum over the ranks; the hull.
-/
import Derived.Test.YtmmnfniebiggpaaPPlain
import Derived.Test.YtmmnfniebiggpaaOStab
import Derived.Test.YtmmnfniebiggpaaPHull
import Derived.Test.YtmmnfniebiggpaaOMake3
namespace Go.Proofs.Ytmmnfniebiggpaa

def ssum (t : Int) (L : List Rg) : List Rk → Nat
  | [] => 0
  | p :: P => stabR t L p + ssum t L P
theorem ssum_cons (t : Int) (r : Rg) (L : List Rg) : ∀ P : List Rk, ssum t (r :: L) P = widthR t r P + ssum t L P
  | [] => by simp [ssum, widthR]
  | p :: P => by
    rw [ssum, ssum, ssum_cons t r L P]
    unfold stabR widthR
    rw [List.countP_cons, List.countP_cons]
    omega
theorem wsum_ssum (t : Int) (P : List Rk) : ∀ L : List Rg, wsum t P L = ssum t L P
  | [] => by
    induction P with
    | nil => rfl
    | cons p P ih => rw [ssum, ← ih]; simp [wsum, stabR]
  | r :: L => by rw [wsum, ssum_cons, wsum_ssum t P L]
theorem ssum_append (t : Int) (L : List Rg) : ∀ (P Q : List Rk), ssum t L (P ++ Q) = ssum t L P + ssum t L Q
  | [], Q => by simp [ssum]
  | p :: P, Q => by rw [List.cons_append, ssum, ssum, ssum_append t L P Q, Nat.add_assoc]
theorem ssum_next {t : Int} {L : List Rg} {P : List Rk} {i : Nat} {p : Rk} (hp : P[i]? = some p) : ssum t L (P.take (i + 1)) = ssum t L (P.take i) + stabR t L p := by
  rw [List.take_add_one, hp, ssum_append]; rfl
theorem ssum_le (t : Int) (L : List Rg) : ∀ P : List Rk, ssum t L P ≤ P.length * L.length
  | [] => by simp [ssum]
  | p :: P => by
    have h := ssum_le t L P
    have h2 : stabR t L p ≤ L.length := List.countP_le_length
    rw [ssum, List.length_cons, Nat.succ_mul]; omega
theorem gen_chk {L : List Rg} (h : ∀ p ∈ L, GenG p) (hl : L.length ≤ 256) : chkR 1 L = true := by
  unfold chkR
  rw [decide_eq_true hl, Bool.true_and]
  simp only [Bool.not_eq_true', List.any_eq_false]
  intro r hr
  have := (h r hr).2.2
  simp [badR]
  omega

/-! ### The hull -/
theorem hullT_lo (t : Int) : ∀ (L : List Rg) (h : Rg), cmpR t (hullT t h L).lo h.lo ≤ 0 ∧ cmpR t h.hi (hullT t h L).hi ≤ 0 ∧ ∀ r ∈ L, cmpR t (hullT t h L).lo r.lo ≤ 0 ∧ cmpR t r.hi (hullT t h L).hi ≤ 0
  | [], h => ⟨by show cmpR t h.lo h.lo ≤ 0; rw [(ord3R t).refl]; omega, by show cmpR t h.hi h.hi ≤ 0; rw [(ord3R t).refl]; omega, by simp⟩
  | a :: L, h => by
    have ih := hullT_lo t L (hullS t h a)
    have e : hullT t h (a :: L) = hullT t (hullS t h a) L := rfl
    rw [e]
    have s1 : cmpR t (hullS t h a).lo h.lo ≤ 0 ∧ cmpR t (hullS t h a).lo a.lo ≤ 0 := by
      unfold hullS
      by_cases h1 : cmpR t a.lo h.lo < 0
      · rw [if_pos h1]; exact ⟨by show cmpR t a.lo h.lo ≤ 0; omega, by show cmpR t a.lo a.lo ≤ 0; rw [(ord3R t).refl]; omega⟩
      · rw [if_neg h1]; have := (ord3R t).neg a.lo h.lo; exact ⟨by show cmpR t h.lo h.lo ≤ 0; rw [(ord3R t).refl]; omega, by show cmpR t h.lo a.lo ≤ 0; omega⟩
    have s2 : cmpR t h.hi (hullS t h a).hi ≤ 0 ∧ cmpR t a.hi (hullS t h a).hi ≤ 0 := by
      unfold hullS
      by_cases h1 : 0 < cmpR t a.hi h.hi
      · rw [if_pos h1]; have := (ord3R t).neg a.hi h.hi; exact ⟨by show cmpR t h.hi a.hi ≤ 0; omega, by show cmpR t a.hi a.hi ≤ 0; rw [(ord3R t).refl]; omega⟩
      · rw [if_neg h1]; exact ⟨by show cmpR t h.hi h.hi ≤ 0; rw [(ord3R t).refl]; omega, by show cmpR t a.hi h.hi ≤ 0; omega⟩
    refine ⟨(ord3R t).trans _ _ _ ih.1 s1.1, (ord3R t).trans _ _ _ s2.1 ih.2.1, fun r hr => ?_⟩
    rcases List.mem_cons.1 hr with rfl | hr
    · exact ⟨(ord3R t).trans _ _ _ ih.1 s1.2, (ord3R t).trans _ _ _ s2.2 ih.2.1⟩
    · exact ih.2.2 r hr
theorem hullT_mem (t : Int) : ∀ (L : List Rg) (h : Rg), (∃ r ∈ h :: L, r.lo = (hullT t h L).lo) ∧ (∃ r ∈ h :: L, r.hi = (hullT t h L).hi)
  | [], h => ⟨⟨h, by simp, rfl⟩, ⟨h, by simp, rfl⟩⟩
  | a :: L, h => by
    have ih := hullT_mem t L (hullS t h a)
    have e : hullT t h (a :: L) = hullT t (hullS t h a) L := rfl
    rw [e]
    refine ⟨?_, ?_⟩
    · obtain ⟨r, hr, h1⟩ := ih.1
      rcases List.mem_cons.1 hr with rfl | hr
      · rw [← h1]
        by_cases h2 : cmpR t a.lo h.lo < 0
        · exact ⟨a, by simp, by show a.lo = (if cmpR t a.lo h.lo < 0 then a.lo else h.lo); rw [if_pos h2]⟩
        · exact ⟨h, by simp, by show h.lo = (if cmpR t a.lo h.lo < 0 then a.lo else h.lo); rw [if_neg h2]⟩
      · exact ⟨r, by simp [hr], h1⟩
    · obtain ⟨r, hr, h1⟩ := ih.2
      rcases List.mem_cons.1 hr with rfl | hr
      · rw [← h1]
        by_cases h2 : 0 < cmpR t a.hi h.hi
        · exact ⟨a, by simp, by show a.hi = (if 0 < cmpR t a.hi h.hi then a.hi else h.hi); rw [if_pos h2]⟩
        · exact ⟨h, by simp, by show h.hi = (if 0 < cmpR t a.hi h.hi then a.hi else h.hi); rw [if_neg h2]⟩
      · exact ⟨r, by simp [hr], h1⟩
theorem hull_ok {L : List Rg} (hc : chkR 1 L = true) : (hullP 1 L).2 = decide (0 < L.length) ∧ (∀ r ∈ L, cmpR 1 (hullP 1 L).1.lo r.lo ≤ 0 ∧ cmpR 1 r.hi (hullP 1 L).1.hi ≤ 0) ∧ (L ≠ [] → (∃ r ∈ L, r.lo = (hullP 1 L).1.lo) ∧ ∃ r ∈ L, r.hi = (hullP 1 L).1.hi) := by
  cases L with
  | nil => exact ⟨rfl, by simp, by simp⟩
  | cons h T =>
    rw [hullP_yes hc]
    refine ⟨by simp, fun r hr => ?_, fun _ => hullT_mem 1 T h⟩
    have := hullT_lo 1 T h
    rcases List.mem_cons.1 hr with rfl | hr
    · exact ⟨this.1, this.2.1⟩
    · exact this.2.2 r hr
theorem hull_gen {L : List Rg} (hg : ∀ p ∈ L, GenG p) (hc : chkR 1 L = true) : GenR (hullP 1 L).1.lo ∧ GenR (hullP 1 L).1.hi := by
  cases L with
  | nil => exact ⟨⟨0, 0, by omega, by omega, rfl⟩, ⟨0, 0, by omega, by omega, rfl⟩⟩
  | cons h T =>
    obtain ⟨⟨r, hr, e⟩, ⟨s, hs, e2⟩⟩ := (hull_ok hc).2.2 (by simp)
    exact ⟨by rw [← e]; exact (hg r hr).1, by rw [← e2]; exact (hg s hs).2.1⟩

end Go.Proofs.Ytmmnfniebiggpaa
