/-
  Plain law of layer 14: the least and the greatest value of a list, without any program.
-/
import Derived.Test.YtnichmblekbccaaZVals
namespace Go.Proofs.Ytnichmblekbccaa

theorem cmpV_eq3 {t : Int} {a b : Vl} (ha : a.null = false) (hb : b.null = false) (ht : (t == 3) = true) : cmpV t a b = cmpS a.s b.s := by
  unfold cmpV; simp [ha, hb, ht]
theorem cmpV_ne3 {t : Int} {a b : Vl} (ha : a.null = false) (hb : b.null = false) (ht : (t == 3) = false) : cmpV t a b = cmpI a.n b.n := by
  unfold cmpV; simp [ha, hb, ht]
theorem less_cmp {t : Int} {a b : Vl} (ha : a.null = false) (hb : b.null = false) : lessV t a b = true ↔ cmpV t a b < 0 := by
  unfold lessV
  cases ht : (t == 3)
  · rw [cmpV_ne3 ha hb ht]
    simp only [Bool.false_eq_true, if_false, decide_eq_true_eq, cmpI, ord3]
    by_cases h : a.n < b.n
    · simp [h]
    · simp only [h, if_false]
      by_cases h2 : (a.n == b.n) = true
      · simp [h2]
      · simp [h2]
  · rw [cmpV_eq3 ha hb ht]
    simp only [if_true, cmpS, ord3]
    cases h : Op.bytesLess a.s.toList b.s.toList
    · simp only [Bool.false_eq_true, if_false]
      by_cases h2 : (a.s.toList == b.s.toList) = true
      · simp [h2]
      · simp [h2]
    · simp
/-- What the fold holds of the values gone by: while none is known both ends are null. -/
structure ZoneI (t : Int) (n : Nat) (X : List Vl) (z : Zn) : Prop where
  rows : z.rows = n
  nulls : z.nulls = (X.countP (fun v => v.null) : Nat)
  none_ : (∀ v ∈ X, v.null = true) → z.mn = nullV ∧ z.mx = nullV
  some_ : (∃ v ∈ X, v.null = false) → z.mn.null = false ∧ z.mx.null = false ∧ z.mn ∈ X ∧ z.mx ∈ X ∧ ∀ v ∈ X, v.null = false → cmpV t z.mn v ≤ 0 ∧ cmpV t v z.mx ≤ 0
theorem least_cases {t : Int} {a b : Vl} (hb : b.null = false) : (a.null = true → leastV t a b = b) ∧ (a.null = false → (cmpV t b a < 0 ∧ leastV t a b = b) ∨ (0 ≤ cmpV t b a ∧ leastV t a b = a)) := by
  unfold leastV
  refine ⟨fun ha => by simp [ha, hb], fun ha => ?_⟩
  by_cases h : cmpV t b a < 0
  · exact .inl ⟨h, by simp [ha, hb, h]⟩
  · exact .inr ⟨by omega, by simp [ha, hb, h]⟩
theorem great_cases {t : Int} {a b : Vl} (hb : b.null = false) : (a.null = true → greatV t a b = b) ∧ (a.null = false → (0 < cmpV t b a ∧ greatV t a b = b) ∨ (cmpV t b a ≤ 0 ∧ greatV t a b = a)) := by
  unfold greatV
  refine ⟨fun ha => by simp [ha, hb], fun ha => ?_⟩
  by_cases h : 0 < cmpV t b a
  · exact .inl ⟨h, by simp [ha, hb, h]⟩
  · exact .inr ⟨by omega, by simp [ha, hb, h]⟩
theorem zone_step {t : Int} {n : Nat} {X : List Vl} {z : Zn} (h : ZoneI t n X z) (v : Vl) : ZoneI t n (X ++ [v]) (zoneS t z v) := by
  cases hv : v.null
  · -- a value
    refine ⟨h.rows, by show z.nulls + _ = _; rw [h.nulls, List.countP_append]; simp [hv], fun hall => ?_, fun _ => ?_⟩
    · have := hall v (by simp); rw [hv] at this; cases this
    · show (leastV t z.mn v).null = false ∧ (greatV t z.mx v).null = false ∧ leastV t z.mn v ∈ X ++ [v] ∧ greatV t z.mx v ∈ X ++ [v] ∧ ∀ u ∈ X ++ [v], u.null = false → cmpV t (leastV t z.mn v) u ≤ 0 ∧ cmpV t u (greatV t z.mx v) ≤ 0
      by_cases hs : ∃ u ∈ X, u.null = false
      · obtain ⟨h1, h2, h3, h4, h5⟩ := h.some_ hs
        refine ⟨least_nn hv, great_nn hv, ?_, ?_, fun u hu hun => ⟨?_, ?_⟩⟩
        · rcases (least_cases (t := t) (a := z.mn) hv).2 h1 with ⟨_, e⟩ | ⟨_, e⟩ <;> rw [e]
          · simp
          · simp [h3]
        · rcases (great_cases (t := t) (a := z.mx) hv).2 h2 with ⟨_, e⟩ | ⟨_, e⟩ <;> rw [e]
          · simp
          · simp [h4]
        · have n1 := (ord3V t).neg v z.mn
          rcases (least_cases (t := t) (a := z.mn) hv).2 h1 with ⟨hc, e⟩ | ⟨hc, e⟩ <;> rw [e] <;> rcases List.mem_append.1 hu with hu | hu
          · exact (ord3V t).trans _ _ _ (by omega) (h5 u hu hun).1
          · simp at hu; subst hu; rw [(ord3V t).refl]; omega
          · exact (h5 u hu hun).1
          · simp at hu; subst hu; omega
        · have n1 := (ord3V t).neg v z.mx
          rcases (great_cases (t := t) (a := z.mx) hv).2 h2 with ⟨hc, e⟩ | ⟨hc, e⟩ <;> rw [e] <;> rcases List.mem_append.1 hu with hu | hu
          · exact (ord3V t).trans _ _ _ (h5 u hu hun).2 (by omega)
          · simp at hu; subst hu; rw [(ord3V t).refl]; omega
          · exact (h5 u hu hun).2
          · simp at hu; subst hu; omega
      · have hall : ∀ u ∈ X, u.null = true := fun u hu => by
          cases hun : u.null
          · exact absurd ⟨u, hu, hun⟩ hs
          · rfl
        obtain ⟨e1, e2⟩ := h.none_ hall
        rw [e1, e2, (least_cases (t := t) (a := nullV) hv).1 rfl, (great_cases (t := t) (a := nullV) hv).1 rfl]
        refine ⟨hv, hv, by simp, by simp, fun u hu hun => ?_⟩
        rcases List.mem_append.1 hu with hu | hu
        · rw [hall u hu] at hun; cases hun
        · simp at hu; subst hu; rw [(ord3V t).refl]; exact ⟨by omega, by omega⟩
  · -- null
    have hn : z.mn.null = true → z.mn = nullV := fun hz => by
      by_cases hs : ∃ u ∈ X, u.null = false
      · rw [(h.some_ hs).1] at hz; cases hz
      · exact (h.none_ (fun u hu => by
          cases hun : u.null
          · exact absurd ⟨u, hu, hun⟩ hs
          · rfl)).1
    have hx : z.mx.null = true → z.mx = nullV := fun hz => by
      by_cases hs : ∃ u ∈ X, u.null = false
      · rw [(h.some_ hs).2.1] at hz; cases hz
      · exact (h.none_ (fun u hu => by
          cases hun : u.null
          · exact absurd ⟨u, hu, hun⟩ hs
          · rfl)).2
    have e : zoneS t z v = ⟨z.rows, z.nulls + 1, z.mn, z.mx⟩ := by
      unfold zoneS; rw [hv, least_null hv hn, great_null hv hx]; rfl
    rw [e]
    refine ⟨h.rows, by show z.nulls + 1 = _; rw [h.nulls, List.countP_append]; simp [hv], fun hall => h.none_ (fun u hu => hall u (by simp [hu])), fun hs => ?_⟩
    have hs' : ∃ u ∈ X, u.null = false := by
      obtain ⟨u, hu, hun⟩ := hs
      rcases List.mem_append.1 hu with hu | hu
      · exact ⟨u, hu, hun⟩
      · simp at hu; subst hu; rw [hv] at hun; cases hun
    obtain ⟨h1, h2, h3, h4, h5⟩ := h.some_ hs'
    refine ⟨h1, h2, by simp [h3], by simp [h4], fun u hu hun => ?_⟩
    rcases List.mem_append.1 hu with hu | hu
    · exact h5 u hu hun
    · simp at hu; subst hu; rw [hv] at hun; cases hun
theorem zone_fold (t : Int) (n : Nat) : ∀ (Y X : List Vl) (z : Zn), ZoneI t n X z → ZoneI t n (X ++ Y) (Y.foldl (zoneS t) z)
  | [], X, z, h => by simpa using h
  | v :: Y, X, z, h => by
    have := zone_fold t n Y (X ++ [v]) _ (zone_step h v)
    rw [List.foldl_cons]
    simpa using this
theorem zone_law (t : Int) (n : Nat) (L : List Vl) : ZoneI t n L (zoneL t n L) := by
  have := zone_fold t n L [] ⟨n, 0, nullV, nullV⟩ ⟨rfl, rfl, fun _ => ⟨rfl, rfl⟩, by simp⟩
  rw [List.nil_append] at this
  exact this

end Go.Proofs.Ytnichmblekbccaa
