/-
  Plain law of layer 14, fourth part: the zone of a list of a column's values is a zone of the column.
-/
import Derived.Test.YtnichmblekbccaaZChk3
import Derived.Test.YtnichmblekbccaaZPlain3
namespace Go.Proofs.Ytnichmblekbccaa

theorem chk_ok {c : Cl} {v : Vl} (h1 : 1 ≤ c.ty) (h5 : c.ty ≤ 5) (h : okV c.ty v) (hn : v.null = false) : chkV c v = 0 := by
  unfold chkV
  rw [if_pos (known_of h1 h5), hn]
  by_cases h3 : c.ty = 3
  · have hp := h.2.2.2.1
    have hi := h.2.1 h3
    rw [if_neg (by simp), if_pos (by simp [h3]), hi, if_pos (by simp), if_pos hp]
  · have hp := h.2.2.2.1
    have hs := h.2.2.1 h3
    rw [if_neg (by simp), if_neg (by simpa using h3), hs, if_pos (by simp), if_pos hp]
theorem one_some : ∀ {X : List Vl} {a b : Vl}, X.length ≤ X.countP (fun v => v.null) + 1 → a ∈ X → b ∈ X → a.null = false → b.null = false → a = b
  | [], _, _, _, ha, _, _, _ => by cases ha
  | x :: X, a, b, hl, ha, hb, na, nb => by
    rw [List.countP_cons, List.length_cons] at hl
    have hle : X.countP (fun v => v.null) ≤ X.length := List.countP_le_length
    cases hx : x.null
    · rw [hx] at hl
      have hall : ∀ v ∈ X, v.null = true := (List.countP_eq_length (p := fun (v : Vl) => v.null)).1 (by simp at hl; omega)
      have key : ∀ v ∈ x :: X, v.null = false → v = x := fun v hv hn => by
        rcases List.mem_cons.1 hv with h | h
        · exact h
        · rw [hall v h] at hn; cases hn
      rw [key a ha na, key b hb nb]
    · rw [hx] at hl
      simp at hl
      have go : ∀ v ∈ x :: X, v.null = false → v ∈ X := fun v hv hn => by
        rcases List.mem_cons.1 hv with h | h
        · rw [h, hx] at hn; cases hn
        · exact h
      exact one_some (by omega) (go a ha na) (go b hb nb) na nb
theorem zone_chk {c : Cl} (h1 : 1 ≤ c.ty) (h5 : c.ty ≤ 5) {X : List Vl} (hX : ∀ v ∈ X, okV c.ty v ∧ (v.null = true → c.nl = true)) (hl : X.length ≤ 4096) : chkZ c (zoneL c.ty X.length X) = true := by
  have Z := zone_law c.ty X.length X
  generalize zoneL c.ty X.length X = z at *
  have hle : X.countP (fun v => v.null) ≤ X.length := List.countP_le_length
  have hr := Z.rows
  have hn := Z.nulls
  have h6 : z.nulls ≤ 0 ∨ c.nl = true := by
    cases hc : c.nl
    · left
      have : X.countP (fun v => v.null) = 0 := List.countP_eq_zero.2 (fun v hv h => by have := (hX v hv).2 h; rw [hc] at this; cases this)
      omega
    · exact .inr rfl
  by_cases he : z.nulls = z.rows
  · rw [chkZ_eq h1 h5 (by omega) (by omega) (by omega) h6 he]
    have hall : ∀ v ∈ X, v.null = true := (List.countP_eq_length (p := fun (v : Vl) => v.null)).1 (by omega)
    obtain ⟨e1, e2⟩ := Z.none_ hall
    rw [e1, e2]; simp [nullB, nullV]
  · rw [chkZ_ne h1 h5 (by omega) (by omega) (by omega) h6 he]
    have hs : ∃ v ∈ X, v.null = false := by
      rcases Classical.em (∃ v ∈ X, v.null = false) with h | h
      · exact h
      · exfalso
        have hall : ∀ v ∈ X, v.null = true := fun v hv => by
          cases e : v.null
          · exact absurd ⟨v, hv, e⟩ h
          · rfl
        have := (List.countP_eq_length (p := fun (v : Vl) => v.null)).2 hall
        omega
    obtain ⟨n1, n2, m1, m2, hb⟩ := Z.some_ hs
    have hc1 := chk_ok h1 h5 (hX _ m1).1 n1
    have hc2 := chk_ok h1 h5 (hX _ m2).1 n2
    have hcmp := (hb _ m2 n2).1
    unfold restZ
    rw [n1, n2, hc1, hc2]
    by_cases hd : cmpV c.ty z.mn z.mx = 0
    · simp [hd]
    · have hlt : cmpV c.ty z.mn z.mx < 0 := by omega
      have h2 : 1 < z.rows - z.nulls := by
        rcases Int.lt_or_le 1 (z.rows - z.nulls) with h | h
        · exact h
        · exfalso
          have e := one_some (by omega) m1 m2 n1 n2
          rw [e] at hd
          exact hd (by have O := (ord3V c.ty).neg z.mx z.mx; omega)
      simp [hlt, h2]

end Go.Proofs.Ytnichmblekbccaa
