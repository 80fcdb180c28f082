/-
  Plain law of layer 14, second part: equal values of a column are the same value, so least and greatest do not depend on the order.
-/
import Derived.Test.YtnichmblekbccaaZLaws2
namespace Go.Proofs.Ytnichmblekbccaa

theorem ok_null_eq {ty : Int} {a : Vl} (ha : okV ty a) (h : a.null = true) : a = nullV := ha.1 h
theorem cmpI_zero {a b : Int} (h : cmpI a b = 0) : a = b := by
  unfold cmpI ord3 at h
  simp only [decide_eq_true_eq, beq_iff_eq] at h
  by_cases h1 : a < b
  · rw [if_pos h1] at h; cases h
  · rw [if_neg h1] at h
    by_cases h2 : a = b
    · exact h2
    · rw [if_neg h2] at h; cases h
theorem cmpS_zero {a b : ByteArray} (h : cmpS a b = 0) : a = b := by
  unfold cmpS ord3 at h
  by_cases h1 : Op.bytesLess a.toList b.toList = true
  · rw [if_pos h1] at h; cases h
  · rw [if_neg h1] at h
    by_cases h2 : (a.toList == b.toList) = true
    · exact list_inj (by simpa using h2)
    · rw [if_neg h2] at h; cases h
theorem ok_eq {ty : Int} {a b : Vl} (ha : okV ty a) (hb : okV ty b) (na : a.null = false) (nb : b.null = false) (h : cmpV ty a b = 0) : a = b := by
  obtain ⟨an, ai, az⟩ := a
  obtain ⟨bn, bi, bz⟩ := b
  dsimp only at na nb
  subst na
  subst nb
  cases ht : (ty == 3)
  · rw [cmpV_ne3 rfl rfl ht] at h
    have h3 : ty ≠ 3 := by simpa using ht
    have e1 := ha.2.2.1 h3
    have e2 := hb.2.2.1 h3
    dsimp only at e1 e2 h
    rw [e1, e2, cmpI_zero h]
  · rw [cmpV_eq3 rfl rfl ht] at h
    have h3 : ty = 3 := by simpa using ht
    have e1 := ha.2.1 h3
    have e2 := hb.2.1 h3
    dsimp only at e1 e2 h
    rw [e1, e2, cmpS_zero h]
theorem least_comm {ty : Int} {a b : Vl} (ha : okV ty a) (hb : okV ty b) : leastV ty a b = leastV ty b a := by
  unfold leastV
  have hn := (ord3V ty).neg a b
  cases na : a.null <;> cases nb : b.null
  · simp only [Bool.and_self, Bool.false_eq_true, if_false, Bool.not_false, Bool.true_and, Bool.false_or, decide_eq_true_eq]
    by_cases h1 : cmpV ty b a < 0
    · rw [if_pos h1, if_neg (by omega)]
    · rw [if_neg h1]
      by_cases h2 : cmpV ty a b < 0
      · rw [if_pos h2]
      · rw [if_neg h2]
        exact ok_eq ha hb na nb (by omega)
  · simp
  · simp
  · simp
theorem great_comm {ty : Int} {a b : Vl} (ha : okV ty a) (hb : okV ty b) : greatV ty a b = greatV ty b a := by
  unfold greatV
  have hn := (ord3V ty).neg a b
  cases na : a.null <;> cases nb : b.null
  · simp only [Bool.and_self, Bool.false_eq_true, if_false, Bool.not_false, Bool.true_and, Bool.false_or, decide_eq_true_eq]
    by_cases h1 : 0 < cmpV ty b a
    · rw [if_pos h1, if_neg (by omega)]
    · rw [if_neg h1]
      by_cases h2 : 0 < cmpV ty a b
      · rw [if_pos h2]
      · rw [if_neg h2]
        exact ok_eq ha hb na nb (by omega)
  · simp
  · simp
  · simp

end Go.Proofs.Ytnichmblekbccaa
