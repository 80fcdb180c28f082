/-
  Plain law of layer 14, third part: the zone of two lists together is the join of their zones.
-/
import Derived.Test.YtnichmblekbccaaZPlain2
namespace Go.Proofs.Ytnichmblekbccaa

theorem least_nl {ty : Int} {b : Vl} (hb : okV ty b) : leastV ty nullV b = b := by
  unfold leastV
  cases h : b.null
  · simp [nullV]
  · rw [ok_null_eq hb h]; simp [nullV]
theorem least_nr {ty : Int} {a : Vl} (ha : okV ty a) : leastV ty a nullV = a := by
  unfold leastV
  cases h : a.null
  · simp [nullV]
  · rw [ok_null_eq ha h]; simp [nullV]
theorem least_nn2 {ty : Int} {a b : Vl} (ha : a.null = false) (hb : b.null = false) : leastV ty a b = if cmpV ty b a < 0 then b else a := by
  unfold leastV
  simp [ha, hb]
theorem least_or (ty : Int) {a b : Vl} (ha : okV ty a) (hb : okV ty b) : leastV ty a b = a ∨ leastV ty a b = b := by
  cases na : a.null
  · cases nb : b.null
    · rw [least_nn2 na nb]; split
      · exact .inr rfl
      · exact .inl rfl
    · rw [ok_null_eq hb nb, least_nr ha]; exact .inl rfl
  · rw [ok_null_eq ha na, least_nl hb]; exact .inr rfl
theorem least_ok {ty : Int} {a b : Vl} (ha : okV ty a) (hb : okV ty b) : okV ty (leastV ty a b) := by
  rcases least_or ty ha hb with e | e <;> rw [e] <;> assumption
theorem least_assoc {ty : Int} {a b c : Vl} (ha : okV ty a) (hb : okV ty b) (hc : okV ty c) : leastV ty (leastV ty a b) c = leastV ty a (leastV ty b c) := by
  cases na : a.null
  · cases nb : b.null
    · cases nc : c.null
      · have O := ord3V ty
        have n1 := O.neg a b
        have n2 := O.neg b c
        have n3 := O.neg a c
        have t1 := O.trans c b a
        have t2 := O.trans a b c
        rw [least_nn2 na nb, least_nn2 nb nc]
        by_cases h1 : cmpV ty b a < 0
        · by_cases h2 : cmpV ty c b < 0
          · have h3 : cmpV ty c a < 0 := by
              rcases Int.lt_or_lt_of_ne (show cmpV ty c a ≠ 0 from fun e => by
                have := ok_eq hc ha nc na e
                subst this
                omega) with h | h <;> omega
            rw [if_pos h1, if_pos h2, least_nn2 nb nc, if_pos h2, least_nn2 na nc, if_pos h3]
          · rw [if_pos h1, if_neg h2, least_nn2 nb nc, if_neg h2, least_nn2 na nb, if_pos h1]
        · by_cases h2 : cmpV ty c b < 0
          · rw [if_neg h1, if_pos h2]
          · rw [if_neg h1, if_neg h2, least_nn2 na nc, least_nn2 na nb, if_neg h1, if_neg (by omega)]
      · rw [ok_null_eq hc nc, least_nr (least_ok ha hb), least_nr hb]
    · rw [ok_null_eq hb nb, least_nr ha, least_nl hc]
  · rw [ok_null_eq ha na, least_nl hb, least_nl (least_ok hb hc)]
theorem least_foldl {ty : Int} : ∀ (Y : List Vl) (a : Vl), okV ty a → (∀ v ∈ Y, okV ty v) → Y.foldl (leastV ty) a = leastV ty a (Y.foldl (leastV ty) nullV) ∧ okV ty (Y.foldl (leastV ty) a)
  | [], a, ha, _ => ⟨(least_nr ha).symm, ha⟩
  | v :: Y, a, ha, hY => by
    have hv := hY v (by simp)
    have hY' : ∀ v ∈ Y, okV ty v := fun u hu => hY u (by simp [hu])
    obtain ⟨e1, o1⟩ := least_foldl Y (leastV ty a v) (least_ok ha hv) hY'
    obtain ⟨e2, _⟩ := least_foldl Y (leastV ty nullV v) (least_ok (ok_nullV ty) hv) hY'
    obtain ⟨_, o3⟩ := least_foldl Y nullV (ok_nullV ty) hY'
    refine ⟨?_, o1⟩
    rw [List.foldl_cons, List.foldl_cons, e1, e2, least_nl hv, least_assoc ha hv o3]
theorem great_nl {ty : Int} {b : Vl} (hb : okV ty b) : greatV ty nullV b = b := by
  unfold greatV
  cases h : b.null
  · simp [nullV]
  · rw [ok_null_eq hb h]; simp [nullV]
theorem great_nr {ty : Int} {a : Vl} (ha : okV ty a) : greatV ty a nullV = a := by
  unfold greatV
  cases h : a.null
  · simp [nullV]
  · rw [ok_null_eq ha h]; simp [nullV]
theorem great_nn2 {ty : Int} {a b : Vl} (ha : a.null = false) (hb : b.null = false) : greatV ty a b = if 0 < cmpV ty b a then b else a := by
  unfold greatV
  simp [ha, hb]
theorem great_or (ty : Int) {a b : Vl} (ha : okV ty a) (hb : okV ty b) : greatV ty a b = a ∨ greatV ty a b = b := by
  cases na : a.null
  · cases nb : b.null
    · rw [great_nn2 na nb]; split
      · exact .inr rfl
      · exact .inl rfl
    · rw [ok_null_eq hb nb, great_nr ha]; exact .inl rfl
  · rw [ok_null_eq ha na, great_nl hb]; exact .inr rfl
theorem great_ok {ty : Int} {a b : Vl} (ha : okV ty a) (hb : okV ty b) : okV ty (greatV ty a b) := by
  rcases great_or ty ha hb with e | e <;> rw [e] <;> assumption
theorem great_assoc {ty : Int} {a b c : Vl} (ha : okV ty a) (hb : okV ty b) (hc : okV ty c) : greatV ty (greatV ty a b) c = greatV ty a (greatV ty b c) := by
  cases na : a.null
  · cases nb : b.null
    · cases nc : c.null
      · have O := ord3V ty
        have n1 := O.neg a b
        have n2 := O.neg b c
        have n3 := O.neg a c
        have t1 := O.trans c b a
        have t2 := O.trans a b c
        rw [great_nn2 na nb, great_nn2 nb nc]
        by_cases h1 : 0 < cmpV ty b a
        · by_cases h2 : 0 < cmpV ty c b
          · have h3 : 0 < cmpV ty c a := by
              rcases Int.lt_or_lt_of_ne (show cmpV ty c a ≠ 0 from fun e => by
                have := ok_eq hc ha nc na e
                subst this
                omega) with h | h <;> omega
            rw [if_pos h1, if_pos h2, great_nn2 nb nc, if_pos h2, great_nn2 na nc, if_pos h3]
          · rw [if_pos h1, if_neg h2, great_nn2 nb nc, if_neg h2, great_nn2 na nb, if_pos h1]
        · by_cases h2 : 0 < cmpV ty c b
          · rw [if_neg h1, if_pos h2]
          · rw [if_neg h1, if_neg h2, great_nn2 na nc, great_nn2 na nb, if_neg h1, if_neg (by omega)]
      · rw [ok_null_eq hc nc, great_nr (great_ok ha hb), great_nr hb]
    · rw [ok_null_eq hb nb, great_nr ha, great_nl hc]
  · rw [ok_null_eq ha na, great_nl hb, great_nl (great_ok hb hc)]
theorem great_foldl {ty : Int} : ∀ (Y : List Vl) (a : Vl), okV ty a → (∀ v ∈ Y, okV ty v) → Y.foldl (greatV ty) a = greatV ty a (Y.foldl (greatV ty) nullV) ∧ okV ty (Y.foldl (greatV ty) a)
  | [], a, ha, _ => ⟨(great_nr ha).symm, ha⟩
  | v :: Y, a, ha, hY => by
    have hv := hY v (by simp)
    have hY' : ∀ v ∈ Y, okV ty v := fun u hu => hY u (by simp [hu])
    obtain ⟨e1, o1⟩ := great_foldl Y (greatV ty a v) (great_ok ha hv) hY'
    obtain ⟨e2, _⟩ := great_foldl Y (greatV ty nullV v) (great_ok (ok_nullV ty) hv) hY'
    obtain ⟨_, o3⟩ := great_foldl Y nullV (ok_nullV ty) hY'
    refine ⟨?_, o1⟩
    rw [List.foldl_cons, List.foldl_cons, e1, e2, great_nl hv, great_assoc ha hv o3]

def joinZ (t : Int) (a b : Zn) : Zn := ⟨a.rows + b.rows, a.nulls + b.nulls, leastV t a.mn b.mn, greatV t a.mx b.mx⟩
theorem zone_parts (t : Int) : ∀ (L : List Vl) (z : Zn), L.foldl (zoneS t) z = ⟨z.rows, z.nulls + (L.countP (fun v => v.null) : Nat), L.foldl (leastV t) z.mn, L.foldl (greatV t) z.mx⟩
  | [], z => by simp
  | v :: L, z => by
    rw [List.foldl_cons, zone_parts t L, List.countP_cons]
    simp only [zoneS, List.foldl_cons, Zn.mk.injEq, true_and, and_true]
    cases v.null <;> simp <;> omega
/-- Join of the zones of two lists. -/
theorem zone_join {t : Int} {X Y : List Vl} (hX : ∀ v ∈ X, okV t v) (hY : ∀ v ∈ Y, okV t v) : joinZ t (zoneL t X.length X) (zoneL t Y.length Y) = zoneL t (X ++ Y).length (X ++ Y) := by
  unfold zoneL joinZ
  simp only [zone_parts, List.foldl_append, List.length_append]
  rw [← (least_foldl Y _ (least_foldl X _ (ok_nullV t) hX).2 hY).1, ← (great_foldl Y _ (great_foldl X _ (ok_nullV t) hX).2 hY).1]
  simp only [Zn.mk.injEq, and_true]
  omega
theorem zone_join_comm {t : Int} {X Y : List Vl} (hX : ∀ v ∈ X, okV t v) (hY : ∀ v ∈ Y, okV t v) : joinZ t (zoneL t Y.length Y) (zoneL t X.length X) = zoneL t (X ++ Y).length (X ++ Y) := by
  rw [← zone_join hX hY]
  unfold zoneL joinZ
  simp only [zone_parts]
  rw [least_comm (least_foldl Y _ (ok_nullV t) hY).2 (least_foldl X _ (ok_nullV t) hX).2, great_comm (great_foldl Y _ (ok_nullV t) hY).2 (great_foldl X _ (ok_nullV t) hX).2]
  simp only [Zn.mk.injEq, and_true]
  omega
theorem zone_join_nil {t : Int} {X : List Vl} (hX : ∀ v ∈ X, okV t v) : joinZ t (zoneL t X.length X) (zoneL t (0 : Nat) []) = zoneL t X.length X := by
  have := zone_join hX (Y := []) (by simp)
  simpa using this

end Go.Proofs.Ytnichmblekbccaa
