/-
  When an entry is valid: manifest.Entry and the reference's, whole.
-/
import Derived.Test.YtgacjpkgpegcdaaMEnt
namespace Go.Proofs.Ytgacjpkgpegcdaa
open Go.RowKit

set_option maxRecDepth 100000 in
set_option maxHeartbeats 1000000 in
theorem entry_any (e : En) (w : World) : Calls Try.prog 17 #[Ev e] w fun x w' => x = .returned (.bool (entB e)) ∧ Below w.heap.size w w' := by
  obtain ⟨id, rows, live, ⟨⟨ln, li, lz⟩, lq⟩, ⟨⟨hn, hi, hz⟩, hq⟩, del⟩ := e
  dsimp only [Ev]
  have hA := Blk.new' w 40 #[.int .i64 id, .int .i64 rows, .int .i64 live, .bool ln, .int .i64 li, .string lz, .int .i64 lq, .bool hn, .int .i64 hi, .string hz, .int .i64 hq, .int .i64 del]
  have hbel : Below w.heap.size w (w.alloc (.cells #[.int .i64 id, .int .i64 rows, .int .i64 live, .bool ln, .int .i64 li, .string lz, .int .i64 lq, .bool hn, .int .i64 hi, .string hz, .int .i64 hq, .int .i64 del] 40)) := (Below.refl _ _).alloc (Nat.le_refl _) _
  have HB : Hid (entB ⟨id, rows, live, ⟨⟨ln, li, lz⟩, lq⟩, ⟨⟨hn, hi, hz⟩, hq⟩, del⟩ = (objB id && decide (1 ≤ rows) && decide (rows ≤ 1024) && decide (1 ≤ live) && decide (live ≤ rows) && rankB ⟨⟨ln, li, lz⟩, lq⟩ && rankB ⟨⟨hn, hi, hz⟩, hq⟩ && (del == 0 || objB del))) := by show _ = _; rfl
  go_enter Try.func17, Try.ntmps17
  go_wp2_with fail
  generalize w.alloc (.cells #[.int .i64 id, .int .i64 rows, .int .i64 live, .bool ln, .int .i64 li, .string lz, .int .i64 lq, .bool hn, .int .i64 hi, .string hz, .int .i64 hq, .int .i64 del] 40) = wa at *
  refine (object_any id _).mono ?_; rintro e w1 ⟨rfl, rfl⟩
  have a0 := hA.cellAt 0 rfl
  have a1 := hA.cellAt 1 rfl
  have a2 := hA.cellAt 2 rfl
  have a3 := hA.cellAt 3 rfl
  have a4 := hA.cellAt 4 rfl
  have a5 := hA.cellAt 5 rfl
  have a6 := hA.cellAt 6 rfl
  have a7 := hA.cellAt 7 rfl
  have a8 := hA.cellAt 8 rfl
  have a9 := hA.cellAt 9 rfl
  have aa := hA.cellAt 10 rfl
  have ab := hA.cellAt 11 rfl
  generalize objB id = b1 at *
  cases b1
  · have HR : Hid (entB ⟨id, rows, live, ⟨⟨ln, li, lz⟩, lq⟩, ⟨⟨hn, hi, hz⟩, hq⟩, del⟩ = false) := by show _ = _; rw [HB.out]; simp 
    go_wp2
    go_ret
    exact ⟨ret_b (by rw [HR.out] <;> first | rfl | (simp; done) | (simp; omega)), hbel⟩
  · by_cases h1 : 1 ≤ rows
    · by_cases h2 : rows ≤ 1024
      · by_cases h3 : 1 ≤ live
        · by_cases h4 : live ≤ rows
          · go_wp2_with fail
            refine (mrank_any ⟨⟨ln, li, lz⟩, lq⟩ _).mono ?_; rintro e w2 ⟨rfl, hb2⟩
            have hB := hA.call hb2
            have hbel2 := bt hbel hb2
            clear a0 a1 a2 a3 a4 a5 a6 a7 a8 a9 aa ab hA hbel hb2
            have a0 := hB.cellAt 0 rfl
            have a1 := hB.cellAt 1 rfl
            have a2 := hB.cellAt 2 rfl
            have a3 := hB.cellAt 3 rfl
            have a4 := hB.cellAt 4 rfl
            have a5 := hB.cellAt 5 rfl
            have a6 := hB.cellAt 6 rfl
            have a7 := hB.cellAt 7 rfl
            have a8 := hB.cellAt 8 rfl
            have a9 := hB.cellAt 9 rfl
            have aa := hB.cellAt 10 rfl
            have ab := hB.cellAt 11 rfl
            generalize rankB ⟨⟨ln, li, lz⟩, lq⟩ = b2 at *
            cases b2
            · have HR : Hid (entB ⟨id, rows, live, ⟨⟨ln, li, lz⟩, lq⟩, ⟨⟨hn, hi, hz⟩, hq⟩, del⟩ = false) := by show _ = _; rw [HB.out]; simp 
              go_wp2
              go_ret
              exact ⟨ret_b (by rw [HR.out] <;> first | rfl | (simp; done) | (simp; omega)), hbel2⟩
            · go_wp2_with fail
              refine (mrank_any ⟨⟨hn, hi, hz⟩, hq⟩ _).mono ?_; rintro e w3 ⟨rfl, hb3⟩
              have hC := hB.call hb3
              have hbel3 := bt hbel2 hb3
              clear a0 a1 a2 a3 a4 a5 a6 a7 a8 a9 aa ab hB hbel2 hb3
              have a0 := hC.cellAt 0 rfl
              have a1 := hC.cellAt 1 rfl
              have a2 := hC.cellAt 2 rfl
              have a3 := hC.cellAt 3 rfl
              have a4 := hC.cellAt 4 rfl
              have a5 := hC.cellAt 5 rfl
              have a6 := hC.cellAt 6 rfl
              have a7 := hC.cellAt 7 rfl
              have a8 := hC.cellAt 8 rfl
              have a9 := hC.cellAt 9 rfl
              have aa := hC.cellAt 10 rfl
              have ab := hC.cellAt 11 rfl
              generalize rankB ⟨⟨hn, hi, hz⟩, hq⟩ = b3 at *
              cases b3
              · have HR : Hid (entB ⟨id, rows, live, ⟨⟨ln, li, lz⟩, lq⟩, ⟨⟨hn, hi, hz⟩, hq⟩, del⟩ = false) := by show _ = _; rw [HB.out]; simp 
                go_wp2
                go_ret
                exact ⟨ret_b (by rw [HR.out] <;> first | rfl | (simp; done) | (simp; omega)), hbel3⟩
              · by_cases h5 : del = 0
                · subst h5
                  have HR : Hid (entB ⟨id, rows, live, ⟨⟨ln, li, lz⟩, lq⟩, ⟨⟨hn, hi, hz⟩, hq⟩, 0⟩ = true) := by show _ = _; rw [HB.out]; simp [h1, h2, h3, h4]
                  go_wp2
                  go_ret
                  exact ⟨ret_b (by rw [HR.out] <;> first | rfl | (simp; done) | (simp; omega)), hbel3⟩
                · have hd0 : (del == 0) = false := by simpa using h5
                  have HR : Hid (entB ⟨id, rows, live, ⟨⟨ln, li, lz⟩, lq⟩, ⟨⟨hn, hi, hz⟩, hq⟩, del⟩ = objB del) := by show _ = _; rw [HB.out]; simp [h1, h2, h3, h4, h5]
                  clear h5
                  go_wp2_with fail
                  refine (object_any del _).mono ?_; rintro e w4 ⟨rfl, rfl⟩
                  go_wp2
                  go_ret
                  exact ⟨ret_b (by rw [HR.out] <;> first | rfl | (simp; done) | (simp; omega)), hbel3⟩
          · have HR : Hid (entB ⟨id, rows, live, ⟨⟨ln, li, lz⟩, lq⟩, ⟨⟨hn, hi, hz⟩, hq⟩, del⟩ = false) := by show _ = _; rw [HB.out]; simp [h4]
            go_wp2
            go_ret
            exact ⟨ret_b (by rw [HR.out] <;> first | rfl | (simp; done) | (simp; omega)), hbel⟩
        · have HR : Hid (entB ⟨id, rows, live, ⟨⟨ln, li, lz⟩, lq⟩, ⟨⟨hn, hi, hz⟩, hq⟩, del⟩ = false) := by show _ = _; rw [HB.out]; simp [h3]
          go_wp2
          go_ret
          exact ⟨ret_b (by rw [HR.out] <;> first | rfl | (simp; done) | (simp; omega)), hbel⟩
      · have HR : Hid (entB ⟨id, rows, live, ⟨⟨ln, li, lz⟩, lq⟩, ⟨⟨hn, hi, hz⟩, hq⟩, del⟩ = false) := by show _ = _; rw [HB.out]; simp [h2]
        go_wp2
        go_ret
        exact ⟨ret_b (by rw [HR.out] <;> first | rfl | (simp; done) | (simp; omega)), hbel⟩
    · have HR : Hid (entB ⟨id, rows, live, ⟨⟨ln, li, lz⟩, lq⟩, ⟨⟨hn, hi, hz⟩, hq⟩, del⟩ = false) := by show _ = _; rw [HB.out]; simp [h1]
      go_wp2
      go_ret
      exact ⟨ret_b (by rw [HR.out] <;> first | rfl | (simp; done) | (simp; omega)), hbel⟩
set_option maxRecDepth 100000 in
set_option maxHeartbeats 1000000 in
theorem rentry_any (e : En) (w : World) : Calls Try.prog 18 #[Ev e] w fun x w' => x = .returned (.bool (entB e)) ∧ Below w.heap.size w w' := by
  obtain ⟨id, rows, live, ⟨⟨ln, li, lz⟩, lq⟩, ⟨⟨hn, hi, hz⟩, hq⟩, del⟩ := e
  dsimp only [Ev]
  have hA := Blk.new' w 40 #[.int .i64 id, .int .i64 rows, .int .i64 live, .bool ln, .int .i64 li, .string lz, .int .i64 lq, .bool hn, .int .i64 hi, .string hz, .int .i64 hq, .int .i64 del]
  have hbel : Below w.heap.size w (w.alloc (.cells #[.int .i64 id, .int .i64 rows, .int .i64 live, .bool ln, .int .i64 li, .string lz, .int .i64 lq, .bool hn, .int .i64 hi, .string hz, .int .i64 hq, .int .i64 del] 40)) := (Below.refl _ _).alloc (Nat.le_refl _) _
  have HB : Hid (entB ⟨id, rows, live, ⟨⟨ln, li, lz⟩, lq⟩, ⟨⟨hn, hi, hz⟩, hq⟩, del⟩ = (inB id 1 2147483647 && inB rows 1 1024 && inB live 1 rows && rankB ⟨⟨ln, li, lz⟩, lq⟩ && rankB ⟨⟨hn, hi, hz⟩, hq⟩ && inB del 0 2147483647)) := by
    show _ = _
    apply Bool.eq_iff_iff.2
    rw [ent_iff]
    unfold inB
    simp only [Bool.and_eq_true, decide_eq_true_eq]
    simp only [and_assoc]
  go_enter Try.func18, Try.ntmps18
  go_wp2_with fail
  generalize w.alloc (.cells #[.int .i64 id, .int .i64 rows, .int .i64 live, .bool ln, .int .i64 li, .string lz, .int .i64 lq, .bool hn, .int .i64 hi, .string hz, .int .i64 hq, .int .i64 del] 40) = wa at *
  refine (rin_any id 1 2147483647 _).mono ?_; rintro e w1 ⟨rfl, rfl⟩
  have a0 := hA.cellAt 0 rfl
  have a1 := hA.cellAt 1 rfl
  have a2 := hA.cellAt 2 rfl
  have a3 := hA.cellAt 3 rfl
  have a4 := hA.cellAt 4 rfl
  have a5 := hA.cellAt 5 rfl
  have a6 := hA.cellAt 6 rfl
  have a7 := hA.cellAt 7 rfl
  have a8 := hA.cellAt 8 rfl
  have a9 := hA.cellAt 9 rfl
  have aa := hA.cellAt 10 rfl
  have ab := hA.cellAt 11 rfl
  generalize inB id 1 2147483647 = b1 at *
  cases b1
  · have HR : Hid (entB ⟨id, rows, live, ⟨⟨ln, li, lz⟩, lq⟩, ⟨⟨hn, hi, hz⟩, hq⟩, del⟩ = false) := by show _ = _; rw [HB.out]; simp 
    go_wp2
    go_ret
    exact ⟨ret_b (by rw [HR.out] <;> first | rfl | (simp; done) | (simp; omega)), hbel⟩
  · go_wp2_with fail
    refine (rin_any rows 1 1024 _).mono ?_; rintro e w1 ⟨rfl, rfl⟩
    generalize inB rows 1 1024 = b2 at *
    cases b2
    · have HR : Hid (entB ⟨id, rows, live, ⟨⟨ln, li, lz⟩, lq⟩, ⟨⟨hn, hi, hz⟩, hq⟩, del⟩ = false) := by show _ = _; rw [HB.out]; simp 
      go_wp2
      go_ret
      exact ⟨ret_b (by rw [HR.out] <;> first | rfl | (simp; done) | (simp; omega)), hbel⟩
    · go_wp2_with fail
      refine (rin_any live 1 rows _).mono ?_; rintro e w1 ⟨rfl, rfl⟩
      generalize inB live 1 rows = b3 at *
      cases b3
      · have HR : Hid (entB ⟨id, rows, live, ⟨⟨ln, li, lz⟩, lq⟩, ⟨⟨hn, hi, hz⟩, hq⟩, del⟩ = false) := by show _ = _; rw [HB.out]; simp 
        go_wp2
        go_ret
        exact ⟨ret_b (by rw [HR.out] <;> first | rfl | (simp; done) | (simp; omega)), hbel⟩
      · go_wp2_with fail
        refine (rplain_any ⟨⟨ln, li, lz⟩, lq⟩ _).mono ?_; rintro e w2 ⟨rfl, hb2⟩
        have hB := hA.call hb2
        have hbel2 := bt hbel hb2
        clear a0 a1 a2 a3 a4 a5 a6 a7 a8 a9 aa ab hA hbel hb2
        have a0 := hB.cellAt 0 rfl
        have a1 := hB.cellAt 1 rfl
        have a2 := hB.cellAt 2 rfl
        have a3 := hB.cellAt 3 rfl
        have a4 := hB.cellAt 4 rfl
        have a5 := hB.cellAt 5 rfl
        have a6 := hB.cellAt 6 rfl
        have a7 := hB.cellAt 7 rfl
        have a8 := hB.cellAt 8 rfl
        have a9 := hB.cellAt 9 rfl
        have aa := hB.cellAt 10 rfl
        have ab := hB.cellAt 11 rfl
        generalize rankB ⟨⟨ln, li, lz⟩, lq⟩ = b4 at *
        cases b4
        · have HR : Hid (entB ⟨id, rows, live, ⟨⟨ln, li, lz⟩, lq⟩, ⟨⟨hn, hi, hz⟩, hq⟩, del⟩ = false) := by show _ = _; rw [HB.out]; simp 
          go_wp2
          go_ret
          exact ⟨ret_b (by rw [HR.out] <;> first | rfl | (simp; done) | (simp; omega)), hbel2⟩
        · go_wp2_with fail
          refine (rplain_any ⟨⟨hn, hi, hz⟩, hq⟩ _).mono ?_; rintro e w3 ⟨rfl, hb3⟩
          have hC := hB.call hb3
          have hbel3 := bt hbel2 hb3
          clear a0 a1 a2 a3 a4 a5 a6 a7 a8 a9 aa ab hB hbel2 hb3
          have a0 := hC.cellAt 0 rfl
          have a1 := hC.cellAt 1 rfl
          have a2 := hC.cellAt 2 rfl
          have a3 := hC.cellAt 3 rfl
          have a4 := hC.cellAt 4 rfl
          have a5 := hC.cellAt 5 rfl
          have a6 := hC.cellAt 6 rfl
          have a7 := hC.cellAt 7 rfl
          have a8 := hC.cellAt 8 rfl
          have a9 := hC.cellAt 9 rfl
          have aa := hC.cellAt 10 rfl
          have ab := hC.cellAt 11 rfl
          generalize rankB ⟨⟨hn, hi, hz⟩, hq⟩ = b5 at *
          cases b5
          · have HR : Hid (entB ⟨id, rows, live, ⟨⟨ln, li, lz⟩, lq⟩, ⟨⟨hn, hi, hz⟩, hq⟩, del⟩ = false) := by show _ = _; rw [HB.out]; simp 
            go_wp2
            go_ret
            exact ⟨ret_b (by rw [HR.out] <;> first | rfl | (simp; done) | (simp; omega)), hbel3⟩
          · go_wp2_with fail
            refine (rin_any del 0 2147483647 _).mono ?_; rintro e w4 ⟨rfl, rfl⟩
            have HR : Hid (entB ⟨id, rows, live, ⟨⟨ln, li, lz⟩, lq⟩, ⟨⟨hn, hi, hz⟩, hq⟩, del⟩ = inB del 0 2147483647) := by show _ = _; rw [HB.out]; simp
            go_wp2
            go_ret
            exact ⟨ret_b (by rw [HR.out] <;> first | rfl | (simp; done) | (simp; omega)), hbel3⟩

end Go.Proofs.Ytgacjpkgpegcdaa
