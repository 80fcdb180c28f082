/-
  The tests of zones: zone.Check and the reference's.
-/
import Derived.Test.YtnichmblekbccaaZChk2
namespace Go.Proofs.Ytnichmblekbccaa
open Go.RowKit

def nullB (v : Vl) : Bool := v.null && v.n == 0 && v.s.toList == []
def restZ (c : Cl) (z : Zn) : Bool := !z.mn.null && !z.mx.null && decide (chkV c z.mn = 0) && decide (chkV c z.mx = 0) && (decide (cmpV c.ty z.mn z.mx < 0) && decide (1 < z.rows - z.nulls) || decide (cmpV c.ty z.mn z.mx = 0))
/-- What the test of a zone says. -/
def chkZ (c : Cl) (z : Zn) : Bool :=
  decide (1 ≤ c.ty) && decide (c.ty ≤ 5) && decide (0 ≤ z.nulls) && decide (z.nulls ≤ z.rows) && decide (z.rows ≤ 4096) && (decide (z.nulls ≤ 0) || c.nl) &&
  (if z.nulls = z.rows then nullB z.mn && nullB z.mx else restZ c z)
theorem chkZ_no {c : Cl} {z : Zn} (h : ¬ (1 ≤ c.ty ∧ c.ty ≤ 5 ∧ 0 ≤ z.nulls ∧ z.nulls ≤ z.rows ∧ z.rows ≤ 4096 ∧ (z.nulls ≤ 0 ∨ c.nl = true))) : chkZ c z = false := by
  cases e : chkZ c z
  · rfl
  · unfold chkZ at e
    simp only [Bool.and_eq_true, decide_eq_true_eq, Bool.or_eq_true] at e
    exact absurd ⟨e.1.1.1.1.1.1, e.1.1.1.1.1.2, e.1.1.1.1.2, e.1.1.1.2, e.1.1.2, e.1.2⟩ h
theorem chkZ_eq {c : Cl} {z : Zn} (h1 : 1 ≤ c.ty) (h2 : c.ty ≤ 5) (h3 : 0 ≤ z.nulls) (h4 : z.nulls ≤ z.rows) (h5 : z.rows ≤ 4096) (h6 : z.nulls ≤ 0 ∨ c.nl = true) (e : z.nulls = z.rows) : chkZ c z = (nullB z.mn && nullB z.mx) := by
  have h6' : (decide (z.nulls ≤ 0) || c.nl) = true := by rcases h6 with h | h <;> simp [h]
  unfold chkZ
  rw [decide_eq_true h1, decide_eq_true h2, decide_eq_true h3, decide_eq_true h4, decide_eq_true h5, h6', if_pos e]; rfl
theorem chkZ_ne {c : Cl} {z : Zn} (h1 : 1 ≤ c.ty) (h2 : c.ty ≤ 5) (h3 : 0 ≤ z.nulls) (h4 : z.nulls ≤ z.rows) (h5 : z.rows ≤ 4096) (h6 : z.nulls ≤ 0 ∨ c.nl = true) (e : ¬ z.nulls = z.rows) : chkZ c z = restZ c z := by
  have h6' : (decide (z.nulls ≤ 0) || c.nl) = true := by rcases h6 with h | h <;> simp [h]
  unfold chkZ
  rw [decide_eq_true h1, decide_eq_true h2, decide_eq_true h3, decide_eq_true h4, decide_eq_true h5, h6', if_neg e]; rfl

theorem ret_bool0 {b : Bool} (h : b = false) : Ending.returned (.bool b) = .returned (.bool false) := by rw [h]
set_option maxRecDepth 100000 in
set_option maxHeartbeats 4000000 in
theorem zcheck_any (c : Cl) (z : Zn) (w : World) : Calls Try.prog 16 #[Cv c, Zv z] w fun e w' => e = .returned (.bool (chkZ c z)) ∧ Below w.heap.size w w' := by
  obtain ⟨cm, ct, cs, cl⟩ := c
  obtain ⟨zr, zn, ⟨mn, mi, mz⟩, ⟨xn, xi, xz⟩⟩ := z
  dsimp only [Zv, Cv]
  have hC := (Blk.new' w 32 #[.string cm, .int .i64 ct, .int .i64 cs, .bool cl]).alloc (.cells #[.int .i64 zr, .int .i64 zn, .bool mn, .int .i64 mi, .string mz, .bool xn, .int .i64 xi, .string xz] 25)
  have hZ := Blk.new' (w.alloc (.cells #[.string cm, .int .i64 ct, .int .i64 cs, .bool cl] 32)) 25 #[.int .i64 zr, .int .i64 zn, .bool mn, .int .i64 mi, .string mz, .bool xn, .int .i64 xi, .string xz]
  have s1 : (w.alloc (.cells #[.string cm, .int .i64 ct, .int .i64 cs, .bool cl] 32)).heap.size = w.heap.size + 1 := by simp
  rw [s1] at hZ
  clear s1
  have hbel : Below w.heap.size w ((w.alloc (.cells #[.string cm, .int .i64 ct, .int .i64 cs, .bool cl] 32)).alloc (.cells #[.int .i64 zr, .int .i64 zn, .bool mn, .int .i64 mi, .string mz, .bool xn, .int .i64 xi, .string xz] 25)) := ((Below.refl _ _).alloc (Nat.le_refl _) _).alloc (by simp) _
  go_enter Try.func16, Try.ntmps16
  go_upto_region 1 with fail
  generalize (w.alloc (.cells #[.string cm, .int .i64 ct, .int .i64 cs, .bool cl] 32)).alloc (.cells #[.int .i64 zr, .int .i64 zn, .bool mn, .int .i64 mi, .string mz, .bool xn, .int .i64 xi, .string xz] 25) = wa at *
  have z0 := hZ.cellAt 0 rfl
  have z1 := hZ.cellAt 1 rfl
  have z2 := hZ.cellAt 2 rfl
  have z3 := hZ.cellAt 3 rfl
  have z4 := hZ.cellAt 4 rfl
  have z5 := hZ.cellAt 5 rfl
  have z6 := hZ.cellAt 6 rfl
  have z7 := hZ.cellAt 7 rfl
  have c0 := hC.cellAt 0 rfl
  have c1 := hC.cellAt 1 rfl
  have c2 := hC.cellAt 2 rfl
  have c3 := hC.cellAt 3 rfl
  by_cases h1 : 1 ≤ ct
  · by_cases h2 : ct ≤ 5
    · by_cases h3 : 0 ≤ zn
      · by_cases h4 : zn ≤ zr
        · by_cases h5 : zr ≤ 4096
          · by_cases h6n : zn ≤ 0
            · have h6 := Lib.hid (Or.inl h6n : zn ≤ 0 ∨ cl = true)
              by_cases he : zn = zr
              · subst he
                have y2 := fun o => (hZ.alloc o).cellAt 2 rfl
                have y3 := fun o => (hZ.alloc o).cellAt 3 rfl
                have y4 := fun o => (hZ.alloc o).cellAt 4 rfl
                have y5 := fun o => (hZ.alloc o).cellAt 5 rfl
                have y6 := fun o => (hZ.alloc o).cellAt 6 rfl
                have y7 := fun o => (hZ.alloc o).cellAt 7 rfl
                have HE : Hid (chkZ ⟨cm, ct, cs, cl⟩ ⟨zn, zn, ⟨mn, mi, mz⟩, ⟨xn, xi, xz⟩⟩ = (nullB ⟨mn, mi, mz⟩ && nullB ⟨xn, xi, xz⟩)) := chkZ_eq h1 h2 h3 h4 h5 h6.out rfl
                cases mn
                · have HR : Hid (chkZ ⟨cm, ct, cs, cl⟩ ⟨zn, zn, ⟨false, mi, mz⟩, ⟨xn, xi, xz⟩⟩ = false) := HE.out.trans (by simp [nullB])
                  go_wp2
                  go_ret
                  exact ⟨by first | (rw [HR.out]; done) | (rw [HR.out]; rfl) | (rw [HR.out]; exact ret_bool q7) | (rw [HR.out]; exact ret_bool0 q7), (hbel.alloc hbel.size _)⟩
                · by_cases mi0 : mi = 0
                  · subst mi0
                    by_cases mz0 : mz = ⟨#[]⟩
                    · subst mz0
                      cases xn
                      · have HR : Hid (chkZ ⟨cm, ct, cs, cl⟩ ⟨zn, zn, ⟨true, 0, ⟨#[]⟩⟩, ⟨false, xi, xz⟩⟩ = false) := HE.out.trans (by simp [nullB])
                        go_wp2
                        go_ret
                        exact ⟨by first | (rw [HR.out]; done) | (rw [HR.out]; rfl) | (rw [HR.out]; exact ret_bool q7) | (rw [HR.out]; exact ret_bool0 q7), (hbel.alloc hbel.size _)⟩
                      · by_cases xi0 : xi = 0
                        · subst xi0
                          by_cases xz0 : xz = ⟨#[]⟩
                          · subst xz0
                            have HR : Hid (chkZ ⟨cm, ct, cs, cl⟩ ⟨zn, zn, ⟨true, 0, ⟨#[]⟩⟩, ⟨true, 0, ⟨#[]⟩⟩⟩ = true) := HE.out.trans (by simp [nullB])
                            go_wp2
                            go_ret
                            exact ⟨by first | (rw [HR.out]; done) | (rw [HR.out]; rfl) | (rw [HR.out]; exact ret_bool q7) | (rw [HR.out]; exact ret_bool0 q7), (hbel.alloc hbel.size _)⟩
                          · have q5 := list_ne xz0
                            have HR : Hid (chkZ ⟨cm, ct, cs, cl⟩ ⟨zn, zn, ⟨true, 0, ⟨#[]⟩⟩, ⟨true, 0, xz⟩⟩ = false) := HE.out.trans (by simp [nullB, nil_list xz0])
                            clear xz0
                            go_wp2
                            go_ret
                            exact ⟨by first | (rw [HR.out]; done) | (rw [HR.out]; rfl) | (rw [HR.out]; exact ret_bool q7) | (rw [HR.out]; exact ret_bool0 q7), (hbel.alloc hbel.size _)⟩
                        · have q0 : (xi == 0) = false := by simpa using xi0
                          have HR : Hid (chkZ ⟨cm, ct, cs, cl⟩ ⟨zn, zn, ⟨true, 0, ⟨#[]⟩⟩, ⟨true, xi, xz⟩⟩ = false) := HE.out.trans (by simp [nullB, xi0])
                          clear xi0
                          go_wp2
                          go_ret
                          exact ⟨by first | (rw [HR.out]; done) | (rw [HR.out]; rfl) | (rw [HR.out]; exact ret_bool q7) | (rw [HR.out]; exact ret_bool0 q7), (hbel.alloc hbel.size _)⟩
                    · have q5 := list_ne mz0
                      have HR : Hid (chkZ ⟨cm, ct, cs, cl⟩ ⟨zn, zn, ⟨true, 0, mz⟩, ⟨xn, xi, xz⟩⟩ = false) := HE.out.trans (by simp [nullB, nil_list mz0])
                      clear mz0
                      go_wp2
                      go_ret
                      exact ⟨by first | (rw [HR.out]; done) | (rw [HR.out]; rfl) | (rw [HR.out]; exact ret_bool q7) | (rw [HR.out]; exact ret_bool0 q7), (hbel.alloc hbel.size _)⟩
                  · have q0 : (mi == 0) = false := by simpa using mi0
                    have HR : Hid (chkZ ⟨cm, ct, cs, cl⟩ ⟨zn, zn, ⟨true, mi, mz⟩, ⟨xn, xi, xz⟩⟩ = false) := HE.out.trans (by simp [nullB, mi0])
                    clear mi0
                    go_wp2
                    go_ret
                    exact ⟨by first | (rw [HR.out]; done) | (rw [HR.out]; rfl) | (rw [HR.out]; exact ret_bool q7) | (rw [HR.out]; exact ret_bool0 q7), (hbel.alloc hbel.size _)⟩
              · skip
                have HE : Hid (chkZ ⟨cm, ct, cs, cl⟩ ⟨zr, zn, ⟨mn, mi, mz⟩, ⟨xn, xi, xz⟩⟩ = restZ ⟨cm, ct, cs, cl⟩ ⟨zr, zn, ⟨mn, mi, mz⟩, ⟨xn, xi, xz⟩⟩) := chkZ_ne h1 h2 h3 h4 h5 h6.out he
                have qe : (zn == zr) = false := by simpa using he
                cases mn
                · cases xn
                  · go_wp2_with fail
                    refine (vcheck_any ⟨cm, ct, cs, cl⟩ ⟨false, mi, mz⟩ _).mono ?_; rintro e w1 ⟨rfl, hb1⟩
                    have HE2 : Hid (restZ ⟨cm, ct, cs, cl⟩ ⟨zr, zn, ⟨false, mi, mz⟩, ⟨false, xi, xz⟩⟩ = (decide (chkV ⟨cm, ct, cs, cl⟩ ⟨false, mi, mz⟩ = 0) && decide (chkV ⟨cm, ct, cs, cl⟩ ⟨false, xi, xz⟩ = 0) && (decide (cmpV ct ⟨false, mi, mz⟩ ⟨false, xi, xz⟩ < 0) && decide (1 < zr - zn) || decide (cmpV ct ⟨false, mi, mz⟩ ⟨false, xi, xz⟩ = 0)))) := rfl
                    have hZ1 := hZ.call hb1
                    have hC1 := hC.call hb1
                    clear z0 z1 z2 z3 z4 z5 z6 z7 c0 c1 c2 c3
                    have z0 := hZ1.cellAt 0 rfl
                    have z1 := hZ1.cellAt 1 rfl
                    have z2 := hZ1.cellAt 2 rfl
                    have z3 := hZ1.cellAt 3 rfl
                    have z4 := hZ1.cellAt 4 rfl
                    have z5 := hZ1.cellAt 5 rfl
                    have z6 := hZ1.cellAt 6 rfl
                    have z7 := hZ1.cellAt 7 rfl
                    have c0 := hC1.cellAt 0 rfl
                    have c1 := hC1.cellAt 1 rfl
                    have c2 := hC1.cellAt 2 rfl
                    have c3 := hC1.cellAt 3 rfl
                    generalize chkV ⟨cm, ct, cs, cl⟩ ⟨false, mi, mz⟩ = r1 at *
                    by_cases hr1 : r1 = 0
                    · subst hr1
                      go_wp2_with fail
                      refine (vcheck_any ⟨cm, ct, cs, cl⟩ ⟨false, xi, xz⟩ _).mono ?_; rintro e w2 ⟨rfl, hb2⟩
                      have hZ2 := hZ1.call hb2
                      have hC2 := hC1.call hb2
                      clear z0 z1 z2 z3 z4 z5 z6 z7 c0 c1 c2 c3
                      have z0 := hZ2.cellAt 0 rfl
                      have z1 := hZ2.cellAt 1 rfl
                      have z2 := hZ2.cellAt 2 rfl
                      have z3 := hZ2.cellAt 3 rfl
                      have z4 := hZ2.cellAt 4 rfl
                      have z5 := hZ2.cellAt 5 rfl
                      have z6 := hZ2.cellAt 6 rfl
                      have z7 := hZ2.cellAt 7 rfl
                      have c0 := hC2.cellAt 0 rfl
                      have c1 := hC2.cellAt 1 rfl
                      have c2 := hC2.cellAt 2 rfl
                      have c3 := hC2.cellAt 3 rfl
                      generalize chkV ⟨cm, ct, cs, cl⟩ ⟨false, xi, xz⟩ = r2 at *
                      by_cases hr2 : r2 = 0
                      · subst hr2
                        go_wp2_with fail
                        refine (cmp_val ct ⟨false, mi, mz⟩ ⟨false, xi, xz⟩ _).mono ?_; rintro e w3 ⟨rfl, hb3⟩
                        have hZ3 := hZ2.call hb3
                        have hC3 := hC2.call hb3
                        clear z0 z1 z2 z3 z4 z5 z6 z7 c0 c1 c2 c3
                        have z0 := hZ3.cellAt 0 rfl
                        have z1 := hZ3.cellAt 1 rfl
                        have z2 := hZ3.cellAt 2 rfl
                        have z3 := hZ3.cellAt 3 rfl
                        have z4 := hZ3.cellAt 4 rfl
                        have z5 := hZ3.cellAt 5 rfl
                        have z6 := hZ3.cellAt 6 rfl
                        have z7 := hZ3.cellAt 7 rfl
                        have c0 := hC3.cellAt 0 rfl
                        have c1 := hC3.cellAt 1 rfl
                        have c2 := hC3.cellAt 2 rfl
                        have c3 := hC3.cellAt 3 rfl
                        generalize cmpV ct ⟨false, mi, mz⟩ ⟨false, xi, xz⟩ = d at *
                        rcases Int.lt_trichotomy d 0 with hd | hd | hd
                        · by_cases h7 : 1 < zr - zn
                          · have hd2 : ¬ d = 0 := by omega
                            have q7 : decide (1 < zr - zn) = true := decide_eq_true h7
                            have HR : Hid (chkZ ⟨cm, ct, cs, cl⟩ ⟨zr, zn, ⟨false, mi, mz⟩, ⟨false, xi, xz⟩⟩ = true) := (HE.out.trans HE2.out).trans (by simp [hd, h7])
                            go_wp2
                            go_ret
                            exact ⟨by first | (rw [HR.out]; done) | (rw [HR.out]; rfl) | (rw [HR.out]; exact ret_bool q7) | (rw [HR.out]; exact ret_bool0 q7), (bt (bt (bt hbel hb1) hb2) hb3)⟩
                          · have hd2 : ¬ d = 0 := by omega
                            have HR : Hid (chkZ ⟨cm, ct, cs, cl⟩ ⟨zr, zn, ⟨false, mi, mz⟩, ⟨false, xi, xz⟩⟩ = false) := (HE.out.trans HE2.out).trans (by simp [hd, h7, hd2])
                            have q9 : (d == 0) = false := by simpa using hd2
                            have q7 : decide (1 < zr - zn) = false := decide_eq_false h7
                            clear hd2
                            go_wp2
                            go_ret
                            exact ⟨by first | (rw [HR.out]; done) | (rw [HR.out]; rfl) | (rw [HR.out]; exact ret_bool q7) | (rw [HR.out]; exact ret_bool0 q7), (bt (bt (bt hbel hb1) hb2) hb3)⟩
                        · subst hd
                          have HR : Hid (chkZ ⟨cm, ct, cs, cl⟩ ⟨zr, zn, ⟨false, mi, mz⟩, ⟨false, xi, xz⟩⟩ = true) := (HE.out.trans HE2.out).trans (by simp)
                          go_wp2
                          go_ret
                          exact ⟨by first | (rw [HR.out]; done) | (rw [HR.out]; rfl) | (rw [HR.out]; exact ret_bool q7) | (rw [HR.out]; exact ret_bool0 q7), (bt (bt (bt hbel hb1) hb2) hb3)⟩
                        · have hd1 : ¬ d < 0 := by omega
                          have hd2 : ¬ d = 0 := by omega
                          have HR : Hid (chkZ ⟨cm, ct, cs, cl⟩ ⟨zr, zn, ⟨false, mi, mz⟩, ⟨false, xi, xz⟩⟩ = false) := (HE.out.trans HE2.out).trans (by simp [hd1, hd2])
                          have q9 : (d == 0) = false := by simpa using hd2
                          clear hd1 hd2
                          go_wp2
                          go_ret
                          exact ⟨by first | (rw [HR.out]; done) | (rw [HR.out]; rfl) | (rw [HR.out]; exact ret_bool q7) | (rw [HR.out]; exact ret_bool0 q7), (bt (bt (bt hbel hb1) hb2) hb3)⟩
                      · have HR : Hid (chkZ ⟨cm, ct, cs, cl⟩ ⟨zr, zn, ⟨false, mi, mz⟩, ⟨false, xi, xz⟩⟩ = false) := (HE.out.trans HE2.out).trans (by simp [hr2])
                        have q8 : (r2 == 0) = false := by simpa using hr2
                        have q9 : (r2 != 0) = true := by simpa using hr2
                        clear hr2
                        go_wp2
                        go_ret
                        exact ⟨by first | (rw [HR.out]; done) | (rw [HR.out]; rfl) | (rw [HR.out]; exact ret_bool q7) | (rw [HR.out]; exact ret_bool0 q7), (bt (bt hbel hb1) hb2)⟩
                    · have HR : Hid (chkZ ⟨cm, ct, cs, cl⟩ ⟨zr, zn, ⟨false, mi, mz⟩, ⟨false, xi, xz⟩⟩ = false) := (HE.out.trans HE2.out).trans (by simp [hr1])
                      have q8 : (r1 == 0) = false := by simpa using hr1
                      have q9 : (r1 != 0) = true := by simpa using hr1
                      clear hr1
                      go_wp2
                      go_ret
                      exact ⟨by first | (rw [HR.out]; done) | (rw [HR.out]; rfl) | (rw [HR.out]; exact ret_bool q7) | (rw [HR.out]; exact ret_bool0 q7), (bt hbel hb1)⟩
                  · have HR : Hid (chkZ ⟨cm, ct, cs, cl⟩ ⟨zr, zn, ⟨false, mi, mz⟩, ⟨true, xi, xz⟩⟩ = false) := HE.out.trans (by simp [restZ])
                    go_wp2
                    go_ret
                    exact ⟨by first | (rw [HR.out]; done) | (rw [HR.out]; rfl) | (rw [HR.out]; exact ret_bool q7) | (rw [HR.out]; exact ret_bool0 q7), hbel⟩
                · have HR : Hid (chkZ ⟨cm, ct, cs, cl⟩ ⟨zr, zn, ⟨true, mi, mz⟩, ⟨xn, xi, xz⟩⟩ = false) := HE.out.trans (by simp [restZ])
                  go_wp2
                  go_ret
                  exact ⟨by first | (rw [HR.out]; done) | (rw [HR.out]; rfl) | (rw [HR.out]; exact ret_bool q7) | (rw [HR.out]; exact ret_bool0 q7), hbel⟩
            · cases cl
              · have HR : Hid (chkZ ⟨cm, ct, cs, false⟩ ⟨zr, zn, ⟨mn, mi, mz⟩, ⟨xn, xi, xz⟩⟩ = false) := chkZ_no (by rintro ⟨a1, a2, a3, a4, a5, a6⟩; dsimp only at *; rcases a6 with a6 | a6; exact h6n a6; cases a6)
                go_wp2
                go_ret
                exact ⟨by first | (rw [HR.out]; done) | (rw [HR.out]; rfl) | (rw [HR.out]; exact ret_bool q7) | (rw [HR.out]; exact ret_bool0 q7), hbel⟩
              · have h6 := Lib.hid (Or.inr rfl : zn ≤ 0 ∨ true = true)
                by_cases he : zn = zr
                · subst he
                  have y2 := fun o => (hZ.alloc o).cellAt 2 rfl
                  have y3 := fun o => (hZ.alloc o).cellAt 3 rfl
                  have y4 := fun o => (hZ.alloc o).cellAt 4 rfl
                  have y5 := fun o => (hZ.alloc o).cellAt 5 rfl
                  have y6 := fun o => (hZ.alloc o).cellAt 6 rfl
                  have y7 := fun o => (hZ.alloc o).cellAt 7 rfl
                  have HE : Hid (chkZ ⟨cm, ct, cs, true⟩ ⟨zn, zn, ⟨mn, mi, mz⟩, ⟨xn, xi, xz⟩⟩ = (nullB ⟨mn, mi, mz⟩ && nullB ⟨xn, xi, xz⟩)) := chkZ_eq h1 h2 h3 h4 h5 h6.out rfl
                  cases mn
                  · have HR : Hid (chkZ ⟨cm, ct, cs, true⟩ ⟨zn, zn, ⟨false, mi, mz⟩, ⟨xn, xi, xz⟩⟩ = false) := HE.out.trans (by simp [nullB])
                    go_wp2
                    go_ret
                    exact ⟨by first | (rw [HR.out]; done) | (rw [HR.out]; rfl) | (rw [HR.out]; exact ret_bool q7) | (rw [HR.out]; exact ret_bool0 q7), (hbel.alloc hbel.size _)⟩
                  · by_cases mi0 : mi = 0
                    · subst mi0
                      by_cases mz0 : mz = ⟨#[]⟩
                      · subst mz0
                        cases xn
                        · have HR : Hid (chkZ ⟨cm, ct, cs, true⟩ ⟨zn, zn, ⟨true, 0, ⟨#[]⟩⟩, ⟨false, xi, xz⟩⟩ = false) := HE.out.trans (by simp [nullB])
                          go_wp2
                          go_ret
                          exact ⟨by first | (rw [HR.out]; done) | (rw [HR.out]; rfl) | (rw [HR.out]; exact ret_bool q7) | (rw [HR.out]; exact ret_bool0 q7), (hbel.alloc hbel.size _)⟩
                        · by_cases xi0 : xi = 0
                          · subst xi0
                            by_cases xz0 : xz = ⟨#[]⟩
                            · subst xz0
                              have HR : Hid (chkZ ⟨cm, ct, cs, true⟩ ⟨zn, zn, ⟨true, 0, ⟨#[]⟩⟩, ⟨true, 0, ⟨#[]⟩⟩⟩ = true) := HE.out.trans (by simp [nullB])
                              go_wp2
                              go_ret
                              exact ⟨by first | (rw [HR.out]; done) | (rw [HR.out]; rfl) | (rw [HR.out]; exact ret_bool q7) | (rw [HR.out]; exact ret_bool0 q7), (hbel.alloc hbel.size _)⟩
                            · have q5 := list_ne xz0
                              have HR : Hid (chkZ ⟨cm, ct, cs, true⟩ ⟨zn, zn, ⟨true, 0, ⟨#[]⟩⟩, ⟨true, 0, xz⟩⟩ = false) := HE.out.trans (by simp [nullB, nil_list xz0])
                              clear xz0
                              go_wp2
                              go_ret
                              exact ⟨by first | (rw [HR.out]; done) | (rw [HR.out]; rfl) | (rw [HR.out]; exact ret_bool q7) | (rw [HR.out]; exact ret_bool0 q7), (hbel.alloc hbel.size _)⟩
                          · have q0 : (xi == 0) = false := by simpa using xi0
                            have HR : Hid (chkZ ⟨cm, ct, cs, true⟩ ⟨zn, zn, ⟨true, 0, ⟨#[]⟩⟩, ⟨true, xi, xz⟩⟩ = false) := HE.out.trans (by simp [nullB, xi0])
                            clear xi0
                            go_wp2
                            go_ret
                            exact ⟨by first | (rw [HR.out]; done) | (rw [HR.out]; rfl) | (rw [HR.out]; exact ret_bool q7) | (rw [HR.out]; exact ret_bool0 q7), (hbel.alloc hbel.size _)⟩
                      · have q5 := list_ne mz0
                        have HR : Hid (chkZ ⟨cm, ct, cs, true⟩ ⟨zn, zn, ⟨true, 0, mz⟩, ⟨xn, xi, xz⟩⟩ = false) := HE.out.trans (by simp [nullB, nil_list mz0])
                        clear mz0
                        go_wp2
                        go_ret
                        exact ⟨by first | (rw [HR.out]; done) | (rw [HR.out]; rfl) | (rw [HR.out]; exact ret_bool q7) | (rw [HR.out]; exact ret_bool0 q7), (hbel.alloc hbel.size _)⟩
                    · have q0 : (mi == 0) = false := by simpa using mi0
                      have HR : Hid (chkZ ⟨cm, ct, cs, true⟩ ⟨zn, zn, ⟨true, mi, mz⟩, ⟨xn, xi, xz⟩⟩ = false) := HE.out.trans (by simp [nullB, mi0])
                      clear mi0
                      go_wp2
                      go_ret
                      exact ⟨by first | (rw [HR.out]; done) | (rw [HR.out]; rfl) | (rw [HR.out]; exact ret_bool q7) | (rw [HR.out]; exact ret_bool0 q7), (hbel.alloc hbel.size _)⟩
                · skip
                  have HE : Hid (chkZ ⟨cm, ct, cs, true⟩ ⟨zr, zn, ⟨mn, mi, mz⟩, ⟨xn, xi, xz⟩⟩ = restZ ⟨cm, ct, cs, true⟩ ⟨zr, zn, ⟨mn, mi, mz⟩, ⟨xn, xi, xz⟩⟩) := chkZ_ne h1 h2 h3 h4 h5 h6.out he
                  have qe : (zn == zr) = false := by simpa using he
                  cases mn
                  · cases xn
                    · go_wp2_with fail
                      refine (vcheck_any ⟨cm, ct, cs, true⟩ ⟨false, mi, mz⟩ _).mono ?_; rintro e w1 ⟨rfl, hb1⟩
                      have HE2 : Hid (restZ ⟨cm, ct, cs, true⟩ ⟨zr, zn, ⟨false, mi, mz⟩, ⟨false, xi, xz⟩⟩ = (decide (chkV ⟨cm, ct, cs, true⟩ ⟨false, mi, mz⟩ = 0) && decide (chkV ⟨cm, ct, cs, true⟩ ⟨false, xi, xz⟩ = 0) && (decide (cmpV ct ⟨false, mi, mz⟩ ⟨false, xi, xz⟩ < 0) && decide (1 < zr - zn) || decide (cmpV ct ⟨false, mi, mz⟩ ⟨false, xi, xz⟩ = 0)))) := rfl
                      have hZ1 := hZ.call hb1
                      have hC1 := hC.call hb1
                      clear z0 z1 z2 z3 z4 z5 z6 z7 c0 c1 c2 c3
                      have z0 := hZ1.cellAt 0 rfl
                      have z1 := hZ1.cellAt 1 rfl
                      have z2 := hZ1.cellAt 2 rfl
                      have z3 := hZ1.cellAt 3 rfl
                      have z4 := hZ1.cellAt 4 rfl
                      have z5 := hZ1.cellAt 5 rfl
                      have z6 := hZ1.cellAt 6 rfl
                      have z7 := hZ1.cellAt 7 rfl
                      have c0 := hC1.cellAt 0 rfl
                      have c1 := hC1.cellAt 1 rfl
                      have c2 := hC1.cellAt 2 rfl
                      have c3 := hC1.cellAt 3 rfl
                      generalize chkV ⟨cm, ct, cs, true⟩ ⟨false, mi, mz⟩ = r1 at *
                      by_cases hr1 : r1 = 0
                      · subst hr1
                        go_wp2_with fail
                        refine (vcheck_any ⟨cm, ct, cs, true⟩ ⟨false, xi, xz⟩ _).mono ?_; rintro e w2 ⟨rfl, hb2⟩
                        have hZ2 := hZ1.call hb2
                        have hC2 := hC1.call hb2
                        clear z0 z1 z2 z3 z4 z5 z6 z7 c0 c1 c2 c3
                        have z0 := hZ2.cellAt 0 rfl
                        have z1 := hZ2.cellAt 1 rfl
                        have z2 := hZ2.cellAt 2 rfl
                        have z3 := hZ2.cellAt 3 rfl
                        have z4 := hZ2.cellAt 4 rfl
                        have z5 := hZ2.cellAt 5 rfl
                        have z6 := hZ2.cellAt 6 rfl
                        have z7 := hZ2.cellAt 7 rfl
                        have c0 := hC2.cellAt 0 rfl
                        have c1 := hC2.cellAt 1 rfl
                        have c2 := hC2.cellAt 2 rfl
                        have c3 := hC2.cellAt 3 rfl
                        generalize chkV ⟨cm, ct, cs, true⟩ ⟨false, xi, xz⟩ = r2 at *
                        by_cases hr2 : r2 = 0
                        · subst hr2
                          go_wp2_with fail
                          refine (cmp_val ct ⟨false, mi, mz⟩ ⟨false, xi, xz⟩ _).mono ?_; rintro e w3 ⟨rfl, hb3⟩
                          have hZ3 := hZ2.call hb3
                          have hC3 := hC2.call hb3
                          clear z0 z1 z2 z3 z4 z5 z6 z7 c0 c1 c2 c3
                          have z0 := hZ3.cellAt 0 rfl
                          have z1 := hZ3.cellAt 1 rfl
                          have z2 := hZ3.cellAt 2 rfl
                          have z3 := hZ3.cellAt 3 rfl
                          have z4 := hZ3.cellAt 4 rfl
                          have z5 := hZ3.cellAt 5 rfl
                          have z6 := hZ3.cellAt 6 rfl
                          have z7 := hZ3.cellAt 7 rfl
                          have c0 := hC3.cellAt 0 rfl
                          have c1 := hC3.cellAt 1 rfl
                          have c2 := hC3.cellAt 2 rfl
                          have c3 := hC3.cellAt 3 rfl
                          generalize cmpV ct ⟨false, mi, mz⟩ ⟨false, xi, xz⟩ = d at *
                          rcases Int.lt_trichotomy d 0 with hd | hd | hd
                          · by_cases h7 : 1 < zr - zn
                            · have hd2 : ¬ d = 0 := by omega
                              have q7 : decide (1 < zr - zn) = true := decide_eq_true h7
                              have HR : Hid (chkZ ⟨cm, ct, cs, true⟩ ⟨zr, zn, ⟨false, mi, mz⟩, ⟨false, xi, xz⟩⟩ = true) := (HE.out.trans HE2.out).trans (by simp [hd, h7])
                              go_wp2
                              go_ret
                              exact ⟨by first | (rw [HR.out]; done) | (rw [HR.out]; rfl) | (rw [HR.out]; exact ret_bool q7) | (rw [HR.out]; exact ret_bool0 q7), (bt (bt (bt hbel hb1) hb2) hb3)⟩
                            · have hd2 : ¬ d = 0 := by omega
                              have HR : Hid (chkZ ⟨cm, ct, cs, true⟩ ⟨zr, zn, ⟨false, mi, mz⟩, ⟨false, xi, xz⟩⟩ = false) := (HE.out.trans HE2.out).trans (by simp [hd, h7, hd2])
                              have q9 : (d == 0) = false := by simpa using hd2
                              have q7 : decide (1 < zr - zn) = false := decide_eq_false h7
                              clear hd2
                              go_wp2
                              go_ret
                              exact ⟨by first | (rw [HR.out]; done) | (rw [HR.out]; rfl) | (rw [HR.out]; exact ret_bool q7) | (rw [HR.out]; exact ret_bool0 q7), (bt (bt (bt hbel hb1) hb2) hb3)⟩
                          · subst hd
                            have HR : Hid (chkZ ⟨cm, ct, cs, true⟩ ⟨zr, zn, ⟨false, mi, mz⟩, ⟨false, xi, xz⟩⟩ = true) := (HE.out.trans HE2.out).trans (by simp)
                            go_wp2
                            go_ret
                            exact ⟨by first | (rw [HR.out]; done) | (rw [HR.out]; rfl) | (rw [HR.out]; exact ret_bool q7) | (rw [HR.out]; exact ret_bool0 q7), (bt (bt (bt hbel hb1) hb2) hb3)⟩
                          · have hd1 : ¬ d < 0 := by omega
                            have hd2 : ¬ d = 0 := by omega
                            have HR : Hid (chkZ ⟨cm, ct, cs, true⟩ ⟨zr, zn, ⟨false, mi, mz⟩, ⟨false, xi, xz⟩⟩ = false) := (HE.out.trans HE2.out).trans (by simp [hd1, hd2])
                            have q9 : (d == 0) = false := by simpa using hd2
                            clear hd1 hd2
                            go_wp2
                            go_ret
                            exact ⟨by first | (rw [HR.out]; done) | (rw [HR.out]; rfl) | (rw [HR.out]; exact ret_bool q7) | (rw [HR.out]; exact ret_bool0 q7), (bt (bt (bt hbel hb1) hb2) hb3)⟩
                        · have HR : Hid (chkZ ⟨cm, ct, cs, true⟩ ⟨zr, zn, ⟨false, mi, mz⟩, ⟨false, xi, xz⟩⟩ = false) := (HE.out.trans HE2.out).trans (by simp [hr2])
                          have q8 : (r2 == 0) = false := by simpa using hr2
                          have q9 : (r2 != 0) = true := by simpa using hr2
                          clear hr2
                          go_wp2
                          go_ret
                          exact ⟨by first | (rw [HR.out]; done) | (rw [HR.out]; rfl) | (rw [HR.out]; exact ret_bool q7) | (rw [HR.out]; exact ret_bool0 q7), (bt (bt hbel hb1) hb2)⟩
                      · have HR : Hid (chkZ ⟨cm, ct, cs, true⟩ ⟨zr, zn, ⟨false, mi, mz⟩, ⟨false, xi, xz⟩⟩ = false) := (HE.out.trans HE2.out).trans (by simp [hr1])
                        have q8 : (r1 == 0) = false := by simpa using hr1
                        have q9 : (r1 != 0) = true := by simpa using hr1
                        clear hr1
                        go_wp2
                        go_ret
                        exact ⟨by first | (rw [HR.out]; done) | (rw [HR.out]; rfl) | (rw [HR.out]; exact ret_bool q7) | (rw [HR.out]; exact ret_bool0 q7), (bt hbel hb1)⟩
                    · have HR : Hid (chkZ ⟨cm, ct, cs, true⟩ ⟨zr, zn, ⟨false, mi, mz⟩, ⟨true, xi, xz⟩⟩ = false) := HE.out.trans (by simp [restZ])
                      go_wp2
                      go_ret
                      exact ⟨by first | (rw [HR.out]; done) | (rw [HR.out]; rfl) | (rw [HR.out]; exact ret_bool q7) | (rw [HR.out]; exact ret_bool0 q7), hbel⟩
                  · have HR : Hid (chkZ ⟨cm, ct, cs, true⟩ ⟨zr, zn, ⟨true, mi, mz⟩, ⟨xn, xi, xz⟩⟩ = false) := HE.out.trans (by simp [restZ])
                    go_wp2
                    go_ret
                    exact ⟨by first | (rw [HR.out]; done) | (rw [HR.out]; rfl) | (rw [HR.out]; exact ret_bool q7) | (rw [HR.out]; exact ret_bool0 q7), hbel⟩
          · have HR : Hid (chkZ ⟨cm, ct, cs, cl⟩ ⟨zr, zn, ⟨mn, mi, mz⟩, ⟨xn, xi, xz⟩⟩ = false) := chkZ_no (by rintro ⟨a1, a2, a3, a4, a5, a6⟩; dsimp only at *; omega)
            go_wp2
            go_ret
            exact ⟨by first | (rw [HR.out]; done) | (rw [HR.out]; rfl) | (rw [HR.out]; exact ret_bool q7) | (rw [HR.out]; exact ret_bool0 q7), hbel⟩
        · have HR : Hid (chkZ ⟨cm, ct, cs, cl⟩ ⟨zr, zn, ⟨mn, mi, mz⟩, ⟨xn, xi, xz⟩⟩ = false) := chkZ_no (by rintro ⟨a1, a2, a3, a4, a5, a6⟩; dsimp only at *; omega)
          go_wp2
          go_ret
          exact ⟨by first | (rw [HR.out]; done) | (rw [HR.out]; rfl) | (rw [HR.out]; exact ret_bool q7) | (rw [HR.out]; exact ret_bool0 q7), hbel⟩
      · have HR : Hid (chkZ ⟨cm, ct, cs, cl⟩ ⟨zr, zn, ⟨mn, mi, mz⟩, ⟨xn, xi, xz⟩⟩ = false) := chkZ_no (by rintro ⟨a1, a2, a3, a4, a5, a6⟩; dsimp only at *; omega)
        go_wp2
        go_ret
        exact ⟨by first | (rw [HR.out]; done) | (rw [HR.out]; rfl) | (rw [HR.out]; exact ret_bool q7) | (rw [HR.out]; exact ret_bool0 q7), hbel⟩
    · have HR : Hid (chkZ ⟨cm, ct, cs, cl⟩ ⟨zr, zn, ⟨mn, mi, mz⟩, ⟨xn, xi, xz⟩⟩ = false) := chkZ_no (by rintro ⟨a1, a2, a3, a4, a5, a6⟩; dsimp only at *; omega)
      go_wp2
      go_ret
      exact ⟨by first | (rw [HR.out]; done) | (rw [HR.out]; rfl) | (rw [HR.out]; exact ret_bool q7) | (rw [HR.out]; exact ret_bool0 q7), hbel⟩
  · have HR : Hid (chkZ ⟨cm, ct, cs, cl⟩ ⟨zr, zn, ⟨mn, mi, mz⟩, ⟨xn, xi, xz⟩⟩ = false) := chkZ_no (by rintro ⟨a1, a2, a3, a4, a5, a6⟩; dsimp only at *; omega)
    go_wp2
    go_ret
    exact ⟨by first | (rw [HR.out]; done) | (rw [HR.out]; rfl) | (rw [HR.out]; exact ret_bool q7) | (rw [HR.out]; exact ret_bool0 q7), hbel⟩

end Go.Proofs.Ytnichmblekbccaa
