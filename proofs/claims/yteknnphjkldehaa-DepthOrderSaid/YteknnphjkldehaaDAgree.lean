/-
  The functions of layer 27 agree with the reference.
-/
import Derived.Test.YteknnphjkldehaaDPlain
import Derived.Test.YteknnphjkldehaaDAwake
namespace Go.Proofs.Yteknnphjkldehaa
open Go.RowKit

set_option maxRecDepth 100000 in
set_option maxHeartbeats 4000000 in
theorem agrees_any (t : Int) (A : Option Addr) (n c : Nat) (L : List Rg) (p : Rk) (w : World) (hr : Rd w w.heap.size A (L.flatMap rangeC)) (hn : L.length = n) (hm : n ≤ 17592186044416) (hc : n ≤ c) :
    Calls Try.prog 23 #[.int .i64 t, .slice A n c, Rv p] w fun e w' => e = .returned (.bool true) ∧ Below w.heap.size w w' := by
  obtain ⟨⟨pn, pi, pz⟩, pq⟩ := p
  have HN := Lib.hid hn
  dsimp only [Rv]
  have hP := Blk.new' w 33 #[.bool pn, .int .i64 pi, .string pz, .int .i64 pq]
  have hbel : Below w.heap.size w (w.alloc (.cells #[.bool pn, .int .i64 pi, .string pz, .int .i64 pq] 33)) := (Below.refl _ _).alloc (Nat.le_refl _) _
  have hra := hr.call hbel
  clear hr hn
  go_enter Try.func23, Try.ntmps23
  go_wp2_with fail
  generalize w.alloc (.cells #[.bool pn, .int .i64 pi, .string pz, .int .i64 pq] 33) = w1 at *
  refine (peak_any t A n c L _ hra HN.out hm).mono ?_; rintro e w2 ⟨rfl, hb2⟩
  have hP2 := hP.call hb2
  have hr2 := hra.call hb2
  have hb12 := bt hbel hb2
  have HPS := Lib.hid (peak_same t L)
  have HDM := Lib.hid (depth_most t L)
  have HDS := Lib.hid (disj_same t L)
  generalize hmm : mostR t L = m at *
  have HM := Lib.hid hmm
  obtain ⟨d, ⟨⟨an, ai, az⟩, aq⟩⟩ := m
  clear hmm hra hP hbel hb2
  dsimp only [Rv]
  dsimp only at HPS HDM HDS
  have hA3 := Blk.new' w2 33 #[.bool an, .int .i64 ai, .string az, .int .i64 aq]
  have hb3 : Below w2.heap.size w2 (w2.alloc (.cells #[.bool an, .int .i64 ai, .string az, .int .i64 aq] 33)) := (Below.refl _ _).alloc (Nat.le_refl _) _
  have hP3 := hP2.call hb3
  have hr3 := hr2.call hb3
  have hb13 := bt hb12 hb3
  clear hb12 hb3 hP2 hr2
  go_wp2_with fail
  generalize w2.alloc (.cells #[.bool an, .int .i64 ai, .string az, .int .i64 aq] 33) = w3 at *
  refine (rpeak_any t A n c L _ hr3 HN.out hm).mono ?_; rintro e w4 ⟨rfl, hb4⟩
  rw [HPS.out]
  dsimp only [Rv]
  have hP4 := hP3.call hb4
  have hA4 := hA3.call hb4
  have hr4 := hr3.call hb4
  have hb14 := bt hb13 hb4
  clear hP3 hA3 hr3 hb13 hb4
  have hC5 := Blk.new' w4 33 #[.bool an, .int .i64 ai, .string az, .int .i64 aq]
  have hb5 : Below w4.heap.size w4 (w4.alloc (.cells #[.bool an, .int .i64 ai, .string az, .int .i64 aq] 33)) := (Below.refl _ _).alloc (Nat.le_refl _) _
  have hP5 := hP4.call hb5
  have hA5 := hA4.call hb5
  have hr5 := hr4.call hb5
  have hb15 := bt hb14 hb5
  clear hP4 hA4 hr4 hb14 hb5
  go_upto_region 3 with fail
  generalize w4.alloc (.cells #[.bool an, .int .i64 ai, .string az, .int .i64 aq] 33) = wa at *
  generalize w2.heap.size = g2 at *
  generalize w4.heap.size = g4 at *
  have mk : ∀ w' : World, Below wa.heap.size wa w' → (Below wa.heap.size wa w' ∧ w'.cell? ⟨w.heap.size, 0, none⟩ = some (.bool pn) ∧ w'.cell? ⟨w.heap.size, 1, none⟩ = some (.int .i64 pi) ∧ w'.cell? ⟨w.heap.size, 2, none⟩ = some (.string pz) ∧ w'.cell? ⟨w.heap.size, 3, none⟩ = some (.int .i64 pq) ∧
      w'.cell? ⟨g2, 0, none⟩ = some (.bool an) ∧ w'.cell? ⟨g2, 1, none⟩ = some (.int .i64 ai) ∧ w'.cell? ⟨g2, 2, none⟩ = some (.string az) ∧ w'.cell? ⟨g2, 3, none⟩ = some (.int .i64 aq) ∧
      w'.cell? ⟨g4, 0, none⟩ = some (.bool an) ∧ w'.cell? ⟨g4, 1, none⟩ = some (.int .i64 ai) ∧ w'.cell? ⟨g4, 2, none⟩ = some (.string az) ∧ w'.cell? ⟨g4, 3, none⟩ = some (.int .i64 aq)) := fun w' h =>
    ⟨h, (hP5.call h).cellAt 0 rfl, (hP5.call h).cellAt 1 rfl, (hP5.call h).cellAt 2 rfl, (hP5.call h).cellAt 3 rfl, (hA5.call h).cellAt 0 rfl, (hA5.call h).cellAt 1 rfl, (hA5.call h).cellAt 2 rfl, (hA5.call h).cellAt 3 rfl, (hC5.call h).cellAt 0 rfl, (hC5.call h).cellAt 1 rfl, (hC5.call h).cellAt 2 rfl, (hC5.call h).cellAt 3 rfl⟩
  have MK := Lib.hid mk
  have HR := Lib.hid hr5
  have HCA : Hid (∀ ws : World, Below wa.heap.size wa ws → Calls Try.prog 27 #[.int .i64 t, .slice A n c] ws fun e w' => e = .returned (.bool (chkR t L)) ∧ Below ws.heap.size ws w') := fun ws h => check_any t A n c L ws (HR.out.call h) HN.out hm
  have HCB : Hid (∀ ws : World, Below wa.heap.size wa ws → Calls Try.prog 30 #[.int .i64 t, .slice A n c] ws fun e w' => e = .returned (.bool (chkR t L)) ∧ Below ws.heap.size ws w') := fun ws h => rcheck_any t A n c L ws (HR.out.call h) HN.out hm
  have HSA : Hid (∀ ws : World, Below wa.heap.size wa ws → Calls Try.prog 22 #[.int .i64 t, .slice A n c, .agg #[.bool pn, .int .i64 pi, .string pz, .int .i64 pq]] ws fun e w' => e = .returned (.int .i64 (stabC t L ⟨⟨pn, pi, pz⟩, pq⟩)) ∧ Below ws.heap.size ws w') := fun ws h => stab_any t A n c L ⟨⟨pn, pi, pz⟩, pq⟩ ws (HR.out.call h) HN.out hm
  have HSB : Hid (∀ ws : World, Below wa.heap.size wa ws → Calls Try.prog 17 #[.int .i64 t, .slice A n c, .agg #[.bool pn, .int .i64 pi, .string pz, .int .i64 pq]] ws fun e w' => e = .returned (.int .i64 (stabC t L ⟨⟨pn, pi, pz⟩, pq⟩)) ∧ Below ws.heap.size ws w') := fun ws h => rstab_any t A n c L ⟨⟨pn, pi, pz⟩, pq⟩ ws (HR.out.call h) HN.out hm
  have HDA : Hid (∀ ws : World, Below wa.heap.size wa ws → Calls Try.prog 14 #[.int .i64 t, .slice A n c] ws fun e w' => e = .returned (.int .i64 (d : Nat)) ∧ Below ws.heap.size ws w') := fun ws h => by
    have := depth_any t A n c L ws (HR.out.call h) HN.out hm
    rw [HM.out] at this
    exact this
  have HDB : Hid (∀ ws : World, Below wa.heap.size wa ws → Calls Try.prog 18 #[.int .i64 t, .slice A n c] ws fun e w' => e = .returned (.int .i64 (d : Nat)) ∧ Below ws.heap.size ws w') := fun ws h => by
    have := rdepth_any t A n c L ws (HR.out.call h) HN.out hm
    rw [HDM.out] at this
    exact this
  obtain ⟨q, hq⟩ : ∃ q, q = (chkR t L && decide (apart t L)) := ⟨_, rfl⟩
  have HJA : Hid (∀ ws : World, Below wa.heap.size wa ws → Calls Try.prog 13 #[.int .i64 t, .slice A n c] ws fun e w' => e = .returned (.bool q) ∧ Below ws.heap.size ws w') := fun ws h => by
    have := disj_any t A n c L ws (HR.out.call h) HN.out hm
    rw [HM.out] at this
    dsimp only at this
    rw [HDS.out, ← hq] at this
    exact this
  have HJB : Hid (∀ ws : World, Below wa.heap.size wa ws → Calls Try.prog 34 #[.int .i64 t, .slice A n c] ws fun e w' => e = .returned (.bool q) ∧ Below ws.heap.size ws w') := fun ws h => by
    have := rdisj_any t A n c L ws (HR.out.call h) HN.out hm hc
    rw [← hq] at this
    exact this
  have HB := Lib.hid hb15
  clear mk hr5 hP5 hA5 hC5 hq HM HDM HDS HPS hb15
  generalize stabC t L ⟨⟨pn, pi, pz⟩, pq⟩ = s at *
  generalize chkR t L = k at *
  go_region_held3 (fun w' => Below wa.heap.size wa w' ∧ w'.cell? ⟨w.heap.size, 0, none⟩ = some (.bool pn) ∧ w'.cell? ⟨w.heap.size, 1, none⟩ = some (.int .i64 pi) ∧ w'.cell? ⟨w.heap.size, 2, none⟩ = some (.string pz) ∧ w'.cell? ⟨w.heap.size, 3, none⟩ = some (.int .i64 pq) ∧ w'.cell? ⟨g2, 0, none⟩ = some (.bool an) ∧ w'.cell? ⟨g2, 1, none⟩ = some (.int .i64 ai) ∧ w'.cell? ⟨g2, 2, none⟩ = some (.string az) ∧ w'.cell? ⟨g2, 3, none⟩ = some (.int .i64 aq) ∧ w'.cell? ⟨g4, 0, none⟩ = some (.bool an) ∧ w'.cell? ⟨g4, 1, none⟩ = some (.int .i64 ai) ∧ w'.cell? ⟨g4, 2, none⟩ = some (.string az) ∧ w'.cell? ⟨g4, 3, none⟩ = some (.int .i64 aq)) (first | assumption | exact MK.out _ (Below.refl _ _) | exact MK.out _ ⟨rfl, rfl, rfl, Nat.le_refl _, fun _ _ => rfl⟩ | exact MK.out _ hbq) (first | (go_at_call 27; refine (HCA.out _ (‹Below wa.heap.size wa _ ∧ _›).1).mono ?_; rintro e w9 ⟨rfl, hbx⟩; have hbq := bt (‹Below wa.heap.size wa _ ∧ _›).1 hbx) | (go_at_call 30; refine (HCB.out _ (‹Below wa.heap.size wa _ ∧ _›).1).mono ?_; rintro e w9 ⟨rfl, hbx⟩; have hbq := bt (‹Below wa.heap.size wa _ ∧ _›).1 hbx) | (go_at_call 22; refine (HSA.out _ (‹Below wa.heap.size wa _ ∧ _›).1).mono ?_; rintro e w9 ⟨rfl, hbx⟩; have hbq := bt (‹Below wa.heap.size wa _ ∧ _›).1 hbx) | (go_at_call 17; refine (HSB.out _ (‹Below wa.heap.size wa _ ∧ _›).1).mono ?_; rintro e w9 ⟨rfl, hbx⟩; have hbq := bt (‹Below wa.heap.size wa _ ∧ _›).1 hbx) | (go_at_call 14; refine (HDA.out _ (‹Below wa.heap.size wa _ ∧ _›).1).mono ?_; rintro e w9 ⟨rfl, hbx⟩; have hbq := bt (‹Below wa.heap.size wa _ ∧ _›).1 hbx) | (go_at_call 18; refine (HDB.out _ (‹Below wa.heap.size wa _ ∧ _›).1).mono ?_; rintro e w9 ⟨rfl, hbx⟩; have hbq := bt (‹Below wa.heap.size wa _ ∧ _›).1 hbx) | (go_at_call 13; refine (HJA.out _ (‹Below wa.heap.size wa _ ∧ _›).1).mono ?_; rintro e w9 ⟨rfl, hbx⟩; have hbq := bt (‹Below wa.heap.size wa _ ∧ _›).1 hbx) | (go_at_call 34; refine (HJB.out _ (‹Below wa.heap.size wa _ ∧ _›).1).mono ?_; rintro e w9 ⟨rfl, hbx⟩; have hbq := bt (‹Below wa.heap.size wa _ ∧ _›).1 hbx))
  go_wp2
  go_ret
  exact ⟨ret_bool (by first | rfl | (simp; done)), bt HB.out (‹Below wa.heap.size wa _ ∧ _›).1⟩

end Go.Proofs.Yteknnphjkldehaa
