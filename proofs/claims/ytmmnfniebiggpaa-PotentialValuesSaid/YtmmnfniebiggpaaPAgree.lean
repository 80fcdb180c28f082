/-
  The functions of layer 30 agree with the reference.
-/
import Derived.Test.YtmmnfniebiggpaaPLaws3
namespace Go.Proofs.Ytmmnfniebiggpaa
open Go.RowKit

set_option maxRecDepth 100000 in
set_option maxHeartbeats 4000000 in
theorem agrees_any (t : Int) (x : Rg) (A : Option Addr) (n c : Nat) (L : List Rg) (A2 : Option Addr) (n2 c2 : Nat) (L2 : List Rk) (w : World) (hr : Rd w w.heap.size A (L.flatMap rangeC)) (hn : L.length = n) (hm : n ≤ 17592186044416) (hc : n ≤ c) (hr2 : Rd w w.heap.size A2 (L2.flatMap rankC)) (hn2 : L2.length = n2) (hm2 : n2 ≤ 17592186044416) :
    Calls Try.prog 25 #[.int .i64 t, Gv x, .slice A n c, .slice A2 n2 c2] w fun e w' => e = .returned (.bool true) ∧ Below w.heap.size w w' := by
  obtain ⟨⟨⟨pn, pi, pz⟩, pq⟩, ⟨⟨rn, ri, rz⟩, rq⟩⟩ := x
  have HN := Lib.hid hn
  have HN2 := Lib.hid hn2
  dsimp only [Gv]
  have hP := Blk.new' w 41 #[.bool pn, .int .i64 pi, .string pz, .int .i64 pq, .bool rn, .int .i64 ri, .string rz, .int .i64 rq]
  have hbel : Below w.heap.size w (w.alloc (.cells #[.bool pn, .int .i64 pi, .string pz, .int .i64 pq, .bool rn, .int .i64 ri, .string rz, .int .i64 rq] 41)) := (Below.refl _ _).alloc (Nat.le_refl _) _
  have hra := hr.call hbel
  have hsa := hr2.call hbel
  clear hr hr2 hn hn2
  go_enter Try.func25, Try.ntmps25
  go_wp2_with fail
  generalize w.alloc (.cells #[.bool pn, .int .i64 pi, .string pz, .int .i64 pq, .bool rn, .int .i64 ri, .string rz, .int .i64 rq] 41) = w1 at *
  refine (hull_any t A n c L _ hra HN.out hm hc).mono ?_; rintro e w2 ⟨rfl, hb2⟩
  have hP2 := hP.call hb2
  have hr2 := hra.call hb2
  have hs2 := hsa.call hb2
  have hb12 := bt hbel hb2
  generalize hmm : hullP t L = m at *
  have HM := Lib.hid hmm
  obtain ⟨⟨⟨⟨an, ai, az⟩, aq⟩, ⟨⟨bn, bi, bz⟩, bq⟩⟩, ok⟩ := m
  clear hmm hra hsa hP hbel hb2
  dsimp only [Gv]
  have hA3 := Blk.new' w2 41 #[.bool an, .int .i64 ai, .string az, .int .i64 aq, .bool bn, .int .i64 bi, .string bz, .int .i64 bq]
  have hb3 : Below w2.heap.size w2 (w2.alloc (.cells #[.bool an, .int .i64 ai, .string az, .int .i64 aq, .bool bn, .int .i64 bi, .string bz, .int .i64 bq] 41)) := (Below.refl _ _).alloc (Nat.le_refl _) _
  have hP3 := hP2.call hb3
  have hr3 := hr2.call hb3
  have hs3 := hs2.call hb3
  have hb13 := bt hb12 hb3
  clear hb12 hb3 hP2 hr2 hs2
  go_wp2_with fail
  generalize w2.alloc (.cells #[.bool an, .int .i64 ai, .string az, .int .i64 aq, .bool bn, .int .i64 bi, .string bz, .int .i64 bq] 41) = w3 at *
  refine (rhull_any t A n c L _ hr3 HN.out hm hc).mono ?_; rintro e w4 ⟨rfl, hb4⟩
  rw [HM.out]
  dsimp only [Gv]
  have hP4 := hP3.call hb4
  have hA4 := hA3.call hb4
  have hr4 := hr3.call hb4
  have hs4 := hs3.call hb4
  have hb14 := bt hb13 hb4
  clear hP3 hA3 hr3 hs3 hb13 hb4
  have hC5 := Blk.new' w4 41 #[.bool an, .int .i64 ai, .string az, .int .i64 aq, .bool bn, .int .i64 bi, .string bz, .int .i64 bq]
  have hb5 : Below w4.heap.size w4 (w4.alloc (.cells #[.bool an, .int .i64 ai, .string az, .int .i64 aq, .bool bn, .int .i64 bi, .string bz, .int .i64 bq] 41)) := (Below.refl _ _).alloc (Nat.le_refl _) _
  have hP5 := hP4.call hb5
  have hA5 := hA4.call hb5
  have hr5 := hr4.call hb5
  have hs5 := hs4.call hb5
  have hb15 := bt hb14 hb5
  clear hP4 hA4 hr4 hs4 hb14 hb5
  go_upto_region 3 with fail
  generalize w4.alloc (.cells #[.bool an, .int .i64 ai, .string az, .int .i64 aq, .bool bn, .int .i64 bi, .string bz, .int .i64 bq] 41) = wa at *
  generalize w2.heap.size = g2 at *
  generalize w4.heap.size = g4 at *
  have MK : Hid (∀ w' : World, Below wa.heap.size wa w' → (Below wa.heap.size wa w' ∧ w'.cell? ⟨w.heap.size, 0, none⟩ = some (.bool pn) ∧ w'.cell? ⟨w.heap.size, 1, none⟩ = some (.int .i64 pi) ∧ w'.cell? ⟨w.heap.size, 2, none⟩ = some (.string pz) ∧ w'.cell? ⟨w.heap.size, 3, none⟩ = some (.int .i64 pq) ∧ w'.cell? ⟨w.heap.size, 4, none⟩ = some (.bool rn) ∧ w'.cell? ⟨w.heap.size, 5, none⟩ = some (.int .i64 ri) ∧ w'.cell? ⟨w.heap.size, 6, none⟩ = some (.string rz) ∧ w'.cell? ⟨w.heap.size, 7, none⟩ = some (.int .i64 rq) ∧ w'.cell? ⟨g2, 0, none⟩ = some (.bool an) ∧ w'.cell? ⟨g2, 1, none⟩ = some (.int .i64 ai) ∧ w'.cell? ⟨g2, 2, none⟩ = some (.string az) ∧ w'.cell? ⟨g2, 3, none⟩ = some (.int .i64 aq) ∧ w'.cell? ⟨g2, 4, none⟩ = some (.bool bn) ∧ w'.cell? ⟨g2, 5, none⟩ = some (.int .i64 bi) ∧ w'.cell? ⟨g2, 6, none⟩ = some (.string bz) ∧ w'.cell? ⟨g2, 7, none⟩ = some (.int .i64 bq) ∧ w'.cell? ⟨g4, 0, none⟩ = some (.bool an) ∧ w'.cell? ⟨g4, 1, none⟩ = some (.int .i64 ai) ∧ w'.cell? ⟨g4, 2, none⟩ = some (.string az) ∧ w'.cell? ⟨g4, 3, none⟩ = some (.int .i64 aq) ∧ w'.cell? ⟨g4, 4, none⟩ = some (.bool bn) ∧ w'.cell? ⟨g4, 5, none⟩ = some (.int .i64 bi) ∧ w'.cell? ⟨g4, 6, none⟩ = some (.string bz) ∧ w'.cell? ⟨g4, 7, none⟩ = some (.int .i64 bq))) := fun w' h => ⟨h, (hP5.call h).cellAt 0 rfl, (hP5.call h).cellAt 1 rfl, (hP5.call h).cellAt 2 rfl, (hP5.call h).cellAt 3 rfl, (hP5.call h).cellAt 4 rfl, (hP5.call h).cellAt 5 rfl, (hP5.call h).cellAt 6 rfl, (hP5.call h).cellAt 7 rfl, (hA5.call h).cellAt 0 rfl, (hA5.call h).cellAt 1 rfl, (hA5.call h).cellAt 2 rfl, (hA5.call h).cellAt 3 rfl, (hA5.call h).cellAt 4 rfl, (hA5.call h).cellAt 5 rfl, (hA5.call h).cellAt 6 rfl, (hA5.call h).cellAt 7 rfl, (hC5.call h).cellAt 0 rfl, (hC5.call h).cellAt 1 rfl, (hC5.call h).cellAt 2 rfl, (hC5.call h).cellAt 3 rfl, (hC5.call h).cellAt 4 rfl, (hC5.call h).cellAt 5 rfl, (hC5.call h).cellAt 6 rfl, (hC5.call h).cellAt 7 rfl⟩
  have HR := Lib.hid hr5
  have HS := Lib.hid hs5
  have HWA : Hid (∀ ws : World, Below wa.heap.size wa ws → Calls Try.prog 29 #[.int .i64 t, .agg #[.bool pn, .int .i64 pi, .string pz, .int .i64 pq, .bool rn, .int .i64 ri, .string rz, .int .i64 rq], .slice A2 n2 c2] ws fun e w' => e = .returned (.int .i64 (widthR t ⟨⟨⟨pn, pi, pz⟩, pq⟩, ⟨⟨rn, ri, rz⟩, rq⟩⟩ L2)) ∧ Below ws.heap.size ws w') := fun ws h => width_ranks t ⟨⟨⟨pn, pi, pz⟩, pq⟩, ⟨⟨rn, ri, rz⟩, rq⟩⟩ A2 n2 c2 L2 ws (HS.out.call h) HN2.out hm2
  have HWB : Hid (∀ ws : World, Below wa.heap.size wa ws → Calls Try.prog 34 #[.int .i64 t, .agg #[.bool pn, .int .i64 pi, .string pz, .int .i64 pq, .bool rn, .int .i64 ri, .string rz, .int .i64 rq], .slice A2 n2 c2] ws fun e w' => e = .returned (.int .i64 (widthR t ⟨⟨⟨pn, pi, pz⟩, pq⟩, ⟨⟨rn, ri, rz⟩, rq⟩⟩ L2)) ∧ Below ws.heap.size ws w') := fun ws h => rwidth_ranks t ⟨⟨⟨pn, pi, pz⟩, pq⟩, ⟨⟨rn, ri, rz⟩, rq⟩⟩ A2 n2 c2 L2 ws (HS.out.call h) HN2.out hm2
  have HSA : Hid (∀ ws : World, Below wa.heap.size wa ws → Calls Try.prog 16 #[.int .i64 t, .slice A n c, .slice A2 n2 c2] ws fun e w' => e = .returned (.int .i64 (psiW t L2 n L)) ∧ Below ws.heap.size ws w') := fun ws h => psi_any t A n c L A2 n2 c2 L2 ws (HR.out.call h) HN.out hm (HS.out.call h) HN2.out hm2
  have HSB : Hid (∀ ws : World, Below wa.heap.size wa ws → Calls Try.prog 35 #[.int .i64 t, .slice A n c, .slice A2 n2 c2] ws fun e w' => e = .returned (.int .i64 (psiW t L2 n L)) ∧ Below ws.heap.size ws w') := fun ws h => rpsi_any t A n c L A2 n2 c2 L2 ws (HR.out.call h) HN.out hm (HS.out.call h) HN2.out hm2
  have HB := Lib.hid hb15
  clear hr5 hs5 hP5 hA5 hC5 HM hb15
  generalize widthR t ⟨⟨⟨pn, pi, pz⟩, pq⟩, ⟨⟨rn, ri, rz⟩, rq⟩⟩ L2 = s at *
  generalize psiW t L2 n L = k at *
  go_region_held3 (fun w' => Below wa.heap.size wa w' ∧ w'.cell? ⟨w.heap.size, 0, none⟩ = some (.bool pn) ∧ w'.cell? ⟨w.heap.size, 1, none⟩ = some (.int .i64 pi) ∧ w'.cell? ⟨w.heap.size, 2, none⟩ = some (.string pz) ∧ w'.cell? ⟨w.heap.size, 3, none⟩ = some (.int .i64 pq) ∧ w'.cell? ⟨w.heap.size, 4, none⟩ = some (.bool rn) ∧ w'.cell? ⟨w.heap.size, 5, none⟩ = some (.int .i64 ri) ∧ w'.cell? ⟨w.heap.size, 6, none⟩ = some (.string rz) ∧ w'.cell? ⟨w.heap.size, 7, none⟩ = some (.int .i64 rq) ∧ w'.cell? ⟨g2, 0, none⟩ = some (.bool an) ∧ w'.cell? ⟨g2, 1, none⟩ = some (.int .i64 ai) ∧ w'.cell? ⟨g2, 2, none⟩ = some (.string az) ∧ w'.cell? ⟨g2, 3, none⟩ = some (.int .i64 aq) ∧ w'.cell? ⟨g2, 4, none⟩ = some (.bool bn) ∧ w'.cell? ⟨g2, 5, none⟩ = some (.int .i64 bi) ∧ w'.cell? ⟨g2, 6, none⟩ = some (.string bz) ∧ w'.cell? ⟨g2, 7, none⟩ = some (.int .i64 bq) ∧ w'.cell? ⟨g4, 0, none⟩ = some (.bool an) ∧ w'.cell? ⟨g4, 1, none⟩ = some (.int .i64 ai) ∧ w'.cell? ⟨g4, 2, none⟩ = some (.string az) ∧ w'.cell? ⟨g4, 3, none⟩ = some (.int .i64 aq) ∧ w'.cell? ⟨g4, 4, none⟩ = some (.bool bn) ∧ w'.cell? ⟨g4, 5, none⟩ = some (.int .i64 bi) ∧ w'.cell? ⟨g4, 6, none⟩ = some (.string bz) ∧ w'.cell? ⟨g4, 7, none⟩ = some (.int .i64 bq)) (first | assumption | exact MK.out _ (Below.refl _ _) | exact MK.out _ ⟨rfl, rfl, rfl, Nat.le_refl _, fun _ _ => rfl⟩ | exact MK.out _ hbq) (first | (go_at_call 29; refine (HWA.out _ (‹Below wa.heap.size wa _ ∧ _›).1).mono ?_; rintro e w9 ⟨rfl, hbx⟩; have hbq := bt (‹Below wa.heap.size wa _ ∧ _›).1 hbx) | (go_at_call 34; refine (HWB.out _ (‹Below wa.heap.size wa _ ∧ _›).1).mono ?_; rintro e w9 ⟨rfl, hbx⟩; have hbq := bt (‹Below wa.heap.size wa _ ∧ _›).1 hbx) | (go_at_call 16; refine (HSA.out _ (‹Below wa.heap.size wa _ ∧ _›).1).mono ?_; rintro e w9 ⟨rfl, hbx⟩; have hbq := bt (‹Below wa.heap.size wa _ ∧ _›).1 hbx) | (go_at_call 35; refine (HSB.out _ (‹Below wa.heap.size wa _ ∧ _›).1).mono ?_; rintro e w9 ⟨rfl, hbx⟩; have hbq := bt (‹Below wa.heap.size wa _ ∧ _›).1 hbx))
  go_wp2
  go_ret
  exact ⟨ret_bool (by first | rfl | (simp; done)), bt HB.out (‹Below wa.heap.size wa _ ∧ _›).1⟩

end Go.Proofs.Ytmmnfniebiggpaa
