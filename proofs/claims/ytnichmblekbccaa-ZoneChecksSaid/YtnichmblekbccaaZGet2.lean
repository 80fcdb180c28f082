/-
  What is read of the bytes of a zone: the reference's GetZone.
-/
import Derived.Test.YtnichmblekbccaaZGet
namespace Go.Proofs.Ytnichmblekbccaa
open Go.RowKit

set_option maxRecDepth 100000 in
set_option maxHeartbeats 1500000 in
theorem rzget_any (s : ByteArray) (i : Int) (w : World) (hsz : s.size ≤ 1000000000000000) : Calls Try.prog 23 #[.string s, .int .i64 i] w fun e w' => e = .returned (zgetV (zoneG s i)) ∧ Below w.heap.size w w' := by
  have hR := (Blk.new' w 25 #[.int .i64 0, .int .i64 0, .bool false, .int .i64 0, .string ⟨#[]⟩, .bool false, .int .i64 0, .string ⟨#[]⟩]).alloc (.cells #[.int .i64 0, .int .i64 0, .bool false, .int .i64 0, .string ⟨#[]⟩, .bool false, .int .i64 0, .string ⟨#[]⟩] 25)
  have hN := Blk.new' (w.alloc (.cells #[.int .i64 0, .int .i64 0, .bool false, .int .i64 0, .string ⟨#[]⟩, .bool false, .int .i64 0, .string ⟨#[]⟩] 25)) 25 #[.int .i64 0, .int .i64 0, .bool false, .int .i64 0, .string ⟨#[]⟩, .bool false, .int .i64 0, .string ⟨#[]⟩]
  have s1 : (w.alloc (.cells #[.int .i64 0, .int .i64 0, .bool false, .int .i64 0, .string ⟨#[]⟩, .bool false, .int .i64 0, .string ⟨#[]⟩] 25)).heap.size = w.heap.size + 1 := by simp
  rw [s1] at hN
  clear s1
  have hbel : Below w.heap.size w ((w.alloc (.cells #[.int .i64 0, .int .i64 0, .bool false, .int .i64 0, .string ⟨#[]⟩, .bool false, .int .i64 0, .string ⟨#[]⟩] 25)).alloc (.cells #[.int .i64 0, .int .i64 0, .bool false, .int .i64 0, .string ⟨#[]⟩, .bool false, .int .i64 0, .string ⟨#[]⟩] 25)) := ((Below.refl _ _).alloc (Nat.le_refl _) _).alloc (by simp) _
  go_enter Try.func23, Try.ntmps23
  go_upto_region 2 with fail
  generalize (w.alloc (.cells #[.int .i64 0, .int .i64 0, .bool false, .int .i64 0, .string ⟨#[]⟩, .bool false, .int .i64 0, .string ⟨#[]⟩] 25)).alloc (.cells #[.int .i64 0, .int .i64 0, .bool false, .int .i64 0, .string ⟨#[]⟩, .bool false, .int .i64 0, .string ⟨#[]⟩] 25) = wa at *
  go_wp2_with fail
  go_loopw [8, 1] (fun b pv wr => ∃ (k : Nat) (p : Int) (xs : List Value), b = .int .i64 (k : Int) ∧ pv = .int .i64 p ∧ k ≤ 2 ∧ Hid (ZLoop s i k p xs) ∧ Blk wr (w.heap.size + 1) 25 (xs ++ [.bool false, .int .i64 0, .string ⟨#[]⟩, .bool false, .int .i64 0, .string ⟨#[]⟩]) ∧ Blk wr w.heap.size 25 [.int .i64 0, .int .i64 0, .bool false, .int .i64 0, .string ⟨#[]⟩, .bool false, .int .i64 0, .string ⟨#[]⟩] ∧ Below w.heap.size w wr) (fun b _ _ => 2 - (intOf b).toNat)
  case atStart => exact ⟨0, i, _, rfl, rfl, by omega, .inl ⟨rfl, rfl, rfl⟩, hN, hR, hbel⟩
  case round =>
    clear hN hR hbel
    obtain ⟨k, p, xs, rfl, rfl, hk, HL, hN, hR, hb⟩ := hrel
    rcases HL.out with ⟨rfl, rfl, rfl⟩ | ⟨a, rfl, hr, ha, rfl⟩ | ⟨a, b, j, rfl, hr, ha, hr2, hb2, rfl⟩
    · clear HL
      rcases get_two s.data.toList p with ⟨v, j, hr, hU⟩ | ⟨e, he, hr⟩
      · have HR := Lib.hid hr
        clear hr
        by_cases h : 4096 < v
        · have HV := Lib.hid (zG_f1 HR.out h)
          go_wp2_with fail
          refine (rget_any s p _ hsz).mono ?_; rintro _ w1 ⟨rfl, rfl⟩
          rw [HR.out]
          have rf := fun j => hR.frozen j
          have r0 := hR.cellAt 0 rfl
          have r1 := hR.cellAt 1 rfl
          have r2 := hR.cellAt 2 rfl
          have r3 := hR.cellAt 3 rfl
          have r4 := hR.cellAt 4 rfl
          have r5 := hR.cellAt 5 rfl
          have r6 := hR.cellAt 6 rfl
          have r7 := hR.cellAt 7 rfl
          go_wp2
          exact bodyPost_ret (v := .tuple #[.agg #[.int .i64 0, .int .i64 0, .bool false, .int .i64 0, .string ⟨#[]⟩, .bool false, .int .i64 0, .string ⟨#[]⟩], .int .i64 (0), .int .i64 (2)]) (by simp [results, Try.results23, go_sem, r0, r1, r2, r3, r4, r5, r6, r7]) rfl ⟨by first | (rw [HV.out]; done) | (rw [HV.out]; rfl), by repeat' (first | refine below_set1 ?_ (by omega) | refine Below.drew ?_ | exact hb)⟩
        · have hws := wrap_small (v := v) (by omega)
          have nf := fun j => hN.frozen j
          have n0 := hN.cellAt 0 rfl
          have n1 := hN.cellAt 1 rfl
          have n2 := hN.cellAt 2 rfl
          have n3 := hN.cellAt 3 rfl
          have n4 := hN.cellAt 4 rfl
          have n5 := hN.cellAt 5 rfl
          have n6 := hN.cellAt 6 rfl
          have n7 := hN.cellAt 7 rfl
          go_wp2_with fail
          refine (rget_any s p _ hsz).mono ?_; rintro _ w1 ⟨rfl, rfl⟩
          rw [HR.out]
          go_wp2
          go_roundw
          case rel => exact ⟨1, (j : Int), _, rfl, rfl, by omega, .inr (.inl ⟨v, rfl, HR.out, by omega, rfl⟩), hN.set_ 0 _, hR.grownB (grown_set _ _ _ _) (by omega), below_set1 hb (by omega)⟩
          case measure => simp [intOf]
      · have hq9 : (e == 0) = false := by simpa using he
        have hq8 : (e != 0) = true := by simpa using he
        have HV := Lib.hid (zG_e1 hr he)
        have HR := Lib.hid hr
        clear hr he
        go_wp2_with fail
        refine (rget_any s p _ hsz).mono ?_; rintro _ w1 ⟨rfl, rfl⟩
        rw [HR.out]
        have rf := fun j => hR.frozen j
        have r0 := hR.cellAt 0 rfl
        have r1 := hR.cellAt 1 rfl
        have r2 := hR.cellAt 2 rfl
        have r3 := hR.cellAt 3 rfl
        have r4 := hR.cellAt 4 rfl
        have r5 := hR.cellAt 5 rfl
        have r6 := hR.cellAt 6 rfl
        have r7 := hR.cellAt 7 rfl
        go_wp2
        exact bodyPost_ret (v := .tuple #[.agg #[.int .i64 0, .int .i64 0, .bool false, .int .i64 0, .string ⟨#[]⟩, .bool false, .int .i64 0, .string ⟨#[]⟩], .int .i64 (0), .int .i64 (e)]) (by simp [results, Try.results23, go_sem, r0, r1, r2, r3, r4, r5, r6, r7]) rfl ⟨by first | (rw [HV.out]; done) | (rw [HV.out]; rfl), by repeat' (first | refine below_set1 ?_ (by omega) | refine Below.drew ?_ | exact hb)⟩
    · clear HL
      have HR := Lib.hid hr
      clear hr
      rcases get_two s.data.toList p with ⟨v, j, hr, hU⟩ | ⟨e, he, hr⟩
      · have HR2 := Lib.hid hr
        clear hr
        by_cases h : 4096 < v
        · have HV := Lib.hid (zG_f2 HR.out (by omega) HR2.out h)
          go_wp2_with fail
          refine (rget_any s p _ hsz).mono ?_; rintro _ w1 ⟨rfl, rfl⟩
          rw [HR2.out]
          have rf := fun j => hR.frozen j
          have r0 := hR.cellAt 0 rfl
          have r1 := hR.cellAt 1 rfl
          have r2 := hR.cellAt 2 rfl
          have r3 := hR.cellAt 3 rfl
          have r4 := hR.cellAt 4 rfl
          have r5 := hR.cellAt 5 rfl
          have r6 := hR.cellAt 6 rfl
          have r7 := hR.cellAt 7 rfl
          go_wp2
          exact bodyPost_ret (v := .tuple #[.agg #[.int .i64 0, .int .i64 0, .bool false, .int .i64 0, .string ⟨#[]⟩, .bool false, .int .i64 0, .string ⟨#[]⟩], .int .i64 (0), .int .i64 (2)]) (by simp [results, Try.results23, go_sem, r0, r1, r2, r3, r4, r5, r6, r7]) rfl ⟨by first | (rw [HV.out]; done) | (rw [HV.out]; rfl), by repeat' (first | refine below_set1 ?_ (by omega) | refine Below.drew ?_ | exact hb)⟩
        · have hws := wrap_small (v := v) (by omega)
          have nf := fun j => hN.frozen j
          have n0 := hN.cellAt 0 rfl
          have n1 := hN.cellAt 1 rfl
          have n2 := hN.cellAt 2 rfl
          have n3 := hN.cellAt 3 rfl
          have n4 := hN.cellAt 4 rfl
          have n5 := hN.cellAt 5 rfl
          have n6 := hN.cellAt 6 rfl
          have n7 := hN.cellAt 7 rfl
          go_wp2_with fail
          refine (rget_any s p _ hsz).mono ?_; rintro _ w1 ⟨rfl, rfl⟩
          rw [HR2.out]
          go_wp2
          go_roundw
          case rel => exact ⟨2, (j : Int), _, rfl, rfl, by omega, .inr (.inr ⟨a, v, p, rfl, HR.out, ha, HR2.out, by omega, rfl⟩), hN.set_ 1 _, hR.grownB (grown_set _ _ _ _) (by omega), below_set1 hb (by omega)⟩
          case measure => simp [intOf]
      · have hq9 : (e == 0) = false := by simpa using he
        have hq8 : (e != 0) = true := by simpa using he
        have HV := Lib.hid (zG_e2 HR.out (by omega) hr he)
        have HR2 := Lib.hid hr
        clear hr he
        go_wp2_with fail
        refine (rget_any s p _ hsz).mono ?_; rintro _ w1 ⟨rfl, rfl⟩
        rw [HR2.out]
        have rf := fun j => hR.frozen j
        have r0 := hR.cellAt 0 rfl
        have r1 := hR.cellAt 1 rfl
        have r2 := hR.cellAt 2 rfl
        have r3 := hR.cellAt 3 rfl
        have r4 := hR.cellAt 4 rfl
        have r5 := hR.cellAt 5 rfl
        have r6 := hR.cellAt 6 rfl
        have r7 := hR.cellAt 7 rfl
        go_wp2
        exact bodyPost_ret (v := .tuple #[.agg #[.int .i64 0, .int .i64 0, .bool false, .int .i64 0, .string ⟨#[]⟩, .bool false, .int .i64 0, .string ⟨#[]⟩], .int .i64 (0), .int .i64 (e)]) (by simp [results, Try.results23, go_sem, r0, r1, r2, r3, r4, r5, r6, r7]) rfl ⟨by first | (rw [HV.out]; done) | (rw [HV.out]; rfl), by repeat' (first | refine below_set1 ?_ (by omega) | refine Below.drew ?_ | exact hb)⟩
    · clear HL
      have ha' : ¬ 4096 < a := by omega
      have hb' : ¬ 4096 < b := by omega
      obtain ⟨⟨un, ui, uz⟩, l, e, hu⟩ : ∃ (u : Vl) (l e : Int), valG s p = (u, l, e) := ⟨_, _, _, rfl⟩
      have HU := Lib.hid hu
      have HR := Lib.hid hr
      have HR2 := Lib.hid hr2
      clear hu hr hr2
      by_cases he : e = 0
      · subst he
        obtain ⟨⟨vn, vi, vz⟩, m, e, hv⟩ : ∃ (u : Vl) (l2 e2 : Int), valG s l = (u, l2, e2) := ⟨_, _, _, rfl⟩
        have HV2 := Lib.hid hv
        clear hv
        by_cases he : e = 0
        · subst he
          have HV := Lib.hid (zG_ok HR.out ha' HR2.out hb' HU.out HV2.out)
          clear ha' hb' ha hb2
          have hlt := hR.lt
          go_wp2_with fail
          refine (rvget_any s p _ hsz).mono ?_; rintro _ w1 ⟨rfl, hb1⟩
          rw [HU.out]
          dsimp only [Vv]
          have hN1 := (hN.call hb1).alloc (.cells #[.bool un, .int .i64 ui, .string uz] 23)
          have hR1 := (hR.call hb1).alloc (.cells #[.bool un, .int .i64 ui, .string uz] 23)
          have hU1 := Blk.new' w1 23 #[.bool un, .int .i64 ui, .string uz]
          have hbb := below_alloc2 (bt hb hb1) (.cells #[.bool un, .int .i64 ui, .string uz] 23) (by have := hb1.size; omega)
          have hgu : w.heap.size + 1 < w1.heap.size := by have := hN.lt; have := hb1.size; omega
          go_upto_region 17 with fail
          generalize w1.alloc (.cells #[.bool un, .int .i64 ui, .string uz] 23) = w2 at *
          generalize w1.heap.size = gu at *
          have hlt2 := hR1.lt
          go_wp2_with fail
          refine (rvget_any s l _ hsz).mono ?_; rintro _ w3 ⟨rfl, hb3⟩
          rw [HV2.out]
          dsimp only [Vv]
          have hN3 := (hN1.call hb3).alloc (.cells #[.bool vn, .int .i64 vi, .string vz] 23)
          have hR3 := (hR1.call hb3).alloc (.cells #[.bool vn, .int .i64 vi, .string vz] 23)
          have hU3 := (hU1.call hb3).alloc (.cells #[.bool vn, .int .i64 vi, .string vz] 23)
          have hV3 := Blk.new' w3 23 #[.bool vn, .int .i64 vi, .string vz]
          have hbf := below_alloc2 (bt hbb hb3) (.cells #[.bool vn, .int .i64 vi, .string vz] 23) (by have := hb3.size; omega)
          have hgv : w.heap.size + 1 < w3.heap.size := by have := hN1.lt; have := hb3.size; omega
          go_upto_region 20 with fail
          generalize w3.alloc (.cells #[.bool vn, .int .i64 vi, .string vz] 23) = w4 at *
          generalize w3.heap.size = gv at *
          have rf := fun j => hR3.frozen j
          have r0 := hR3.cellAt 0 rfl
          have r1 := hR3.cellAt 1 rfl
          have r2 := hR3.cellAt 2 rfl
          have r3 := hR3.cellAt 3 rfl
          have r4 := hR3.cellAt 4 rfl
          have r5 := hR3.cellAt 5 rfl
          have r6 := hR3.cellAt 6 rfl
          have r7 := hR3.cellAt 7 rfl
          have nf := fun j => hN3.frozen j
          have n0 := hN3.cellAt 0 rfl
          have n1 := hN3.cellAt 1 rfl
          have n2 := hN3.cellAt 2 rfl
          have n3 := hN3.cellAt 3 rfl
          have n4 := hN3.cellAt 4 rfl
          have n5 := hN3.cellAt 5 rfl
          have n6 := hN3.cellAt 6 rfl
          have n7 := hN3.cellAt 7 rfl
          have u0 := hU3.cellAt 0 rfl
          have u1 := hU3.cellAt 1 rfl
          have u2 := hU3.cellAt 2 rfl
          have v0 := hV3.cellAt 0 rfl
          have v1 := hV3.cellAt 1 rfl
          have v2 := hV3.cellAt 2 rfl
          have hNf := ((((((hN3.set_ 2 (.bool un)).set_ 3 (.int .i64 ui)).set_ 4 (.string uz)).set_ 5 (.bool vn)).set_ 6 (.int .i64 vi)).set_ 7 (.string vz))
          have e1 : ¬ gu = w.heap.size + 1 := by omega
          have e2 : ¬ w.heap.size + 1 = gu := by omega
          have e3 : ¬ gv = w.heap.size + 1 := by omega
          have e4 : ¬ w.heap.size + 1 = gv := by omega
          have hRf := (((((((hR3.grownB (grown_set _ (w.heap.size + 1) 2 (.bool un)) (by omega)).grownB (grown_set _ (w.heap.size + 1) 3 (.int .i64 ui)) (by omega)).grownB (grown_set _ (w.heap.size + 1) 4 (.string uz)) (by omega)).grownB (grown_set _ (w.heap.size + 1) 5 (.bool vn)) (by omega)).grownB (grown_set _ (w.heap.size + 1) 6 (.int .i64 vi)) (by omega)).grownB (grown_set _ (w.heap.size + 1) 7 (.string vz)) (by omega))).drew
          have hNg := hNf.drew
          have hbg := ((below_set1 (i := 7) (u := (.string vz)) (below_set1 (i := 6) (u := (.int .i64 vi)) (below_set1 (i := 5) (u := (.bool vn)) (below_set1 (i := 4) (u := (.string uz)) (below_set1 (i := 3) (u := (.int .i64 ui)) (below_set1 (i := 2) (u := (.bool un)) hbf (Nat.le_succ w.heap.size)) (Nat.le_succ w.heap.size)) (Nat.le_succ w.heap.size)) (Nat.le_succ w.heap.size)) (Nat.le_succ w.heap.size)) (Nat.le_succ w.heap.size))).drew
          go_region
          clear rf r0 r1 r2 r3 r4 r5 r6 r7 nf n0 n1 n2 n3 n4 n5 n6 n7 u0 u1 u2 v0 v1 v2 hNf hN3 hR3 hU3 hV3 hbf
          generalize ((((((w4.setCell ⟨w.heap.size + 1, 2, none⟩ (.bool un)).setCell ⟨w.heap.size + 1, 3, none⟩ (.int .i64 ui)).setCell ⟨w.heap.size + 1, 4, none⟩ (.string uz)).setCell ⟨w.heap.size + 1, 5, none⟩ (.bool vn)).setCell ⟨w.heap.size + 1, 6, none⟩ (.int .i64 vi)).setCell ⟨w.heap.size + 1, 7, none⟩ (.string vz)).drew = w5 at *
          have rf := fun j => hRf.frozen j
          have r0 := hRf.cellAt 0 rfl
          have r1 := hRf.cellAt 1 rfl
          have r2 := hRf.cellAt 2 rfl
          have r3 := hRf.cellAt 3 rfl
          have r4 := hRf.cellAt 4 rfl
          have r5 := hRf.cellAt 5 rfl
          have r6 := hRf.cellAt 6 rfl
          have r7 := hRf.cellAt 7 rfl
          have nf := fun j => hNg.frozen j
          have n0 := hNg.cellAt 0 rfl
          have n1 := hNg.cellAt 1 rfl
          have n2 := hNg.cellAt 2 rfl
          have n3 := hNg.cellAt 3 rfl
          have n4 := hNg.cellAt 4 rfl
          have n5 := hNg.cellAt 5 rfl
          have n6 := hNg.cellAt 6 rfl
          have n7 := hNg.cellAt 7 rfl
          go_wp2
          exact bodyPost_ret (v := .tuple #[.agg #[.int .i64 a, .int .i64 b, .bool un, .int .i64 ui, .string uz, .bool vn, .int .i64 vi, .string vz], .int .i64 (m), .int .i64 (0)]) (by simp [results, Try.results23, go_sem, r0, r1, r2, r3, r4, r5, r6, r7]) rfl ⟨by first | (rw [HV.out]; done) | (rw [HV.out]; rfl), by repeat' (first | refine below_set1 ?_ (by omega) | refine Below.drew ?_ | exact hbg)⟩
        · have hq9 : (e == 0) = false := by simpa using he
          have hq8 : (e != 0) = true := by simpa using he
          have HV := Lib.hid (zG_e4 HR.out ha' HR2.out hb' HU.out HV2.out he)
          clear ha' hb' ha hb2 he
          have hlt := hR.lt
          go_wp2_with fail
          refine (rvget_any s p _ hsz).mono ?_; rintro _ w1 ⟨rfl, hb1⟩
          rw [HU.out]
          dsimp only [Vv]
          have hR1 := (hR.call hb1).alloc (.cells #[.bool un, .int .i64 ui, .string uz] 23)
          have hbb := below_alloc2 (bt hb hb1) (.cells #[.bool un, .int .i64 ui, .string uz] 23) (by have := hb1.size; omega)
          go_upto_region 17 with fail
          generalize w1.alloc (.cells #[.bool un, .int .i64 ui, .string uz] 23) = w2 at *
          generalize w1.heap.size = gu at *
          have hlt2 := hR1.lt
          go_wp2_with fail
          refine (rvget_any s l _ hsz).mono ?_; rintro _ w3 ⟨rfl, hb3⟩
          rw [HV2.out]
          dsimp only [Vv]
          have hR3 := (hR1.call hb3).alloc (.cells #[.bool vn, .int .i64 vi, .string vz] 23)
          have hbf := below_alloc2 (bt hbb hb3) (.cells #[.bool vn, .int .i64 vi, .string vz] 23) (by have := hb3.size; omega)
          have rf := fun j => hR3.frozen j
          have r0 := hR3.cellAt 0 rfl
          have r1 := hR3.cellAt 1 rfl
          have r2 := hR3.cellAt 2 rfl
          have r3 := hR3.cellAt 3 rfl
          have r4 := hR3.cellAt 4 rfl
          have r5 := hR3.cellAt 5 rfl
          have r6 := hR3.cellAt 6 rfl
          have r7 := hR3.cellAt 7 rfl
          go_wp2
          exact bodyPost_ret (v := .tuple #[.agg #[.int .i64 0, .int .i64 0, .bool false, .int .i64 0, .string ⟨#[]⟩, .bool false, .int .i64 0, .string ⟨#[]⟩], .int .i64 (0), .int .i64 (e)]) (by simp [results, Try.results23, go_sem, r0, r1, r2, r3, r4, r5, r6, r7]) rfl ⟨by first | (rw [HV.out]; done) | (rw [HV.out]; rfl), by repeat' (first | refine below_set1 ?_ (by omega) | refine Below.drew ?_ | exact hbf)⟩
      · have hq9 : (e == 0) = false := by simpa using he
        have hq8 : (e != 0) = true := by simpa using he
        have HV := Lib.hid (zG_e3 HR.out ha' HR2.out hb' HU.out he)
        clear ha' hb' ha hb2 he
        have hlt := hR.lt
        go_wp2_with fail
        refine (rvget_any s p _ hsz).mono ?_; rintro _ w1 ⟨rfl, hb1⟩
        rw [HU.out]
        dsimp only [Vv]
        have hR1 := (hR.call hb1).alloc (.cells #[.bool un, .int .i64 ui, .string uz] 23)
        have hbb := below_alloc2 (bt hb hb1) (.cells #[.bool un, .int .i64 ui, .string uz] 23) (by have := hb1.size; omega)
        have rf := fun j => hR1.frozen j
        have r0 := hR1.cellAt 0 rfl
        have r1 := hR1.cellAt 1 rfl
        have r2 := hR1.cellAt 2 rfl
        have r3 := hR1.cellAt 3 rfl
        have r4 := hR1.cellAt 4 rfl
        have r5 := hR1.cellAt 5 rfl
        have r6 := hR1.cellAt 6 rfl
        have r7 := hR1.cellAt 7 rfl
        go_wp2
        exact bodyPost_ret (v := .tuple #[.agg #[.int .i64 0, .int .i64 0, .bool false, .int .i64 0, .string ⟨#[]⟩, .bool false, .int .i64 0, .string ⟨#[]⟩], .int .i64 (0), .int .i64 (e)]) (by simp [results, Try.results23, go_sem, r0, r1, r2, r3, r4, r5, r6, r7]) rfl ⟨by first | (rw [HV.out]; done) | (rw [HV.out]; rfl), by repeat' (first | refine below_set1 ?_ (by omega) | refine Below.drew ?_ | exact hbb)⟩

end Go.Proofs.Ytnichmblekbccaa
