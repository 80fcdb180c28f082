/-
  The reference's zone of a list of values, second part.
-/
import Derived.Test.YtnichmblekbccaaZRef
namespace Go.Proofs.Ytnichmblekbccaa
open Go.RowKit

theorem least_nn {t : Int} {a b : Vl} (hb : b.null = false) : (leastV t a b).null = false := by
  unfold leastV
  rw [hb, Bool.and_false]
  simp only [Bool.false_eq_true, if_false]
  split
  · exact hb
  · rename_i h; simp at h; exact h.1
theorem great_nn {t : Int} {a b : Vl} (hb : b.null = false) : (greatV t a b).null = false := by
  unfold greatV
  rw [hb, Bool.and_false]
  simp only [Bool.false_eq_true, if_false]
  split
  · exact hb
  · rename_i h; simp at h; exact h.1
theorem least_null {t : Int} {a b : Vl} (hb : b.null = true) (ha : a.null = true → a = nullV) : leastV t a b = a := by
  unfold leastV
  rw [hb]
  cases hn : a.null
  · simp
  · simp [ha hn]
theorem great_null {t : Int} {a b : Vl} (hb : b.null = true) (ha : a.null = true → a = nullV) : greatV t a b = a := by
  unfold greatV
  rw [hb]
  cases hn : a.null
  · simp
  · simp [ha hn]

set_option maxRecDepth 100000 in
set_option maxHeartbeats 1000000 in
theorem rzone_any (t : Int) (A : Option Addr) (n c : Nat) (L : List Vl) (w : World) (hr : Rd w w.heap.size A (L.flatMap valC)) (hn : L.length = n) (hm : n ≤ 17592186044416) :
    Calls Try.prog 15 #[.int .i64 t, .slice A n c] w fun e w' => e = .returned (Zv (zoneL t n L)) ∧ Below w.heap.size w w' := by
  have HN := Lib.hid hn
  have hZ := Blk.new' w 25 #[.int .i64 0, .int .i64 0, .bool false, .int .i64 0, .string ⟨#[]⟩, .bool false, .int .i64 0, .string ⟨#[]⟩]
  have hbel : Below w.heap.size w (w.alloc (.cells #[.int .i64 0, .int .i64 0, .bool false, .int .i64 0, .string ⟨#[]⟩, .bool false, .int .i64 0, .string ⟨#[]⟩] 25)) := (Below.refl _ _).alloc (Nat.le_refl _) _
  have hra := hr.call hbel
  have hlt : w.heap.size < (w.alloc (.cells #[.int .i64 0, .int .i64 0, .bool false, .int .i64 0, .string ⟨#[]⟩, .bool false, .int .i64 0, .string ⟨#[]⟩] 25)).heap.size := by simp
  clear hr hn
  go_enter Try.func15, Try.ntmps15
  go_upto_region 1 with fail
  generalize w.alloc (.cells #[.int .i64 0, .int .i64 0, .bool false, .int .i64 0, .string ⟨#[]⟩, .bool false, .int .i64 0, .string ⟨#[]⟩] 25) = w3 at *
  go_wp2_with fail
  refine (null_any _).mono ?_; rintro e wn ⟨rfl, hn1⟩
  go_wp2_with fail
  refine (null_any _).mono ?_; rintro e w4 ⟨rfl, hn2⟩
  dsimp only [Vv, nullV]
  have hZ' := (hZ.call hn1).call hn2
  have hra' := (hra.call hn1).call hn2
  have hbel' := bt (bt hbel hn1) hn2
  have hlt' : w.heap.size < w4.heap.size := Nat.lt_of_lt_of_le hlt (bt hn1 hn2).size
  clear hZ hra hbel hlt hn1 hn2
  have hZ := hZ'
  have hra := hra'
  have hbel := hbel'
  have hlt := hlt'
  clear hZ' hra' hbel' hlt'
  go_wp2_with fail
  go_loopw [15] (fun b wr => ∃ (i k : Nat) (mn mx : Vl), b = .int .i64 (i : Int) ∧ i ≤ n ∧ k ≤ i ∧ Blk wr w4.heap.size 25 (zoneC ⟨n, k, mn, mx⟩) ∧ Hid ((⟨n, k, mn, mx⟩ : Zn) = zoneL t n (L.take i)) ∧ Hid ((mn.null = true → mn = nullV) ∧ (mx.null = true → mx = nullV)) ∧ Below w4.heap.size w4 wr) (fun b _ => n - (intOf b).toNat)
  case atStart => exact ⟨0, 0, nullV, nullV, rfl, by omega, by omega, Blk.new' w4 25 #[.int .i64 n, .int .i64 0, .bool true, .int .i64 0, .string ⟨#[]⟩, .bool true, .int .i64 0, .string ⟨#[]⟩], rfl, ⟨fun _ => rfl, fun _ => rfl⟩, (Below.refl _ _).alloc (Nat.le_refl _) _⟩
  case round =>
    obtain ⟨i, k, ⟨mn, mi, mz⟩, ⟨xn, xi, xz⟩, rfl, hi, hk, hO, HK, HNN, hb⟩ := hrel
    by_cases hin : i < n
    · obtain ⟨p, hp⟩ : ∃ p, L[i]? = some p := ⟨_, List.getElem?_eq_getElem (by rw [HN.out]; exact hin)⟩
      obtain ⟨ad, rfl, hadb, c0, c1, c2⟩ := (hra.call hb).val hp
      have HP := Lib.hid (zoneL_next (t := t) (n := n) hp)
      rw [← HK.out] at HP
      obtain ⟨vn, vi, vz⟩ := p
      clear hp
      have hVa := Blk.new' wr 23 #[.bool vn, .int .i64 vi, .string vz]
      have hOa := hO.alloc (.cells #[.bool vn, .int .i64 vi, .string vz] 23)
      have hba := bt hb ((Below.refl wr.heap.size wr).alloc (Nat.le_refl _) (.cells #[.bool vn, .int .i64 vi, .string vz] 23))
      have hgne : wr.heap.size ≠ w4.heap.size := by have := hO.lt; omega
      go_upto_region 5 with fail
      generalize wr.alloc (.cells #[.bool vn, .int .i64 vi, .string vz] 23) = wy at *
      generalize wr.heap.size = gv at *
      clear c0 c1 c2 hO
      have hg5 : w4.heap.size ≤ w4.heap.size := Nat.le_refl _
      cases vn
      · have v0 := hVa.cellAt 0 rfl
        have hO := hOa
        have hV := hVa
        have hbx := hba
        generalize hwx : wy = wx at *
        go_wp2_with fail
        clear hOa hVa hba v0
        have of := fun j => hO.frozen j
        have o0 := hO.cellAt 0 rfl
        have o1 := hO.cellAt 1 rfl
        have o2 := hO.cellAt 2 rfl
        have o3 := hO.cellAt 3 rfl
        have o4 := hO.cellAt 4 rfl
        have o5 := hO.cellAt 5 rfl
        have o6 := hO.cellAt 6 rfl
        have o7 := hO.cellAt 7 rfl
        try dsimp only at o0 o1 o2 o3 o4 o5 o6 o7
        have HS : Hid (∀ l, SOf w4 gv ⟨false, vi, vz⟩ ⟨mn, mi, mz⟩ ⟨xn, xi, xz⟩ l wx.drew) := fun l => ⟨hbx.drew, hV.cellAt 0 rfl, hV.cellAt 1 rfl, hV.cellAt 2 rfl, fun _ => ⟨o2, o3, o4⟩, fun _ => ⟨o5, o6, o7⟩⟩
        refine wp_region_L (SOf w4 gv ⟨false, vi, vz⟩ ⟨mn, mi, mz⟩ ⟨xn, xi, xz⟩) (by kernel_rfl) ?_
        refine wpAnyL_takeD (fun _ => True) (i := 0) (v := (.int .i64 t)) (some 25) rfl rfl (by kernel_rfl) (by kernel_rfl) (by kernel_rfl) (fun _ _ _ h => h) (fun _ _ _ _ _ _ => trivial) (fun _ _ _ => SOf.set (by decide) (by decide)) trivial (Or.inl ⟨by rfl, fun w' hw' => by obtain ⟨l, _, hl⟩ := hw'; obtain ⟨_, hv0, hv1, hv2, _⟩ := hl; go_simp⟩) (HS.out _) ?_
        simp only [Act.put, List.setIfInBounds_toArray, List.set_cons_zero, List.set_cons_succ]
        refine wpAnyL_takeD (fun _ => True) (i := 1) (v := (.pointer (some ⟨w4.heap.size, 2, none⟩))) (some 26) rfl rfl (by kernel_rfl) (by kernel_rfl) (by kernel_rfl) (fun _ _ _ h => h) (fun _ _ _ _ _ _ => trivial) (fun _ _ _ => SOf.set (by decide) (by decide)) trivial (Or.inl ⟨by rfl, fun w' hw' => by obtain ⟨l, _, hl⟩ := hw'; obtain ⟨_, hv0, hv1, hv2, _⟩ := hl; go_simp⟩) (HS.out _) ?_
        simp only [Act.put, List.setIfInBounds_toArray, List.set_cons_zero, List.set_cons_succ]
        refine wpAnyL_takeD (fun l => l.getD 4 false = false) (i := 2) (v := (.agg #[.bool mn, .int .i64 mi, .string mz])) (some 27) rfl rfl (by kernel_rfl) (by kernel_rfl) (by kernel_rfl) (fun _ _ _ h => h) (fun l j hc hi hj hne => (getD_set_ne false (waits_ne (k := 4) hi hj (by kernel_rfl))).trans hc) (fun _ _ _ => SOf.set (by decide) (by decide)) rfl (Or.inl ⟨by rfl, fun w' hw' => by obtain ⟨l, hc, hl⟩ := hw'; obtain ⟨hv0, hv1, hv2⟩ := SOf.mn hl hc; go_simp⟩) (HS.out _) ?_
        simp only [Act.put, List.setIfInBounds_toArray, List.set_cons_zero, List.set_cons_succ]
        refine wpAnyL_takeD (fun _ => True) (i := 3) (v := (.agg #[.bool false, .int .i64 vi, .string vz])) (some 28) rfl rfl (by kernel_rfl) (by kernel_rfl) (by kernel_rfl) (fun _ _ _ h => h) (fun _ _ _ _ _ _ => trivial) (fun _ _ _ => SOf.set (by decide) (by decide)) trivial (Or.inl ⟨by rfl, fun w' hw' => by obtain ⟨l, _, hl⟩ := hw'; obtain ⟨_, hv0, hv1, hv2, _⟩ := hl; go_simp⟩) (HS.out _) ?_
        simp only [Act.put, List.setIfInBounds_toArray, List.set_cons_zero, List.set_cons_succ]
        refine wpAnyL_takeD (fun _ => True) (i := 5) (v := (.int .i64 t)) (some 30) rfl rfl (by kernel_rfl) (by kernel_rfl) (by kernel_rfl) (fun _ _ _ h => h) (fun _ _ _ _ _ _ => trivial) (fun _ _ _ => SOf.set (by decide) (by decide)) trivial (Or.inl ⟨by rfl, fun w' hw' => by obtain ⟨l, _, hl⟩ := hw'; obtain ⟨_, hv0, hv1, hv2, _⟩ := hl; go_simp⟩) (HS.out _) ?_
        simp only [Act.put, List.setIfInBounds_toArray, List.set_cons_zero, List.set_cons_succ]
        refine wpAnyL_takeD (fun _ => True) (i := 6) (v := (.pointer (some ⟨w4.heap.size, 5, none⟩))) (some 31) rfl rfl (by kernel_rfl) (by kernel_rfl) (by kernel_rfl) (fun _ _ _ h => h) (fun _ _ _ _ _ _ => trivial) (fun _ _ _ => SOf.set (by decide) (by decide)) trivial (Or.inl ⟨by rfl, fun w' hw' => by obtain ⟨l, _, hl⟩ := hw'; obtain ⟨_, hv0, hv1, hv2, _⟩ := hl; go_simp⟩) (HS.out _) ?_
        simp only [Act.put, List.setIfInBounds_toArray, List.set_cons_zero, List.set_cons_succ]
        refine wpAnyL_takeD (fun l => l.getD 9 false = false) (i := 7) (v := (.agg #[.bool xn, .int .i64 xi, .string xz])) (some 32) rfl rfl (by kernel_rfl) (by kernel_rfl) (by kernel_rfl) (fun _ _ _ h => h) (fun l j hc hi hj hne => (getD_set_ne false (waits_ne (k := 9) hi hj (by kernel_rfl))).trans hc) (fun _ _ _ => SOf.set (by decide) (by decide)) rfl (Or.inl ⟨by rfl, fun w' hw' => by obtain ⟨l, hc, hl⟩ := hw'; obtain ⟨hv0, hv1, hv2⟩ := SOf.mx hl hc; go_simp⟩) (HS.out _) ?_
        simp only [Act.put, List.setIfInBounds_toArray, List.set_cons_zero, List.set_cons_succ]
        refine wpAnyL_takeD (fun _ => True) (i := 8) (v := (.agg #[.bool false, .int .i64 vi, .string vz])) (some 33) rfl rfl (by kernel_rfl) (by kernel_rfl) (by kernel_rfl) (fun _ _ _ h => h) (fun _ _ _ _ _ _ => trivial) (fun _ _ _ => SOf.set (by decide) (by decide)) trivial (Or.inl ⟨by rfl, fun w' hw' => by obtain ⟨l, _, hl⟩ := hw'; obtain ⟨_, hv0, hv1, hv2, _⟩ := hl; go_simp⟩) (HS.out _) ?_
        simp only [Act.put, List.setIfInBounds_toArray, List.set_cons_zero, List.set_cons_succ]
        refine wpAnyL_one (i := 4) (by decide +kernel) ?_
        refine wpOp_go (o := _) rfl (fun K hK => ?_)
        go_simp
        go_at_call 32
        refine (rleast_any t ⟨mn, mi, mz⟩ ⟨false, vi, vz⟩ _).mono ?_; rintro e w9 ⟨rfl, hbl⟩
        have hO9 := hO.drew.call hbl
        have hV9 := hV.drew.call hbl
        have hb9 := bt hbx.drew hbl
        have HS9 : Hid (∀ l : Array Bool, l.getD 4 false = true → SOf w4 gv ⟨false, vi, vz⟩ ⟨mn, mi, mz⟩ ⟨xn, xi, xz⟩ l w9) := fun l h => ⟨hb9, hV9.cellAt 0 rfl, hV9.cellAt 1 rfl, hV9.cellAt 2 rfl, fun h' => (by rw [h] at h'; cases h'), fun _ => ⟨hO9.cellAt 5 rfl, hO9.cellAt 6 rfl, hO9.cellAt 7 rfl⟩⟩
        refine hK _ _ ⟨HS9.out _ rfl, ?_⟩
        clear hK K of o0 o1 o2 o3 o4 o5 o6 o7 HS
        refine wpAnyL_takeD (fun _ => True) (i := 10) (v := (.pointer (some ⟨w4.heap.size, 2, none⟩))) (some 35) rfl rfl (by kernel_rfl) (by kernel_rfl) (by kernel_rfl) (fun _ _ _ h => h) (fun _ _ _ _ _ _ => trivial) (fun _ _ _ => SOf.set (by decide) (by decide)) trivial (Or.inl ⟨by rfl, fun w' hw' => by obtain ⟨l, _, hl⟩ := hw'; obtain ⟨_, hv0, hv1, hv2, _⟩ := hl; go_simp⟩) (HS9.out _ rfl) ?_
        simp only [Act.put, List.setIfInBounds_toArray, List.set_cons_zero, List.set_cons_succ]
        refine wpAnyL_one (i := 9) (by decide +kernel) ?_
        refine wpOp_go (o := _) rfl (fun K hK => ?_)
        go_simp
        go_at_call 32
        refine (rgreat_any t ⟨xn, xi, xz⟩ ⟨false, vi, vz⟩ _).mono ?_; rintro e w8 ⟨rfl, hbg⟩
        have hO8 := hO9.call hbg
        have hV8 := hV9.call hbg
        have hb8 := bt hb9 hbg
        have HS8 : Hid (∀ l : Array Bool, l.getD 4 false = true → l.getD 9 false = true → SOf w4 gv ⟨false, vi, vz⟩ ⟨mn, mi, mz⟩ ⟨xn, xi, xz⟩ l w8) := fun l h h2 => ⟨hb8, hV8.cellAt 0 rfl, hV8.cellAt 1 rfl, hV8.cellAt 2 rfl, fun h' => (by rw [h] at h'; cases h'), fun h' => (by rw [h2] at h'; cases h')⟩
        refine hK _ _ ⟨HS8.out _ rfl rfl, ?_⟩
        clear hK K
        refine wpAnyL_one (i := 11) (by decide +kernel) ?_
        have hOs := (((hO8.set_ 2 (.bool ((leastV t ⟨mn, mi, mz⟩ ⟨false, vi, vz⟩)).null)).set_ (2 + 1) (.int .i64 ((leastV t ⟨mn, mi, mz⟩ ⟨false, vi, vz⟩)).n)).set_ (2 + 2) (.string ((leastV t ⟨mn, mi, mz⟩ ⟨false, vi, vz⟩)).s))
        have hVs := (((hV8.grownB (grown_set _ w4.heap.size 2 (.bool ((leastV t ⟨mn, mi, mz⟩ ⟨false, vi, vz⟩)).null)) hgne).grownB (grown_set _ w4.heap.size (2 + 1) (.int .i64 ((leastV t ⟨mn, mi, mz⟩ ⟨false, vi, vz⟩)).n)) hgne).grownB (grown_set _ w4.heap.size (2 + 2) (.string ((leastV t ⟨mn, mi, mz⟩ ⟨false, vi, vz⟩)).s)) hgne)
        have hbs := (below_set (i := 2 + 2) (u := .string ((leastV t ⟨mn, mi, mz⟩ ⟨false, vi, vz⟩)).s) (below_set (i := 2 + 1) (u := .int .i64 ((leastV t ⟨mn, mi, mz⟩ ⟨false, vi, vz⟩)).n) (below_set (i := 2) (u := .bool ((leastV t ⟨mn, mi, mz⟩ ⟨false, vi, vz⟩)).null) hb8 (Nat.le_refl _)) (Nat.le_refl _)) (Nat.le_refl _))
        have of := fun j => hO8.frozen j
        have o0 := hO8.cellAt 0 rfl
        have o1 := hO8.cellAt 1 rfl
        have o2 := hO8.cellAt 2 rfl
        have o3 := hO8.cellAt 3 rfl
        have o4 := hO8.cellAt 4 rfl
        have o5 := hO8.cellAt 5 rfl
        have o6 := hO8.cellAt 6 rfl
        have o7 := hO8.cellAt 7 rfl
        refine wpOp_go (o := _) rfl (fun K hK => ?_)
        go_simp
        clear of o0 o1 o2 o3 o4 o5 o6 o7
        refine hK _ _ ⟨⟨hbs, hVs.cellAt 0 rfl, hVs.cellAt 1 rfl, hVs.cellAt 2 rfl, fun h' => (by cases h'), fun h' => (by cases h')⟩, ?_⟩
        clear hK K
        refine wpAnyL_one (i := 12) (by decide +kernel) ?_
        refine wpOp_go (o := _) rfl (fun K hK => ?_)
        go_simp
        refine hK _ _ ⟨⟨hbs, hVs.cellAt 0 rfl, hVs.cellAt 1 rfl, hVs.cellAt 2 rfl, fun h' => (by cases h'), fun h' => (by cases h')⟩, ?_⟩
        clear hK K
        refine wpAnyL_one (i := 13) (by decide +kernel) ?_
        generalize ((w8.setCell ⟨w4.heap.size, 2, none⟩ (.bool (leastV t ⟨mn, mi, mz⟩ ⟨false, vi, vz⟩).null)).setCell ⟨w4.heap.size, 3, none⟩ (.int .i64 (leastV t ⟨mn, mi, mz⟩ ⟨false, vi, vz⟩).n)).setCell ⟨w4.heap.size, 4, none⟩ (.string (leastV t ⟨mn, mi, mz⟩ ⟨false, vi, vz⟩).s) = w7 at *
        clear hO8 hV8 hb8
        have hO7 := hOs
        have hV7 := hVs
        have hb7 := hbs
        clear hOs hVs hbs
        have hOs := (((hO7.set_ 5 (.bool ((greatV t ⟨xn, xi, xz⟩ ⟨false, vi, vz⟩)).null)).set_ (5 + 1) (.int .i64 ((greatV t ⟨xn, xi, xz⟩ ⟨false, vi, vz⟩)).n)).set_ (5 + 2) (.string ((greatV t ⟨xn, xi, xz⟩ ⟨false, vi, vz⟩)).s))
        have hVs := (((hV7.grownB (grown_set _ w4.heap.size 5 (.bool ((greatV t ⟨xn, xi, xz⟩ ⟨false, vi, vz⟩)).null)) hgne).grownB (grown_set _ w4.heap.size (5 + 1) (.int .i64 ((greatV t ⟨xn, xi, xz⟩ ⟨false, vi, vz⟩)).n)) hgne).grownB (grown_set _ w4.heap.size (5 + 2) (.string ((greatV t ⟨xn, xi, xz⟩ ⟨false, vi, vz⟩)).s)) hgne)
        have hbs := (below_set (i := 5 + 2) (u := .string ((greatV t ⟨xn, xi, xz⟩ ⟨false, vi, vz⟩)).s) (below_set (i := 5 + 1) (u := .int .i64 ((greatV t ⟨xn, xi, xz⟩ ⟨false, vi, vz⟩)).n) (below_set (i := 5) (u := .bool ((greatV t ⟨xn, xi, xz⟩ ⟨false, vi, vz⟩)).null) hb7 (Nat.le_refl _)) (Nat.le_refl _)) (Nat.le_refl _))
        have of := fun j => hO7.frozen j
        have o0 := hO7.cellAt 0 rfl
        have o1 := hO7.cellAt 1 rfl
        have o2 := hO7.cellAt 2 rfl
        have o3 := hO7.cellAt 3 rfl
        have o4 := hO7.cellAt 4 rfl
        have o5 := hO7.cellAt 5 rfl
        have o6 := hO7.cellAt 6 rfl
        have o7 := hO7.cellAt 7 rfl
        refine wpOp_go (o := _) rfl (fun K hK => ?_)
        go_simp
        clear of o0 o1 o2 o3 o4 o5 o6 o7
        refine hK _ _ ⟨⟨hbs, hVs.cellAt 0 rfl, hVs.cellAt 1 rfl, hVs.cellAt 2 rfl, fun h' => (by cases h'), fun h' => (by cases h')⟩, ?_⟩
        clear hK K
        refine wpAnyL_done (by decide +kernel) ?_ _
        go_wp2
        go_roundw
        case rel => exact ⟨i + 1, k, leastV t ⟨mn, mi, mz⟩ ⟨false, vi, vz⟩, greatV t ⟨xn, xi, xz⟩ ⟨false, vi, vz⟩, by go_num, by omega, by omega, hOs, by show _ = _; rw [HP.out]; simp [zoneS], ⟨fun h => (by rw [least_nn rfl] at h; cases h), fun h => (by rw [great_nn rfl] at h; cases h)⟩, hbs⟩
        case measure => simp [intOf]; omega
      · have v0 := hVa.cellAt 0 rfl
        have of := fun j => hOa.frozen j
        have o0 := hOa.cellAt 0 rfl
        have o1 := hOa.cellAt 1 rfl
        have o2 := hOa.cellAt 2 rfl
        have o3 := hOa.cellAt 3 rfl
        have o4 := hOa.cellAt 4 rfl
        have o5 := hOa.cellAt 5 rfl
        have o6 := hOa.cellAt 6 rfl
        have o7 := hOa.cellAt 7 rfl
        have hO := hOa.set_ 1 (.int .i64 ((k : Int) + 1))
        have hbx := below_set (i := 1) (u := .int .i64 ((k : Int) + 1)) hba (Nat.le_refl _)
        go_wp2
        go_roundw
        case rel => exact ⟨i + 1, k + 1, ⟨mn, mi, mz⟩, ⟨xn, xi, xz⟩, by go_num, by omega, by omega, hO, by show _ = _; rw [HP.out]; simp only [zoneS]; rw [least_null rfl HNN.out.1, great_null rfl HNN.out.2]; simp, HNN, hbx⟩
        case measure => simp [intOf]; omega
    · have hin2 : i = n := by omega
      subst hin2
      rw [show List.take i L = L by rw [← HN.out, List.take_length]] at HK
      have hZ2 := hZ.below hb hlt
      have of := fun j => hO.frozen j
      have o0 := hO.cellAt 0 rfl
      have o1 := hO.cellAt 1 rfl
      have o2 := hO.cellAt 2 rfl
      have o3 := hO.cellAt 3 rfl
      have o4 := hO.cellAt 4 rfl
      have o5 := hO.cellAt 5 rfl
      have o6 := hO.cellAt 6 rfl
      have o7 := hO.cellAt 7 rfl
      have zf := fun j => hZ2.frozen j
      have z0 := hZ2.cellAt 0 rfl
      have z1 := hZ2.cellAt 1 rfl
      have z2 := hZ2.cellAt 2 rfl
      have z3 := hZ2.cellAt 3 rfl
      have z4 := hZ2.cellAt 4 rfl
      have z5 := hZ2.cellAt 5 rfl
      have z6 := hZ2.cellAt 6 rfl
      have z7 := hZ2.cellAt 7 rfl
      have hZ3 := (((((((hZ2.set_ 0 (.int .i64 (i : Int))).set_ 1 (.int .i64 (k : Int))).set_ 2 (.bool mn)).set_ 3 (.int .i64 mi)).set_ 4 (.string mz)).set_ 5 (.bool xn)).set_ 6 (.int .i64 xi)).set_ 7 (.string xz)
      have hbz := bt hbel hb
      go_wp2
      have hbf : Below w.heap.size w ((((((((wr.setCell ⟨w.heap.size, 0, none⟩ (.int .i64 (i : Int))).setCell ⟨w.heap.size, 1, none⟩ (.int .i64 (k : Int))).setCell ⟨w.heap.size, 2, none⟩ (.bool mn)).setCell ⟨w.heap.size, 3, none⟩ (.int .i64 mi)).setCell ⟨w.heap.size, 4, none⟩ (.string mz)).setCell ⟨w.heap.size, 5, none⟩ (.bool xn)).setCell ⟨w.heap.size, 6, none⟩ (.int .i64 xi)).setCell ⟨w.heap.size, 7, none⟩ (.string xz)) := by
        repeat' (first | refine below_set ?_ (Nat.le_refl _) | exact hbz)
      generalize (((((((wr.setCell ⟨w.heap.size, 0, none⟩ (.int .i64 (i : Int))).setCell ⟨w.heap.size, 1, none⟩ (.int .i64 (k : Int))).setCell ⟨w.heap.size, 2, none⟩ (.bool mn)).setCell ⟨w.heap.size, 3, none⟩ (.int .i64 mi)).setCell ⟨w.heap.size, 4, none⟩ (.string mz)).setCell ⟨w.heap.size, 5, none⟩ (.bool xn)).setCell ⟨w.heap.size, 6, none⟩ (.int .i64 xi)).setCell ⟨w.heap.size, 7, none⟩ (.string xz) = wf at *
      clear of o0 o1 o2 o3 o4 o5 o6 o7 zf z0 z1 z2 z3 z4 z5 z6 z7
      have zf := fun j => hZ3.frozen j
      have z0 := hZ3.cellAt 0 rfl
      have z1 := hZ3.cellAt 1 rfl
      have z2 := hZ3.cellAt 2 rfl
      have z3 := hZ3.cellAt 3 rfl
      have z4 := hZ3.cellAt 4 rfl
      have z5 := hZ3.cellAt 5 rfl
      have z6 := hZ3.cellAt 6 rfl
      have z7 := hZ3.cellAt 7 rfl
      refine bodyPost_ret (v := .agg #[.int .i64 (i : Int), .int .i64 (k : Int), .bool mn, .int .i64 mi, .string mz, .bool xn, .int .i64 xi, .string xz]) (by simp [results, Try.results15, go_sem, z0, z1, z2, z3, z4, z5, z6, z7]) rfl ⟨by rw [← HK.out], hbf⟩

end Go.Proofs.Ytnichmblekbccaa
