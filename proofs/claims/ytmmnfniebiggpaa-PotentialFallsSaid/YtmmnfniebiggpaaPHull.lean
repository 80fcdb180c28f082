/-
  Hull of layer 30, in the code and in the reference.
-/
import Derived.Test.YtmmnfniebiggpaaOChk
import Derived.Test.YtmmnfniebiggpaaOMake2
namespace Go.Proofs.Ytmmnfniebiggpaa
open Go.RowKit

def hullS (t : Int) (h r : Rg) : Rg := ⟨if cmpR t r.lo h.lo < 0 then r.lo else h.lo, if 0 < cmpR t r.hi h.hi then r.hi else h.hi⟩
def hullT (t : Int) (h : Rg) (L : List Rg) : Rg := L.foldl (hullS t) h
def hullP (t : Int) : List Rg → Rg × Bool
  | [] => (⟨zeroR, zeroR⟩, false)
  | h :: T => if chkR t (h :: T) then (hullT t h T, true) else (⟨zeroR, zeroR⟩, false)
theorem hullP_no {t : Int} {h : Rg} {T : List Rg} (hk : chkR t (h :: T) = false) : hullP t (h :: T) = (⟨zeroR, zeroR⟩, false) := by simp [hullP, hk]
theorem hullP_yes {t : Int} {h : Rg} {T : List Rg} (hk : chkR t (h :: T) = true) : hullP t (h :: T) = (hullT t h T, true) := by simp [hullP, hk]
theorem hullS_self (t : Int) (h : Rg) : hullS t h h = h := by
  unfold hullS; rw [(ord3R t).refl, (ord3R t).refl]; rfl
theorem hullT_self (t : Int) (h : Rg) (T : List Rg) : hullT t h (h :: T) = hullT t h T := by
  unfold hullT; rw [List.foldl_cons, hullS_self]
theorem hullT_next {t : Int} {h p : Rg} {L : List Rg} {i : Nat} (hp : L[i]? = some p) : hullT t h (L.take (i + 1)) = hullS t (hullT t h (L.take i)) p := by
  unfold hullT; rw [List.take_add_one, hp, List.foldl_append]; rfl
theorem hull_tt {t : Int} {a b c d : Rk} (h1 : cmpR t c a < 0) (h2 : 0 < cmpR t d b) : hullS t ⟨a, b⟩ ⟨c, d⟩ = ⟨c, d⟩ := by unfold hullS; rw [if_pos h1, if_pos h2]
theorem hull_tf {t : Int} {a b c d : Rk} (h1 : cmpR t c a < 0) (h2 : ¬ 0 < cmpR t d b) : hullS t ⟨a, b⟩ ⟨c, d⟩ = ⟨c, b⟩ := by unfold hullS; rw [if_pos h1, if_neg h2]
theorem hull_ft {t : Int} {a b c d : Rk} (h1 : 0 ≤ cmpR t c a) (h2 : 0 < cmpR t d b) : hullS t ⟨a, b⟩ ⟨c, d⟩ = ⟨a, d⟩ := by unfold hullS; rw [if_neg (Int.not_lt.2 h1), if_pos h2]
theorem hull_ff {t : Int} {a b c d : Rk} (h1 : 0 ≤ cmpR t c a) (h2 : ¬ 0 < cmpR t d b) : hullS t ⟨a, b⟩ ⟨c, d⟩ = ⟨a, b⟩ := by unfold hullS; rw [if_neg (Int.not_lt.2 h1), if_neg h2]
theorem add_mk (b o k : Nat) : (⟨b, o, none⟩ : Addr).add k = ⟨b, o + k, none⟩ := by unfold Addr.add; split <;> simp_all
theorem below_set {B g i : Nat} {a w : World} {u : Value} (h : Below B a w) (hg : B ≤ g) : Below B a (w.setCell ⟨g, i, none⟩ u) := h.setCell (p := ⟨g, i, none⟩) hg u

set_option maxRecDepth 100000 in
set_option maxHeartbeats 4000000 in
theorem hull_any (t : Int) (A : Option Addr) (n c : Nat) (L : List Rg) (w : World) (hr : Rd w w.heap.size A (L.flatMap rangeC)) (hn : L.length = n) (hm : n ≤ 17592186044416) (hc : n ≤ c) :
    Calls Try.prog 21 #[.int .i64 t, .slice A n c] w fun e w' => e = .returned (.tuple #[Gv (hullP t L).1, .bool (hullP t L).2]) ∧ Below w.heap.size w w' := by
  have HN := Lib.hid hn
  have hZ := Blk.new' w 41 #[.bool false, .int .i64 0, .string ⟨#[]⟩, .int .i64 0, .bool false, .int .i64 0, .string ⟨#[]⟩, .int .i64 0]
  have hbel : Below w.heap.size w (w.alloc (.cells #[.bool false, .int .i64 0, .string ⟨#[]⟩, .int .i64 0, .bool false, .int .i64 0, .string ⟨#[]⟩, .int .i64 0] 41)) := (Below.refl _ _).alloc (Nat.le_refl _) _
  have hwl : w.heap.size < (w.alloc (.cells #[.bool false, .int .i64 0, .string ⟨#[]⟩, .int .i64 0, .bool false, .int .i64 0, .string ⟨#[]⟩, .int .i64 0] 41)).heap.size := by simp
  cases L with
  | nil =>
    have hn0 : n = 0 := hn.symm
    subst hn0
    clear hn hr
    go_enter Try.func21, Try.ntmps21
    go_wp2_with fail
    generalize w.alloc (.cells #[.bool false, .int .i64 0, .string ⟨#[]⟩, .int .i64 0, .bool false, .int .i64 0, .string ⟨#[]⟩, .int .i64 0] 41) = wa at *
    have zf := fun j => hZ.frozen j
    have z0 := hZ.cellAt 0 rfl
    have z1 := hZ.cellAt 1 rfl
    have z2 := hZ.cellAt 2 rfl
    have z3 := hZ.cellAt 3 rfl
    have z4 := hZ.cellAt 4 rfl
    have z5 := hZ.cellAt 5 rfl
    have z6 := hZ.cellAt 6 rfl
    have z7 := hZ.cellAt 7 rfl
    have hb3 := hbel
    go_wp2
    refine bodyPost_ret (v := .tuple #[.agg #[.bool false, .int .i64 0, .string ⟨#[]⟩, .int .i64 0, .bool false, .int .i64 0, .string ⟨#[]⟩, .int .i64 0], .bool false]) (by simp [results, Try.results21, go_sem, z0, z1, z2, z3, z4, z5, z6, z7]) rfl ?_
    exact ⟨rfl, by repeat' (first | refine below_set ?_ (Nat.le_refl _) | refine Below.drew ?_ | exact hb3)⟩
  | cons h0 T =>
    have hn1 : T.length + 1 = n := hn
    have hnz : ((n : Int) == 0) = false := by simp only [beq_eq_false_iff_ne]; omega
    have hra := hr.call hbel
    clear hn hr
    go_enter Try.func21, Try.ntmps21
    go_wp2_with fail
    generalize w.alloc (.cells #[.bool false, .int .i64 0, .string ⟨#[]⟩, .int .i64 0, .bool false, .int .i64 0, .string ⟨#[]⟩, .int .i64 0] 41) = wa at *
    refine (check_any t A n c (h0 :: T) wa hra HN.out hm).mono ?_; rintro e w1 ⟨rfl, hb1⟩
    have hZ1 := hZ.call hb1
    have hr1 := hra.call hb1
    have hbel1 := bt hbel hb1
    have hlt1 : w.heap.size < w1.heap.size := Nat.lt_of_lt_of_le hwl hb1.size
    clear hZ hra hb1 hbel hwl
    cases hk : chkR t (h0 :: T)
    · have zf := fun j => hZ1.frozen j
      have z0 := hZ1.cellAt 0 rfl
      have z1 := hZ1.cellAt 1 rfl
      have z2 := hZ1.cellAt 2 rfl
      have z3 := hZ1.cellAt 3 rfl
      have z4 := hZ1.cellAt 4 rfl
      have z5 := hZ1.cellAt 5 rfl
      have z6 := hZ1.cellAt 6 rfl
      have z7 := hZ1.cellAt 7 rfl
      have hb3 := hbel1
      go_wp2
      refine bodyPost_ret (v := .tuple #[.agg #[.bool false, .int .i64 0, .string ⟨#[]⟩, .int .i64 0, .bool false, .int .i64 0, .string ⟨#[]⟩, .int .i64 0], .bool false]) (by simp [results, Try.results21, go_sem, z0, z1, z2, z3, z4, z5, z6, z7]) rfl ?_
      rw [show hullP t (h0 :: T) = (⟨zeroR, zeroR⟩, false) from hullP_no hk]
      exact ⟨rfl, by repeat' (first | refine below_set ?_ (Nat.le_refl _) | refine Below.drew ?_ | exact hb3)⟩
    · obtain ⟨ad, rfl, hadb, c0, c1, c2, c3, c4, c5, c6, c7⟩ := hr1.range (i := 0) (p := h0) rfl
      rw [show ad.add (0 * 8) = ad by simp [Addr.add]] at c0 c1 c2 c3 c4 c5 c6 c7
      have H0 := Lib.hid hk
      clear hk
      obtain ⟨⟨⟨xn, xi, xz⟩, xq⟩, ⟨⟨yn, yi, yz⟩, yq⟩⟩ := h0
      by_cases hc1 : c = 1
      · subst hc1
        have hn2 : n = 1 := by omega
        subst hn2
        have hT : T = [] := List.eq_nil_of_length_eq_zero (by omega)
        subst hT
        have HM : Hid (List.length ([] : List Rg) = 0) := by show _ = _; rfl
        have hr2 : Rd w1 w1.heap.size (some ad) (List.flatMap rangeC []) := .inl rfl
        go_wp2_with fail
        clear c0 c1 c2 c3 c4 c5 c6 c7
        go_loopw [25] (fun b wr => ∃ (i : Nat) (h : Rg), b = .int .i64 (i : Int) ∧ i ≤ 0 ∧ Blk wr w1.heap.size 41 (rangeC h) ∧ Hid (h = hullT t ⟨⟨⟨xn, xi, xz⟩, xq⟩, ⟨⟨yn, yi, yz⟩, yq⟩⟩ (List.take i (([] : List Rg)))) ∧ Below w1.heap.size w1 wr) (fun b _ => 0 - (intOf b).toNat)
        case atStart => exact ⟨0, ⟨⟨⟨xn, xi, xz⟩, xq⟩, ⟨⟨yn, yi, yz⟩, yq⟩⟩, rfl, by omega, Blk.new' w1 41 #[.bool xn, .int .i64 xi, .string xz, .int .i64 xq, .bool yn, .int .i64 yi, .string yz, .int .i64 yq], rfl, (Below.refl _ _).alloc (Nat.le_refl _) _⟩
        case round =>
          obtain ⟨i, h, rfl, hi, hO, HK, hb⟩ := hrel
          by_cases hin : i < 0
          · exact absurd hin (by omega)
          · have hin2 : i = 0 := by omega
            subst hin2
            obtain ⟨⟨⟨an, ai, az⟩, aq⟩, ⟨⟨bn, bi, bz⟩, bq⟩⟩ := h
            have hZ2 := hZ1.below hb hlt1
            have of := fun j => hO.frozen j
            have o0 := hO.cellAt 0 rfl
            have o1 := hO.cellAt 1 rfl
            have o2 := hO.cellAt 2 rfl
            have o3 := hO.cellAt 3 rfl
            have o4 := hO.cellAt 4 rfl
            have o5 := hO.cellAt 5 rfl
            have o6 := hO.cellAt 6 rfl
            have o7 := hO.cellAt 7 rfl
            have zf := fun j => hZ2.frozen j
            have z0 := hZ2.cellAt 0 rfl
            have z1 := hZ2.cellAt 1 rfl
            have z2 := hZ2.cellAt 2 rfl
            have z3 := hZ2.cellAt 3 rfl
            have z4 := hZ2.cellAt 4 rfl
            have z5 := hZ2.cellAt 5 rfl
            have z6 := hZ2.cellAt 6 rfl
            have z7 := hZ2.cellAt 7 rfl
            have hZ3 := (((((((hZ2.set_ 0 (.bool an)).set_ 1 (.int .i64 ai)).set_ 2 (.string az)).set_ 3 (.int .i64 aq)).set_ 4 (.bool bn)).set_ 5 (.int .i64 bi)).set_ 6 (.string bz)).set_ 7 (.int .i64 bq)
            have hb3 : Below w.heap.size w _ := ((((((((bt hbel1 hb).setCell (p := ⟨w.heap.size, 0, none⟩) (Nat.le_refl _) (.bool an)).setCell (p := ⟨w.heap.size, 1, none⟩) (Nat.le_refl _) (.int .i64 ai)).setCell (p := ⟨w.heap.size, 2, none⟩) (Nat.le_refl _) (.string az)).setCell (p := ⟨w.heap.size, 3, none⟩) (Nat.le_refl _) (.int .i64 aq)).setCell (p := ⟨w.heap.size, 4, none⟩) (Nat.le_refl _) (.bool bn)).setCell (p := ⟨w.heap.size, 5, none⟩) (Nat.le_refl _) (.int .i64 bi)).setCell (p := ⟨w.heap.size, 6, none⟩) (Nat.le_refl _) (.string bz)).setCell (p := ⟨w.heap.size, 7, none⟩) (Nat.le_refl _) (.int .i64 bq)
            go_wp2
            generalize (((((((wr.setCell ⟨w.heap.size, 0, none⟩ (.bool an)).setCell ⟨w.heap.size, 1, none⟩ (.int .i64 ai)).setCell ⟨w.heap.size, 2, none⟩ (.string az)).setCell ⟨w.heap.size, 3, none⟩ (.int .i64 aq)).setCell ⟨w.heap.size, 4, none⟩ (.bool bn)).setCell ⟨w.heap.size, 5, none⟩ (.int .i64 bi)).setCell ⟨w.heap.size, 6, none⟩ (.string bz)).setCell ⟨w.heap.size, 7, none⟩ (.int .i64 bq) = w3 at *
            clear of o0 o1 o2 o3 o4 o5 o6 o7 zf z0 z1 z2 z3 z4 z5 z6 z7
            have zf := fun j => hZ3.frozen j
            have z0 := hZ3.cellAt 0 rfl
            have z1 := hZ3.cellAt 1 rfl
            have z2 := hZ3.cellAt 2 rfl
            have z3 := hZ3.cellAt 3 rfl
            have z4 := hZ3.cellAt 4 rfl
            have z5 := hZ3.cellAt 5 rfl
            have z6 := hZ3.cellAt 6 rfl
            have z7 := hZ3.cellAt 7 rfl
            refine bodyPost_ret (v := .tuple #[.agg #[.bool an, .int .i64 ai, .string az, .int .i64 aq, .bool bn, .int .i64 bi, .string bz, .int .i64 bq], .bool true]) (by simp [results, Try.results21, go_sem, z0, z1, z2, z3, z4, z5, z6, z7]) rfl ?_
            refine ⟨?_, hb3⟩
            rw [show hullP t (⟨⟨⟨xn, xi, xz⟩, xq⟩, ⟨⟨yn, yi, yz⟩, yq⟩⟩ :: ([] : List Rg)) = (hullT t ⟨⟨⟨xn, xi, xz⟩, xq⟩, ⟨⟨yn, yi, yz⟩, yq⟩⟩ (([] : List Rg)), true) from hullP_yes H0.out]
            have HK2 := HK.out
            first | rw [show List.take (0) (([] : List Rg)) = (([] : List Rg)) from List.take_of_length_le (by rw [HM.out]; exact Nat.le_refl _)] at HK2 | rw [show List.take i (([] : List Rg)) = (([] : List Rg)) from List.take_of_length_le (by rw [HM.out]; exact Nat.le_refl _)] at HK2
            skip; rw [← HK2]
      · have hr2 := hr1.cut 1 8 c 8 rfl (by rw [flat_len (k := 8) (fun _ => rfl), HN.out]; omega)
        rw [if_neg hc1, Option.map_some, show ad.add 8 = ⟨ad.block, ad.off + 8, none⟩ by simp [Addr.add], List.flatMap_cons, List.drop_left' (show (rangeC _).length = 8 from rfl)] at hr2
        have HM := Lib.hid (show T.length = n - 1 by omega)
        go_wp2_with fail
        clear c0 c1 c2 c3 c4 c5 c6 c7
        go_loopw [25] (fun b wr => ∃ (i : Nat) (h : Rg), b = .int .i64 (i : Int) ∧ i ≤ (n - 1) ∧ Blk wr w1.heap.size 41 (rangeC h) ∧ Hid (h = hullT t ⟨⟨⟨xn, xi, xz⟩, xq⟩, ⟨⟨yn, yi, yz⟩, yq⟩⟩ (List.take i (T))) ∧ Below w1.heap.size w1 wr) (fun b _ => (n - 1) - (intOf b).toNat)
        case atStart => exact ⟨0, ⟨⟨⟨xn, xi, xz⟩, xq⟩, ⟨⟨yn, yi, yz⟩, yq⟩⟩, rfl, by omega, Blk.new' w1 41 #[.bool xn, .int .i64 xi, .string xz, .int .i64 xq, .bool yn, .int .i64 yi, .string yz, .int .i64 yq], rfl, (Below.refl _ _).alloc (Nat.le_refl _) _⟩
        case round =>
          obtain ⟨i, h, rfl, hi, hO, HK, hb⟩ := hrel
          by_cases hin : i < (n - 1)
          · obtain ⟨p, hp⟩ : ∃ p, (T)[i]? = some p := ⟨_, List.getElem?_eq_getElem (by rw [HM.out]; exact hin)⟩
            obtain ⟨ae, e0, hadb, c0, c1, c2, c3, c4, c5, c6, c7⟩ := (hr2.call hb).range hp
            have HP := Lib.hid hp
            obtain ⟨⟨⟨an, ai, az⟩, aq⟩, ⟨⟨bn, bi, bz⟩, bq⟩⟩ := h
            obtain ⟨⟨⟨cn, ci, cz⟩, cq⟩, ⟨⟨dn, di, dz⟩, dq⟩⟩ := p
            cases e0
            simp only [add_mk] at c0 c1 c2 c3 c4 c5 c6 c7
            clear hp
            have oo := fun o j => (hO.alloc o).frozen j
            have o0 := fun o => (hO.alloc o).cellAt 0 rfl
            have o1 := fun o => (hO.alloc o).cellAt 1 rfl
            have o2 := fun o => (hO.alloc o).cellAt 2 rfl
            have o3 := fun o => (hO.alloc o).cellAt 3 rfl
            go_wp2_with fail
            refine (cmp_rank t ⟨⟨cn, ci, cz⟩, cq⟩ ⟨⟨an, ai, az⟩, aq⟩ _).mono ?_; rintro e w2 ⟨rfl, hb1⟩
            have hR2 := (Blk.new' wr 41 #[.bool cn, .int .i64 ci, .string cz, .int .i64 cq, .bool dn, .int .i64 di, .string dz, .int .i64 dq]).call hb1
            have hO2 := (hO.alloc (.cells #[.bool cn, .int .i64 ci, .string cz, .int .i64 cq, .bool dn, .int .i64 di, .string dz, .int .i64 dq] 41)).call hb1
            have hb2 := bt (bt hb ((Below.refl wr.heap.size wr).alloc (Nat.le_refl _) _)) hb1
            have hne : wr.heap.size ≠ w1.heap.size := by have := hO.lt; omega
            clear oo o0 o1 o2 o3 hO c0 c1 c2 c3 c4 c5 c6 c7
            by_cases h1 : cmpR t ⟨⟨cn, ci, cz⟩, cq⟩ ⟨⟨an, ai, az⟩, aq⟩ < 0
            · have of := fun j => hO2.frozen j
              have o0 := hO2.cellAt 0 rfl
              have o1 := hO2.cellAt 1 rfl
              have o2 := hO2.cellAt 2 rfl
              have o3 := hO2.cellAt 3 rfl
              have o4 := hO2.cellAt 4 rfl
              have o5 := hO2.cellAt 5 rfl
              have o6 := hO2.cellAt 6 rfl
              have o7 := hO2.cellAt 7 rfl
              have rf := fun j => hR2.frozen j
              have r0 := hR2.cellAt 0 rfl
              have r1 := hR2.cellAt 1 rfl
              have r2 := hR2.cellAt 2 rfl
              have r3 := hR2.cellAt 3 rfl
              have r4 := hR2.cellAt 4 rfl
              have r5 := hR2.cellAt 5 rfl
              have r6 := hR2.cellAt 6 rfl
              have r7 := hR2.cellAt 7 rfl
              have H1 := Lib.hid h1
              have hO3 := ((((hO2.set_ 0 (.bool cn)).set_ 1 (.int .i64 ci)).set_ 2 (.string cz)).set_ 3 (.int .i64 cq))
              have hR3 := ((((hR2.grownB (grown_set w2 w1.heap.size 0 (.bool cn)) hne).grownB (grown_set _ w1.heap.size 1 (.int .i64 ci)) hne).grownB (grown_set _ w1.heap.size 2 (.string cz)) hne).grownB (grown_set _ w1.heap.size 3 (.int .i64 cq)) hne)
              have hb3 := ((((hb2.setCell (p := ⟨w1.heap.size, 0, none⟩) (Nat.le_refl _) (.bool cn)).setCell (p := ⟨w1.heap.size, 1, none⟩) (Nat.le_refl _) (.int .i64 ci)).setCell (p := ⟨w1.heap.size, 2, none⟩) (Nat.le_refl _) (.string cz)).setCell (p := ⟨w1.heap.size, 3, none⟩) (Nat.le_refl _) (.int .i64 cq))
              go_upto_region 9 with fail
              generalize (((w2.setCell ⟨w1.heap.size, 0, none⟩ (.bool cn)).setCell ⟨w1.heap.size, 1, none⟩ (.int .i64 ci)).setCell ⟨w1.heap.size, 2, none⟩ (.string cz)).setCell ⟨w1.heap.size, 3, none⟩ (.int .i64 cq) = w3 at *
              clear of o0 o1 o2 o3 o4 o5 o6 o7 rf r0 r1 r2 r3 r4 r5 r6 r7 hO2 hR2 hb2
              have hb2 := hb3
              have of := fun j => hO3.frozen j
              have o0 := hO3.cellAt 0 rfl
              have o1 := hO3.cellAt 1 rfl
              have o2 := hO3.cellAt 2 rfl
              have o3 := hO3.cellAt 3 rfl
              have o4 := hO3.cellAt 4 rfl
              have o5 := hO3.cellAt 5 rfl
              have o6 := hO3.cellAt 6 rfl
              have o7 := hO3.cellAt 7 rfl
              have rf := fun j => hR3.frozen j
              have r0 := hR3.cellAt 0 rfl
              have r1 := hR3.cellAt 1 rfl
              have r2 := hR3.cellAt 2 rfl
              have r3 := hR3.cellAt 3 rfl
              have r4 := hR3.cellAt 4 rfl
              have r5 := hR3.cellAt 5 rfl
              have r6 := hR3.cellAt 6 rfl
              have r7 := hR3.cellAt 7 rfl
              go_wp2_with fail
              refine (cmp_rank t ⟨⟨dn, di, dz⟩, dq⟩ ⟨⟨bn, bi, bz⟩, bq⟩ _).mono ?_; rintro e w4 ⟨rfl, hb4⟩
              have hO4 := hO3.call hb4
              have hR4 := hR3.call hb4
              have hb5 := hb2.trans (hb4.mono hb2.size)
              clear of o0 o1 o2 o3 o4 o5 o6 o7 rf r0 r1 r2 r3 r4 r5 r6 r7 hO3 hR3
              have of := fun j => hO4.frozen j
              have o0 := hO4.cellAt 0 rfl
              have o1 := hO4.cellAt 1 rfl
              have o2 := hO4.cellAt 2 rfl
              have o3 := hO4.cellAt 3 rfl
              have o4 := hO4.cellAt 4 rfl
              have o5 := hO4.cellAt 5 rfl
              have o6 := hO4.cellAt 6 rfl
              have o7 := hO4.cellAt 7 rfl
              have rf := fun j => hR4.frozen j
              have r0 := hR4.cellAt 0 rfl
              have r1 := hR4.cellAt 1 rfl
              have r2 := hR4.cellAt 2 rfl
              have r3 := hR4.cellAt 3 rfl
              have r4 := hR4.cellAt 4 rfl
              have r5 := hR4.cellAt 5 rfl
              have r6 := hR4.cellAt 6 rfl
              have r7 := hR4.cellAt 7 rfl
              clear r0 r1 r2 r3 rf o0 o1 o2 o3
              by_cases h2 : 0 < cmpR t ⟨⟨dn, di, dz⟩, dq⟩ ⟨⟨bn, bi, bz⟩, bq⟩
              · have HH := Lib.hid (hull_tt H1.out h2)
                clear h1
                go_wp2
                go_roundw
                case rel => exact ⟨i + 1, ⟨⟨⟨cn, ci, cz⟩, cq⟩, ⟨⟨dn, di, dz⟩, dq⟩⟩, by go_num, by omega, ((((hO4.set_ 4 (.bool dn)).set_ 5 (.int .i64 di)).set_ 6 (.string dz)).set_ 7 (.int .i64 dq)), by show _ = _; rw [hullT_next HP.out, ← HK.out]; exact HH.out.symm, ((((hb5.setCell (by exact Nat.le_refl _) _).setCell (by exact Nat.le_refl _) _).setCell (by exact Nat.le_refl _) _).setCell (by exact Nat.le_refl _) _)⟩
                case measure => simp [intOf]; omega
              · have HH := Lib.hid (hull_tf H1.out h2)
                clear h1
                go_wp2
                go_roundw
                case rel => exact ⟨i + 1, ⟨⟨⟨cn, ci, cz⟩, cq⟩, ⟨⟨bn, bi, bz⟩, bq⟩⟩, by go_num, by omega, hO4, by show _ = _; rw [hullT_next HP.out, ← HK.out]; exact HH.out.symm, hb5⟩
                case measure => simp [intOf]; omega
            · have H1 := Lib.hid (Int.not_lt.1 h1)
              have of := fun j => hO2.frozen j
              have o0 := hO2.cellAt 0 rfl
              have o1 := hO2.cellAt 1 rfl
              have o2 := hO2.cellAt 2 rfl
              have o3 := hO2.cellAt 3 rfl
              have o4 := hO2.cellAt 4 rfl
              have o5 := hO2.cellAt 5 rfl
              have o6 := hO2.cellAt 6 rfl
              have o7 := hO2.cellAt 7 rfl
              have rf := fun j => hR2.frozen j
              have r0 := hR2.cellAt 0 rfl
              have r1 := hR2.cellAt 1 rfl
              have r2 := hR2.cellAt 2 rfl
              have r3 := hR2.cellAt 3 rfl
              have r4 := hR2.cellAt 4 rfl
              have r5 := hR2.cellAt 5 rfl
              have r6 := hR2.cellAt 6 rfl
              have r7 := hR2.cellAt 7 rfl
              go_wp2_with fail
              refine (cmp_rank t ⟨⟨dn, di, dz⟩, dq⟩ ⟨⟨bn, bi, bz⟩, bq⟩ _).mono ?_; rintro e w4 ⟨rfl, hb4⟩
              have hO4 := hO2.call hb4
              have hR4 := hR2.call hb4
              have hb5 := hb2.trans (hb4.mono hb2.size)
              clear of o0 o1 o2 o3 o4 o5 o6 o7 rf r0 r1 r2 r3 r4 r5 r6 r7 hO2 hR2
              have of := fun j => hO4.frozen j
              have o0 := hO4.cellAt 0 rfl
              have o1 := hO4.cellAt 1 rfl
              have o2 := hO4.cellAt 2 rfl
              have o3 := hO4.cellAt 3 rfl
              have o4 := hO4.cellAt 4 rfl
              have o5 := hO4.cellAt 5 rfl
              have o6 := hO4.cellAt 6 rfl
              have o7 := hO4.cellAt 7 rfl
              have rf := fun j => hR4.frozen j
              have r0 := hR4.cellAt 0 rfl
              have r1 := hR4.cellAt 1 rfl
              have r2 := hR4.cellAt 2 rfl
              have r3 := hR4.cellAt 3 rfl
              have r4 := hR4.cellAt 4 rfl
              have r5 := hR4.cellAt 5 rfl
              have r6 := hR4.cellAt 6 rfl
              have r7 := hR4.cellAt 7 rfl
              clear r0 r1 r2 r3 rf o0 o1 o2 o3
              by_cases h2 : 0 < cmpR t ⟨⟨dn, di, dz⟩, dq⟩ ⟨⟨bn, bi, bz⟩, bq⟩
              · have HH := Lib.hid (hull_ft H1.out h2)
                clear h1
                go_wp2
                go_roundw
                case rel => exact ⟨i + 1, ⟨⟨⟨an, ai, az⟩, aq⟩, ⟨⟨dn, di, dz⟩, dq⟩⟩, by go_num, by omega, ((((hO4.set_ 4 (.bool dn)).set_ 5 (.int .i64 di)).set_ 6 (.string dz)).set_ 7 (.int .i64 dq)), by show _ = _; rw [hullT_next HP.out, ← HK.out]; exact HH.out.symm, ((((hb5.setCell (by exact Nat.le_refl _) _).setCell (by exact Nat.le_refl _) _).setCell (by exact Nat.le_refl _) _).setCell (by exact Nat.le_refl _) _)⟩
                case measure => simp [intOf]; omega
              · have HH := Lib.hid (hull_ff H1.out h2)
                clear h1
                go_wp2
                go_roundw
                case rel => exact ⟨i + 1, ⟨⟨⟨an, ai, az⟩, aq⟩, ⟨⟨bn, bi, bz⟩, bq⟩⟩, by go_num, by omega, hO4, by show _ = _; rw [hullT_next HP.out, ← HK.out]; exact HH.out.symm, hb5⟩
                case measure => simp [intOf]; omega
          · have hin2 : i = (n - 1) := by omega
            subst hin2
            obtain ⟨⟨⟨an, ai, az⟩, aq⟩, ⟨⟨bn, bi, bz⟩, bq⟩⟩ := h
            have hZ2 := hZ1.below hb hlt1
            have of := fun j => hO.frozen j
            have o0 := hO.cellAt 0 rfl
            have o1 := hO.cellAt 1 rfl
            have o2 := hO.cellAt 2 rfl
            have o3 := hO.cellAt 3 rfl
            have o4 := hO.cellAt 4 rfl
            have o5 := hO.cellAt 5 rfl
            have o6 := hO.cellAt 6 rfl
            have o7 := hO.cellAt 7 rfl
            have zf := fun j => hZ2.frozen j
            have z0 := hZ2.cellAt 0 rfl
            have z1 := hZ2.cellAt 1 rfl
            have z2 := hZ2.cellAt 2 rfl
            have z3 := hZ2.cellAt 3 rfl
            have z4 := hZ2.cellAt 4 rfl
            have z5 := hZ2.cellAt 5 rfl
            have z6 := hZ2.cellAt 6 rfl
            have z7 := hZ2.cellAt 7 rfl
            have hZ3 := (((((((hZ2.set_ 0 (.bool an)).set_ 1 (.int .i64 ai)).set_ 2 (.string az)).set_ 3 (.int .i64 aq)).set_ 4 (.bool bn)).set_ 5 (.int .i64 bi)).set_ 6 (.string bz)).set_ 7 (.int .i64 bq)
            have hb3 : Below w.heap.size w _ := ((((((((bt hbel1 hb).setCell (p := ⟨w.heap.size, 0, none⟩) (Nat.le_refl _) (.bool an)).setCell (p := ⟨w.heap.size, 1, none⟩) (Nat.le_refl _) (.int .i64 ai)).setCell (p := ⟨w.heap.size, 2, none⟩) (Nat.le_refl _) (.string az)).setCell (p := ⟨w.heap.size, 3, none⟩) (Nat.le_refl _) (.int .i64 aq)).setCell (p := ⟨w.heap.size, 4, none⟩) (Nat.le_refl _) (.bool bn)).setCell (p := ⟨w.heap.size, 5, none⟩) (Nat.le_refl _) (.int .i64 bi)).setCell (p := ⟨w.heap.size, 6, none⟩) (Nat.le_refl _) (.string bz)).setCell (p := ⟨w.heap.size, 7, none⟩) (Nat.le_refl _) (.int .i64 bq)
            go_wp2
            generalize (((((((wr.setCell ⟨w.heap.size, 0, none⟩ (.bool an)).setCell ⟨w.heap.size, 1, none⟩ (.int .i64 ai)).setCell ⟨w.heap.size, 2, none⟩ (.string az)).setCell ⟨w.heap.size, 3, none⟩ (.int .i64 aq)).setCell ⟨w.heap.size, 4, none⟩ (.bool bn)).setCell ⟨w.heap.size, 5, none⟩ (.int .i64 bi)).setCell ⟨w.heap.size, 6, none⟩ (.string bz)).setCell ⟨w.heap.size, 7, none⟩ (.int .i64 bq) = w3 at *
            clear of o0 o1 o2 o3 o4 o5 o6 o7 zf z0 z1 z2 z3 z4 z5 z6 z7
            have zf := fun j => hZ3.frozen j
            have z0 := hZ3.cellAt 0 rfl
            have z1 := hZ3.cellAt 1 rfl
            have z2 := hZ3.cellAt 2 rfl
            have z3 := hZ3.cellAt 3 rfl
            have z4 := hZ3.cellAt 4 rfl
            have z5 := hZ3.cellAt 5 rfl
            have z6 := hZ3.cellAt 6 rfl
            have z7 := hZ3.cellAt 7 rfl
            refine bodyPost_ret (v := .tuple #[.agg #[.bool an, .int .i64 ai, .string az, .int .i64 aq, .bool bn, .int .i64 bi, .string bz, .int .i64 bq], .bool true]) (by simp [results, Try.results21, go_sem, z0, z1, z2, z3, z4, z5, z6, z7]) rfl ?_
            refine ⟨?_, hb3⟩
            rw [show hullP t (⟨⟨⟨xn, xi, xz⟩, xq⟩, ⟨⟨yn, yi, yz⟩, yq⟩⟩ :: T) = (hullT t ⟨⟨⟨xn, xi, xz⟩, xq⟩, ⟨⟨yn, yi, yz⟩, yq⟩⟩ (T), true) from hullP_yes H0.out]
            have HK2 := HK.out
            first | rw [show List.take ((n - 1)) (T) = (T) from List.take_of_length_le (by rw [HM.out]; exact Nat.le_refl _)] at HK2 | rw [show List.take i (T) = (T) from List.take_of_length_le (by rw [HM.out]; exact Nat.le_refl _)] at HK2
            skip; rw [← HK2]
set_option maxRecDepth 100000 in
set_option maxHeartbeats 4000000 in
theorem rhull_any (t : Int) (A : Option Addr) (n c : Nat) (L : List Rg) (w : World) (hr : Rd w w.heap.size A (L.flatMap rangeC)) (hn : L.length = n) (hm : n ≤ 17592186044416) (hc : n ≤ c) :
    Calls Try.prog 19 #[.int .i64 t, .slice A n c] w fun e w' => e = .returned (.tuple #[Gv (hullP t L).1, .bool (hullP t L).2]) ∧ Below w.heap.size w w' := by
  have HN := Lib.hid hn
  have hZ := Blk.new' w 41 #[.bool false, .int .i64 0, .string ⟨#[]⟩, .int .i64 0, .bool false, .int .i64 0, .string ⟨#[]⟩, .int .i64 0]
  have hbel : Below w.heap.size w (w.alloc (.cells #[.bool false, .int .i64 0, .string ⟨#[]⟩, .int .i64 0, .bool false, .int .i64 0, .string ⟨#[]⟩, .int .i64 0] 41)) := (Below.refl _ _).alloc (Nat.le_refl _) _
  have hwl : w.heap.size < (w.alloc (.cells #[.bool false, .int .i64 0, .string ⟨#[]⟩, .int .i64 0, .bool false, .int .i64 0, .string ⟨#[]⟩, .int .i64 0] 41)).heap.size := by simp
  cases L with
  | nil =>
    have hn0 : n = 0 := hn.symm
    subst hn0
    clear hn hr
    go_enter Try.func19, Try.ntmps19
    go_wp2_with fail
    generalize w.alloc (.cells #[.bool false, .int .i64 0, .string ⟨#[]⟩, .int .i64 0, .bool false, .int .i64 0, .string ⟨#[]⟩, .int .i64 0] 41) = wa at *
    have zf := fun j => hZ.frozen j
    have z0 := hZ.cellAt 0 rfl
    have z1 := hZ.cellAt 1 rfl
    have z2 := hZ.cellAt 2 rfl
    have z3 := hZ.cellAt 3 rfl
    have z4 := hZ.cellAt 4 rfl
    have z5 := hZ.cellAt 5 rfl
    have z6 := hZ.cellAt 6 rfl
    have z7 := hZ.cellAt 7 rfl
    have hb3 := hbel
    go_wp2
    refine bodyPost_ret (v := .tuple #[.agg #[.bool false, .int .i64 0, .string ⟨#[]⟩, .int .i64 0, .bool false, .int .i64 0, .string ⟨#[]⟩, .int .i64 0], .bool false]) (by simp [results, Try.results19, go_sem, z0, z1, z2, z3, z4, z5, z6, z7]) rfl ?_
    exact ⟨rfl, by repeat' (first | refine below_set ?_ (Nat.le_refl _) | refine Below.drew ?_ | exact hb3)⟩
  | cons h0 T =>
    have hn1 : T.length + 1 = n := hn
    have hnz : ((n : Int) == 0) = false := by simp only [beq_eq_false_iff_ne]; omega
    have hra := hr.call hbel
    clear hn hr
    go_enter Try.func19, Try.ntmps19
    go_wp2_with fail
    generalize w.alloc (.cells #[.bool false, .int .i64 0, .string ⟨#[]⟩, .int .i64 0, .bool false, .int .i64 0, .string ⟨#[]⟩, .int .i64 0] 41) = wa at *
    refine (rcheck_any t A n c (h0 :: T) wa hra HN.out hm).mono ?_; rintro e w1 ⟨rfl, hb1⟩
    have hZ1 := hZ.call hb1
    have hr1 := hra.call hb1
    have hbel1 := bt hbel hb1
    have hlt1 : w.heap.size < w1.heap.size := Nat.lt_of_lt_of_le hwl hb1.size
    clear hZ hra hb1 hbel hwl
    cases hk : chkR t (h0 :: T)
    · have zf := fun j => hZ1.frozen j
      have z0 := hZ1.cellAt 0 rfl
      have z1 := hZ1.cellAt 1 rfl
      have z2 := hZ1.cellAt 2 rfl
      have z3 := hZ1.cellAt 3 rfl
      have z4 := hZ1.cellAt 4 rfl
      have z5 := hZ1.cellAt 5 rfl
      have z6 := hZ1.cellAt 6 rfl
      have z7 := hZ1.cellAt 7 rfl
      have hb3 := hbel1
      go_wp2
      refine bodyPost_ret (v := .tuple #[.agg #[.bool false, .int .i64 0, .string ⟨#[]⟩, .int .i64 0, .bool false, .int .i64 0, .string ⟨#[]⟩, .int .i64 0], .bool false]) (by simp [results, Try.results19, go_sem, z0, z1, z2, z3, z4, z5, z6, z7]) rfl ?_
      rw [show hullP t (h0 :: T) = (⟨zeroR, zeroR⟩, false) from hullP_no hk]
      exact ⟨rfl, by repeat' (first | refine below_set ?_ (Nat.le_refl _) | refine Below.drew ?_ | exact hb3)⟩
    · obtain ⟨ad, rfl, hadb, c0, c1, c2, c3, c4, c5, c6, c7⟩ := hr1.range (i := 0) (p := h0) rfl
      rw [show ad.add (0 * 8) = ad by simp [Addr.add]] at c0 c1 c2 c3 c4 c5 c6 c7
      have H0 := Lib.hid hk
      clear hk
      obtain ⟨⟨⟨xn, xi, xz⟩, xq⟩, ⟨⟨yn, yi, yz⟩, yq⟩⟩ := h0
      have HM := HN
      have hr2 := hr1
      go_wp2_with fail
      clear c0 c1 c2 c3 c4 c5 c6 c7
      go_loopw [24] (fun b wr => ∃ (i : Nat) (h : Rg), b = .int .i64 (i : Int) ∧ i ≤ n ∧ Blk wr w1.heap.size 41 (rangeC h) ∧ Hid (h = hullT t ⟨⟨⟨xn, xi, xz⟩, xq⟩, ⟨⟨yn, yi, yz⟩, yq⟩⟩ (List.take i ((⟨⟨⟨xn, xi, xz⟩, xq⟩, ⟨⟨yn, yi, yz⟩, yq⟩⟩ :: T)))) ∧ Below w1.heap.size w1 wr) (fun b _ => n - (intOf b).toNat)
      case atStart => exact ⟨0, ⟨⟨⟨xn, xi, xz⟩, xq⟩, ⟨⟨yn, yi, yz⟩, yq⟩⟩, rfl, by omega, Blk.new' w1 41 #[.bool xn, .int .i64 xi, .string xz, .int .i64 xq, .bool yn, .int .i64 yi, .string yz, .int .i64 yq], rfl, (Below.refl _ _).alloc (Nat.le_refl _) _⟩
      case round =>
        obtain ⟨i, h, rfl, hi, hO, HK, hb⟩ := hrel
        by_cases hin : i < n
        · obtain ⟨p, hp⟩ : ∃ p, ((⟨⟨⟨xn, xi, xz⟩, xq⟩, ⟨⟨yn, yi, yz⟩, yq⟩⟩ :: T))[i]? = some p := ⟨_, List.getElem?_eq_getElem (by rw [HM.out]; exact hin)⟩
          obtain ⟨ae, e0, hadb, c0, c1, c2, c3, c4, c5, c6, c7⟩ := (hr2.call hb).range hp
          have HP := Lib.hid hp
          obtain ⟨⟨⟨an, ai, az⟩, aq⟩, ⟨⟨bn, bi, bz⟩, bq⟩⟩ := h
          obtain ⟨⟨⟨cn, ci, cz⟩, cq⟩, ⟨⟨dn, di, dz⟩, dq⟩⟩ := p
          cases e0
          clear hp
          have oo := fun o j => (hO.alloc o).frozen j
          have o0 := fun o => (hO.alloc o).cellAt 0 rfl
          have o1 := fun o => (hO.alloc o).cellAt 1 rfl
          have o2 := fun o => (hO.alloc o).cellAt 2 rfl
          have o3 := fun o => (hO.alloc o).cellAt 3 rfl
          go_wp2_with fail
          refine (rcmp_rank t ⟨⟨cn, ci, cz⟩, cq⟩ ⟨⟨an, ai, az⟩, aq⟩ _).mono ?_; rintro e w2 ⟨rfl, hb1⟩
          have hR2 := (Blk.new' wr 41 #[.bool cn, .int .i64 ci, .string cz, .int .i64 cq, .bool dn, .int .i64 di, .string dz, .int .i64 dq]).call hb1
          have hO2 := (hO.alloc (.cells #[.bool cn, .int .i64 ci, .string cz, .int .i64 cq, .bool dn, .int .i64 di, .string dz, .int .i64 dq] 41)).call hb1
          have hb2 := bt (bt hb ((Below.refl wr.heap.size wr).alloc (Nat.le_refl _) _)) hb1
          have hne : wr.heap.size ≠ w1.heap.size := by have := hO.lt; omega
          clear oo o0 o1 o2 o3 hO c0 c1 c2 c3 c4 c5 c6 c7
          by_cases h1 : cmpR t ⟨⟨cn, ci, cz⟩, cq⟩ ⟨⟨an, ai, az⟩, aq⟩ < 0
          · have of := fun j => hO2.frozen j
            have o0 := hO2.cellAt 0 rfl
            have o1 := hO2.cellAt 1 rfl
            have o2 := hO2.cellAt 2 rfl
            have o3 := hO2.cellAt 3 rfl
            have o4 := hO2.cellAt 4 rfl
            have o5 := hO2.cellAt 5 rfl
            have o6 := hO2.cellAt 6 rfl
            have o7 := hO2.cellAt 7 rfl
            have rf := fun j => hR2.frozen j
            have r0 := hR2.cellAt 0 rfl
            have r1 := hR2.cellAt 1 rfl
            have r2 := hR2.cellAt 2 rfl
            have r3 := hR2.cellAt 3 rfl
            have r4 := hR2.cellAt 4 rfl
            have r5 := hR2.cellAt 5 rfl
            have r6 := hR2.cellAt 6 rfl
            have r7 := hR2.cellAt 7 rfl
            have H1 := Lib.hid h1
            have hO3 := ((((hO2.set_ 0 (.bool cn)).set_ 1 (.int .i64 ci)).set_ 2 (.string cz)).set_ 3 (.int .i64 cq))
            have hR3 := ((((hR2.grownB (grown_set w2 w1.heap.size 0 (.bool cn)) hne).grownB (grown_set _ w1.heap.size 1 (.int .i64 ci)) hne).grownB (grown_set _ w1.heap.size 2 (.string cz)) hne).grownB (grown_set _ w1.heap.size 3 (.int .i64 cq)) hne)
            have hb3 := ((((hb2.setCell (p := ⟨w1.heap.size, 0, none⟩) (Nat.le_refl _) (.bool cn)).setCell (p := ⟨w1.heap.size, 1, none⟩) (Nat.le_refl _) (.int .i64 ci)).setCell (p := ⟨w1.heap.size, 2, none⟩) (Nat.le_refl _) (.string cz)).setCell (p := ⟨w1.heap.size, 3, none⟩) (Nat.le_refl _) (.int .i64 cq))
            go_upto_region 9 with fail
            generalize (((w2.setCell ⟨w1.heap.size, 0, none⟩ (.bool cn)).setCell ⟨w1.heap.size, 1, none⟩ (.int .i64 ci)).setCell ⟨w1.heap.size, 2, none⟩ (.string cz)).setCell ⟨w1.heap.size, 3, none⟩ (.int .i64 cq) = w3 at *
            clear of o0 o1 o2 o3 o4 o5 o6 o7 rf r0 r1 r2 r3 r4 r5 r6 r7 hO2 hR2 hb2
            have hb2 := hb3
            have of := fun j => hO3.frozen j
            have o0 := hO3.cellAt 0 rfl
            have o1 := hO3.cellAt 1 rfl
            have o2 := hO3.cellAt 2 rfl
            have o3 := hO3.cellAt 3 rfl
            have o4 := hO3.cellAt 4 rfl
            have o5 := hO3.cellAt 5 rfl
            have o6 := hO3.cellAt 6 rfl
            have o7 := hO3.cellAt 7 rfl
            have rf := fun j => hR3.frozen j
            have r0 := hR3.cellAt 0 rfl
            have r1 := hR3.cellAt 1 rfl
            have r2 := hR3.cellAt 2 rfl
            have r3 := hR3.cellAt 3 rfl
            have r4 := hR3.cellAt 4 rfl
            have r5 := hR3.cellAt 5 rfl
            have r6 := hR3.cellAt 6 rfl
            have r7 := hR3.cellAt 7 rfl
            go_wp2_with fail
            refine (rcmp_rank t ⟨⟨dn, di, dz⟩, dq⟩ ⟨⟨bn, bi, bz⟩, bq⟩ _).mono ?_; rintro e w4 ⟨rfl, hb4⟩
            have hO4 := hO3.call hb4
            have hR4 := hR3.call hb4
            have hb5 := hb2.trans (hb4.mono hb2.size)
            clear of o0 o1 o2 o3 o4 o5 o6 o7 rf r0 r1 r2 r3 r4 r5 r6 r7 hO3 hR3
            have of := fun j => hO4.frozen j
            have o0 := hO4.cellAt 0 rfl
            have o1 := hO4.cellAt 1 rfl
            have o2 := hO4.cellAt 2 rfl
            have o3 := hO4.cellAt 3 rfl
            have o4 := hO4.cellAt 4 rfl
            have o5 := hO4.cellAt 5 rfl
            have o6 := hO4.cellAt 6 rfl
            have o7 := hO4.cellAt 7 rfl
            have rf := fun j => hR4.frozen j
            have r0 := hR4.cellAt 0 rfl
            have r1 := hR4.cellAt 1 rfl
            have r2 := hR4.cellAt 2 rfl
            have r3 := hR4.cellAt 3 rfl
            have r4 := hR4.cellAt 4 rfl
            have r5 := hR4.cellAt 5 rfl
            have r6 := hR4.cellAt 6 rfl
            have r7 := hR4.cellAt 7 rfl
            clear r0 r1 r2 r3 rf o0 o1 o2 o3
            by_cases h2 : 0 < cmpR t ⟨⟨dn, di, dz⟩, dq⟩ ⟨⟨bn, bi, bz⟩, bq⟩
            · have HH := Lib.hid (hull_tt H1.out h2)
              clear h1
              go_wp2
              go_roundw
              case rel => exact ⟨i + 1, ⟨⟨⟨cn, ci, cz⟩, cq⟩, ⟨⟨dn, di, dz⟩, dq⟩⟩, by go_num, by omega, ((((hO4.set_ 4 (.bool dn)).set_ 5 (.int .i64 di)).set_ 6 (.string dz)).set_ 7 (.int .i64 dq)), by show _ = _; rw [hullT_next HP.out, ← HK.out]; exact HH.out.symm, ((((hb5.setCell (by exact Nat.le_refl _) _).setCell (by exact Nat.le_refl _) _).setCell (by exact Nat.le_refl _) _).setCell (by exact Nat.le_refl _) _)⟩
              case measure => simp [intOf]; omega
            · have HH := Lib.hid (hull_tf H1.out h2)
              clear h1
              go_wp2
              go_roundw
              case rel => exact ⟨i + 1, ⟨⟨⟨cn, ci, cz⟩, cq⟩, ⟨⟨bn, bi, bz⟩, bq⟩⟩, by go_num, by omega, hO4, by show _ = _; rw [hullT_next HP.out, ← HK.out]; exact HH.out.symm, hb5⟩
              case measure => simp [intOf]; omega
          · have H1 := Lib.hid (Int.not_lt.1 h1)
            have of := fun j => hO2.frozen j
            have o0 := hO2.cellAt 0 rfl
            have o1 := hO2.cellAt 1 rfl
            have o2 := hO2.cellAt 2 rfl
            have o3 := hO2.cellAt 3 rfl
            have o4 := hO2.cellAt 4 rfl
            have o5 := hO2.cellAt 5 rfl
            have o6 := hO2.cellAt 6 rfl
            have o7 := hO2.cellAt 7 rfl
            have rf := fun j => hR2.frozen j
            have r0 := hR2.cellAt 0 rfl
            have r1 := hR2.cellAt 1 rfl
            have r2 := hR2.cellAt 2 rfl
            have r3 := hR2.cellAt 3 rfl
            have r4 := hR2.cellAt 4 rfl
            have r5 := hR2.cellAt 5 rfl
            have r6 := hR2.cellAt 6 rfl
            have r7 := hR2.cellAt 7 rfl
            go_wp2_with fail
            refine (rcmp_rank t ⟨⟨dn, di, dz⟩, dq⟩ ⟨⟨bn, bi, bz⟩, bq⟩ _).mono ?_; rintro e w4 ⟨rfl, hb4⟩
            have hO4 := hO2.call hb4
            have hR4 := hR2.call hb4
            have hb5 := hb2.trans (hb4.mono hb2.size)
            clear of o0 o1 o2 o3 o4 o5 o6 o7 rf r0 r1 r2 r3 r4 r5 r6 r7 hO2 hR2
            have of := fun j => hO4.frozen j
            have o0 := hO4.cellAt 0 rfl
            have o1 := hO4.cellAt 1 rfl
            have o2 := hO4.cellAt 2 rfl
            have o3 := hO4.cellAt 3 rfl
            have o4 := hO4.cellAt 4 rfl
            have o5 := hO4.cellAt 5 rfl
            have o6 := hO4.cellAt 6 rfl
            have o7 := hO4.cellAt 7 rfl
            have rf := fun j => hR4.frozen j
            have r0 := hR4.cellAt 0 rfl
            have r1 := hR4.cellAt 1 rfl
            have r2 := hR4.cellAt 2 rfl
            have r3 := hR4.cellAt 3 rfl
            have r4 := hR4.cellAt 4 rfl
            have r5 := hR4.cellAt 5 rfl
            have r6 := hR4.cellAt 6 rfl
            have r7 := hR4.cellAt 7 rfl
            clear r0 r1 r2 r3 rf o0 o1 o2 o3
            by_cases h2 : 0 < cmpR t ⟨⟨dn, di, dz⟩, dq⟩ ⟨⟨bn, bi, bz⟩, bq⟩
            · have HH := Lib.hid (hull_ft H1.out h2)
              clear h1
              go_wp2
              go_roundw
              case rel => exact ⟨i + 1, ⟨⟨⟨an, ai, az⟩, aq⟩, ⟨⟨dn, di, dz⟩, dq⟩⟩, by go_num, by omega, ((((hO4.set_ 4 (.bool dn)).set_ 5 (.int .i64 di)).set_ 6 (.string dz)).set_ 7 (.int .i64 dq)), by show _ = _; rw [hullT_next HP.out, ← HK.out]; exact HH.out.symm, ((((hb5.setCell (by exact Nat.le_refl _) _).setCell (by exact Nat.le_refl _) _).setCell (by exact Nat.le_refl _) _).setCell (by exact Nat.le_refl _) _)⟩
              case measure => simp [intOf]; omega
            · have HH := Lib.hid (hull_ff H1.out h2)
              clear h1
              go_wp2
              go_roundw
              case rel => exact ⟨i + 1, ⟨⟨⟨an, ai, az⟩, aq⟩, ⟨⟨bn, bi, bz⟩, bq⟩⟩, by go_num, by omega, hO4, by show _ = _; rw [hullT_next HP.out, ← HK.out]; exact HH.out.symm, hb5⟩
              case measure => simp [intOf]; omega
        · have hin2 : i = n := by omega
          subst hin2
          obtain ⟨⟨⟨an, ai, az⟩, aq⟩, ⟨⟨bn, bi, bz⟩, bq⟩⟩ := h
          have hZ2 := hZ1.below hb hlt1
          have of := fun j => hO.frozen j
          have o0 := hO.cellAt 0 rfl
          have o1 := hO.cellAt 1 rfl
          have o2 := hO.cellAt 2 rfl
          have o3 := hO.cellAt 3 rfl
          have o4 := hO.cellAt 4 rfl
          have o5 := hO.cellAt 5 rfl
          have o6 := hO.cellAt 6 rfl
          have o7 := hO.cellAt 7 rfl
          have zf := fun j => hZ2.frozen j
          have z0 := hZ2.cellAt 0 rfl
          have z1 := hZ2.cellAt 1 rfl
          have z2 := hZ2.cellAt 2 rfl
          have z3 := hZ2.cellAt 3 rfl
          have z4 := hZ2.cellAt 4 rfl
          have z5 := hZ2.cellAt 5 rfl
          have z6 := hZ2.cellAt 6 rfl
          have z7 := hZ2.cellAt 7 rfl
          have hZ3 := (((((((hZ2.set_ 0 (.bool an)).set_ 1 (.int .i64 ai)).set_ 2 (.string az)).set_ 3 (.int .i64 aq)).set_ 4 (.bool bn)).set_ 5 (.int .i64 bi)).set_ 6 (.string bz)).set_ 7 (.int .i64 bq)
          have hb3 : Below w.heap.size w _ := ((((((((bt hbel1 hb).setCell (p := ⟨w.heap.size, 0, none⟩) (Nat.le_refl _) (.bool an)).setCell (p := ⟨w.heap.size, 1, none⟩) (Nat.le_refl _) (.int .i64 ai)).setCell (p := ⟨w.heap.size, 2, none⟩) (Nat.le_refl _) (.string az)).setCell (p := ⟨w.heap.size, 3, none⟩) (Nat.le_refl _) (.int .i64 aq)).setCell (p := ⟨w.heap.size, 4, none⟩) (Nat.le_refl _) (.bool bn)).setCell (p := ⟨w.heap.size, 5, none⟩) (Nat.le_refl _) (.int .i64 bi)).setCell (p := ⟨w.heap.size, 6, none⟩) (Nat.le_refl _) (.string bz)).setCell (p := ⟨w.heap.size, 7, none⟩) (Nat.le_refl _) (.int .i64 bq)
          go_wp2
          generalize (((((((wr.setCell ⟨w.heap.size, 0, none⟩ (.bool an)).setCell ⟨w.heap.size, 1, none⟩ (.int .i64 ai)).setCell ⟨w.heap.size, 2, none⟩ (.string az)).setCell ⟨w.heap.size, 3, none⟩ (.int .i64 aq)).setCell ⟨w.heap.size, 4, none⟩ (.bool bn)).setCell ⟨w.heap.size, 5, none⟩ (.int .i64 bi)).setCell ⟨w.heap.size, 6, none⟩ (.string bz)).setCell ⟨w.heap.size, 7, none⟩ (.int .i64 bq) = w3 at *
          clear of o0 o1 o2 o3 o4 o5 o6 o7 zf z0 z1 z2 z3 z4 z5 z6 z7
          have zf := fun j => hZ3.frozen j
          have z0 := hZ3.cellAt 0 rfl
          have z1 := hZ3.cellAt 1 rfl
          have z2 := hZ3.cellAt 2 rfl
          have z3 := hZ3.cellAt 3 rfl
          have z4 := hZ3.cellAt 4 rfl
          have z5 := hZ3.cellAt 5 rfl
          have z6 := hZ3.cellAt 6 rfl
          have z7 := hZ3.cellAt 7 rfl
          refine bodyPost_ret (v := .tuple #[.agg #[.bool an, .int .i64 ai, .string az, .int .i64 aq, .bool bn, .int .i64 bi, .string bz, .int .i64 bq], .bool true]) (by simp [results, Try.results19, go_sem, z0, z1, z2, z3, z4, z5, z6, z7]) rfl ?_
          refine ⟨?_, hb3⟩
          rw [show hullP t (⟨⟨⟨xn, xi, xz⟩, xq⟩, ⟨⟨yn, yi, yz⟩, yq⟩⟩ :: T) = (hullT t ⟨⟨⟨xn, xi, xz⟩, xq⟩, ⟨⟨yn, yi, yz⟩, yq⟩⟩ (T), true) from hullP_yes H0.out]
          have HK2 := HK.out
          first | rw [show List.take (n) ((⟨⟨⟨xn, xi, xz⟩, xq⟩, ⟨⟨yn, yi, yz⟩, yq⟩⟩ :: T)) = ((⟨⟨⟨xn, xi, xz⟩, xq⟩, ⟨⟨yn, yi, yz⟩, yq⟩⟩ :: T)) from List.take_of_length_le (by rw [HM.out]; exact Nat.le_refl _)] at HK2 | rw [show List.take i ((⟨⟨⟨xn, xi, xz⟩, xq⟩, ⟨⟨yn, yi, yz⟩, yq⟩⟩ :: T)) = ((⟨⟨⟨xn, xi, xz⟩, xq⟩, ⟨⟨yn, yi, yz⟩, yq⟩⟩ :: T)) from List.take_of_length_le (by rw [HM.out]; exact Nat.le_refl _)] at HK2
          rw [hullT_self] at HK2; rw [← HK2]

end Go.Proofs.Ytmmnfniebiggpaa
