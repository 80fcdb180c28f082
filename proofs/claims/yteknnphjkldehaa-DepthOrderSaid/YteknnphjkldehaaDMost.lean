/-
  The depth of a list of ranges and its peak, in the code.
-/
import Derived.Test.YteknnphjkldehaaOStab
import Derived.Test.YteknnphjkldehaaOMake
namespace Go.Proofs.Yteknnphjkldehaa
open Go.RowKit

def mostS (t : Int) (L : List Rg) (s : Nat × Rk) (r : Rg) : Nat × Rk := if s.1 < stabR t L r.lo ∨ (stabR t L r.lo = s.1 ∧ cmpR t r.lo s.2 < 0) then (stabR t L r.lo, r.lo) else s
def mostL (t : Int) (L X : List Rg) : Nat × Rk := X.foldl (mostS t L) (0, zeroR)
def mostR (t : Int) (L : List Rg) : Nat × Rk := if chkR t L then mostL t L L else (0, zeroR)
theorem stabR_le (t : Int) (L : List Rg) (p : Rk) : stabR t L p ≤ L.length := List.countP_le_length
theorem mostL_next {t : Int} {L X : List Rg} {i : Nat} {p : Rg} (hp : X[i]? = some p) : mostL t L (X.take (i + 1)) = mostS t L (mostL t L (X.take i)) p := by
  unfold mostL; rw [List.take_add_one, hp, List.foldl_append]; rfl
theorem mostS_yes {t : Int} {L : List Rg} {k : Nat} {at_ : Rk} {r : Rg} (h : k < stabR t L r.lo ∨ (stabR t L r.lo = k ∧ cmpR t r.lo at_ < 0)) : mostS t L (k, at_) r = (stabR t L r.lo, r.lo) := if_pos h
theorem mostS_no {t : Int} {L : List Rg} {k : Nat} {at_ : Rk} {r : Rg} (h : ¬ (k < stabR t L r.lo ∨ (stabR t L r.lo = k ∧ cmpR t r.lo at_ < 0))) : mostS t L (k, at_) r = (k, at_) := if_neg h

theorem below_set {B g i : Nat} {a w : World} {u : Value} (h : Below B a w) (hg : B ≤ g) : Below B a (w.setCell ⟨g, i, none⟩ u) := h.setCell (p := ⟨g, i, none⟩) hg u

set_option maxRecDepth 100000 in
set_option maxHeartbeats 4000000 in
theorem most_any (t : Int) (A : Option Addr) (n c : Nat) (L : List Rg) (w : World) (hr : Rd w w.heap.size A (L.flatMap rangeC)) (hn : L.length = n) (hm : n ≤ 17592186044416) :
    Calls Try.prog 28 #[.int .i64 t, .slice A n c] w fun e w' => e = .returned (.tuple #[.int .i64 (mostR t L).1, Rv (mostR t L).2]) ∧ Below w.heap.size w w' := by
  have HN := Lib.hid hn
  have hZ := Blk.new' w 33 #[.bool false, .int .i64 0, .string ⟨#[]⟩, .int .i64 0]
  have hbel : Below w.heap.size w (w.alloc (.cells #[.bool false, .int .i64 0, .string ⟨#[]⟩, .int .i64 0] 33)) := (Below.refl _ _).alloc (Nat.le_refl _) _
  have hwl : w.heap.size < (w.alloc (.cells #[.bool false, .int .i64 0, .string ⟨#[]⟩, .int .i64 0] 33)).heap.size := by simp
  have hra := hr.call hbel
  clear hn hr
  go_enter Try.func28, Try.ntmps28
  go_wp2_with fail
  generalize w.alloc (.cells #[.bool false, .int .i64 0, .string ⟨#[]⟩, .int .i64 0] 33) = wa at *
  refine (check_any t A n c L wa hra HN.out hm).mono ?_; rintro e w1 ⟨rfl, hb1⟩
  have hZ1 := hZ.call hb1
  have hr1 := hra.call hb1
  have hbel1 := bt hbel hb1
  have hlt1 : w.heap.size < w1.heap.size := Nat.lt_of_lt_of_le hwl hb1.size
  clear hZ hra hb1 hbel hwl
  cases hk : chkR t L
  · have zf := fun j => hZ1.frozen j
    have z0 := hZ1.cellAt 0 rfl
    have z1 := hZ1.cellAt 1 rfl
    have z2 := hZ1.cellAt 2 rfl
    have z3 := hZ1.cellAt 3 rfl
    have HH : Hid (mostR t L = (0, zeroR)) := by show _ = _; rw [mostR, hk]; rfl
    go_wp2
    exact bodyPost_ret (v := .tuple #[.int .i64 0, .agg #[.bool false, .int .i64 0, .string ⟨#[]⟩, .int .i64 0]]) (by simp [results, Try.results28, go_sem, z0, z1, z2, z3]) rfl ⟨by rw [HH.out]; rfl, by repeat' (first | exact hbel1 | refine below_set ?_ (Nat.le_refl _))⟩
  · have HH : Hid (mostR t L = mostL t L L) := by show _ = _; rw [mostR, hk]; rfl
    clear hk
    have hN := Blk.new' w1 33 #[.bool false, .int .i64 0, .string ⟨#[]⟩, .int .i64 0]
    have zf := fun j => hN.frozen j
    have z0 := hN.cellAt 0 rfl
    have z1 := hN.cellAt 1 rfl
    have z2 := hN.cellAt 2 rfl
    have z3 := hN.cellAt 3 rfl
    go_wp2_with fail
    clear zf z0 z1 z2 z3
    go_loopw [6, 19] (fun a b wr => ∃ (i k : Nat) (at_ : Rk), b = .int .i64 (i : Int) ∧ a = .int .i64 (k : Int) ∧ i ≤ n ∧ k ≤ n ∧ Blk wr w1.heap.size 33 (rankC at_) ∧ Hid ((k, at_) = mostL t L (L.take i)) ∧ Below w1.heap.size w1 wr) (fun _ b _ => n - (intOf b).toNat)
    case atStart => exact ⟨0, 0, zeroR, rfl, rfl, by omega, by omega, hN, rfl, (Below.refl _ _).alloc (Nat.le_refl _) _⟩
    case round =>
      clear hN
      obtain ⟨i, k, at_, rfl, rfl, hi, hk, hO, HK, hb⟩ := hrel
      by_cases hin : i < n
      · obtain ⟨p, hp⟩ : ∃ p, L[i]? = some p := ⟨_, List.getElem?_eq_getElem (by rw [HN.out]; exact hin)⟩
        obtain ⟨ad, rfl, hadb, c0, c1, c2, c3, c4, c5, c6, c7⟩ := (hr1.call hb).range hp
        have HP := Lib.hid hp
        have hsl := stabR_le t L p.lo
        rw [HN.out] at hsl
        have HY := fun h => mostS_yes (t := t) (L := L) (k := k) (at_ := at_) (r := p) h
        have HX := fun h => mostS_no (t := t) (L := L) (k := k) (at_ := at_) (r := p) h
        have HP2 := Lib.hid (mostL_next (t := t) (L := L) hp)
        rw [← HK.out] at HP2
        obtain ⟨⟨⟨cn, ci, cz⟩, cq⟩, ⟨⟨dn, di, dz⟩, dq⟩⟩ := p
        obtain ⟨⟨an, ai, az⟩, aq⟩ := at_
        dsimp only at HY HX hsl
        clear hp
        go_wp2_with fail
        refine (stab0_any t _ n c L ⟨⟨cn, ci, cz⟩, cq⟩ _ ((hr1.call hb).call ((Below.refl wr.heap.size wr).alloc (Nat.le_refl _) _)) HN.out hm).mono ?_; rintro e w2 ⟨rfl, hb1⟩
        have hR2 := (Blk.new' wr 37 #[.bool cn, .int .i64 ci, .string cz, .int .i64 cq, .bool dn, .int .i64 di, .string dz, .int .i64 dq]).call hb1
        have hO2 := (hO.alloc (.cells #[.bool cn, .int .i64 ci, .string cz, .int .i64 cq, .bool dn, .int .i64 di, .string dz, .int .i64 dq] 37)).call hb1
        have hb2 := bt (bt hb ((Below.refl wr.heap.size wr).alloc (Nat.le_refl _) _)) hb1
        have hne : wr.heap.size ≠ w1.heap.size := by have := hO.lt; omega
        have of := fun j => hO2.frozen j
        have o0 := hO2.cellAt 0 rfl
        have o1 := hO2.cellAt 1 rfl
        have o2 := hO2.cellAt 2 rfl
        have o3 := hO2.cellAt 3 rfl
        have rf := fun j => hR2.frozen j
        have r0 := hR2.cellAt 0 rfl
        have r1 := hR2.cellAt 1 rfl
        have r2 := hR2.cellAt 2 rfl
        have r3 := hR2.cellAt 3 rfl
        generalize stabR t L ⟨⟨cn, ci, cz⟩, cq⟩ = s at *
        rcases (show k < s ∨ s = k ∨ s < k by omega) with h1 | h1 | h1
        · have HZ := Lib.hid (HY (.inl h1))
          clear HY HX
          have hd : decide ((k : Int) < (s : Int)) = true := by simpa using h1
          go_wp2
          go_region
          all_goals (try go_wp2)
          exact ⟨⟨i + 1, s, ⟨⟨cn, ci, cz⟩, cq⟩, by go_num, rfl, by omega, by omega, ((((hO2.set_ 0 (.bool cn)).set_ 1 (.int .i64 ci)).set_ 2 (.string cz)).set_ 3 (.int .i64 cq)).drew, by show _ = _; rw [HP2.out, HZ.out], by repeat' (first | exact hb2 | refine below_set ?_ (Nat.le_refl _) | refine Below.drew ?_)⟩, by simp [intOf]; omega⟩
        · have hd : decide ((k : Int) < (s : Int)) = false := by simp only [decide_eq_false_iff_not]; omega
          have hd2 : ((s : Int) == (k : Int)) = true := by simp only [beq_iff_eq]; omega
          by_cases h2 : cmpR t ⟨⟨cn, ci, cz⟩, cq⟩ ⟨⟨an, ai, az⟩, aq⟩ < 0
          · have HZ := Lib.hid (HY (.inr ⟨h1, h2⟩))
            clear HY HX
            go_wp2_with fail
            refine (cmp_rank t ⟨⟨cn, ci, cz⟩, cq⟩ ⟨⟨an, ai, az⟩, aq⟩ _).mono ?_; rintro e w3 ⟨rfl, hb4⟩
            have hR3 := hR2.call hb4
            have hO3 := hO2.call hb4
            have hb3 := hb2.trans (hb4.mono hb2.size)
            clear of o0 o1 o2 o3 rf r0 r1 r2 r3
            have of := fun j => hO3.frozen j
            have o0 := hO3.cellAt 0 rfl
            have o1 := hO3.cellAt 1 rfl
            have o2 := hO3.cellAt 2 rfl
            have o3 := hO3.cellAt 3 rfl
            have rf := fun j => hR3.frozen j
            have r0 := hR3.cellAt 0 rfl
            have r1 := hR3.cellAt 1 rfl
            have r2 := hR3.cellAt 2 rfl
            have r3 := hR3.cellAt 3 rfl
            go_wp2
            go_region
            all_goals (try go_wp2)
            exact ⟨⟨i + 1, s, ⟨⟨cn, ci, cz⟩, cq⟩, by go_num, by rw [h1], by omega, by omega, ((((hO3.set_ 0 (.bool cn)).set_ 1 (.int .i64 ci)).set_ 2 (.string cz)).set_ 3 (.int .i64 cq)).drew, by show _ = _; rw [HP2.out, HZ.out], by repeat' (first | exact hb3 | refine below_set ?_ (Nat.le_refl _) | refine Below.drew ?_)⟩, by simp [intOf]; omega⟩
          · have HZ := Lib.hid (HX (by omega))
            clear HY HX
            go_wp2_with fail
            refine (cmp_rank t ⟨⟨cn, ci, cz⟩, cq⟩ ⟨⟨an, ai, az⟩, aq⟩ _).mono ?_; rintro e w3 ⟨rfl, hb4⟩
            have hR3 := hR2.call hb4
            have hO3 := hO2.call hb4
            have hb3 := hb2.trans (hb4.mono hb2.size)
            go_wp2
            go_roundw
            case rel => exact ⟨i + 1, k, ⟨⟨an, ai, az⟩, aq⟩, by go_num, rfl, by omega, hk, hO3, by show _ = _; rw [HP2.out, HZ.out], hb3⟩
            case measure => simp [intOf]; omega
        · have hd : decide ((k : Int) < (s : Int)) = false := by simp only [decide_eq_false_iff_not]; omega
          have hd2 : ((s : Int) == (k : Int)) = false := by simp only [beq_eq_false_iff_ne]; omega
          have HZ := Lib.hid (HX (by omega))
          clear HY HX
          go_wp2
          go_roundw
          case rel => exact ⟨i + 1, k, ⟨⟨an, ai, az⟩, aq⟩, by go_num, rfl, by omega, hk, hO2, by show _ = _; rw [HP2.out, HZ.out], hb2⟩
          case measure => simp [intOf]; omega
      · have hin2 : i = n := by omega
        subst hin2
        obtain ⟨⟨an, ai, az⟩, aq⟩ := at_
        have hZ2 := hZ1.below hb hlt1
        have of := fun j => hO.frozen j
        have o0 := hO.cellAt 0 rfl
        have o1 := hO.cellAt 1 rfl
        have o2 := hO.cellAt 2 rfl
        have o3 := hO.cellAt 3 rfl
        have zf := fun j => hZ2.frozen j
        have z0 := hZ2.cellAt 0 rfl
        have z1 := hZ2.cellAt 1 rfl
        have z2 := hZ2.cellAt 2 rfl
        have z3 := hZ2.cellAt 3 rfl
        rw [show List.take i L = L by rw [← HN.out, List.take_length]] at HK
        go_wp2
        go_region
        all_goals (try go_wp2)
        exact bodyPost_ret (v := .tuple #[.int .i64 (k : Int), .agg #[.bool an, .int .i64 ai, .string az, .int .i64 aq]]) (by simp [results, Try.results28, go_sem, z0, z1, z2, z3]) rfl ⟨by rw [HH.out, ← HK.out], by repeat' (first | exact bt hbel1 hb | refine below_set ?_ (Nat.le_refl _) | refine Below.drew ?_)⟩

end Go.Proofs.Yteknnphjkldehaa
