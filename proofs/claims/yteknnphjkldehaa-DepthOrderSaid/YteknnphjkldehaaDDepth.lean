/-
  Depth, Peak and Disjoint of layer 27 in the code; Depth in the reference.
-/
import Derived.Test.YteknnphjkldehaaDMost
namespace Go.Proofs.Yteknnphjkldehaa
open Go.RowKit

def depS (t : Int) (L : List Rg) (d : Nat) (r : Rg) : Nat := max d (stabC t L r.lo)
def depF (t : Int) (L X : List Rg) : Nat := X.foldl (depS t L) 0
def depthC (t : Int) (L : List Rg) : Nat := if chkR t L then depF t L L else 0
theorem depF_next {t : Int} {L X : List Rg} {i : Nat} {p : Rg} (hp : X[i]? = some p) : depF t L (X.take (i + 1)) = max (depF t L (X.take i)) (stabC t L p.lo) := by
  unfold depF; rw [List.take_add_one, hp, List.foldl_append]; rfl
theorem stabC_le (t : Int) (L : List Rg) (p : Rk) : stabC t L p ≤ L.length := by
  unfold stabC; split
  · exact stabR_le t L p
  · omega
theorem mostL_fst (t : Int) (L : List Rg) : ∀ (X : List Rg) (s : Nat × Rk), s.1 ≤ L.length → (X.foldl (mostS t L) s).1 ≤ L.length
  | [], s, h => h
  | r :: X, s, h => by
    rw [List.foldl_cons]
    refine mostL_fst t L X _ ?_
    unfold mostS
    split
    · exact stabR_le t L _
    · exact h
theorem mostR_le (t : Int) (L : List Rg) : (mostR t L).1 ≤ L.length := by
  unfold mostR
  split
  · exact mostL_fst t L L _ (by simp)
  · simp
theorem depth_ret {a b : Nat} (h : a = b) : Ending.returned (.int .i64 (a : Int)) = .returned (.int .i64 (b : Int)) := by rw [h]

set_option maxRecDepth 100000 in
set_option maxHeartbeats 1000000 in
theorem depth_any (t : Int) (A : Option Addr) (n c : Nat) (L : List Rg) (w : World) (hr : Rd w w.heap.size A (L.flatMap rangeC)) (hn : L.length = n) (hm : n ≤ 17592186044416) :
    Calls Try.prog 14 #[.int .i64 t, .slice A n c] w fun e w' => e = .returned (.int .i64 ((mostR t L).1 : Nat)) ∧ Below w.heap.size w w' := by
  go_enter Try.func14, Try.ntmps14
  go_wp2_with fail
  refine (most_any t A n c L w hr hn hm).mono ?_; rintro e w1 ⟨rfl, hb1⟩
  generalize hmm : mostR t L = m
  obtain ⟨k, ⟨⟨an, ai, az⟩, aq⟩⟩ := m
  have HM := Lib.hid hmm
  clear hmm
  dsimp only [Rv]
  go_wp2
  go_ret
  exact ⟨by rw [HM.out]; rfl, bt hb1 ((Below.refl _ _).alloc (Nat.le_refl _) _)⟩
set_option maxRecDepth 100000 in
set_option maxHeartbeats 1000000 in
theorem disj_any (t : Int) (A : Option Addr) (n c : Nat) (L : List Rg) (w : World) (hr : Rd w w.heap.size A (L.flatMap rangeC)) (hn : L.length = n) (hm : n ≤ 17592186044416) :
    Calls Try.prog 13 #[.int .i64 t, .slice A n c] w fun e w' => e = .returned (.bool (chkR t L && decide ((mostR t L).1 ≤ 1))) ∧ Below w.heap.size w w' := by
  go_enter Try.func13, Try.ntmps13
  go_wp2_with fail
  refine (check_any t A n c L w hr hn hm).mono ?_; rintro e w1 ⟨rfl, hb1⟩
  have hr1 := hr.call hb1
  cases hk : chkR t L
  · have HC := Lib.hid hk
    clear hk
    go_wp2
    go_ret
    exact ⟨by rw [HC.out]; rfl, hb1⟩
  · have HC := Lib.hid hk
    clear hk
    go_wp2_with fail
    refine (depth_any t A n c L w1 hr1 hn hm).mono ?_; rintro e w2 ⟨rfl, hb2⟩
    generalize hmm : (mostR t L).1 = m
    have HM := Lib.hid hmm
    clear hmm
    by_cases hm1 : m ≤ 1
    · go_wp2
      go_ret
      exact ⟨by rw [HC.out, HM.out, Bool.true_and, decide_eq_true hm1, show decide ((m : Int) ≤ 1) = true by (simp only [decide_eq_true_eq]; omega)]; rfl, bt hb1 hb2⟩
    · go_wp2
      go_ret
      exact ⟨by rw [HC.out, HM.out, Bool.true_and, decide_eq_false hm1, show decide ((m : Int) ≤ 1) = false by (simp only [decide_eq_false_iff_not]; omega)]; rfl, bt hb1 hb2⟩
set_option maxRecDepth 100000 in
set_option maxHeartbeats 1000000 in
theorem peak_any (t : Int) (A : Option Addr) (n c : Nat) (L : List Rg) (w : World) (hr : Rd w w.heap.size A (L.flatMap rangeC)) (hn : L.length = n) (hm : n ≤ 17592186044416) :
    Calls Try.prog 15 #[.int .i64 t, .slice A n c] w fun e w' => e = .returned (.tuple #[Rv (mostR t L).2, .bool (decide (0 < (mostR t L).1))]) ∧ Below w.heap.size w w' := by
  have hZ := Blk.new' w 33 #[.bool false, .int .i64 0, .string ⟨#[]⟩, .int .i64 0]
  have hbel : Below w.heap.size w (w.alloc (.cells #[.bool false, .int .i64 0, .string ⟨#[]⟩, .int .i64 0] 33)) := (Below.refl _ _).alloc (Nat.le_refl _) _
  have hra := hr.call hbel
  clear hr
  go_enter Try.func15, Try.ntmps15
  go_wp2_with fail
  generalize w.alloc (.cells #[.bool false, .int .i64 0, .string ⟨#[]⟩, .int .i64 0] 33) = wa at *
  refine (most_any t A n c L wa hra hn hm).mono ?_; rintro e w1 ⟨rfl, hb1⟩
  have hZ1 := hZ.call hb1
  have hbel1 := bt hbel hb1
  generalize hmm : mostR t L = m
  obtain ⟨k, ⟨⟨an, ai, az⟩, aq⟩⟩ := m
  have HM := Lib.hid hmm
  clear hmm
  dsimp only [Rv]
  have hN := Blk.new' w1 33 #[.bool an, .int .i64 ai, .string az, .int .i64 aq]
  have hZ2 := hZ1.alloc (.cells #[.bool an, .int .i64 ai, .string az, .int .i64 aq] 33)
  have hbel2 := bt hbel1 ((Below.refl _ _).alloc (Nat.le_refl _) (.cells #[.bool an, .int .i64 ai, .string az, .int .i64 aq] 33))
  clear hZ hZ1 hbel hbel1 hb1 hra
  go_upto_region 2 with fail
  generalize w1.alloc (.cells #[.bool an, .int .i64 ai, .string az, .int .i64 aq] 33) = w2 at *
  have of := fun j => hN.frozen j
  have o0 := hN.cellAt 0 rfl
  have o1 := hN.cellAt 1 rfl
  have o2 := hN.cellAt 2 rfl
  have o3 := hN.cellAt 3 rfl
  have zf := fun j => hZ2.frozen j
  have z0 := hZ2.cellAt 0 rfl
  have z1 := hZ2.cellAt 1 rfl
  have z2 := hZ2.cellAt 2 rfl
  have z3 := hZ2.cellAt 3 rfl
  go_wp2
  exact bodyPost_ret (v := .tuple #[.agg #[.bool an, .int .i64 ai, .string az, .int .i64 aq], .bool (decide (0 < k))]) (by simp [results, Try.results15, go_sem, z0, z1, z2, z3]) rfl ⟨by rw [HM.out], by repeat' (first | exact hbel2 | refine below_set ?_ (Nat.le_refl _) | refine Below.drew ?_)⟩
set_option maxRecDepth 100000 in
set_option maxHeartbeats 1000000 in
theorem rdepth_any (t : Int) (A : Option Addr) (n c : Nat) (L : List Rg) (w : World) (hr : Rd w w.heap.size A (L.flatMap rangeC)) (hn : L.length = n) (hm : n ≤ 17592186044416) :
    Calls Try.prog 18 #[.int .i64 t, .slice A n c] w fun e w' => e = .returned (.int .i64 (depthC t L : Nat)) ∧ Below w.heap.size w w' := by
  have HN := Lib.hid hn
  clear hn
  go_enter Try.func18, Try.ntmps18
  go_wp2_with fail
  refine (rcheck_any t A n c L w hr HN.out hm).mono ?_; rintro e w1 ⟨rfl, hb1⟩
  have hr1 := hr.call hb1
  cases hk : chkR t L
  · have HC : Hid (depthC t L = 0) := by show _ = _; rw [depthC, hk]; rfl
    go_wp2
    go_ret
    exact ⟨by rw [HC.out]; rfl, hb1⟩
  · have HC : Hid (depthC t L = depF t L L) := by show _ = _; rw [depthC, hk]; rfl
    clear hk hr
    go_wp2_with fail
    go_loopw [5, 14] (fun a b wr => ∃ (i k : Nat), b = .int .i64 (i : Int) ∧ a = .int .i64 (k : Int) ∧ i ≤ n ∧ k ≤ n ∧ Hid (k = depF t L (L.take i)) ∧ Below w1.heap.size w1 wr) (fun _ b _ => n - (intOf b).toNat)
    case atStart => exact ⟨0, 0, rfl, rfl, by omega, by omega, rfl, Below.refl _ _⟩
    case round =>
      obtain ⟨i, k, rfl, rfl, hi, hk, HK, hb⟩ := hrel
      by_cases hin : i < n
      · obtain ⟨p, hp⟩ : ∃ p, L[i]? = some p := ⟨_, List.getElem?_eq_getElem (by rw [HN.out]; exact hin)⟩
        obtain ⟨ad, rfl, hadb, c0, c1, c2, c3, c4, c5, c6, c7⟩ := (hr1.call hb).range hp
        have hsl := stabC_le t L p.lo
        rw [HN.out] at hsl
        have HP := Lib.hid (depF_next (t := t) (L := L) hp)
        rw [← HK.out] at HP
        obtain ⟨⟨⟨an, ai, az⟩, aq⟩, ⟨⟨bn, bi, bz⟩, bq⟩⟩ := p
        dsimp only at HP hsl
        clear hp
        go_wp2_with fail
        refine (rstab_any t _ n c L ⟨⟨an, ai, az⟩, aq⟩ _ ((hr1.call hb).call ((Below.refl wr.heap.size wr).alloc (Nat.le_refl _) _)) HN.out hm).mono ?_; rintro e w2 ⟨rfl, hb2⟩
        have hb3 := bt (bt hb ((Below.refl wr.heap.size wr).alloc (Nat.le_refl _) _)) hb2
        generalize stabC t L ⟨⟨an, ai, az⟩, aq⟩ = s at *
        go_wp2
        go_roundw
        case rel => exact ⟨i + 1, max k s, by go_num, by first | rfl | (congr 1; omega) | (congr 1; simp), by omega, by omega, by show _ = _; rw [HP.out], hb3⟩
        case measure => simp [intOf]; omega
      · have hin2 : i = n := by omega
        subst hin2
        rw [show List.take i L = L by rw [← HN.out, List.take_length]] at HK
        go_wp2
        go_ret
        exact ⟨by rw [HC.out, HK.out]; rfl, bt hb1 hb⟩

end Go.Proofs.Yteknnphjkldehaa
