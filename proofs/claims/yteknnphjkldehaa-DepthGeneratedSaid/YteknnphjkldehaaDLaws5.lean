/-
  The walks of the laws of layer 27, fifth part: generated ranges of which one may have its ends exchanged.
-/
import Derived.Test.YteknnphjkldehaaDAgree
import Derived.Test.YteknnphjkldehaaDPlain2
import Derived.Test.YteknnphjkldehaaDList
namespace Go.Proofs.Yteknnphjkldehaa
open Go.RowKit

theorem tdiv12 {x : Int} (h : -9223372036854775808 ≤ x ∧ x ≤ 9223372036854775807) : -9223372036854775808 ≤ x.tdiv 12 ∧ x.tdiv 12 ≤ 9223372036854775807 := by
  rcases Int.le_total 0 x with h0 | h0
  · rw [Int.tdiv_eq_ediv_of_nonneg h0]; omega
  · have e : x.tdiv 12 = -((-x).tdiv 12) := by rw [Int.neg_tdiv]; omega
    rw [e, Int.tdiv_eq_ediv_of_nonneg (by omega)]; omega
theorem add_mk (b o k : Nat) : (⟨b, o, none⟩ : Addr).add k = ⟨b, o + k, none⟩ := by unfold Addr.add; split <;> simp_all
theorem rd_drew {w : World} {B : Nat} {A : Option Addr} {xs : List Value} (h : Rd w B A xs) : Rd w.drew B A xs := h
theorem drew_size (w : World) : w.drew.heap.size = w.heap.size := rfl
set_option maxRecDepth 100000 in
set_option maxHeartbeats 1000000 in
theorem walk_DepthGenerated (A : Option Addr) (n c : Nat) (zs : List Int) (x k : Int) (swap : Bool) (w : World)
    (hr : Rd w w.heap.size A (zs.map Iv)) (hn : zs.length = n) (hz : ∀ z ∈ zs, (Lit.int .i64 z).wf = true) (_hc : n ≤ c) (hb : n * 8 ≤ 140737488351232)
    (wx : (Lit.int .i64 x).wf = true) (_wk : (Lit.int .i64 k).wf = true) :
    Calls Try.prog 9 #[.slice A n c, .int .i64 x, .int .i64 k, .bool swap] w fun e w' => e = .returned (.bool true) ∧ Below w.heap.size w w' := by
  have HZ := Lib.hid (wf_i64s hz)
  have HN := Lib.hid hn
  have hx := wf_i64 wx
  unfold I64 at hx
  have hq := IntWalk.i64_in (x.tdiv 12) (tdiv12 hx)
  clear hz hn _hc wx
  go_enter Try.func9, Try.ntmps9
  go_wp2_with fail
  refine (ranges_any A n c 8 zs _ hr HN.out HZ.out (by omega) (by omega)).mono ?_; rintro e w1 ⟨v1, r, rfl, ho1, hg1, hl1, hb1⟩
  obtain ⟨B1, d1, rfl, hd1⟩ := own_form ho1
  have hx1 := Rd.of_own ho1
  clear hr hg1
  go_wp2_with fail
  refine (pick_any x 12 _ (by omega) (by omega)).mono ?_; rintro e w2 ⟨rfl, rfl⟩
  go_wp2_with fail
  refine (pick_any _ 3 _ (by omega) (by omega)).mono ?_; rintro e w2 ⟨rfl, rfl⟩
  generalize pickN x 12 = p1 at *
  generalize pickN (x.tdiv 12) 3 = p2 at *
  have hP := Blk.new' w1 33 #[.bool false, .int .i64 (p1 : Int), .string ⟨#[]⟩, .int .i64 (p2 : Int)]
  have hbA := bt hb1 ((Below.refl _ _).alloc (Nat.le_refl _) (.cells #[.bool false, .int .i64 (p1 : Int), .string ⟨#[]⟩, .int .i64 (p2 : Int)] 33))
  have hxA := hx1.call ((Below.refl _ _).alloc (Nat.le_refl _) (.cells #[.bool false, .int .i64 (p1 : Int), .string ⟨#[]⟩, .int .i64 (p2 : Int)] 33))
  have hoA := ho1.alloc (.cells #[.bool false, .int .i64 (p1 : Int), .string ⟨#[]⟩, .int .i64 (p2 : Int)] 33)
  clear hx1
  go_upto_region 3 with fail
  generalize w1.alloc (.cells #[.bool false, .int .i64 (p1 : Int), .string ⟨#[]⟩, .int .i64 (p2 : Int)] 33) = wa at *
  cases swap
  · go_wp2_with fail
    refine (awake27 _).mono ?_; rintro e w7 ⟨rfl, hb7⟩
    have hP7 := hP.call hb7
    have o0 := hP7.cellAt 0 rfl
    have o1 := hP7.cellAt 1 rfl
    have o2 := hP7.cellAt 2 rfl
    have o3 := hP7.cellAt 3 rfl
    go_wp2_with fail
    refine (agrees_any 1 B1 _ d1 r ⟨⟨false, p1, ⟨#[]⟩⟩, p2⟩ _ (hxA.call hb7) (by first | assumption | rfl | simp) (by omega) hd1).mono ?_; rintro e w8 ⟨rfl, hb8⟩
    go_wp2
    go_ret
    exact ⟨ret_bool (by first | rfl | (simp; done)), bt (bt hbA hb7) hb8⟩
  · by_cases hpos : 0 < r.length
    · have hpp : decide ((0 : Int) < (r.length : Int)) = true := by simp only [decide_eq_true_eq]; omega
      obtain ⟨g, rfl, hg0, hglt, hgf, hgc⟩ := own_blockK hoA hpos
      go_wp2_with fail
      refine (pick_any k r.length _ hpos (by omega)).mono ?_; rintro e w2 ⟨rfl, rfl⟩
      have hjl := pickN_lt k hpos
      generalize pickN k r.length = j at *
      obtain ⟨q, hq⟩ : ∃ q, r[j]? = some q := ⟨_, List.getElem?_eq_getElem hjl⟩
      obtain ⟨ae, e0, hadb, c0, c1, c2, c3, c4, c5, c6, c7⟩ := hxA.range hq
      cases e0
      simp only [add_mk, Nat.zero_add] at c0 c1 c2 c3 c4 c5 c6 c7
      obtain ⟨⟨⟨an, ai, az⟩, aq⟩, ⟨⟨bn, bi, bz⟩, bq⟩⟩ := q
      dsimp only at c0 c1 c2 c3 c4 c5 c6 c7
      go_wp2_with fail
      go_region
      have hg1 : g < w1.heap.size := (ho1.lt g rfl).2
      have hgne : w1.heap.size ≠ g := by omega
      have hxB : Rd (put8 wa g (j * 8) (.bool bn) (.int .i64 bi) (.string bz) (.int .i64 bq) (.bool an) (.int .i64 ai) (.string az) (.int .i64 aq)).drew wa.heap.size (some ⟨g, 0, none⟩) ((r.set j ⟨⟨⟨bn, bi, bz⟩, bq⟩, ⟨⟨an, ai, az⟩, aq⟩⟩).flatMap rangeC) := by
        rw [← sets8_at r j ⟨⟨⟨bn, bi, bz⟩, bq⟩, ⟨⟨an, ai, az⟩, aq⟩⟩ hjl]
        exact rd_drew (put8_rd hxA (by rw [flat_len (k := 8) (fun _ => rfl)]; omega))
      have hPB := (put8_blk (k := j * 8) (a := .bool bn) (b := .int .i64 bi) (c := .string bz) (d := .int .i64 bq) (e := .bool an) (f := .int .i64 ai) (x := .string az) (y := .int .i64 aq) hP hgne).drew
      have hbB := (put8_below (k := j * 8) (a := .bool bn) (b := .int .i64 bi) (c := .string bz) (d := .int .i64 bq) (e := .bool an) (f := .int .i64 ai) (x := .string az) (y := .int .i64 aq) hbA hg0).drew
      have hsz : wa.heap.size ≤ (put8 wa g (j * 8) (.bool bn) (.int .i64 bi) (.string bz) (.int .i64 bq) (.bool an) (.int .i64 ai) (.string az) (.int .i64 aq)).drew.heap.size := by rw [drew_size, put8_size]; exact Nat.le_refl _
      have hxC := hxB.more hsz
      clear hxB hsz hP hbA hxA hoA hgf hgc c0 c1 c2 c3 c4 c5 c6 c7
      dsimp only [put8] at hxC hPB hbB
      generalize ((((((((wa.setCell ⟨g, j * 8, none⟩ (.bool bn)).setCell ⟨g, j * 8 + 1, none⟩ (.int .i64 bi)).setCell ⟨g, j * 8 + 2, none⟩ (.string bz)).setCell ⟨g, j * 8 + 3, none⟩ (.int .i64 bq)).setCell ⟨g, j * 8 + 4, none⟩ (.bool an)).setCell ⟨g, j * 8 + 4 + 1, none⟩ (.int .i64 ai)).setCell ⟨g, j * 8 + 4 + 2, none⟩ (.string az)).setCell ⟨g, j * 8 + 4 + 3, none⟩ (.int .i64 aq)).drew = wz at *
      generalize hLL : r.set j ⟨⟨⟨bn, bi, bz⟩, bq⟩, ⟨⟨an, ai, az⟩, aq⟩⟩ = L at *
      have hlen : L.length = r.length := by rw [← hLL, List.length_set]
      clear hLL
      go_wp2_with fail
      refine (awake27 _).mono ?_; rintro e w7 ⟨rfl, hb7⟩
      have hP7 := hPB.call hb7
      have o0 := hP7.cellAt 0 rfl
      have o1 := hP7.cellAt 1 rfl
      have o2 := hP7.cellAt 2 rfl
      have o3 := hP7.cellAt 3 rfl
      go_wp2_with fail
      refine (agrees_any 1 (some ⟨g, 0, none⟩) _ d1 L ⟨⟨false, p1, ⟨#[]⟩⟩, p2⟩ _ (hxC.call hb7) (by first | assumption | rfl | simp) (by omega) hd1).mono ?_; rintro e w8 ⟨rfl, hb8⟩
      go_wp2
      go_ret
      exact ⟨ret_bool (by first | rfl | (simp; done)), bt (bt hbB hb7) hb8⟩
    · have hr0 : r = [] := List.eq_nil_of_length_eq_zero (by omega)
      subst hr0
      go_wp2_with fail
      refine (awake27 _).mono ?_; rintro e w7 ⟨rfl, hb7⟩
      have hP7 := hP.call hb7
      have o0 := hP7.cellAt 0 rfl
      have o1 := hP7.cellAt 1 rfl
      have o2 := hP7.cellAt 2 rfl
      have o3 := hP7.cellAt 3 rfl
      go_wp2_with fail
      refine (agrees_any 1 B1 _ d1 ([] : List Rg) ⟨⟨false, p1, ⟨#[]⟩⟩, p2⟩ _ (hxA.call hb7) (by first | assumption | rfl | simp) (by omega) hd1).mono ?_; rintro e w8 ⟨rfl, hb8⟩
      go_wp2
      go_ret
      exact ⟨ret_bool (by first | rfl | (simp; done)), bt (bt hbA hb7) hb8⟩

end Go.Proofs.Yteknnphjkldehaa
