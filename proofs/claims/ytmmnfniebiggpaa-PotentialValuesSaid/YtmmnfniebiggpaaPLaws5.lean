/-
  The walk of PotentialValues.
-/
import Derived.Test.YtmmnfniebiggpaaPAgree
namespace Go.Proofs.Ytmmnfniebiggpaa
open Go.RowKit

set_option maxRecDepth 100000 in
set_option maxHeartbeats 2000000 in
theorem walk_PotentialValues (t : Int) (g : Rg) (A2 : Option Addr) (n2 c2 : Nat) (L2 : List Rg) (A3 : Option Addr) (n3 c3 : Nat) (L3 : List Rk) (A4 : Option Addr) (n4 c4 : Nat) (zs4 : List Int) (A5 : Option Addr) (n5 c5 : Nat) (zs5 : List Int) (w : World)
    (hr2 : Rd w w.heap.size A2 (L2.flatMap rangeC)) (hn2 : L2.length = n2) (hm2 : n2 ≤ 17592186044416) (hc2 : n2 ≤ c2)
    (hr3 : Rd w w.heap.size A3 (L3.flatMap rankC)) (hn3 : L3.length = n3) (hm3 : n3 ≤ 17592186044416) (_hc3 : n3 ≤ c3)
    (hr4 : Rd w w.heap.size A4 (zs4.map Iv)) (hn4 : zs4.length = n4) (hz4 : ∀ z ∈ zs4, (Lit.int .i64 z).wf = true) (_hc4 : n4 ≤ c4) (hb4 : n4 * 8 ≤ 140737488351232)
    (hr5 : Rd w w.heap.size A5 (zs5.map Iv)) (hn5 : zs5.length = n5) (hz5 : ∀ z ∈ zs5, (Lit.int .i64 z).wf = true) (_hc5 : n5 ≤ c5) (hb5 : n5 * 8 ≤ 140737488351232) :
    Calls Try.prog 8 #[.int .i64 t, Gv g, .slice A2 n2 c2, .slice A3 n3 c3, .slice A4 n4 c4, .slice A5 n5 c5] w fun e w' => e = .returned (.bool true) ∧ Below w.heap.size w w' := by
  obtain ⟨⟨⟨pn, pi, pz⟩, pq⟩, ⟨⟨rn, ri, rz⟩, rq⟩⟩ := g
  have HN2 := Lib.hid hn2
  have HN3 := Lib.hid hn3
  have HN4 := Lib.hid hn4
  have HN5 := Lib.hid hn5
  have HZ4 := Lib.hid (wf_i64s hz4)
  have HZ5 := Lib.hid (wf_i64s hz5)
  clear hz4 hz5 hn2 hn3 hn4 hn5 _hc3 _hc4 _hc5
  dsimp only [Gv]
  have hP := Blk.new' w 41 #[.bool pn, .int .i64 pi, .string pz, .int .i64 pq, .bool rn, .int .i64 ri, .string rz, .int .i64 rq]
  have hbel : Below w.heap.size w (w.alloc (.cells #[.bool pn, .int .i64 pi, .string pz, .int .i64 pq, .bool rn, .int .i64 ri, .string rz, .int .i64 rq] 41)) := (Below.refl _ _).alloc (Nat.le_refl _) _
  have ha2 := hr2.call hbel
  have ha3 := hr3.call hbel
  have ha4 := hr4.call hbel
  have ha5 := hr5.call hbel
  clear hr2 hr3 hr4 hr5
  go_enter Try.func8, Try.ntmps8
  go_wp2_with fail
  generalize w.alloc (.cells #[.bool pn, .int .i64 pi, .string pz, .int .i64 pq, .bool rn, .int .i64 ri, .string rz, .int .i64 rq] 41) = wa at *
  refine (ranges_any A4 n4 c4 6 zs4 _ ha4 HN4.out HZ4.out (by omega) (by omega)).mono ?_; rintro e w1 ⟨v1, x, rfl, ho1, _, hl1, hb1⟩
  obtain ⟨B1, d1, rfl, hd1⟩ := own_form ho1
  have hx1 := Rd.of_own ho1
  have hP1 := hP.call hb1
  have hb2 := ha2.call hb1
  have hb3 := ha3.call hb1
  have hb5' := ha5.call hb1
  have hbl1 := bt hbel hb1
  clear ho1 ha2 ha3 ha4 ha5 hP hbel hb1
  go_wp2_with fail
  refine (ranks_any A5 n5 c5 12 zs5 _ hb5' HN5.out HZ5.out (by omega) (by omega)).mono ?_; rintro e w2 ⟨v2, y, rfl, ho2, _, hl2, hbb⟩
  obtain ⟨B2, d2, rfl, _⟩ := own_form ho2
  have hy2 := Rd.of_own ho2
  have hx2 := hx1.call hbb
  have hP2 := hP1.call hbb
  have hc2' := hb2.call hbb
  have hc3' := hb3.call hbb
  have hbl2 := bt hbl1 hbb
  clear ho2 hx1 hP1 hb2 hb3 hb5' hbl1 hbb
  go_wp2_with fail
  refine (awake30 _).mono ?_; rintro e w3 ⟨rfl, hbb⟩
  have hP3 := hP2.call hbb
  have hx3 := hx2.call hbb
  have hy3 := hy2.call hbb
  have hd2' := hc2'.call hbb
  have hd3 := hc3'.call hbb
  have hbl3 := bt hbl2 hbb
  clear hP2 hx2 hy2 hc2' hc3' hbl2 hbb
  have o0 := hP3.cellAt 0 rfl
  have o1 := hP3.cellAt 1 rfl
  have o2 := hP3.cellAt 2 rfl
  have o3 := hP3.cellAt 3 rfl
  have o4 := hP3.cellAt 4 rfl
  have o5 := hP3.cellAt 5 rfl
  have o6 := hP3.cellAt 6 rfl
  have o7 := hP3.cellAt 7 rfl
  go_wp2_with fail
  refine (agrees_any t ⟨⟨⟨pn, pi, pz⟩, pq⟩, ⟨⟨rn, ri, rz⟩, rq⟩⟩ A2 n2 c2 L2 A3 n3 c3 L3 _ hd2' HN2.out hm2 hc2 hd3 HN3.out hm3).mono ?_; rintro e w4 ⟨rfl, hbb⟩
  have hP4 := hP3.call hbb
  have hx4 := hx3.call hbb
  have hy4 := hy3.call hbb
  have hbl4 := bt hbl3 hbb
  clear hP3 hx3 hy3 hbl3 hbb hd2' hd3 o0 o1 o2 o3 o4 o5 o6 o7
  have o0 := hP4.cellAt 0 rfl
  have o1 := hP4.cellAt 1 rfl
  have o2 := hP4.cellAt 2 rfl
  have o3 := hP4.cellAt 3 rfl
  have o4 := hP4.cellAt 4 rfl
  have o5 := hP4.cellAt 5 rfl
  have o6 := hP4.cellAt 6 rfl
  have o7 := hP4.cellAt 7 rfl
  go_wp2_with fail
  refine (agrees_any 1 ⟨⟨⟨pn, pi, pz⟩, pq⟩, ⟨⟨rn, ri, rz⟩, rq⟩⟩ B1 _ d1 x B2 _ d2 y _ hx4 rfl (by omega) hd1 hy4 rfl (by omega)).mono ?_; rintro e w5 ⟨rfl, hbb⟩
  have hx5 := hx4.call hbb
  have hy5 := hy4.call hbb
  have hbl5 := bt hbl4 hbb
  clear hP4 hx4 hy4 hbl4 hbb o0 o1 o2 o3 o4 o5 o6 o7
  cases x with
  | nil =>
    go_wp2
    go_ret
    exact ⟨ret_bool (by first | rfl | (simp; done)), hbl5⟩
  | cons a X =>
    have hpos : 0 < (a :: X).length := by simp
    have hq : (((a :: X).length : Int) == 0) = false := by simp only [beq_eq_false_iff_ne]; omega
    obtain ⟨ad, rfl, hadb, c0, c1, c2', c3', c4', c5', c6, c7⟩ := hx5.range (i := 0) (p := a) rfl
    rw [show ad.add (0 * 8) = ad by simp [Addr.add]] at c0 c1 c2' c3' c4' c5' c6 c7
    obtain ⟨⟨⟨an, ai, az⟩, aq⟩, ⟨⟨bn, bi, bz⟩, bq⟩⟩ := a
    generalize hxx : (⟨⟨⟨an, ai, az⟩, aq⟩, ⟨⟨bn, bi, bz⟩, bq⟩⟩ :: X : List Rg) = x at *
    clear hxx
    go_wp2_with fail
    refine (agrees_any 1 ⟨⟨⟨an, ai, az⟩, aq⟩, ⟨⟨bn, bi, bz⟩, bq⟩⟩ _ _ d1 x B2 _ d2 y _ hx5 rfl (by omega) hd1 hy5 rfl (by omega)).mono ?_; rintro e w6 ⟨rfl, hbb⟩
    go_wp2
    go_ret
    exact ⟨ret_bool (by first | rfl | (simp; done)), bt hbl5 hbb⟩

end Go.Proofs.Ytmmnfniebiggpaa
