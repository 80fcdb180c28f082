/-
  The walks of the laws of layer 30, second part.
-/
import Derived.Test.YtmmnfniebiggpaaPLaws
import Derived.Test.YtmmnfniebiggpaaPPlain
namespace Go.Proofs.Ytmmnfniebiggpaa
open Go.RowKit

set_option maxRecDepth 100000 in
set_option maxHeartbeats 400000 in
theorem walk_PotentialBounds (A : Option Addr) (n c : Nat) (zs : List Int) (A2 : Option Addr) (n2 c2 : Nat) (zs2 : List Int) (w : World)
    (hr : Rd w w.heap.size A (zs.map Iv)) (hn : zs.length = n) (hz : ∀ z ∈ zs, (Lit.int .i64 z).wf = true) (_hc : n ≤ c) (hb : n * 8 ≤ 140737488351232)
    (hr2 : Rd w w.heap.size A2 (zs2.map Iv)) (hn2 : zs2.length = n2) (hz2 : ∀ z ∈ zs2, (Lit.int .i64 z).wf = true) (_hc2 : n2 ≤ c2) (hb2 : n2 * 8 ≤ 140737488351232) :
    Calls Try.prog 4 #[.slice A n c, .slice A2 n2 c2] w fun e w' => e = .returned (.bool true) ∧ Below w.heap.size w w' := by
  have HZ := Lib.hid (wf_i64s hz)
  have HZ2 := Lib.hid (wf_i64s hz2)
  have HN := Lib.hid hn
  have HN2 := Lib.hid hn2
  clear hz hz2 hn hn2 _hc _hc2
  go_enter Try.func4, Try.ntmps4
  go_wp2_with fail
  refine (ranges_any A n c 6 zs _ hr HN.out HZ.out (by omega) (by omega)).mono ?_; rintro e w1 ⟨v1, r, rfl, ho1, _, hl1, hb1⟩
  obtain ⟨B1, d1, rfl, _⟩ := own_form ho1
  have hx1 := Rd.of_own ho1
  have hr2b := hr2.call hb1
  clear ho1 hr hr2
  go_wp2_with fail
  refine (ranks_any A2 n2 c2 12 zs2 _ hr2b HN2.out HZ2.out (by omega) (by omega)).mono ?_; rintro e w2 ⟨v2, p, rfl, ho2, _, hl2, hb2'⟩
  obtain ⟨B2, d2, rfl, _⟩ := own_form ho2
  have hx2 := Rd.of_own ho2
  have hx1b := hx1.call hb2'
  clear ho2 hx1 hr2b
  have hmul : r.length * p.length ≤ 6 * 12 := Nat.mul_le_mul hl1 hl2
  have hs := psiW_sum 1 p r r.length (by omega)
  have hle := wsum_le 1 p r
  go_wp2_with fail
  refine (psi_any 1 B1 _ d1 r B2 _ d2 p _ hx1b rfl (by omega) hx2 rfl (by omega)).mono ?_; rintro e w3 ⟨rfl, hb3⟩
  rw [hs]
  generalize wsum 1 p r = s at *
  have hmulI : (r.length : Int) * ((p.length : Int) + 1) = ((r.length * p.length + r.length : Nat) : Int) := by
    rw [Int.mul_add, Int.mul_one]; simp
  go_wp2_with fail
  refine (awake30 _).mono ?_; rintro e w4 ⟨rfl, hb4⟩
  go_wp2
  go_ret
  exact ⟨ret_bool (by first | rfl | (simp; done) | (simp; omega)), bt (bt (bt hb1 hb2') hb3) hb4⟩

end Go.Proofs.Ytmmnfniebiggpaa
