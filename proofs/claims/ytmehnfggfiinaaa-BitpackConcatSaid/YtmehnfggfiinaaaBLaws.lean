/-
  The walks of the laws of layer 2: each law returns true, whatever its arguments, and writes nothing that was there.
-/
import Derived.Test.YtmehnfggfiinaaaBSame
import Derived.Test.YtmehnfggfiinaaaBPlain2
namespace Go.Proofs.Ytmehnfggfiinaaa
open Go.RowKit

set_option maxRecDepth 100000 in
set_option maxHeartbeats 400000 in
theorem walk_BitpackWidths (v s n k : Int) (w : World) (wv : (Lit.int .u64 v).wf = true) (ws : (Lit.int .u8 s).wf = true) (_wn : (Lit.int .i64 n).wf = true) (_wk : (Lit.int .i64 k).wf = true) :
    Calls Try.prog 4 #[.int .u64 v, .int .u8 s, .int .i64 n, .int .i64 k] w fun e w' => e = .returned (.bool true) ∧ Below w.heap.size w w' := by
  obtain ⟨v, rfl, hv⟩ := wf_u64 wv
  obtain ⟨s, rfl, hs⟩ := wf_u8 ws
  clear wv ws _wn _wk
  have e0 : (v : Int) / 2 ^ (s % 64) = ((v / 2 ^ (s % 64) : Nat) : Int) := by simp
  have hx : U64 (v / 2 ^ (s % 64)) := Nat.lt_of_le_of_lt (Nat.div_le_self _ _) hv
  have E0 := Lib.hid e0
  clear e0
  go_enter Try.func4, Try.ntmps4
  go_wp2_with fail
  rw [E0.out]
  generalize v / 2 ^ (s % 64) = x at *
  refine (pick_any n 4099 _ (by omega) (by omega)).mono ?_; rintro e w0 ⟨rfl, rfl⟩
  go_wp2_with fail
  refine (pick_any k 68 _ (by omega) (by omega)).mono ?_; rintro e w0 ⟨rfl, rfl⟩
  have hp1 := pickN_lt n (show 0 < 4099 by omega)
  have hp2 := pickN_lt k (show 0 < 68 by omega)
  generalize pickN n 4099 = p at *
  generalize pickN k 68 = q at *
  go_wp2_with fail
  refine (awake2 _).mono ?_; rintro e w1 ⟨rfl, hb1⟩
  go_wp2_with fail
  refine (width_any x _ hx).mono ?_; rintro e w0 ⟨rfl, rfl⟩
  go_wp2_with fail
  refine (rwidth_any x _ hx).mono ?_; rintro e w0 ⟨rfl, rfl⟩
  go_wp2_with fail
  refine (need_any n k _).mono ?_; rintro e w0 ⟨rfl, rfl⟩
  go_wp2_with fail
  refine (rneed_any n k _).mono ?_; rintro e w0 ⟨rfl, rfl⟩
  go_wp2_with fail
  refine (need_any _ _ _).mono ?_; rintro e w0 ⟨rfl, rfl⟩
  go_wp2_with fail
  refine (rneed_any _ _ _).mono ?_; rintro e w0 ⟨rfl, rfl⟩
  go_wp2
  go_ret
  exact ⟨ret_bool (by first | rfl | (simp; done)), hb1⟩


set_option maxRecDepth 100000 in
set_option maxHeartbeats 400000 in
theorem walk_BitpackRoundTrip (A : Option Addr) (n c : Nat) (zs : List Int) (k : Int) (w : World) (hr : Rd w w.heap.size A (zs.map Iv)) (hn : zs.length = n) (_hz : ∀ z ∈ zs, (Lit.int .i64 z).wf = true) (_hc : n ≤ c) (hb : n * 8 ≤ 140737488351232) (_wk : (Lit.int .i64 k).wf = true) :
    Calls Try.prog 8 #[.slice A n c, .int .i64 k] w fun e w' => e = .returned (.bool true) ∧ Below w.heap.size w w' := by
  clear _hz _hc _wk
  have HN := Lib.hid hn
  clear hn
  go_enter Try.func8, Try.ntmps8
  go_wp2_with fail
  refine (pick_any k 65 _ (by omega) (by omega)).mono ?_; rintro e w0 ⟨rfl, rfl⟩
  have hp1 := pickN_lt k (show 0 < 65 by omega)
  generalize pickN k 65 = q at *
  go_wp2_with fail
  refine (numbers_any _ _ _ _ _ _ hr HN.out (by omega) (by omega)).mono ?_
  rintro e w1 ⟨v1, x1, rfl, ho1, hU1, hW1, hL1, hb1⟩
  obtain ⟨B1, d1, rfl, hd1⟩ := own_form ho1
  have hx1 := Rd.of_own ho1
  have HU1 := Lib.hid hU1
  have HW1 := Lib.hid hW1
  clear ho1 hU1 hW1
  have hx100 : x1.length ≤ 100 := by omega
  have HL1 := Lib.hid hL1
  clear hL1
  go_wp2_with fail
  refine (pack_any B1 _ d1 q x1 _ hx1 rfl HU1.out).mono ?_; rintro e w2 ⟨rfl, hb2⟩
  rw [packR_ok (by omega) (by omega) HW1.out]
  have hx2 := hx1.call hb2
  go_wp2_with fail
  refine (unpack_any _ x1.length q _).mono ?_; rintro e w3 ⟨v3, ys, err, rfl, hd3, ho3, hU3, hb3⟩
  rw [show (⟨(packL x1 q).toArray⟩ : ByteArray).data.toList = packL x1 q from rfl, unpackR_pack (by omega) (by omega) HW1.out] at hd3
  cases hd3
  obtain ⟨B3, d3, rfl, _⟩ := own_form ho3
  have hx3 := hx2.call hb3
  have hy3 := Rd.of_own ho3
  clear ho3 hU3
  go_wp2_with fail
  refine (awake2 _).mono ?_; rintro e w4 ⟨rfl, hb4⟩
  have hx4 := hx3.call hb4
  have hy4 := hy3.call hb4
  go_wp2_with fail
  refine (same_u64 _ _ _ _ _ x1 _ hx4 hy4 rfl (by omega)).mono ?_; rintro e w5 ⟨rfl, q5, rfl⟩
  go_wp2_with fail
  have hnd := fun W => need_any x1.length q W
  rw [needN_nat' _ _ (by omega) (by omega)] at hnd
  refine (hnd _).mono ?_; rintro e w0 ⟨rfl, rfl⟩
  have hlen := packL_len x1 q
  go_wp2
  go_ret
  exact ⟨ret_bool (by first | rfl | (simp; done) | (simp [hlen]; done)), below_drewN (bt (bt (bt hb1 hb2) hb3) hb4) _⟩

end Go.Proofs.Ytmehnfggfiinaaa
