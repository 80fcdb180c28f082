/-
  The walks of the laws of layer 9: each law returns true, whatever its arguments, and writes nothing that was there.
-/
import Derived.Test.YtgpipjifelfjlaaRSame
namespace Go.Proofs.Ytgpipjifelfjlaa
open Go.RowKit


set_option maxRecDepth 100000 in
set_option maxHeartbeats 400000 in
theorem walk_RleSize (A : Option Addr) (n c : Nat) (zs : List Int) (w : World) (hr : Rd w w.heap.size A (zs.map Iv)) (hn : zs.length = n) (hz : ∀ z ∈ zs, (Lit.int .i64 z).wf = true) (_hc : n ≤ c) (hb : n * 8 ≤ 140737488351232) :
    Calls Try.prog 5 #[.slice A n c] w fun e w' => e = .returned (.bool true) ∧ Below w.heap.size w w' := by
  have hz' := wf_i64s hz
  have HZ := Lib.hid hz'
  clear hz hz'
  go_enter Try.func5, Try.ntmps5
  go_wp2_with fail
  refine (runs_any _ _ _ _ _ hr hn HZ.out (by omega)).mono ?_
  rintro e w1 ⟨v, xs, rfl, ho, hI, hl, hb1⟩
  obtain ⟨B, d, rfl, hd⟩ := own_form ho
  have hx := Rd.of_own ho
  have HI := Lib.hid hI
  clear ho hI
  have hsz := encR_size _ xs (Nat.le_refl _) (by omega) HI.out
  have hle := chgP_le none xs
  go_wp2_with fail
  refine (encode_any B _ d xs _ hx rfl hd (by omega) HI.out).mono ?_; rintro e w2 ⟨rfl, hb2⟩
  have hx2 := hx.call hb2
  go_wp2_with fail
  refine (rruns_any B _ d xs _ hx2 rfl hd (by omega)).mono ?_; rintro e w3 ⟨rfl, q, rfl⟩
  go_wp2_with fail
  refine (awake9 _).mono ?_; rintro e w4 ⟨rfl, hb4⟩
  go_wp2
  go_ret
  exact ⟨ret_bool (by first | rfl | (simp; done) | (simp; omega)), bt (below_drewN (bt hb1 hb2) q) hb4⟩

set_option maxRecDepth 100000 in
set_option maxHeartbeats 400000 in
theorem walk_RleEncodes (A : Option Addr) (n c : Nat) (zs : List Int) (A2 : Option Addr) (n2 c2 : Nat) (zs2 : List Int) (w : World)
    (hr0 : Rd w w.heap.size A (zs.map Iv)) (hn0 : zs.length = n) (hz0 : ∀ z ∈ zs, (Lit.int .i64 z).wf = true) (hc0 : n ≤ c) (hb0 : n * 8 ≤ 140737488351232)
    (hr : Rd w w.heap.size A2 (zs2.map Iv)) (hn : zs2.length = n2) (hz : ∀ z ∈ zs2, (Lit.int .i64 z).wf = true) (_hc : n2 ≤ c2) (hb : n2 * 8 ≤ 140737488351232) :
    Calls Try.prog 4 #[.slice A n c, .slice A2 n2 c2] w fun e w' => e = .returned (.bool true) ∧ Below w.heap.size w w' := by
  have HZ := Lib.hid (wf_i64s hz)
  have HZ0 := Lib.hid (wf_i64s hz0)
  have HN0 := Lib.hid hn0
  clear hz hz0 hn0
  go_enter Try.func4, Try.ntmps4
  go_wp2_with fail
  refine (runs_any _ _ _ _ _ hr hn HZ.out (by omega)).mono ?_
  rintro e w1 ⟨v, xs, rfl, ho, hI, hl, hb1⟩
  obtain ⟨B, d, rfl, hd⟩ := own_form ho
  have hx := Rd.of_own ho
  have HI := Lib.hid hI
  clear ho hI
  have hl1 := hr0.call hb1
  go_wp2_with fail
  refine (awake9 _).mono ?_; rintro e w2 ⟨rfl, hb2⟩
  have hx2 := hx.call hb2
  have hl2 := hl1.call hb2
  go_wp2_with fail
  refine (encode_any A n c zs _ hl2 HN0.out hc0 (by omega) HZ0.out).mono ?_; rintro e w3 ⟨rfl, hb3⟩
  have hx3 := hx2.call hb3
  have hl3 := hl2.call hb3
  go_wp2_with fail
  refine (rencode_any A n c zs _ hl3 HN0.out (by omega) HZ0.out).mono ?_; rintro e w4 ⟨rfl, hb4⟩
  have hx4 := hx3.call hb4
  have hl4 := hl3.call hb4
  go_wp2_with fail
  refine (encode_any B _ d xs _ hx4 rfl hd (by omega) HI.out).mono ?_; rintro e w5 ⟨rfl, hb5⟩
  have hx5 := hx4.call hb5
  have hl5 := hl4.call hb5
  go_wp2_with fail
  refine (rencode_any B _ d xs _ hx5 rfl (by omega) HI.out).mono ?_; rintro e w6 ⟨rfl, hb6⟩
  have hx6 := hx5.call hb6
  have hl6 := hl5.call hb6
  go_wp2_with fail
  refine (rruns_any A n c zs _ hl6 HN0.out hc0 (by omega)).mono ?_; rintro e w7 ⟨rfl, q7, rfl⟩
  go_wp2_with fail
  refine (runsOf_any A n c zs _ (hl6.drewN _) HN0.out (by omega)).mono ?_; rintro e w8 ⟨rfl, q8, rfl⟩
  go_wp2_with fail
  refine (rruns_any B _ d xs _ (hx6.drewN _) rfl hd (by omega)).mono ?_; rintro e w9 ⟨rfl, q9, rfl⟩
  go_wp2_with fail
  refine (runsOf_any B _ d xs _ (hx6.drewN _) rfl (by omega)).mono ?_; rintro e w10 ⟨rfl, q10, rfl⟩
  go_wp2
  go_ret
  exact ⟨ret_bool (by first | rfl | (simp; done) | (simp; omega)), below_drewN (bt (bt (bt (bt (bt hb1 hb2) hb3) hb4) hb5) hb6) _⟩

set_option maxRecDepth 100000 in
set_option maxHeartbeats 400000 in
theorem walk_RleRoundTrip (A : Option Addr) (n c : Nat) (zs : List Int) (w : World) (hr : Rd w w.heap.size A (zs.map Iv)) (hn : zs.length = n) (hz : ∀ z ∈ zs, (Lit.int .i64 z).wf = true) (_hc : n ≤ c) (hb : n * 8 ≤ 140737488351232) :
    Calls Try.prog 8 #[.slice A n c] w fun e w' => e = .returned (.bool true) ∧ Below w.heap.size w w' := by
  have HZ := Lib.hid (wf_i64s hz)
  clear hz
  go_enter Try.func8, Try.ntmps8
  go_wp2_with fail
  refine (runs_any _ _ _ _ _ hr hn HZ.out (by omega)).mono ?_
  rintro e w1 ⟨v, xs, rfl, ho, hI, hl, hb1⟩
  obtain ⟨B, d, rfl, hd⟩ := own_form ho
  have hx := Rd.of_own ho
  have HI := Lib.hid hI
  clear ho hI
  have hsz := encR_len _ xs (Nat.le_refl _) HI.out
  go_wp2_with fail
  refine (encode_any B _ d xs _ hx rfl hd (by omega) HI.out).mono ?_; rintro e w2 ⟨rfl, hb2⟩
  have hx2 := hx.call hb2
  go_wp2_with fail
  refine (decode_any _ _ _ (by rw [size_mk]; omega)).mono ?_; rintro e w3 ⟨v3, ys, err, rfl, hdd, ho3, _, hb3⟩
  obtain ⟨C, c3, rfl, _⟩ := own_form ho3
  have hD := decodeR_enc HI.out (by omega)
  rw [show (⟨(encR xs).toArray⟩ : ByteArray).data.toList = encR xs from rfl, hD] at hdd
  cases hdd
  have hx3 := hx2.call hb3
  have hy3 := Rd.of_own ho3
  clear ho3 hD
  go_wp2_with fail
  refine (awake9 _).mono ?_; rintro e w4 ⟨rfl, hb4⟩
  have hx4 := hx3.call hb4
  have hy4 := hy3.call hb4
  go_wp2_with fail
  refine (same_i64 _ _ _ _ _ xs _ hy4 hx4 rfl (by omega)).mono ?_; rintro e w5 ⟨rfl, q, rfl⟩
  go_wp2
  go_ret
  exact ⟨ret_bool (by first | rfl | (simp; done) | (simp; omega)), below_drewN (bt (bt (bt hb1 hb2) hb3) hb4) _⟩

set_option maxRecDepth 100000 in
set_option maxHeartbeats 400000 in
theorem walk_RleDecodes (s : ByteArray) (n : Int) (w : World) (hs : s.size ≤ 140737488351232) (_wn : (Lit.int .i64 n).wf = true) :
    Calls Try.prog 6 #[.string s, .int .i64 n] w fun e w' => e = .returned (.bool true) ∧ Below w.heap.size w w' := by
  go_enter Try.func6, Try.ntmps6
  go_wp2_with fail
  refine (awake9 _).mono ?_; rintro e w1 ⟨rfl, hb1⟩
  go_wp2_with fail
  refine (pick_any n 200 _ (by omega) (by omega)).mono ?_; rintro e w0 ⟨rfl, rfl⟩
  have hp := pickN_lt n (show 0 < 200 by omega)
  go_wp2_with fail
  refine (decodes_any s _ _ (by omega)).mono ?_; rintro e w2 ⟨rfl, hb2⟩
  go_wp2_with fail
  refine (decodes_any s _ _ (by omega)).mono ?_; rintro e w3 ⟨rfl, hb3⟩
  go_wp2
  go_ret
  exact ⟨ret_bool (by first | rfl | (simp; done) | (simp; omega)), bt (bt hb1 hb2) hb3⟩

end Go.Proofs.Ytgpipjifelfjlaa
