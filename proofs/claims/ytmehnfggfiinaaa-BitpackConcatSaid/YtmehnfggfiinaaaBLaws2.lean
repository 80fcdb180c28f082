/-
  The walks of the laws of layer 2, second part.
-/
import Derived.Test.YtmehnfggfiinaaaBLaws
namespace Go.Proofs.Ytmehnfggfiinaaa
open Go.RowKit

set_option maxRecDepth 100000 in
set_option maxHeartbeats 1000000 in
theorem walk_BitpackUnpacks (s : ByteArray) (n k : Int) (w : World) (hs : s.size ≤ 140737488351232) (_wn : (Lit.int .i64 n).wf = true) (_wk : (Lit.int .i64 k).wf = true) :
    Calls Try.prog 7 #[.string s, .int .i64 n, .int .i64 k] w fun e w' => e = .returned (.bool true) ∧ Below w.heap.size w w' := by
  clear _wn _wk
  go_enter Try.func7, Try.ntmps7
  go_wp2_with fail
  refine (pick_any n 80 _ (by omega) (by omega)).mono ?_; rintro e w0 ⟨rfl, rfl⟩
  have hp1 := pickN_lt n (show 0 < 80 by omega)
  generalize pickN n 80 = p at *
  go_wp2_with fail
  refine (pick_any k 67 _ (by omega) (by omega)).mono ?_; rintro e w0 ⟨rfl, rfl⟩
  have hp2 := pickN_lt k (show 0 < 67 by omega)
  generalize pickN k 67 = q at *
  go_wp2_with fail
  generalize (p : Int) - 1 = P1 at *
  generalize (q : Int) - 1 = Q1 at *
  refine (unpack_any _ _ _ _).mono ?_; rintro e w1 ⟨v1, x1, e1, rfl, hd1, ho1, _, hb1⟩
  obtain ⟨B1, d1, rfl, _⟩ := own_form ho1
  have hl1 := unpackR_len s.data.toList P1 Q1
  rw [hd1] at hl1
  have hx1 := Rd.of_own ho1
  have HD1 := Lib.hid hd1
  clear ho1 hd1
  go_wp2_with fail
  refine (runpack_any _ _ _ _).mono ?_; rintro e w2 ⟨v2, x2, e2, rfl, hd2, ho2, _, hb2⟩
  obtain ⟨B2, d2, rfl, _⟩ := own_form ho2
  have hx2 := Rd.of_own ho2
  rw [HD1.out] at hd2
  cases hd2
  clear ho2
  have hx1b := hx1.call hb2
  go_wp2_with fail
  obtain ⟨nd, hnd⟩ : ∃ nd : Nat, needN P1 Q1 = (nd : Int) := by
    unfold needN
    split
    · next h => exact ⟨((P1 * Q1 + 7) / 8).toNat, by have := mul_bd h; omega⟩
    · exact ⟨0, rfl⟩
  have hnc := fun W => rneed_any P1 Q1 W
  rw [hnd] at hnc
  refine (hnc _).mono ?_; rintro e w0 ⟨rfl, rfl⟩
  clear hnc
  go_wp2_with fail
  generalize s.extract 0 (min (s.size : Int) (nd : Int)).toNat = T at *
  refine (unpack_any _ _ _ _).mono ?_; rintro e w3 ⟨v3, x3, e3, rfl, hd3, ho3, _, hb3⟩
  obtain ⟨B3, d3, rfl, _⟩ := own_form ho3
  have hl3 := unpackR_len T.data.toList P1 Q1
  rw [hd3] at hl3
  have hx3 := Rd.of_own ho3
  have HD3 := Lib.hid hd3
  clear ho3 hd3
  have hx1c := hx1b.call hb3
  have hx2c := hx2.call hb3
  clear hx1b hx1 hx2 hnd
  go_wp2_with fail
  refine (runpack_any _ _ _ _).mono ?_; rintro e w4 ⟨v4, x4, e4, rfl, hd4, ho4, _, hb4⟩
  obtain ⟨B4, d4, rfl, _⟩ := own_form ho4
  have hx4 := Rd.of_own ho4
  rw [HD3.out] at hd4
  cases hd4
  clear ho4
  have hx1d := hx1c.call hb4
  have hx2d := hx2c.call hb4
  have hx3d := hx3.call hb4
  clear hx1c hx2c hx3
  go_wp2_with fail
  refine (unpack_any _ _ _ _).mono ?_; rintro e w5 ⟨v5, x5, e5, rfl, hd5, ho5, _, hb5⟩
  obtain ⟨B5, d5, rfl, _⟩ := own_form ho5
  have HD5 := Lib.hid hd5
  have hx1e := hx1d.call hb5
  have hx2e := hx2d.call hb5
  have hx3e := hx3d.call hb5
  have hx4e := hx4.call hb5
  clear ho5 hd5 hx1d hx2d hx3d hx4
  go_wp2_with fail
  refine (runpack_any _ _ _ _).mono ?_; rintro e w6 ⟨v6, x6, e6, rfl, hd6, ho6, _, hb6⟩
  obtain ⟨B6, d6, rfl, _⟩ := own_form ho6
  rw [HD5.out] at hd6
  cases hd6
  have hx1f := hx1e.call hb6
  have hx2f := hx2e.call hb6
  have hx3f := hx3e.call hb6
  have hx4f := hx4e.call hb6
  clear ho6 hx1e hx2e hx3e hx4e
  go_wp2_with fail
  refine (awake2 _).mono ?_; rintro e w7 ⟨rfl, hb7⟩
  have hx1g := hx1f.call hb7
  have hx2g := hx2f.call hb7
  have hx3g := hx3f.call hb7
  have hx4g := hx4f.call hb7
  clear hx1f hx2f hx3f hx4f
  go_wp2_with fail
  refine (same_u64 _ _ _ _ _ x1 _ hx1g hx2g rfl (by omega)).mono ?_; rintro e w8 ⟨rfl, q8, rfl⟩
  go_wp2_with fail
  refine (same_u64 _ _ _ _ _ x3 _ (hx3g.drewN _) (hx4g.drewN _) rfl (by omega)).mono ?_; rintro e w9 ⟨rfl, q9, rfl⟩
  go_wp2
  go_ret
  exact ⟨ret_bool (by first | rfl | (simp; done)), below_drewN (bt (bt (bt (bt (bt (bt hb1 hb2) hb3) hb4) hb5) hb6) hb7) _⟩

set_option maxRecDepth 100000 in
set_option maxHeartbeats 1000000 in
theorem walk_BitpackConcat (A : Option Addr) (n c : Nat) (zs : List Int) (A2 : Option Addr) (n2 c2 : Nat) (zs2 : List Int) (k : Int) (w : World)
    (hr : Rd w w.heap.size A (zs.map Iv)) (hn : zs.length = n) (_hz : ∀ z ∈ zs, (Lit.int .i64 z).wf = true) (_hc : n ≤ c) (hb : n * 8 ≤ 140737488351232)
    (hr2 : Rd w w.heap.size A2 (zs2.map Iv)) (hn2 : zs2.length = n2) (_hz2 : ∀ z ∈ zs2, (Lit.int .i64 z).wf = true) (_hc2 : n2 ≤ c2) (hb2 : n2 * 8 ≤ 140737488351232) (_wk : (Lit.int .i64 k).wf = true) :
    Calls Try.prog 6 #[.slice A n c, .slice A2 n2 c2, .int .i64 k] w fun e w' => e = .returned (.bool true) ∧ Below w.heap.size w w' := by
  clear _hz _hc _wk _hz2 _hc2
  have HN := Lib.hid hn
  have HN2 := Lib.hid hn2
  clear hn hn2
  go_enter Try.func6, Try.ntmps6
  go_wp2_with fail
  refine (pick_any k 65 _ (by omega) (by omega)).mono ?_; rintro e w0 ⟨rfl, rfl⟩
  have hp1 := pickN_lt k (show 0 < 65 by omega)
  generalize pickN k 65 = q at *
  go_wp2_with fail
  refine (numbers_any _ _ _ _ _ _ hr HN.out (by omega) (by omega)).mono ?_
  rintro e w1 ⟨v1, x1, rfl, ho1, hU1, hW1, hL1, hb1⟩
  obtain ⟨B1, d1, rfl, hd1⟩ := own_form ho1
  have hx1 := Rd.of_own ho1
  have HU1 := Lib.hid hU1
  have HW1 := Lib.hid hW1
  clear ho1 hU1 hW1
  have h100 : x1.length ≤ 100 := by omega
  have hr2b := hr2.call hb1
  clear hL1 hr2 hr
  go_wp2_with fail
  refine (numbers_any _ _ _ _ _ _ hr2b HN2.out (by omega) (by omega)).mono ?_
  rintro e w2 ⟨v2, x2, rfl, ho2, hU2, hW2, hL2, hb2⟩
  obtain ⟨B2, d2, rfl, hd2⟩ := own_form ho2
  have hx2 := Rd.of_own ho2
  have HU2 := Lib.hid hU2
  have HW2 := Lib.hid hW2
  clear ho2 hU2 hW2
  have h200 : x2.length ≤ 100 := by omega
  have hx1b := hx1.call hb2
  clear hL2 hr2b hx1
  go_wp2_with fail
  have hm8 : x1.length / 8 * 8 % 8 = 0 := by omega
  have hml : x1.length / 8 * 8 ≤ x1.length := by omega
  generalize x1.length / 8 * 8 = m at *
  obtain ⟨y, hy⟩ : ∃ y, y = x1.take m := ⟨_, rfl⟩
  have hyl : y.length = m := by rw [hy, List.length_take]; omega
  have hyr : Rd w2 w2.heap.size B1 (y.map Uv) := by rw [hy, List.map_take]; exact hx1b.take m
  have HUy : Hid (∀ z ∈ y, U64 z) := fun z hz => HU1.out z (by rw [hy] at hz; exact List.mem_of_mem_take hz)
  have HWy : Hid (∀ z ∈ y, widthN z ≤ q) := fun z hz => HW1.out z (by rw [hy] at hz; exact List.mem_of_mem_take hz)
  clear hy hx1b
  refine (pack_any B1 m d1 q y _ hyr hyl HUy.out).mono ?_; rintro e w3 ⟨rfl, hb3⟩
  rw [packR_ok (by omega) (by omega) HWy.out]
  have hyr3 := hyr.call hb3
  have hx3 := hx2.call hb3
  go_wp2_with fail
  refine (pack_any B2 _ d2 q x2 _ hx3 rfl HU2.out).mono ?_; rintro e w4 ⟨rfl, hb4⟩
  rw [packR_ok (by omega) (by omega) HW2.out]
  have hyr4 := hyr3.call hb4
  have hx4 := hx3.call hb4
  clear hyr hyr3 hx2 hx3
  go_wp2_with (at_builtin; refine own_list (Own.nil _ _ _) u64s rfl (by decide) hyr4 (by simp [hyl]) (by intro u hu; rw [List.mem_map] at hu; obtain ⟨z, _, rfl⟩ := hu; rfl) (by omega) (by unfold maxLen; omega) ?_ rfl _ _ rfl rfl rfl)
  intro v5 w5 ho5
  have hx5 := hx4.call ho5.2
  obtain ⟨B5, d5, rfl, _⟩ := own_form ho5.1
  go_wp2_with (at_builtin; refine own_list ho5 u64s rfl (by decide) hx5 (by simp) (by intro u hu; rw [List.mem_map] at hu; obtain ⟨z, _, rfl⟩ := hu; rfl) (by omega) (by unfold maxLen; omega) ?_ rfl _ _ rfl rfl rfl)
  intro v6 w6 ho6
  obtain ⟨B6, d6, rfl, _⟩ := own_form ho6.1
  have hz6 := Rd.of_own ho6.1
  rw [← List.map_append] at hz6
  have hHU : Hid (∀ z ∈ y ++ x2, U64 z) := fun z hz => (List.mem_append.1 hz).elim (HUy.out z) (HU2.out z)
  have hHW : Hid (∀ z ∈ y ++ x2, widthN z ≤ q) := fun z hz => (List.mem_append.1 hz).elim (HWy.out z) (HW2.out z)
  have hb6 := ho6.2
  clear ho5 hx5 ho6 hx4 hyr4
  go_wp2_with fail
  refine (pack_any B6 _ d6 q (y ++ x2) _ hz6 (by rw [List.length_append, hyl]) hHU.out).mono ?_; rintro e w7 ⟨rfl, hb7⟩
  rw [packR_ok (by omega) (by rw [List.length_append]; omega) hHW.out, packL_append (by rw [hyl]; exact hm8)]
  go_wp2_with fail
  refine (awake2 _).mono ?_; rintro e w8 ⟨rfl, hb8⟩
  have hk1 : y.length * q ≤ 100 * 64 := Nat.mul_le_mul (by omega) (by omega)
  have hk2 : x2.length * q ≤ 100 * 64 := Nat.mul_le_mul (by omega) (by omega)
  have hlen : (packL y q).length + (packL x2 q).length ≤ 10000 := by rw [packL_len, packL_len]; omega
  have hs := fun W => sadd (P := Try.prog) (a := packL y q) (b := packL x2 q) (by omega) W
  clear hk1 hk2
  go_wp2_with fail
  go_ret
  exact ⟨ret_bool (by first | rfl | (simp; done)), bt (bt (bt (bt (bt (bt hb1 hb2) hb3) hb4) hb6) hb7) hb8⟩

end Go.Proofs.Ytmehnfggfiinaaa
