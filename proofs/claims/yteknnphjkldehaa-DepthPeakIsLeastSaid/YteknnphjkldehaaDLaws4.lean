/-
  The walks of the laws of layer 27, fourth part.
-/
import Derived.Test.YteknnphjkldehaaDLaws2
import Derived.Test.YteknnphjkldehaaDAgree
import Derived.Test.YteknnphjkldehaaDList
namespace Go.Proofs.Yteknnphjkldehaa
open Go.RowKit

theorem stab_append (t : Int) (L X : List Rg) (p : Rk) : stabR t (L ++ X) p = stabR t L p + stabR t X p := List.countP_append
theorem more_ge {t : Int} {L X : List Rg} (h : chkR t L = true) (h2 : chkR t (L ++ X) = true) : (mostR t L).1 ≤ (mostR t (L ++ X)).1 := by
  rw [most_chk h, most_chk h2]
  rcases maxF_hit t L L 0 with h1 | ⟨r, hr, h1⟩
  · omega
  · have h3 := (maxF_ge t (L ++ X) (L ++ X) 0).2 r (by simp [hr])
    rw [stab_append] at h3
    omega
theorem more_le {t : Int} {L X : List Rg} (h : chkR t L = true) (h2 : chkR t (L ++ X) = true) : (mostR t (L ++ X)).1 ≤ (mostR t L).1 + X.length := by
  rw [most_chk h, most_chk h2]
  rcases maxF_hit t (L ++ X) (L ++ X) 0 with h1 | ⟨r, _, h1⟩
  · omega
  · rw [stab_append] at h1
    have := stab_le_max t L r.lo
    have := stabR_le t X r.lo
    omega

set_option maxRecDepth 100000 in
set_option maxHeartbeats 2000000 in
theorem walk_DepthMore (A : Option Addr) (n c : Nat) (zs : List Int) (A2 : Option Addr) (n2 c2 : Nat) (zs2 : List Int) (w : World)
    (hr : Rd w w.heap.size A (zs.map Iv)) (hn : zs.length = n) (hz : ∀ z ∈ zs, (Lit.int .i64 z).wf = true) (_hc : n ≤ c) (hb : n * 8 ≤ 140737488351232)
    (hr2 : Rd w w.heap.size A2 (zs2.map Iv)) (hn2 : zs2.length = n2) (hz2 : ∀ z ∈ zs2, (Lit.int .i64 z).wf = true) (_hc2 : n2 ≤ c2) (hb2 : n2 * 8 ≤ 140737488351232) :
    Calls Try.prog 4 #[.slice A n c, .slice A2 n2 c2] w fun e w' => e = .returned (.bool true) ∧ Below w.heap.size w w' := by
  have HZ := Lib.hid (wf_i64s hz)
  have HZ2 := Lib.hid (wf_i64s hz2)
  have HN := Lib.hid hn
  have HN2 := Lib.hid hn2
  clear hz hz2 hn hn2 _hc _hc2
  go_enter Try.func4, Try.ntmps4
  go_wp2_with fail
  refine (ranges_any A n c 8 zs _ hr HN.out HZ.out (by omega) (by omega)).mono ?_; rintro e w1 ⟨v1, r, rfl, ho1, hg1, hl1, hb1⟩
  obtain ⟨B1, d1, rfl, hd1⟩ := own_form ho1
  have hx1 := Rd.of_own ho1
  have hy1 := hr2.call hb1
  have HG := Lib.hid hg1
  clear ho1 hr hr2 hg1
  have hl := own_lit w1 3 (.int .i64 1)
  have hy1a := hy1.call ((Below.refl _ _).alloc (Nat.le_refl _) (.cells #[.int .i64 1] 3))
  go_wp2_with (at_builtin; refine own_list hl i64s rfl (by decide) hy1a (by simp [HN2.out]) (by intro u hu; rw [List.mem_map] at hu; obtain ⟨z, _, rfl⟩ := hu; rfl) (by omega) (by unfold maxLen; omega) ?_ rfl _ _ rfl rfl rfl)
  intro v2 w2 ho2
  obtain ⟨B2, d2, rfl, hd2⟩ := own_form ho2.1
  have hx2 := Rd.of_own ho2.1
  have hbb2 := ho2.2
  have hx12 := hx1.call hbb2
  clear ho2 hl hy1a hy1 hx1
  have HZ3 : Hid (∀ z ∈ 1 :: zs2, I64 z) := fun z hz => by
    rcases List.mem_cons.1 hz with rfl | hz
    · unfold I64; omega
    · exact HZ2.out z hz
  have hx2' : Rd w2 w2.heap.size B2 ((1 :: zs2).map Iv) := hx2
  have hlen : (1 :: zs2).length = 1 + n2 := by rw [List.length_cons, HN2.out]; omega
  go_wp2_with fail
  refine (ranges_any B2 (1 + n2) d2 1 (1 :: zs2) _ hx2' hlen HZ3.out (by omega) (by omega)).mono ?_; rintro e w3 ⟨v3, x, rfl, ho3, hg3, hl3, hb3⟩
  obtain ⟨B3, d3, rfl, hd3⟩ := own_form ho3
  have hx3 := Rd.of_own ho3
  have hx13 := hx12.call hb3
  have HC := Lib.hid (gen_chk HG.out (by omega))
  have HC2 := Lib.hid (gen_chk (L := r ++ x) (fun p hp => (List.mem_append.1 hp).elim (HG.out p) (hg3 p)) (by rw [List.length_append]; omega))
  have hge := more_ge HC.out HC2.out
  have hle := more_le HC.out HC2.out
  have hdl := mostR_le 1 r
  have hb123 := bt (bt hb1 hbb2) hb3
  clear ho3 hx2 hx2' hx12 hg3 hbb2 hb1 hb3 HZ3 hlen
  go_wp2_with fail
  refine (depth_any 1 B1 _ d1 r _ hx13 rfl (by omega)).mono ?_; rintro e w4 ⟨rfl, hb4⟩
  have hx14 := hx13.call hb4
  have hx34 := hx3.call hb4
  clear hx13 hx3
  go_wp2_with (at_builtin; refine own_list (Own.nil _ _ _) rgs rfl (by decide) hx14 (by rw [flat_len (k := 8) (fun _ => rfl)]) (cells_rg r) (by omega) (by unfold maxLen; omega) ?_ rfl _ _ rfl rfl rfl)
  intro v5 w5 ho5
  have hx35 := hx34.call ho5.2
  obtain ⟨B5, d5, rfl, hd5⟩ := own_form ho5.1
  go_wp2_with (at_builtin; refine own_list ho5 rgs rfl (by decide) hx35 (by rw [flat_len (k := 8) (fun _ => rfl)]) (cells_rg x) (by omega) (by unfold maxLen; omega) ?_ rfl _ _ rfl rfl rfl)
  intro v6 w6 ho6
  obtain ⟨B6, d6, rfl, hd6⟩ := own_form ho6.1
  have hx6 := Rd.of_own ho6.1
  have hb46 := bt (bt hb123 hb4) ho6.2
  have hx6' : Rd w6 w6.heap.size B6 ((r ++ x).flatMap rangeC) := by rw [List.flatMap_append]; simpa using hx6
  have hlr : (r ++ x).length = 0 + r.length + x.length := by rw [List.length_append]; omega
  clear ho5 ho6 hx6 hx34 hx35 hx14
  go_wp2_with fail
  refine (depth_any 1 B6 _ d6 (r ++ x) _ hx6' (by rw [List.length_append]) (by omega)).mono ?_; rintro e w7 ⟨rfl, hb7⟩
  go_wp2_with fail
  refine (awake27 _).mono ?_; rintro e w8 ⟨rfl, hb8⟩
  generalize (mostR 1 r).1 = a at *
  generalize (mostR 1 (r ++ x)).1 = b at *
  go_wp2
  go_ret
  exact ⟨ret_bool (by first | rfl | (simp; done) | (simp; omega)), bt (bt hb46 hb7) hb8⟩

end Go.Proofs.Yteknnphjkldehaa
