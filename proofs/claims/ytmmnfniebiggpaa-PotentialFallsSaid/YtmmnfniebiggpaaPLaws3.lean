/-
  The walks of the laws of layer 30, third part.
-/
import Derived.Test.YtmmnfniebiggpaaPLaws2
import Derived.Test.YtmmnfniebiggpaaPPlain2
namespace Go.Proofs.Ytmmnfniebiggpaa
open Go.RowKit

set_option maxRecDepth 100000 in
set_option maxHeartbeats 1000000 in
theorem walk_PotentialIsSumOfStabs (A : Option Addr) (n c : Nat) (zs : List Int) (A2 : Option Addr) (n2 c2 : Nat) (zs2 : List Int) (w : World)
    (hr : Rd w w.heap.size A (zs.map Iv)) (hn : zs.length = n) (hz : ∀ z ∈ zs, (Lit.int .i64 z).wf = true) (_hc : n ≤ c) (hb : n * 8 ≤ 140737488351232)
    (hr2 : Rd w w.heap.size A2 (zs2.map Iv)) (hn2 : zs2.length = n2) (hz2 : ∀ z ∈ zs2, (Lit.int .i64 z).wf = true) (_hc2 : n2 ≤ c2) (hb2 : n2 * 8 ≤ 140737488351232) :
    Calls Try.prog 5 #[.slice A n c, .slice A2 n2 c2] w fun e w' => e = .returned (.bool true) ∧ Below w.heap.size w w' := by
  have HZ := Lib.hid (wf_i64s hz)
  have HZ2 := Lib.hid (wf_i64s hz2)
  have HN := Lib.hid hn
  have HN2 := Lib.hid hn2
  clear hz hz2 hn hn2 _hc _hc2
  go_enter Try.func5, Try.ntmps5
  go_wp2_with fail
  refine (ranges_any A n c 6 zs _ hr HN.out HZ.out (by omega) (by omega)).mono ?_; rintro e w1 ⟨v1, r, rfl, ho1, hg1, hl1, hb1⟩
  obtain ⟨B1, d1, rfl, _⟩ := own_form ho1
  have hx1 := Rd.of_own ho1
  have hr2b := hr2.call hb1
  have HC := Lib.hid (gen_chk hg1 (by omega))
  clear ho1 hr hr2 hg1
  go_wp2_with fail
  refine (ranks_any A2 n2 c2 12 zs2 _ hr2b HN2.out HZ2.out (by omega) (by omega)).mono ?_; rintro e w2 ⟨v2, p, rfl, ho2, _, hl2, hb2'⟩
  obtain ⟨B2, d2, rfl, _⟩ := own_form ho2
  have hx2 := Rd.of_own ho2
  have hx1b := hx1.call hb2'
  have hb12 := bt hb1 hb2'
  clear ho2 hx1 hr2b hb1 hb2'
  go_wp2_with fail
  go_loopw [7, 18] (fun a b wr => ∃ (i k : Nat), b = .int .i64 (i : Int) ∧ a = .int .i64 (k : Int) ∧ i ≤ p.length ∧ k ≤ 6 + i * 6 ∧ Hid (k = r.length + ssum 1 r (p.take i)) ∧ Below w2.heap.size w2 wr) (fun _ b _ => p.length - (intOf b).toNat)
  case atStart => exact ⟨0, r.length, rfl, rfl, by omega, by omega, (by show _ = _; simp [ssum]), Below.refl _ _⟩
  case round =>
    obtain ⟨i, k, rfl, rfl, hi, hk, HK, hb⟩ := hrel
    by_cases hin : i < p.length
    · obtain ⟨x, hx⟩ : ∃ x, p[i]? = some x := ⟨_, List.getElem?_eq_getElem hin⟩
      obtain ⟨ad, rfl, hadb, c0, c1, c2', c3⟩ := (hx2.call hb).rank hx
      have HX := Lib.hid (ssum_next (t := 1) (L := r) hx)
      have hsl : stabR 1 r x ≤ r.length := List.countP_le_length
      have HS : Hid (stabC 1 r x = stabR 1 r x) := by show _ = _; rw [stabC, HC.out]; rfl
      obtain ⟨⟨cn, ci, cz⟩, cq⟩ := x
      clear hx
      go_wp2_with fail
      refine (rstab_any 1 B1 _ d1 r ⟨⟨cn, ci, cz⟩, cq⟩ _ ((hx1b.call hb).call ((Below.refl wr.heap.size wr).alloc (Nat.le_refl _) _)) rfl (by omega)).mono ?_; rintro e w3 ⟨rfl, hb3⟩
      have hb4 := bt (bt hb ((Below.refl wr.heap.size wr).alloc (Nat.le_refl _) _)) hb3
      rw [HS.out]
      generalize stabR 1 r ⟨⟨cn, ci, cz⟩, cq⟩ = s at *
      go_wp2
      go_roundw
      case rel => exact ⟨i + 1, k + s, by go_num, by go_num, by omega, by omega, by show _ = _; rw [HX.out, HK.out]; omega, hb4⟩
      case measure => simp [intOf]; omega
    · have hin2 : i = p.length := by omega
      subst hin2
      rw [List.take_length] at HK
      have hmul : r.length * p.length ≤ 6 * 12 := Nat.mul_le_mul hl1 hl2
      have hs := psiW_sum 1 p r r.length (by omega)
      rw [wsum_ssum, ← HK.out] at hs
      go_wp2_with fail
      refine (awake30 _).mono ?_; rintro e w4 ⟨rfl, hb4⟩
      go_wp2_with fail
      refine (psi_any 1 B1 _ d1 r B2 _ d2 p _ ((hx1b.call hb).call hb4) rfl (by omega) ((hx2.call hb).call hb4) rfl (by omega)).mono ?_; rintro e w5 ⟨rfl, hb5⟩
      rw [hs]
      go_wp2
      go_ret
      exact ⟨ret_bool (by first | rfl | (simp; done) | (simp; omega)), bt (bt (bt hb12 hb) hb4) hb5⟩

theorem hull_ex : hullP 1 [⟨atR 1, atR 5⟩, ⟨atR 3, atR 9⟩] = (⟨atR 1, atR 9⟩, true) := by
  have h1 : chkR 1 [⟨atR 1, atR 5⟩, ⟨atR 3, atR 9⟩] = true := by decide +kernel
  rw [hullP_yes h1]; rfl
theorem psi_exany (A A2 : Option Addr) (c c2 : Nat) (w : World) (hr : Rd w w.heap.size A ([⟨atR 1, atR 5⟩, ⟨atR 3, atR 9⟩].flatMap rangeC)) (hr2 : Rd w w.heap.size A2 ([atR 1, atR 3, atR 5, atR 9].flatMap rankC)) :
    Calls Try.prog 16 #[.int .i64 1, .slice A 2 c, .slice A2 4 c2] w fun e w' => e = .returned (.int .i64 8) ∧ Below w.heap.size w w' := by
  have := psi_any 1 A 2 c _ A2 4 c2 _ w hr rfl (by omega) hr2 rfl (by omega)
  rw [psi_ex] at this
  exact this
set_option maxRecDepth 100000 in
set_option maxHeartbeats 1000000 in
theorem walk_PotentialExamples (w : World) : Calls Try.prog 7 #[] w fun e w' => e = .returned (.bool true) ∧ Below w.heap.size w w' := by
  go_enter Try.func7, Try.ntmps7
  go_wp2_with fail
  refine (two_any _).mono ?_; rintro e w1 ⟨v1, rfl, ho1, hb1⟩
  obtain ⟨B1, d1, rfl, hd1⟩ := own_form ho1
  have hx1 := Rd.of_own ho1
  clear ho1
  go_wp2_with fail
  refine (hull_any 1 B1 2 d1 _ _ hx1 rfl (by omega) hd1).mono ?_; rintro e w2 ⟨rfl, hb2⟩
  rw [hull_ex]
  have hbA := bt hb1 hb2
  dsimp only [Gv, Rv, atR]
  have hP := Blk.new' w2 41 #[.bool false, .int .i64 1, .string ⟨#[]⟩, .int .i64 0, .bool false, .int .i64 9, .string ⟨#[]⟩, .int .i64 0]
  have hbB := bt hbA ((Below.refl _ _).alloc (Nat.le_refl _) (.cells #[.bool false, .int .i64 1, .string ⟨#[]⟩, .int .i64 0, .bool false, .int .i64 9, .string ⟨#[]⟩, .int .i64 0] 41))
  clear hb1 hb2 hx1 hbA
  go_upto_region 2 with fail
  generalize w2.alloc (.cells #[.bool false, .int .i64 1, .string ⟨#[]⟩, .int .i64 0, .bool false, .int .i64 9, .string ⟨#[]⟩, .int .i64 0] 41) = wa at *
  generalize w2.heap.size = g2 at *
  have MK : Hid (∀ w' : World, Below wa.heap.size wa w' → (Below wa.heap.size wa w' ∧ w'.cell? ⟨g2, 0, none⟩ = some (.bool false) ∧ w'.cell? ⟨g2, 1, none⟩ = some (.int .i64 1) ∧ w'.cell? ⟨g2, 2, none⟩ = some (.string ⟨#[]⟩) ∧ w'.cell? ⟨g2, 3, none⟩ = some (.int .i64 0) ∧ w'.cell? ⟨g2, 4, none⟩ = some (.bool false) ∧ w'.cell? ⟨g2, 5, none⟩ = some (.int .i64 9) ∧ w'.cell? ⟨g2, 6, none⟩ = some (.string ⟨#[]⟩) ∧ w'.cell? ⟨g2, 7, none⟩ = some (.int .i64 0))) := fun w' h => ⟨h, (hP.call h).cellAt 0 rfl, (hP.call h).cellAt 1 rfl, (hP.call h).cellAt 2 rfl, (hP.call h).cellAt 3 rfl, (hP.call h).cellAt 4 rfl, (hP.call h).cellAt 5 rfl, (hP.call h).cellAt 6 rfl, (hP.call h).cellAt 7 rfl⟩
  have HB := Lib.hid hbB
  clear hP hbB
  go_region_held3 (fun w' => Below wa.heap.size wa w' ∧ w'.cell? ⟨g2, 0, none⟩ = some (.bool false) ∧ w'.cell? ⟨g2, 1, none⟩ = some (.int .i64 1) ∧ w'.cell? ⟨g2, 2, none⟩ = some (.string ⟨#[]⟩) ∧ w'.cell? ⟨g2, 3, none⟩ = some (.int .i64 0) ∧ w'.cell? ⟨g2, 4, none⟩ = some (.bool false) ∧ w'.cell? ⟨g2, 5, none⟩ = some (.int .i64 9) ∧ w'.cell? ⟨g2, 6, none⟩ = some (.string ⟨#[]⟩) ∧ w'.cell? ⟨g2, 7, none⟩ = some (.int .i64 0)) (first | assumption | exact MK.out _ (Below.refl _ _) | exact MK.out _ ⟨rfl, rfl, rfl, Nat.le_refl _, fun _ _ => rfl⟩ | exact MK.out _ hbq) (first | (go_at_call 22; refine (two_any _).mono ?_; rintro e w9 ⟨v9, rfl, ho9, hbx⟩; obtain ⟨B9, d9, rfl, _⟩ := own_form ho9; have hx9 := Rd.of_own ho9; clear ho9; have hbq := bt (‹Below wa.heap.size wa _ ∧ _›).1 hbx) | (go_at_call 23; refine (four_any _).mono ?_; rintro e w8 ⟨v8, rfl, ho8, hbx⟩; obtain ⟨B8, d8, rfl, _⟩ := own_form ho8; have hx8 := Rd.of_own ho8; clear ho8; have hx99 := hx9.call hbx; have hbq := bt (‹Below wa.heap.size wa _ ∧ _›).1 hbx) | (go_at_call 16; refine (psi_exany B9 B8 d9 d8 _ hx99 hx8).mono ?_; rintro e w7 ⟨rfl, hbx⟩; have hbq := bt (‹Below wa.heap.size wa _ ∧ _›).1 hbx) | (go_at_call 24; refine (at_any _ _).mono ?_; rintro e w6 ⟨rfl, hbx⟩; dsimp only [Rv, atR]; have hbq := bt (‹Below wa.heap.size wa _ ∧ _›).1 hbx))
  go_wp2
  go_ret
  exact ⟨ret_bool (by first | rfl | (simp; done)), bt HB.out (‹Below wa.heap.size wa _ ∧ _›).1⟩

end Go.Proofs.Ytmmnfniebiggpaa
