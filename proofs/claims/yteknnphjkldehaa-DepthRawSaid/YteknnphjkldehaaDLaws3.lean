/-
  The walks of the laws of layer 27, third part: the example, arbitrary ranges, generated ranges.
-/
import Derived.Test.YteknnphjkldehaaDAgree
import Derived.Test.YteknnphjkldehaaDPlain2
namespace Go.Proofs.Yteknnphjkldehaa
open Go.RowKit

set_option maxRecDepth 100000 in
set_option maxHeartbeats 1000000 in
theorem walk_DepthRaw (t : Int) (A : Option Addr) (n c : Nat) (L : List Rg) (p : Rk) (w : World) (hr : Rd w w.heap.size A (L.flatMap rangeC)) (hn : L.length = n) (hm : n ≤ 17592186044416) (hc : n ≤ c) :
    Calls Try.prog 8 #[.int .i64 t, .slice A n c, Rv p] w fun e w' => e = .returned (.bool true) ∧ Below w.heap.size w w' := by
  obtain ⟨⟨pn, pi, pz⟩, pq⟩ := p
  have HN := Lib.hid hn
  dsimp only [Rv]
  have hP := Blk.new' w 33 #[.bool pn, .int .i64 pi, .string pz, .int .i64 pq]
  have hbel : Below w.heap.size w (w.alloc (.cells #[.bool pn, .int .i64 pi, .string pz, .int .i64 pq] 33)) := (Below.refl _ _).alloc (Nat.le_refl _) _
  have hra := hr.call hbel
  clear hr hn
  go_enter Try.func8, Try.ntmps8
  go_wp2_with fail
  generalize w.alloc (.cells #[.bool pn, .int .i64 pi, .string pz, .int .i64 pq] 33) = w1 at *
  refine (awake27 _).mono ?_; rintro e w2 ⟨rfl, hb2⟩
  have hP2 := hP.call hb2
  have o0 := hP2.cellAt 0 rfl
  have o1 := hP2.cellAt 1 rfl
  have o2 := hP2.cellAt 2 rfl
  have o3 := hP2.cellAt 3 rfl
  go_wp2_with fail
  refine (agrees_any t A n c L ⟨⟨pn, pi, pz⟩, pq⟩ _ (hra.call hb2) HN.out hm hc).mono ?_; rintro e w3 ⟨rfl, hb3⟩
  go_wp2
  go_ret
  exact ⟨ret_bool (by first | rfl | (simp; done)), bt (bt hbel hb2) hb3⟩

theorem ex_most1 : (mostR 1 threeL).1 = 3 := by rw [ex_most]
theorem ex_most2 : (mostR 1 threeL).2 = atR 4 := by rw [ex_most]
theorem depth_ex (A : Option Addr) (c : Nat) (w : World) (hr : Rd w w.heap.size A (threeL.flatMap rangeC)) : Calls Try.prog 14 #[.int .i64 1, .slice A 3 c] w fun e w' => e = .returned (.int .i64 3) ∧ Below w.heap.size w w' := by
  have := depth_any 1 A 3 c threeL w hr rfl (by omega)
  rw [ex_most1] at this
  exact this
theorem stab_ex (A : Option Addr) (c : Nat) (w : World) (hr : Rd w w.heap.size A (threeL.flatMap rangeC)) : Calls Try.prog 22 #[.int .i64 1, .slice A 3 c, .agg #[.bool false, .int .i64 3, .string ⟨#[]⟩, .int .i64 0]] w fun e w' => e = .returned (.int .i64 2) ∧ Below w.heap.size w w' := by
  have := stab_any 1 A 3 c threeL (atR 3) w hr rfl (by omega)
  rw [ex_stab] at this
  exact this
set_option maxRecDepth 100000 in
set_option maxHeartbeats 1000000 in
theorem walk_DepthExamples (w : World) : Calls Try.prog 7 #[] w fun e w' => e = .returned (.bool true) ∧ Below w.heap.size w w' := by
  go_enter Try.func7, Try.ntmps7
  go_wp2_with fail
  refine (three_any _).mono ?_; rintro e w1 ⟨v1, rfl, ho1, hb1⟩
  obtain ⟨B1, d1, rfl, _⟩ := own_form ho1
  have hx1 := Rd.of_own ho1
  clear ho1
  go_wp2_with fail
  refine (peak_any 1 B1 3 d1 threeL _ hx1 rfl (by omega)).mono ?_; rintro e w2 ⟨rfl, hb2⟩
  rw [ex_most1, ex_most2]
  have hbA := bt hb1 hb2
  dsimp only [Rv, atR]
  have hP := Blk.new' w2 33 #[.bool false, .int .i64 4, .string ⟨#[]⟩, .int .i64 0]
  have hbB := bt hbA ((Below.refl _ _).alloc (Nat.le_refl _) (.cells #[.bool false, .int .i64 4, .string ⟨#[]⟩, .int .i64 0] 33))
  clear hb1 hb2 hx1 hbA
  go_upto_region 2 with fail
  generalize w2.alloc (.cells #[.bool false, .int .i64 4, .string ⟨#[]⟩, .int .i64 0] 33) = wa at *
  generalize w2.heap.size = g2 at *
  have MK : Hid (∀ w' : World, Below wa.heap.size wa w' → (Below wa.heap.size wa w' ∧ w'.cell? ⟨g2, 0, none⟩ = some (.bool false) ∧ w'.cell? ⟨g2, 1, none⟩ = some (.int .i64 4) ∧ w'.cell? ⟨g2, 2, none⟩ = some (.string ⟨#[]⟩) ∧ w'.cell? ⟨g2, 3, none⟩ = some (.int .i64 0))) := fun w' h => ⟨h, (hP.call h).cellAt 0 rfl, (hP.call h).cellAt 1 rfl, (hP.call h).cellAt 2 rfl, (hP.call h).cellAt 3 rfl⟩
  have HB := Lib.hid hbB
  clear hP hbB
  go_region_held3 (fun w' => Below wa.heap.size wa w' ∧ w'.cell? ⟨g2, 0, none⟩ = some (.bool false) ∧ w'.cell? ⟨g2, 1, none⟩ = some (.int .i64 4) ∧ w'.cell? ⟨g2, 2, none⟩ = some (.string ⟨#[]⟩) ∧ w'.cell? ⟨g2, 3, none⟩ = some (.int .i64 0)) (first | assumption | exact MK.out _ (Below.refl _ _) | exact MK.out _ ⟨rfl, rfl, rfl, Nat.le_refl _, fun _ _ => rfl⟩ | exact MK.out _ hbq) (first | (go_at_call 20; refine (three_any _).mono ?_; rintro e w9 ⟨v9, rfl, ho9, hbx⟩; obtain ⟨B9, d9, rfl, _⟩ := own_form ho9; have hx9 := Rd.of_own ho9; clear ho9; have hbq := bt (‹Below wa.heap.size wa _ ∧ _›).1 hbx) | (go_at_call 14; refine (depth_ex B9 d9 _ hx9).mono ?_; rintro e w8 ⟨rfl, hbx⟩; have hbq := bt (‹Below wa.heap.size wa _ ∧ _›).1 hbx) | (go_at_call 21; refine (at_any _ _).mono ?_; rintro e w7 ⟨rfl, hbx⟩; dsimp only [Rv, atR]; have hbq := bt (‹Below wa.heap.size wa _ ∧ _›).1 hbx) | (go_at_call 22; refine (stab_ex B9 d9 _ (hx9.call hbx)).mono ?_; rintro e w6 ⟨rfl, hby⟩; have hbq := bt hbq hby))
  go_wp2
  go_ret
  exact ⟨ret_bool (by first | rfl | (simp; done)), bt HB.out (‹Below wa.heap.size wa _ ∧ _›).1⟩

end Go.Proofs.Yteknnphjkldehaa
