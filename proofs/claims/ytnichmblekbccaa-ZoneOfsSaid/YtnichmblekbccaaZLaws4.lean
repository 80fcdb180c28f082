/-
  The walk of ZoneOfs.
-/
import Derived.Test.YtnichmblekbccaaZPlain4
namespace Go.Proofs.Ytnichmblekbccaa
open Go.RowKit

set_option maxRecDepth 100000 in
set_option maxHeartbeats 4000000 in
theorem walk_ZoneOfs (typ : Int) (A1 : Option Addr) (n1 cp1 : Nat) (L : List Vl) (t : Int) (nl : Bool) (A : Option Addr) (n c : Nat) (zs : List Int) (w : World) (_wy : (Lit.int .i64 typ).wf = true)
    (hr1 : Rd w w.heap.size A1 (L.flatMap valC)) (hn1 : L.length = n1) (hbL : n1 ≤ 17592186044416) (_hc1 : n1 ≤ cp1) (_wt : (Lit.int .i64 t).wf = true)
    (hr : Rd w w.heap.size A (zs.map Iv)) (hn : zs.length = n) (hz : ∀ z ∈ zs, (Lit.int .i64 z).wf = true) (_hc : n ≤ c) (hb : n * 8 ≤ 140737488351232) :
    Calls Try.prog 4 #[.int .i64 typ, .slice A1 n1 cp1, .int .i64 t, .bool nl, .slice A n c] w fun e w' => e = .returned (.bool true) ∧ Below w.heap.size w w' := by
  have HZ := Lib.hid (wf_i64s hz)
  have HN := Lib.hid hn
  have HN1 := Lib.hid hn1
  clear hz hn _hc _wt _wy _hc1 hn1
  go_enter Try.func4, Try.ntmps4
  go_wp2_with fail
  refine (column_any t nl _).mono ?_; rintro e w1 ⟨k, hk, rfl, hb1⟩
  dsimp only [colV]
  have hC1 := Blk.new' w1 32 #[.string ⟨#[120]⟩, .int .i64 (1 + (k : Int)), .int .i64 0, .bool nl]
  have hbc := (Below.refl w1.heap.size w1).alloc (Nat.le_refl _) (.cells #[.string ⟨#[120]⟩, .int .i64 (1 + (k : Int)), .int .i64 0, .bool nl] 32)
  have hrA := (hr.call hb1).call hbc
  have hrB := (hr1.call hb1).call hbc
  have hbb := bt hb1 hbc
  clear hr hb1 hbc hr1
  go_wp2_with fail
  generalize w1.alloc (.cells #[.string ⟨#[120]⟩, .int .i64 (1 + (k : Int)), .int .i64 0, .bool nl] 32) = w2 at *
  generalize w1.heap.size = gc at *
  refine (values_any k hk nl A n c zs w2 hrA HN.out HZ.out (by omega)).mono ?_; rintro e w3 ⟨v3, xs, rfl, ho3, hk3, hl3, hb3⟩
  obtain ⟨B3, d3, rfl, hd3⟩ := own_form ho3
  have hx3 := Rd.of_own ho3
  have hC3 := hC1.call hb3
  have hrB3 := hrB.call hb3
  have hbb3 := bt hbb hb3
  clear ho3 hC1 hrB hrA hbb hb3
  have c1 := hC3.cellAt 1 rfl
  go_wp2_with fail
  refine (of_any (1 + (k : Int)) B3 _ d3 xs _ hx3 rfl (by omega)).mono ?_; rintro e w4 ⟨rfl, hb4⟩
  have HCK := Lib.hid (zone_chk (c := ⟨⟨#[120]⟩, 1 + (k : Int), 0, nl⟩) (show (1 : Int) ≤ 1 + (k : Int) by omega) (show 1 + (k : Int) ≤ 5 by omega) (X := xs) hk3 (by omega))
  have HCR : Hid (∀ ws : World, Below w4.heap.size w4 ws → Calls Try.prog 15 #[.int .i64 (1 + (k : Int)), .slice B3 xs.length d3] ws fun e w' => e = .returned (Zv (zoneL (1 + (k : Int)) xs.length xs)) ∧ Below ws.heap.size ws w') := fun ws h => rzone_any (1 + (k : Int)) B3 _ d3 xs _ ((hx3.call hb4).call h) rfl (by omega)
  dsimp only at HCK
  generalize zoneL (1 + (k : Int)) xs.length xs = z at *
  obtain ⟨rows, nulls, ⟨mn, mi, mz⟩, ⟨xn, xi, xz⟩⟩ := z
  have HCC : Hid (∀ ws : World, Calls Try.prog 16 #[.agg #[.string ⟨#[120]⟩, .int .i64 (1 + (k : Int)), .int .i64 0, .bool nl], .agg #[.int .i64 rows, .int .i64 nulls, .bool mn, .int .i64 mi, .string mz, .bool xn, .int .i64 xi, .string xz]] ws fun e w' => e = .returned (.bool true) ∧ Below ws.heap.size ws w') := fun ws => by have := zcheck_any ⟨⟨#[120]⟩, 1 + (k : Int), 0, nl⟩ ⟨rows, nulls, ⟨mn, mi, mz⟩, ⟨xn, xi, xz⟩⟩ ws; rw [HCK.out] at this; exact this
  have hZ4 := Blk.new' w4 25 #[.int .i64 rows, .int .i64 nulls, .bool mn, .int .i64 mi, .string mz, .bool xn, .int .i64 xi, .string xz]
  have hbz := (Below.refl w4.heap.size w4).alloc (Nat.le_refl _) (.cells #[.int .i64 rows, .int .i64 nulls, .bool mn, .int .i64 mi, .string mz, .bool xn, .int .i64 xi, .string xz] 25)
  have hC5 := (hC3.call hb4).call hbz
  have hrB5 := (hrB3.call hb4).call hbz
  have hb5 := bt (bt hbb3 hb4) hbz
  dsimp only [Zv] at HCR ⊢
  have HCR5 : Hid (∀ ws : World, Below (w4.alloc (.cells #[.int .i64 rows, .int .i64 nulls, .bool mn, .int .i64 mi, .string mz, .bool xn, .int .i64 xi, .string xz] 25)).heap.size (w4.alloc (.cells #[.int .i64 rows, .int .i64 nulls, .bool mn, .int .i64 mi, .string mz, .bool xn, .int .i64 xi, .string xz] 25)) ws → Calls Try.prog 15 #[.int .i64 (1 + (k : Int)), .slice B3 xs.length d3] ws fun e w' => e = .returned (.agg #[.int .i64 rows, .int .i64 nulls, .bool mn, .int .i64 mi, .string mz, .bool xn, .int .i64 xi, .string xz]) ∧ Below ws.heap.size ws w') := fun ws h => HCR.out ws (bt hbz h)
  clear hx3 hC3 hbb3 hb4 hbz c1 HCR HCK hk3 hrB3
  go_upto_region 4 with fail
  generalize w4.alloc (.cells #[.int .i64 rows, .int .i64 nulls, .bool mn, .int .i64 mi, .string mz, .bool xn, .int .i64 xi, .string xz] 25) = w5 at *
  generalize w4.heap.size = gz at *
  have HA : Hid (∀ ws : World, Below w5.heap.size w5 ws → Calls Try.prog 10 #[.int .i64 typ, .slice A1 n1 cp1] ws fun e w' => e = .returned (Zv (zoneL typ n1 L)) ∧ Below ws.heap.size ws w') := fun ws h => of_any typ A1 n1 _ L ws (hrB5.call h) HN1.out hbL
  have HB : Hid (∀ ws : World, Below w5.heap.size w5 ws → Calls Try.prog 15 #[.int .i64 typ, .slice A1 n1 cp1] ws fun e w' => e = .returned (Zv (zoneL typ n1 L)) ∧ Below ws.heap.size ws w') := fun ws h => rzone_any typ A1 n1 _ L ws (hrB5.call h) HN1.out hbL
  generalize zoneL typ n1 L = zr at *
  obtain ⟨rr, rn, ⟨rmn, rmi, rmz⟩, ⟨rxn, rxi, rxz⟩⟩ := zr
  dsimp only [Zv] at HA HB
  have MK : Hid (∀ w', Below w5.heap.size w5 w' → (
    (Below w5.heap.size w5 w' ∧ w'.cell? ⟨gc, 0, none⟩ = some (.string ⟨#[120]⟩) ∧ w'.cell? ⟨gc, 1, none⟩ = some (.int .i64 (1 + (k : Int))) ∧ w'.cell? ⟨gc, 2, none⟩ = some (.int .i64 0) ∧ w'.cell? ⟨gc, 3, none⟩ = some (.bool nl) ∧ w'.cell? ⟨gz, 0, none⟩ = some (.int .i64 rows) ∧ w'.cell? ⟨gz, 1, none⟩ = some (.int .i64 nulls) ∧ w'.cell? ⟨gz, 2, none⟩ = some (.bool mn) ∧ w'.cell? ⟨gz, 3, none⟩ = some (.int .i64 mi) ∧ w'.cell? ⟨gz, 4, none⟩ = some (.string mz) ∧ w'.cell? ⟨gz, 5, none⟩ = some (.bool xn) ∧ w'.cell? ⟨gz, 6, none⟩ = some (.int .i64 xi) ∧ w'.cell? ⟨gz, 7, none⟩ = some (.string xz))
    )) := fun w' h => ⟨h, (hC5.call h).cellAt 0 rfl, (hC5.call h).cellAt 1 rfl, (hC5.call h).cellAt 2 rfl, (hC5.call h).cellAt 3 rfl, (hZ4.call h).cellAt 0 rfl, (hZ4.call h).cellAt 1 rfl, (hZ4.call h).cellAt 2 rfl, (hZ4.call h).cellAt 3 rfl, (hZ4.call h).cellAt 4 rfl, (hZ4.call h).cellAt 5 rfl, (hZ4.call h).cellAt 6 rfl, (hZ4.call h).cellAt 7 rfl⟩
  clear hrB5
  go_region_held3 (fun w' =>
    (Below w5.heap.size w5 w' ∧ w'.cell? ⟨gc, 0, none⟩ = some (.string ⟨#[120]⟩) ∧ w'.cell? ⟨gc, 1, none⟩ = some (.int .i64 (1 + (k : Int))) ∧ w'.cell? ⟨gc, 2, none⟩ = some (.int .i64 0) ∧ w'.cell? ⟨gc, 3, none⟩ = some (.bool nl) ∧ w'.cell? ⟨gz, 0, none⟩ = some (.int .i64 rows) ∧ w'.cell? ⟨gz, 1, none⟩ = some (.int .i64 nulls) ∧ w'.cell? ⟨gz, 2, none⟩ = some (.bool mn) ∧ w'.cell? ⟨gz, 3, none⟩ = some (.int .i64 mi) ∧ w'.cell? ⟨gz, 4, none⟩ = some (.string mz) ∧ w'.cell? ⟨gz, 5, none⟩ = some (.bool xn) ∧ w'.cell? ⟨gz, 6, none⟩ = some (.int .i64 xi) ∧ w'.cell? ⟨gz, 7, none⟩ = some (.string xz))
    ) (first | with_reducible assumption | with_reducible exact MK.out _ hbx | exact MK.out _ (Below.refl _ _) | exact MK.out _ ⟨rfl, rfl, rfl, Nat.le_refl _, fun _ _ => rfl⟩) (first | (go_at_call 14; refine (awake14 _).mono ?_; rintro e w6 ⟨rfl, hb6⟩; have hbx := bt (‹Below w5.heap.size w5 _ ∧ _›).1 hb6) | (go_at_call 10; refine (HA.out _ (‹Below w5.heap.size w5 _ ∧ _›).1).mono ?_; rintro e w6 ⟨rfl, hb6⟩; have hbx := bt (‹Below w5.heap.size w5 _ ∧ _›).1 hb6) | (go_at_call 15; have hq := hR; refine (HCR5.out _ (‹Below w5.heap.size w5 _ ∧ _›).1).mono ?_; rintro e w6 ⟨rfl, hb6⟩; have hbx := bt (‹Below w5.heap.size w5 _ ∧ _›).1 hb6) | (go_at_call 15; refine (HB.out _ (‹Below w5.heap.size w5 _ ∧ _›).1).mono ?_; rintro e w6 ⟨rfl, hb6⟩; have hbx := bt (‹Below w5.heap.size w5 _ ∧ _›).1 hb6; have hR := hbx) | (go_at_call 16; refine (HCC.out _).mono ?_; rintro e w6 ⟨rfl, hb6⟩; have hbx := bt (‹Below w5.heap.size w5 _ ∧ _›).1 hb6))
  have hbf := bt hb5 hbx
  clear MK HCC HCR5 HA HB
  go_wp2
  go_ret
  exact ⟨ret_bool (by first | rfl | (simp; done)), hbf⟩

end Go.Proofs.Ytnichmblekbccaa
