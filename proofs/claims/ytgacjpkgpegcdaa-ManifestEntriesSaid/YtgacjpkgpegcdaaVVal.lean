/-
  Plain law of layer 6: the bytes of a value and what is read of them; value.Put and the reference's.
-/
import Derived.Test.YtgacjpkgpegcdaaOWalks
import Derived.Test.YtgacjpkgpegcdaaVRead
import Derived.Test.YtgacjpkgpegcdaaVWalks2
namespace Go.Proofs.Ytgacjpkgpegcdaa
open Go.RowKit

/-- The bytes of a value. -/
def valP (v : Vl) : List UInt8 := if v.null then [0] else [1] ++ putL (zigN v.n) ++ putL v.s.size ++ v.s.data.toList
def zeroVl0 : Vl := ⟨false, 0, ⟨#[]⟩⟩
def nullVl : Vl := ⟨true, 0, ⟨#[]⟩⟩
theorem valP_null {v : Vl} (h : v.null = true) : valP v = [0] := if_pos h
theorem valP_some {v : Vl} (h : v.null = false) : valP v = [1] ++ putL (zigN v.n) ++ putL v.s.size ++ v.s.data.toList := if_neg (by rw [h]; exact Bool.false_ne_true)
theorem saddB {P : Program} {a : List UInt8} {b : ByteArray} (h : a.length + b.size ≤ 1000000000000000) (w : World) : (Op.stringOp .add ⟨a.toArray⟩ b).run P w = .ok (.string ⟨(a ++ b.data.toList).toArray⟩) w := by
  have : b = ⟨b.data.toList.toArray⟩ := by cases b; rfl
  rw [this]
  exact sadd (by simpa using h) w
theorem sadd1 {P : Program} {c : UInt8} {b : List UInt8} (h : 1 + b.length ≤ 1000000000000000) (w : World) : (Op.stringOp .add ⟨#[c]⟩ ⟨b.toArray⟩).run P w = .ok (.string ⟨([c] ++ b).toArray⟩) w := sadd (a := [c]) (by simpa using h) w
theorem valP_len {v : Vl} (hn : I64 v.n) (hs : v.s.size ≤ 500000000000000) : (valP v).length ≤ 21 + v.s.size := by
  have h1 := putL_len (zigN_U64 hn)
  have h2 := putL_len (v := v.s.size) (by unfold U64; omega)
  cases h : v.null
  · rw [valP_some h]; simp; omega
  · rw [valP_null h]; simp; omega

set_option maxRecDepth 100000 in
set_option maxHeartbeats 1000000 in
theorem vput_any (v : Vl) (w : World) (hn : I64 v.n) (hs : v.s.size ≤ 500000000000000) : Calls Try.prog 38 #[Vv v] w fun e w' => e = .returned (Sv (valP v)) ∧ Below w.heap.size w w' := by
  obtain ⟨vn, vi, vz⟩ := v
  dsimp only [Vv] at *
  have hV := Blk.new' w 36 #[.bool vn, .int .i64 vi, .string vz]
  have hbel : Below w.heap.size w (w.alloc (.cells #[.bool vn, .int .i64 vi, .string vz] 36)) := (Below.refl _ _).alloc (Nat.le_refl _) _
  cases vn
  · have HP := Lib.hid (valP_some (v := ⟨false, vi, vz⟩) rfl)
    dsimp only at HP
    have hU := zigN_U64 hn
    have hU2 : U64 vz.size := by unfold U64; omega
    have l1 := putL_len hU
    have l2 := putL_len hU2
    obtain ⟨L1, hL1⟩ : ∃ L : List UInt8, L = [1] ++ putL (zigN vi) := ⟨_, rfl⟩
    have l3 : L1.length ≤ 11 := by rw [hL1]; simp; omega
    obtain ⟨L2, hL2⟩ : ∃ L : List UInt8, L = L1 ++ putL vz.size := ⟨_, rfl⟩
    have l4 : L2.length ≤ 21 := by rw [hL2]; simp; omega
    obtain ⟨L3, hL3⟩ : ∃ L : List UInt8, L = L2 ++ vz.data.toList := ⟨_, rfl⟩
    have sa1 := sadd1 (P := Try.prog) (c := 1) (b := putL (zigN vi)) (by omega)
    have sa2 := sadd (P := Try.prog) (a := L1) (b := putL vz.size) (by omega)
    have sa3 := saddB (P := Try.prog) (a := L2) (b := vz) (by omega)
    rw [← hL1] at sa1
    rw [← hL2] at sa2
    rw [← hL3] at sa3
    rw [← hL1, ← hL2, ← hL3] at HP
    clear hL1 hL2 hL3
    have hcv : IntKind.u64.wrap (vz.size : Int) = (vz.size : Int) := IntWalk.u64_in _ (by omega)
    have HZG : Hid (∀ ws : World, Calls Try.prog 68 #[.int .i64 vi] ws fun e w' => e = .returned (.int .u64 (zigN vi : Nat)) ∧ ws = w') := fun ws => zig_any vi ws hn
    generalize zigN vi = zg at *
    go_enter Try.func38, Try.ntmps38
    go_upto_region 3 with fail
    generalize w.alloc (.cells #[.bool false, .int .i64 vi, .string vz] 36) = wa at *
    have MK : Hid (∀ w', Below wa.heap.size wa w' → (Below wa.heap.size wa w' ∧ w'.cell? ⟨w.heap.size, 1, none⟩ = some (.int .i64 vi) ∧ w'.cell? ⟨w.heap.size, 2, none⟩ = some (.string vz))) := fun w' h => ⟨h, (hV.call h).cellAt 1 rfl, (hV.call h).cellAt 2 rfl⟩
    go_region_held3 (fun w' => Below wa.heap.size wa w' ∧ w'.cell? ⟨w.heap.size, 1, none⟩ = some (.int .i64 vi) ∧ w'.cell? ⟨w.heap.size, 2, none⟩ = some (.string vz)) (first | with_reducible assumption | with_reducible exact MK.out _ hbx | exact MK.out _ (Below.refl _ _) | exact MK.out _ ⟨rfl, rfl, rfl, Nat.le_refl _, fun _ _ => rfl⟩) (first | (go_at_call 68; refine (HZG.out _).mono ?_; rintro e w3 ⟨rfl, rfl⟩) | (go_at_call 36; have hq := hbp; refine (put_any vz.size _ hU2).mono ?_; rintro e w4 ⟨rfl, hb4⟩; have hbx := bt (‹Below wa.heap.size wa _ ∧ _›).1 hb4) | (go_at_call 36; refine (put_any zg _ hU).mono ?_; rintro e w4 ⟨rfl, hb4⟩; have hbx := bt (‹Below wa.heap.size wa _ ∧ _›).1 hb4; have hbp := hbx))
    clear MK
    go_wp2
    go_ret
    exact ⟨by rw [HP.out]; rfl, bt hbel hbx⟩
  · have HP := Lib.hid (valP_null (v := ⟨true, vi, vz⟩) rfl)
    go_enter Try.func38, Try.ntmps38
    go_wp2
    go_ret
    exact ⟨by rw [HP.out]; rfl, hbel⟩
set_option maxRecDepth 100000 in
set_option maxHeartbeats 1000000 in
theorem rvput_any (v : Vl) (w : World) (hn : I64 v.n) (hs : v.s.size ≤ 500000000000000) : Calls Try.prog 79 #[Vv v] w fun e w' => e = .returned (Sv (valP v)) ∧ Below w.heap.size w w' := by
  obtain ⟨vn, vi, vz⟩ := v
  dsimp only [Vv] at *
  have hV := Blk.new' w 36 #[.bool vn, .int .i64 vi, .string vz]
  have hbel : Below w.heap.size w (w.alloc (.cells #[.bool vn, .int .i64 vi, .string vz] 36)) := (Below.refl _ _).alloc (Nat.le_refl _) _
  cases vn
  · have HP := Lib.hid (valP_some (v := ⟨false, vi, vz⟩) rfl)
    dsimp only at HP
    have hU := zigN_U64 hn
    have hU2 : U64 vz.size := by unfold U64; omega
    have l1 := putL_len hU
    have l2 := putL_len hU2
    obtain ⟨L1, hL1⟩ : ∃ L : List UInt8, L = [1] ++ putL (zigN vi) := ⟨_, rfl⟩
    have l3 : L1.length ≤ 11 := by rw [hL1]; simp; omega
    obtain ⟨L2, hL2⟩ : ∃ L : List UInt8, L = L1 ++ putL vz.size := ⟨_, rfl⟩
    have l4 : L2.length ≤ 21 := by rw [hL2]; simp; omega
    obtain ⟨L3, hL3⟩ : ∃ L : List UInt8, L = L2 ++ vz.data.toList := ⟨_, rfl⟩
    have sa1 := sadd1 (P := Try.prog) (c := 1) (b := putL (zigN vi)) (by omega)
    have sa2 := sadd (P := Try.prog) (a := L1) (b := putL vz.size) (by omega)
    have sa3 := saddB (P := Try.prog) (a := L2) (b := vz) (by omega)
    rw [← hL1] at sa1
    rw [← hL2] at sa2
    rw [← hL3] at sa3
    rw [← hL1, ← hL2, ← hL3] at HP
    clear hL1 hL2 hL3
    have hcv : IntKind.u64.wrap (vz.size : Int) = (vz.size : Int) := IntWalk.u64_in _ (by omega)
    have HZG : Hid (∀ ws : World, Calls Try.prog 86 #[.int .i64 vi] ws fun e w' => e = .returned (.int .u64 (zigN vi : Nat)) ∧ ws = w') := fun ws => rzig_any vi ws hn
    generalize zigN vi = zg at *
    go_enter Try.func79, Try.ntmps79
    go_upto_region 3 with fail
    generalize w.alloc (.cells #[.bool false, .int .i64 vi, .string vz] 36) = wa at *
    have MK : Hid (∀ w', Below wa.heap.size wa w' → (Below wa.heap.size wa w' ∧ w'.cell? ⟨w.heap.size, 1, none⟩ = some (.int .i64 vi) ∧ w'.cell? ⟨w.heap.size, 2, none⟩ = some (.string vz))) := fun w' h => ⟨h, (hV.call h).cellAt 1 rfl, (hV.call h).cellAt 2 rfl⟩
    go_region_held3 (fun w' => Below wa.heap.size wa w' ∧ w'.cell? ⟨w.heap.size, 1, none⟩ = some (.int .i64 vi) ∧ w'.cell? ⟨w.heap.size, 2, none⟩ = some (.string vz)) (first | with_reducible assumption | with_reducible exact MK.out _ hbx | exact MK.out _ (Below.refl _ _) | exact MK.out _ ⟨rfl, rfl, rfl, Nat.le_refl _, fun _ _ => rfl⟩) (first | (go_at_call 86; refine (HZG.out _).mono ?_; rintro e w3 ⟨rfl, rfl⟩) | (go_at_call 60; have hq := hbp; refine (rput_any vz.size _ hU2).mono ?_; rintro e w4 ⟨rfl, hb4⟩; have hbx := bt (‹Below wa.heap.size wa _ ∧ _›).1 hb4) | (go_at_call 60; refine (rput_any zg _ hU).mono ?_; rintro e w4 ⟨rfl, hb4⟩; have hbx := bt (‹Below wa.heap.size wa _ ∧ _›).1 hb4; have hbp := hbx))
    clear MK
    go_wp2
    go_ret
    exact ⟨by rw [HP.out]; rfl, bt hbel hbx⟩
  · have HP := Lib.hid (valP_null (v := ⟨true, vi, vz⟩) rfl)
    go_enter Try.func79, Try.ntmps79
    go_wp2
    go_ret
    exact ⟨by rw [HP.out]; rfl, hbel⟩

end Go.Proofs.Ytgacjpkgpegcdaa
