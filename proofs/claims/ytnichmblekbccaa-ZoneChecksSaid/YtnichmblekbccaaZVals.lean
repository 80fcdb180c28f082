/-
  The maker of a list of values.
-/
import Derived.Test.YtnichmblekbccaaZVal3
namespace Go.Proofs.Ytnichmblekbccaa
open Go.RowKit

abbrev zeroVl : Value := .agg #[.bool false, .int .i64 0, .string ⟨#[]⟩]
theorem infoVl : (Try.prog.info? 23).map (fun i => (i.zero, i.size, i.bytes)) = some (some zeroVl, 3, 32) := by kernel_rfl
theorem vls : SlTy Try.prog 27 23 zeroVl 3 32 := ⟨Try.underlying27, info_parts infoVl⟩
theorem one_vl (p : Vl) : ∀ u ∈ (valC p).toArray.toList, u.oneCell' = true := by
  intro u hu; simp [valC] at hu; rcases hu with rfl | rfl | rfl <;> rfl
theorem kval_any (k : Nat) (hk : k < 5) (g : Nat) (A : Option Addr) (n c i : Nat) (nl : Bool) (w : World) (hs : Src w g A n c i) :
    Calls Try.prog 30 #[.pointer (some ⟨g, 0, none⟩), colV (1 + (k : Int)) nl] w (ValPost w g A n c (1 + (k : Int)) nl) := by
  rcases (show k = 0 ∨ k = 1 ∨ k = 2 ∨ k = 3 ∨ k = 4 by omega) with rfl | rfl | rfl | rfl | rfl
  · exact kval_1 g A n c i nl w hs
  · exact kval_2 g A n c i nl w hs
  · exact kval_3 g A n c i nl w hs
  · exact kval_4 g A n c i nl w hs
  · exact kval_5 g A n c i nl w hs
def ValuesPost (w : World) (ty : Int) (nl : Bool) (e : Ending) (w' : World) : Prop :=
  ∃ (v : Value) (xs : List Vl), e = .returned v ∧ w'.ownsRow w.heap.size 23 3 v xs.length (xs.flatMap valC) ∧ (∀ p ∈ xs, okV ty p ∧ (p.null = true → nl = true)) ∧ xs.length ≤ 39 ∧ Below w.heap.size w w'
set_option maxRecDepth 100000 in
set_option maxHeartbeats 1000000 in
theorem values_any (k : Nat) (hk : k < 5) (nl : Bool) (A : Option Addr) (n c : Nat) (zs : List Int) (w : World) (hr : Rd w w.heap.size A (zs.map Iv)) (hn : zs.length = n) (hz : ∀ z ∈ zs, I64 z) (hm : n ≤ 17592186044416) :
    Calls Try.prog 13 #[colV (1 + (k : Int)) nl, .slice A n c] w (ValuesPost w (1 + (k : Int)) nl) := by
  generalize hty : (1 + (k : Int)) = ty
  have HTY := Lib.hid hty
  clear hty
  dsimp only [colV]
  have hC := Blk.new' w 32 #[.string ⟨#[120]⟩, .int .i64 ty, .int .i64 0, .bool nl]
  have hbel : Below w.heap.size w (w.alloc (.cells #[.string ⟨#[120]⟩, .int .i64 ty, .int .i64 0, .bool nl] 32)) := (Below.refl _ _).alloc (Nat.le_refl _) _
  have hlt := hC.lt
  have hst := Gen.start 23 3 (c := c) (hr.call hbel) hn hz hm
  clear hr hz hn
  go_enter Try.func13, Try.ntmps13
  go_wp2_with fail
  generalize w.alloc (.cells #[.string ⟨#[120]⟩, .int .i64 ty, .int .i64 0, .bool nl] 32) = w0 at *
  refine (from_any A n c w0).mono ?_; rintro e w' ⟨rfl, rfl⟩
  generalize w0.alloc (.cells #[.slice A n c, .int .i64 0] 70) = w1 at *
  go_wp2_with fail
  refine (next_any _ A n c 0 40 _ hst.src (by omega) (by omega)).mono ?_; rintro e w2 ⟨m, hm', rfl, hs2, hg2⟩
  have G2 := hst.take hs2 hg2
  clear hst hs2 hg2
  go_wp2_with fail
  go_loopw [6, 7] (fun a b wr => ∃ (j : Nat) (i : Nat) (xs : List Vl), b = .int .i64 (j : Int) ∧ Gen w0 23 3 w0.heap.size A n c i wr a xs.length (xs.flatMap valC) ∧ Hid (∀ p ∈ xs, okV ty p ∧ (p.null = true → nl = true)) ∧ xs.length + j ≤ 39) (fun _ b _ => (intOf b).toNat)
  case atStart => exact ⟨m, _, [], rfl, G2, (fun p hp => by cases hp), by simp; omega⟩
  case round =>
    clear G2
    obtain ⟨j, i, xs, rfl, G, HG, hl⟩ := hrel
    have hs := G.src
    obtain ⟨B, cp, rfl, hcp⟩ := own_form G.own
    by_cases hj : 0 < j
    · have hCw := hC.below G.bel hlt
      have c0 := hCw.cellAt 0 rfl
      have c1 := hCw.cellAt 1 rfl
      have c2 := hCw.cellAt 2 rfl
      have c3 := hCw.cellAt 3 rfl
      have hkv := kval_any k hk w0.heap.size A n c i nl wr hs
      rw [HTY.out] at hkv
      go_wp2_with fail
      refine hkv.mono ?_; rintro e w3 ⟨p, hp, rfl, ⟨i', hs3⟩, hg3⟩
      have G3 := G.take hs3 hg3
      have HP := Lib.hid hp
      obtain ⟨pn, pi, pz⟩ := p
      clear G hs hs3 hg3 hp hkv c0 c1 c2 c3 hCw
      go_wp2_with (at_builtin; refine G3.one vls rfl (by decide) (cs := #[.bool pn, .int .i64 pi, .string pz]) rfl (one_vl ⟨pn, pi, pz⟩) (by omega) (by unfold maxLen; omega) ?_ rfl _ _ rfl rfl rfl)
      intro v4 w4 G4
      go_wp2
      go_roundw
      case rel => exact ⟨j - 1, i', xs ++ [⟨pn, pi, pz⟩], by congr 1; omega, by simpa [valC] using G4, (fun q hq => by
        rcases List.mem_append.1 hq with h1 | h1
        · exact HG.out q h1
        · rw [List.mem_singleton.1 h1]; exact HP.out), by simp; omega⟩
      case measure => simp [intOf]; omega
    · have hj0 : j = 0 := by omega
      subst hj0
      go_wp2
      go_ret
      exact ⟨_, xs, rfl, G.own.mono (by have := hbel.size; omega), HG.out, by omega, bt hbel G.bel⟩

end Go.Proofs.Ytnichmblekbccaa
