/-
  The makers of lists of ranks and ranges.
-/
import Derived.Test.YtmmnfniebiggpaaOMake
import Derived.Test.YtmmnfniebiggpaaOList
namespace Go.Proofs.Ytmmnfniebiggpaa
open Go.RowKit

abbrev zeroRk : Value := .agg #[.bool false, .int .i64 0, .string ⟨#[]⟩, .int .i64 0]
abbrev zeroRg : Value := .agg #[.bool false, .int .i64 0, .string ⟨#[]⟩, .int .i64 0, .bool false, .int .i64 0, .string ⟨#[]⟩, .int .i64 0]
theorem infoRk : (Try.prog.info? 38).map (fun i => (i.zero, i.size, i.bytes)) = some (some zeroRk, 4, 40) := by kernel_rfl
theorem rks : SlTy Try.prog 31 38 zeroRk 4 40 := ⟨Try.underlying31, info_parts infoRk⟩
theorem infoRg : (Try.prog.info? 41).map (fun i => (i.zero, i.size, i.bytes)) = some (some zeroRg, 8, 80) := by kernel_rfl
theorem rgs : SlTy Try.prog 29 41 zeroRg 8 80 := ⟨Try.underlying29, info_parts infoRg⟩
theorem one_rk (p : Rk) : ∀ u ∈ (rankC p).toArray.toList, u.oneCell' = true := by
  intro u hu; simp [rankC] at hu; rcases hu with rfl | rfl | rfl | rfl <;> rfl
theorem one_rg (p : Rg) : ∀ u ∈ (rangeC p).toArray.toList, u.oneCell' = true := by
  intro u hu; simp [rangeC, rankC] at hu; rcases hu with rfl | rfl | rfl | rfl | rfl | rfl | rfl | rfl <;> rfl

def RanksPost (w : World) (m : Nat) (e : Ending) (w' : World) : Prop :=
  ∃ (v : Value) (xs : List Rk), e = .returned v ∧ w'.ownsRow w.heap.size 38 4 v xs.length (xs.flatMap rankC) ∧ (∀ p ∈ xs, GenR p) ∧ xs.length ≤ m ∧ Below w.heap.size w w'
set_option maxRecDepth 100000 in
set_option maxHeartbeats 1000000 in
theorem ranks_any (A : Option Addr) (n c m : Nat) (zs : List Int) (w : World) (hr : Rd w w.heap.size A (zs.map Iv)) (hn : zs.length = n) (hz : ∀ z ∈ zs, I64 z) (hm : n ≤ 17592186044416) (hm2 : m ≤ 1000) :
    Calls Try.prog 15 #[.slice A n c, .int .i64 (m : Int)] w (RanksPost w m) := by
  have hst := Gen.start 38 4 (c := c) hr hn hz hm
  clear hr hz hn
  go_enter Try.func15, Try.ntmps15
  go_wp2_with fail
  refine (from_any A n c w).mono ?_; rintro e w' ⟨rfl, rfl⟩
  generalize w.alloc (.cells #[.slice A n c, .int .i64 0] 62) = w1 at *
  go_wp2_with fail
  refine (next_any _ A n c 0 (m + 1) _ hst.src (by omega) (by omega)).mono ?_; rintro e w2 ⟨k, hk, rfl, hs2, hg2⟩
  have G2 := hst.take hs2 hg2
  clear hst hs2 hg2
  go_wp2_with fail
  go_loopw [6, 7] (fun a b wr => ∃ (j : Nat) (i : Nat) (xs : List Rk), b = .int .i64 (j : Int) ∧ Gen w 38 4 w.heap.size A n c i wr a xs.length (xs.flatMap rankC) ∧ Hid (∀ p ∈ xs, GenR p) ∧ xs.length + j ≤ m) (fun _ b _ => (intOf b).toNat)
  case atStart => exact ⟨k, _, [], rfl, G2, (fun p hp => by cases hp), by simp; omega⟩
  case round =>
    clear G2
    obtain ⟨j, i, xs, rfl, G, HG, hl⟩ := hrel
    have hs := G.src
    obtain ⟨B, cp, rfl, hcp⟩ := own_form G.own
    by_cases hj : 0 < j
    · go_wp2_with fail
      refine (rank_any _ A n c i _ hs).mono ?_; rintro e w3 ⟨p, hp, rfl, ⟨i', hs3⟩, hg3⟩
      have G3 := G.take hs3 hg3
      have HP := Lib.hid hp
      obtain ⟨⟨pn, pi, pz⟩, pq⟩ := p
      clear G hs hs3 hg3 hp
      go_wp2_with (at_builtin; refine G3.one rks rfl (by decide) (cs := #[.bool pn, .int .i64 pi, .string pz, .int .i64 pq]) rfl (one_rk ⟨⟨pn, pi, pz⟩, pq⟩) (by omega) (by unfold maxLen; omega) ?_ rfl _ _ rfl rfl rfl)
      intro v4 w4 G4
      go_wp2
      go_roundw
      case rel => exact ⟨j - 1, i', xs ++ [⟨⟨pn, pi, pz⟩, pq⟩], by congr 1; omega, by simpa [rankC] using G4, by
        intro p hp
        rcases List.mem_append.1 hp with h1 | h1
        · exact HG.out p h1
        · rw [List.mem_singleton.1 h1]; exact HP.out, by simp; omega⟩
      case measure => simp [intOf]; omega
    · have hj0 : j = 0 := by omega
      subst hj0
      go_wp2
      go_ret
      exact ⟨_, xs, rfl, G.own.mono (by omega), HG.out, by omega, G.bel⟩

end Go.Proofs.Ytmmnfniebiggpaa
