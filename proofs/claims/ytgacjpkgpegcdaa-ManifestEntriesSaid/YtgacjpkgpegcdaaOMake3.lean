/-
  The maker of ranges.
-/
import Derived.Test.YtgacjpkgpegcdaaOMake2
namespace Go.Proofs.Ytgacjpkgpegcdaa
open Go.RowKit

def GenG (r : Rg) : Prop := GenR r.lo ∧ GenR r.hi ∧ cmpR 1 r.lo r.hi ≤ 0
def RangesPost (w : World) (m : Nat) (e : Ending) (w' : World) : Prop :=
  ∃ (v : Value) (xs : List Rg), e = .returned v ∧ w'.ownsRow w.heap.size 87 8 v xs.length (xs.flatMap rangeC) ∧ (∀ p ∈ xs, GenG p) ∧ xs.length ≤ m ∧ Below w.heap.size w w'
/-- A step that may have turned one block alone, which is not the row's own. -/
theorem Gen.side {w wr w' : World} {e : TypeId} {size g n c i m g' : Nat} {A : Option Addr} {v : Value} {xs : List Value} (h : Gen w e size g A n c i wr v m xs) (hg : wr.grownBy w' (some g')) (hlt : g < g') (hne : v.ownBlock ≠ some g') : Gen w e size g A n c i w' v m xs :=
  ⟨h.src.grown hg (fun k e => by injection e with e; omega), h.own.kept hg (by
    cases h1 : v.ownBlock with
    | none => exact .inl rfl
    | some k => exact .inr (fun e => hne (h1.trans e))), h.bel.trans ⟨hg.os, hg.tape, hg.output, hg.size, fun k hk => hg.block k (by have := h.src.lt; omega) (fun e => by injection e with e; omega)⟩⟩
theorem Gen.fresh {w wr : World} {e : TypeId} {size g n c i m : Nat} {A : Option Addr} {v : Value} {xs : List Value} (h : Gen w e size g A n c i wr v m xs) {g' : Nat} (hg : wr.heap.size ≤ g') : v.ownBlock ≠ some g' :=
  fun e => by have := (h.own.lt g' e).2; omega
set_option maxRecDepth 100000 in
set_option maxHeartbeats 1000000 in
theorem ranges_any (A : Option Addr) (n c m : Nat) (zs : List Int) (w : World) (hr : Rd w w.heap.size A (zs.map Iv)) (hn : zs.length = n) (hz : ∀ z ∈ zs, I64 z) (hm : n ≤ 17592186044416) (hm2 : m ≤ 1000) :
    Calls Try.prog 45 #[.slice A n c, .int .i64 (m : Int)] w (RangesPost w m) := by
  have hst := Gen.start 87 8 (c := c) hr hn hz hm
  clear hr hz hn
  go_enter Try.func45, Try.ntmps45
  go_wp2_with fail
  refine (from_any A n c w).mono ?_; rintro e w' ⟨rfl, rfl⟩
  generalize w.alloc (.cells #[.slice A n c, .int .i64 0] 113) = w1 at *
  go_wp2_with fail
  refine (next_any _ A n c 0 (m + 1) _ hst.src (by omega) (by omega)).mono ?_; rintro e w2 ⟨k, hk, rfl, hs2, hg2⟩
  have G2 := hst.take hs2 hg2
  clear hst hs2 hg2
  go_wp2_with fail
  go_loopw [6, 7] (fun a b wr => ∃ (j : Nat) (i : Nat) (xs : List Rg), b = .int .i64 (j : Int) ∧ Gen w 87 8 w.heap.size A n c i wr a xs.length (xs.flatMap rangeC) ∧ Hid (∀ p ∈ xs, GenG p) ∧ xs.length + j ≤ m) (fun _ b _ => (intOf b).toNat)
  case atStart => exact ⟨k, _, [], rfl, G2, (fun p hp => by cases hp), by simp; omega⟩
  case round =>
    clear G2
    obtain ⟨j, i, xs, rfl, G, HG, hl⟩ := hrel
    have hs := G.src
    obtain ⟨B, cp, rfl, hcp⟩ := own_form G.own
    by_cases hj : 0 < j
    · go_wp2_with fail
      refine (rank_any _ A n c i _ hs).mono ?_; rintro e w3 ⟨p, hp, rfl, ⟨i3, hs3⟩, hg3⟩
      have G3 := G.take hs3 hg3
      have HP := Lib.hid hp
      obtain ⟨⟨pn, pi, pz⟩, pq⟩ := p
      clear G hs hg3 hp
      go_wp2_with fail
      refine (rank_any _ A n c i3 _ hs3).mono ?_; rintro e w4 ⟨p', hp', rfl, ⟨i4, hs4⟩, hg4⟩
      have G4 := G3.take hs4 hg4
      have HP' := Lib.hid hp'
      obtain ⟨⟨qn, qi, qz⟩, qq⟩ := p'
      clear G3 hs3 hs4 hg4 hp'
      have hA := Blk.alloc (Blk.new' w4 38 #[.bool pn, .int .i64 pi, .string pz, .int .i64 pq]) (.cells #[.bool qn, .int .i64 qi, .string qz, .int .i64 qq] 38)
      have hB : Blk ((w4.alloc (.cells #[.bool pn, .int .i64 pi, .string pz, .int .i64 pq] 38)).alloc (.cells #[.bool qn, .int .i64 qi, .string qz, .int .i64 qq] 38)) (w4.heap.size + 1) 38 [.bool qn, .int .i64 qi, .string qz, .int .i64 qq] := by
        have := Blk.new' (w4.alloc (.cells #[.bool pn, .int .i64 pi, .string pz, .int .i64 pq] 38)) 38 #[.bool qn, .int .i64 qi, .string qz, .int .i64 qq]
        simpa using this
      have G5 := (G4.call ((Below.refl _ _).alloc (Nat.le_refl _) (.cells #[.bool pn, .int .i64 pi, .string pz, .int .i64 pq] 38))).call ((Below.refl _ _).alloc (Nat.le_refl _) (.cells #[.bool qn, .int .i64 qi, .string qz, .int .i64 qq] 38))
      have ne1 := G4.fresh (Nat.le_refl _)
      have ne2 := G4.fresh (Nat.le_succ _)
      have lt0 := G4.src.lt
      clear G4
      go_wp2_with fail
      generalize (w4.alloc (.cells #[.bool pn, .int .i64 pi, .string pz, .int .i64 pq] 38)).alloc (.cells #[.bool qn, .int .i64 qi, .string qz, .int .i64 qq] 38) = w5 at *
      refine (rcmp_rank 1 ⟨⟨pn, pi, pz⟩, pq⟩ ⟨⟨qn, qi, qz⟩, qq⟩ _).mono ?_; rintro e w6 ⟨rfl, hb6⟩
      have hA6 := hA.call hb6
      have hB6 := hB.call hb6
      have G6 := G5.call hb6
      clear hA hB G5
      have fa := fun j => hA6.frozen j
      have fb := fun j => hB6.frozen j
      have a0 := hA6.cellAt 0 rfl
      have a1 := hA6.cellAt 1 rfl
      have a2 := hA6.cellAt 2 rfl
      have a3 := hA6.cellAt 3 rfl
      have b0 := hB6.cellAt 0 rfl
      have b1 := hB6.cellAt 1 rfl
      have b2 := hB6.cellAt 2 rfl
      have b3 := hB6.cellAt 3 rfl
      by_cases hc : cmpR 1 ⟨⟨pn, pi, pz⟩, pq⟩ ⟨⟨qn, qi, qz⟩, qq⟩ ≤ 0
      · have hd : decide (0 < cmpR 1 ⟨⟨pn, pi, pz⟩, pq⟩ ⟨⟨qn, qi, qz⟩, qq⟩) = false := by simp only [decide_eq_false_iff_not]; omega
        have HC := Lib.hid hc
        clear hc
        go_wp2_with (at_builtin; refine G6.one rgs rfl (by decide) (cs := #[.bool pn, .int .i64 pi, .string pz, .int .i64 pq, .bool qn, .int .i64 qi, .string qz, .int .i64 qq]) rfl (one_rg ⟨⟨⟨pn, pi, pz⟩, pq⟩, ⟨⟨qn, qi, qz⟩, qq⟩⟩) (by omega) (by unfold maxLen; omega) ?_ rfl _ _ rfl rfl rfl)
        intro v8 w8 G8
        go_wp2
        go_roundw
        case rel => exact ⟨j - 1, i4, xs ++ [⟨⟨⟨pn, pi, pz⟩, pq⟩, ⟨⟨qn, qi, qz⟩, qq⟩⟩], by congr 1; omega, by simpa [rangeC, rankC] using G8, by
          intro p hp
          rcases List.mem_append.1 hp with h1 | h1
          · exact HG.out p h1
          · rw [List.mem_singleton.1 h1]; exact ⟨HP.out, HP'.out, HC.out⟩, by simp; omega⟩
        case measure => simp [intOf]; omega
      · have hd : decide (0 < cmpR 1 ⟨⟨pn, pi, pz⟩, pq⟩ ⟨⟨qn, qi, qz⟩, qq⟩) = true := by simp only [decide_eq_true_eq]; omega
        have HC := Lib.hid ((ord3R 1).lt_of hc)
        clear hc
        have G7 := (((((((G6.side (grown_set w6 w4.heap.size 0 (.bool qn)) lt0 ne1).side (grown_set _ w4.heap.size 1 (.int .i64 qi)) lt0 ne1).side (grown_set _ w4.heap.size 2 (.string qz)) lt0 ne1).side (grown_set _ w4.heap.size 3 (.int .i64 qq)) lt0 ne1).side (grown_set _ (w4.heap.size + 1) 0 (.bool pn)) (by omega) ne2).side (grown_set _ (w4.heap.size + 1) 1 (.int .i64 pi)) (by omega) ne2).side (grown_set _ (w4.heap.size + 1) 2 (.string pz)) (by omega) ne2).side (grown_set _ (w4.heap.size + 1) 3 (.int .i64 pq)) (by omega) ne2
        have hA7 := ((((((((hA6.set_ 0 (.bool qn)).set_ 1 (.int .i64 qi)).set_ 2 (.string qz)).set_ 3 (.int .i64 qq)).grownB (grown_set _ (w4.heap.size + 1) 0 (.bool pn)) (by omega)).grownB (grown_set _ (w4.heap.size + 1) 1 (.int .i64 pi)) (by omega)).grownB (grown_set _ (w4.heap.size + 1) 2 (.string pz)) (by omega)).grownB (grown_set _ (w4.heap.size + 1) 3 (.int .i64 pq)) (by omega))
        have hB7 := ((((((((hB6.grownB (grown_set w6 w4.heap.size 0 (.bool qn)) (by omega)).grownB (grown_set _ w4.heap.size 1 (.int .i64 qi)) (by omega)).grownB (grown_set _ w4.heap.size 2 (.string qz)) (by omega)).grownB (grown_set _ w4.heap.size 3 (.int .i64 qq)) (by omega)).set_ 0 (.bool pn)).set_ 1 (.int .i64 pi)).set_ 2 (.string pz)).set_ 3 (.int .i64 pq))
        go_upto_region 9 with fail
        generalize (((((((w6.setCell ⟨w4.heap.size, 0, none⟩ (.bool qn)).setCell ⟨w4.heap.size, 1, none⟩ (.int .i64 qi)).setCell ⟨w4.heap.size, 2, none⟩ (.string qz)).setCell ⟨w4.heap.size, 3, none⟩ (.int .i64 qq)).setCell ⟨w4.heap.size + 1, 0, none⟩ (.bool pn)).setCell ⟨w4.heap.size + 1, 1, none⟩ (.int .i64 pi)).setCell ⟨w4.heap.size + 1, 2, none⟩ (.string pz)).setCell ⟨w4.heap.size + 1, 3, none⟩ (.int .i64 pq) = w7 at *
        clear a0 a1 a2 a3 b0 b1 b2 b3 fa fb hA6 hB6 G6
        have a0 := hA7.cellAt 0 rfl
        have a1 := hA7.cellAt 1 rfl
        have a2 := hA7.cellAt 2 rfl
        have a3 := hA7.cellAt 3 rfl
        have b0 := hB7.cellAt 0 rfl
        have b1 := hB7.cellAt 1 rfl
        have b2 := hB7.cellAt 2 rfl
        have b3 := hB7.cellAt 3 rfl
        go_wp2_with (at_builtin; refine G7.one rgs rfl (by decide) (cs := #[.bool qn, .int .i64 qi, .string qz, .int .i64 qq, .bool pn, .int .i64 pi, .string pz, .int .i64 pq]) rfl (one_rg ⟨⟨⟨qn, qi, qz⟩, qq⟩, ⟨⟨pn, pi, pz⟩, pq⟩⟩) (by omega) (by unfold maxLen; omega) ?_ rfl _ _ rfl rfl rfl)
        intro v8 w8 G8
        go_wp2
        go_roundw
        case rel => exact ⟨j - 1, i4, xs ++ [⟨⟨⟨qn, qi, qz⟩, qq⟩, ⟨⟨pn, pi, pz⟩, pq⟩⟩], by congr 1; omega, by simpa [rangeC, rankC] using G8, by
          intro p hp
          rcases List.mem_append.1 hp with h1 | h1
          · exact HG.out p h1
          · rw [List.mem_singleton.1 h1]; exact ⟨HP'.out, HP.out, HC.out⟩, by simp; omega⟩
        case measure => simp [intOf]; omega
    · have hj0 : j = 0 := by omega
      subst hj0
      go_wp2
      go_ret
      exact ⟨_, xs, rfl, G.own.mono (by omega), HG.out, by omega, G.bel⟩

end Go.Proofs.Ytgacjpkgpegcdaa
