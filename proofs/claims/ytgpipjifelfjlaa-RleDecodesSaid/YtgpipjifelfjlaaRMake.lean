/-
  The maker of lists with long runs.
-/
import Derived.Test.YtgpipjifelfjlaaKeep
namespace Go.Proofs.Ytgpipjifelfjlaa
open Go.RowKit

theorem Try.infoI64 : (Try.prog.info? 2).map (fun i => (i.zero, i.size, i.bytes)) = some (some (.int .i64 0), 1, 8) := by kernel_rfl
theorem Try.i64s : SlTy Try.prog 23 2 (.int .i64 0) 1 8 := ⟨Try.underlying23, info_parts Try.infoI64⟩

/-- What runs returns: a new list of numbers. -/
def MadePost (w : World) (E : TypeId) (lim : Nat) (e : Ending) (w' : World) : Prop :=
  ∃ (v : Value) (xs : List Int), e = .returned v ∧ w'.ownsRow w.heap.size E 1 v xs.length (xs.map Iv) ∧ (∀ z ∈ xs, I64 z) ∧ xs.length ≤ lim ∧ Below w.heap.size w w'

theorem one_i64 (z : Int) : ∀ u ∈ (#[Value.int .i64 z] : Array Value).toList, u.oneCell' = true := by
  intro u hu; simp at hu; subst hu; rfl
theorem all_snoc {p : Int → Prop} {xs : List Int} {z : Int} (h : ∀ x ∈ xs, p x) (hz : p z) : ∀ x ∈ xs ++ [z], p x := by
  intro x hx
  rcases List.mem_append.1 hx with h1 | h1
  · exact h x h1
  · rw [List.mem_singleton.1 h1]; exact hz
def RunsIn2 (w : World) (g : Nat) (A : Option Addr) (n c i : Nat) (v : Value) (k : Value) (wr : World) : Prop :=
  ∃ (j : Nat) (xs : List Int), k = .int .i64 (j : Int) ∧ Gen w 2 1 g A n c i wr v xs.length (xs.map Iv) ∧ (∀ z ∈ xs, I64 z) ∧ xs.length + j ≤ 308
def RunsInv (w : World) (g : Nat) (A : Option Addr) (n c : Nat) (v : Value) (wr : World) : Prop :=
  ∃ (i : Nat) (xs : List Int), Gen w 2 1 g A n c i wr v xs.length (xs.map Iv) ∧ (∀ z ∈ xs, I64 z) ∧ xs.length ≤ 308

set_option maxRecDepth 100000 in
set_option maxHeartbeats 1000000 in
theorem runs_any (A : Option Addr) (n c : Nat) (zs : List Int) (w : World) (hr : Rd w w.heap.size A (zs.map Iv)) (hn : zs.length = n) (hz : ∀ z ∈ zs, I64 z) (hm : n ≤ 17592186044416) :
    Calls Try.prog 11 #[.slice A n c] w (MadePost w 2 308) := by
  have hst := Gen.start 2 1 (c := c) hr hn hz hm
  clear hr hz hn
  go_enter Try.func11, Try.ntmps11
  go_wp2_with fail
  refine (from_any A n c w).mono ?_; rintro e w' ⟨rfl, rfl⟩
  generalize w.alloc (.cells #[.slice A n c, .int .i64 0] 51) = w1 at *
  have hs0 : RunsInv w w.heap.size A n c (.slice none 0 0) w1 := ⟨0, [], hst, by simp, by simp⟩
  clear hst
  go_wp2_with fail
  go_loopw [4] (fun v wr => RunsInv w w.heap.size A n c v wr) (fun _ wr => n - srcAt w.heap.size wr)
  case atStart => exact hs0
  case round =>
    clear hs0
    obtain ⟨i, xs, G0, hI, hl⟩ := hrel
    have HI := Lib.hid hI
    clear hI
    have hs1 := G0.src
    have hLe := hs1.le
    obtain ⟨B, cp, rfl, hcp⟩ := own_form G0.own
    by_cases hi : i < n
    · have hL := left_any _ A n c i wr hs1
      rw [decide_eq_true hi] at hL
      have HL := Lib.hid hL
      clear hL
      go_wp2_with fail
      refine HL.out.mono ?_; rintro e w2 ⟨rfl, q, rfl⟩
      have G1 := G0.drewN q
      have hs1' := G1.src
      clear HL hs1
      by_cases h3 : xs.length < 300
      · have hd3 : decide (xs.length < 300) = true := by simpa using h3
        go_wp2_with fail
        refine (next_any _ A n c i 4 _ hs1' (by omega) (by omega)).mono ?_; rintro e w3 ⟨k4, hk4, rfl, hs2, hg2⟩
        have G2 := G1.take hs2 hg2
        clear G1 hs1' hg2
        go_wp2_with fail
        refine (next_any _ A n c _ 6 _ hs2 (by omega) (by omega)).mono ?_; rintro e w4 ⟨k6, hk6, rfl, hs3, hg3⟩
        have G3 := G2.take hs3 hg3
        clear G2 hs2 hg3
        by_cases h6 : k6 = 0
        · have hb6 : ((k6 : Int) == 0) = true := by simp; omega
          clear h6
          go_wp2_with fail
          refine (raw_any _ A n c _ _ hs3).mono ?_; rintro e w4' ⟨z, hz1, rfl, hs3', hg3'⟩
          have G3' := G3.take hs3' hg3'
          clear G3 hs3 hg3'
          have G3 := G3'
          have hs3 := hs3'
          clear G3' hs3'
          have HZ := Lib.hid hz1
          clear hz1
          go_wp2_with fail
          refine (next_any _ A n c _ 9 _ hs3 (by omega) (by omega)).mono ?_; rintro e w5 ⟨k9, hk9, rfl, hs4, hg4⟩
          have G4 := G3.take hs4 hg4
          clear G3 hs3 hg4 hs4
          go_wp2
          go_loopw [4, 6] (fun v k wx => RunsIn2 w w.heap.size A n c (min (min (min (min (i + 1) n + 1) n + 1) n + 1) n) v k wx) (fun _ k _ => (intOf k).toNat)
          case atStart => exact ⟨1 + k9, xs, by simp, G4, HI.out, by omega⟩
          case round =>
            clear G4
            obtain ⟨j, ys, rfl, G5, hI5, hl5⟩ := hrel
            have HI5 := Lib.hid hI5
            clear hI5
            by_cases hj : 0 < j
            · go_wp2_with (at_builtin; refine G5.one Try.i64s rfl (by decide) rfl (one_i64 _) (by omega) (by unfold maxLen; omega) ?_ rfl _ _ rfl rfl rfl)
              intro v6 w6 G6
              go_wp2
              go_roundw
              case rel => exact ⟨j - 1, ys ++ [z], by congr 1; omega, by simpa using G6, all_snoc HI5.out HZ.out, by simp; omega⟩
              case measure => simp [intOf]; omega
            · have hj0 : j = 0 := by omega
              subst hj0
              go_wp2
              go_roundw
              case rel => exact ⟨_, ys, G5, HI5.out, by omega⟩
              case measure => rw [G5.src.at_, G0.src.at_]; omega
        · have hb6 : ((k6 : Int) == 0) = false := by simp; omega
          have hz1 : I64 ((k4 : Int) - 1) := by unfold I64; omega
          go_wp2_with fail
          generalize (k4 : Int) - 1 = z at *
          have HZ := Lib.hid hz1
          clear hz1
          go_wp2_with fail
          refine (next_any _ A n c _ 9 _ hs3 (by omega) (by omega)).mono ?_; rintro e w5 ⟨k9, hk9, rfl, hs4, hg4⟩
          have G4 := G3.take hs4 hg4
          clear G3 hs3 hg4 hs4
          go_wp2
          go_loopw [4, 6] (fun v k wx => RunsIn2 w w.heap.size A n c (min (min (min (i + 1) n + 1) n + 1) n) v k wx) (fun _ k _ => (intOf k).toNat)
          case atStart => exact ⟨1 + k9, xs, by simp, G4, HI.out, by omega⟩
          case round =>
            clear G4
            obtain ⟨j, ys, rfl, G5, hI5, hl5⟩ := hrel
            have HI5 := Lib.hid hI5
            clear hI5
            by_cases hj : 0 < j
            · go_wp2_with (at_builtin; refine G5.one Try.i64s rfl (by decide) rfl (one_i64 _) (by omega) (by unfold maxLen; omega) ?_ rfl _ _ rfl rfl rfl)
              intro v6 w6 G6
              go_wp2
              go_roundw
              case rel => exact ⟨j - 1, ys ++ [z], by congr 1; omega, by simpa using G6, all_snoc HI5.out HZ.out, by simp; omega⟩
              case measure => simp [intOf]; omega
            · have hj0 : j = 0 := by omega
              subst hj0
              go_wp2
              go_roundw
              case rel => exact ⟨_, ys, G5, HI5.out, by omega⟩
              case measure => rw [G5.src.at_, G0.src.at_]; omega
      · have hd3 : decide (xs.length < 300) = false := by simp; omega
        go_wp2
        go_ret
        exact ⟨_, xs, rfl, G1.own.mono (by omega), HI.out, hl, G1.bel⟩
    · have hL := left_any _ A n c i wr hs1
      rw [decide_eq_false hi] at hL
      have HL := Lib.hid hL
      clear hL
      go_wp2_with fail
      refine HL.out.mono ?_; rintro e w2 ⟨rfl, q, rfl⟩
      have G1 := G0.drewN q
      go_wp2
      go_ret
      exact ⟨_, xs, rfl, G1.own.mono (by omega), HI.out, hl, G1.bel⟩

end Go.Proofs.Ytgpipjifelfjlaa
