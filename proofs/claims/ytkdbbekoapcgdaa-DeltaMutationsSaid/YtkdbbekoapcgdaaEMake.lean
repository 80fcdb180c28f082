/-
  The maker of lists with small and a few great differences.
-/
import Derived.Test.YtkdbbekoapcgdaaKeep
import Derived.Test.YtkdbbekoapcgdaaEEnc
namespace Go.Proofs.Ytkdbbekoapcgdaa
open Go.RowKit

/-- What list returns: a new list of numbers. -/
def MadePost (w : World) (E : TypeId) (lim : Nat) (e : Ending) (w' : World) : Prop :=
  ∃ (v : Value) (xs : List Int), e = .returned v ∧ w'.ownsRow w.heap.size E 1 v xs.length (xs.map Iv) ∧ (∀ z ∈ xs, I64 z) ∧ xs.length ≤ lim ∧ Below w.heap.size w w'
theorem all_snoc {p : Int → Prop} {xs : List Int} {z : Int} (h : ∀ x ∈ xs, p x) (hz : p z) : ∀ x ∈ xs ++ [z], p x := by
  intro x hx
  rcases List.mem_append.1 hx with h1 | h1
  · exact h x h1
  · rw [List.mem_singleton.1 h1]; exact hz
def ListInv (w : World) (g : Nat) (A : Option Addr) (n c : Nat) (v b : Value) (wr : World) : Prop :=
  ∃ (i : Nat) (xs : List Int) (z : Int), b = Iv z ∧ I64 z ∧ Gen w 2 1 g A n c i wr v xs.length (xs.map Iv) ∧ (∀ z ∈ xs, I64 z) ∧ xs.length ≤ 150

set_option maxRecDepth 100000 in
set_option maxHeartbeats 1000000 in
theorem list_any (A : Option Addr) (n c : Nat) (zs : List Int) (w : World) (hr : Rd w w.heap.size A (zs.map Iv)) (hn : zs.length = n) (hz : ∀ z ∈ zs, I64 z) (hm : n ≤ 17592186044416) :
    Calls Try.prog 10 #[.slice A n c] w (MadePost w 2 150) := by
  have hst := Gen.start 2 1 (c := c) hr hn hz hm
  clear hr hz hn
  go_enter Try.func10, Try.ntmps10
  go_wp2_with fail
  refine (from_any A n c w).mono ?_; rintro e w' ⟨rfl, rfl⟩
  generalize w.alloc (.cells #[.slice A n c, .int .i64 0] 60) = w1 at *
  have hs0 := hst.src
  go_wp2_with fail
  refine (raw_any _ A n c 0 w1 hs0).mono ?_; rintro e w2 ⟨z0, hz0, rfl, hs1, hg1⟩
  have G := hst.take hs1 hg1
  clear hst hs0 hs1 hg1
  have HS : ListInv w w.heap.size A n c (.slice none 0 0) (Iv z0) w2 := ⟨_, [], z0, rfl, hz0, G, by simp, by simp⟩
  clear G
  go_wp2_with fail
  go_loopw [4, 5] (fun v b wr => ListInv w w.heap.size A n c v b wr) (fun _ _ wr => n - srcAt w.heap.size wr)
  case atStart => exact HS
  case round =>
    clear HS
    obtain ⟨i, xs, z, rfl, hz, G0, hI, hl⟩ := hrel
    have HI := Lib.hid hI
    clear hI
    have hs1 := G0.src
    have hLe := hs1.le
    obtain ⟨B, cp, rfl, hcp⟩ := own_form G0.own
    by_cases hi : i < n
    · have hL := left_any _ A n c i wr hs1
      rw [decide_eq_true hi] at hL
      have HL := Lib.hid hL
      clear hL
      go_wp2_with fail
      refine HL.out.mono ?_; rintro e w2 ⟨rfl, q, rfl⟩
      have G1 := G0.drewN q
      have hs1' := G1.src
      clear HL hs1
      by_cases h3 : xs.length < 150
      · have hd3 : decide (xs.length < 150) = true := by simpa using h3
        go_wp2_with fail
        refine (next_any _ A n c i 8 _ hs1' (by omega) (by omega)).mono ?_; rintro e w3 ⟨k4, hk4, rfl, hs2, hg2⟩
        have G2 := G1.take hs2 hg2
        clear G1 hs1' hg2
        by_cases h0 : k4 = 0
        · have hb0 : ((k4 : Int) == 0) = true := by simp; omega
          clear h0
          go_wp2_with fail
          refine (raw_any _ A n c _ _ hs2).mono ?_; rintro e w4' ⟨z1, hz1, rfl, hs3, hg3⟩
          have G3 := G2.take hs3 hg3
          clear G2 hs2 hg3
          have HZ1 := Lib.hid hz1
          clear hz1
          go_wp2_with (at_builtin; refine G3.one i64s rfl (by decide) rfl (one_i64 _) (by omega) (by unfold maxLen; omega) ?_ rfl _ _ rfl rfl rfl)
          intro v6 w6 G6
          go_wp2
          go_roundw
          case rel => exact ⟨_, xs ++ [_], _, rfl, HZ1.out, by simpa using G6, all_snoc HI.out HZ1.out, by simp; omega⟩
          case measure => rw [G6.src.at_, G0.src.at_]; omega
        · have hb0 : ((k4 : Int) == 0) = false := by simp; omega
          by_cases h1 : k4 = 1
          · have hb1 : ((k4 : Int) == 1) = true := by simp; omega
            clear h0 h1
            go_wp2_with fail
            refine (next_any _ A n c _ 1048576 _ hs2 (by omega) (by omega)).mono ?_; rintro e w4 ⟨k5, hk5, rfl, hs3, hg3⟩
            have G3 := G2.take hs3 hg3
            have hz1 := I64_wrap (z - (k5 : Int))
            clear G2 hs2 hg3
            have HZ1 := Lib.hid hz1
            clear hz1
            go_wp2_with (at_builtin; refine G3.one i64s rfl (by decide) rfl (one_i64 _) (by omega) (by unfold maxLen; omega) ?_ rfl _ _ rfl rfl rfl)
            intro v6 w6 G6
            go_wp2
            go_roundw
            case rel => exact ⟨_, xs ++ [_], _, rfl, HZ1.out, by simpa using G6, all_snoc HI.out HZ1.out, by simp; omega⟩
            case measure => rw [G6.src.at_, G0.src.at_]; omega
          · have hb1 : ((k4 : Int) == 1) = false := by simp; omega
            clear h0 h1
            go_wp2_with fail
            refine (next_any _ A n c _ 9 _ hs2 (by omega) (by omega)).mono ?_; rintro e w4 ⟨k5, hk5, rfl, hs3, hg3⟩
            have G3 := G2.take hs3 hg3
            have hz1 := I64_wrap (z + (k5 : Int))
            clear G2 hs2 hg3
            have HZ1 := Lib.hid hz1
            clear hz1
            go_wp2_with (at_builtin; refine G3.one i64s rfl (by decide) rfl (one_i64 _) (by omega) (by unfold maxLen; omega) ?_ rfl _ _ rfl rfl rfl)
            intro v6 w6 G6
            go_wp2
            go_roundw
            case rel => exact ⟨_, xs ++ [_], _, rfl, HZ1.out, by simpa using G6, all_snoc HI.out HZ1.out, by simp; omega⟩
            case measure => rw [G6.src.at_, G0.src.at_]; omega
      · have hd3 : decide (xs.length < 150) = false := by simp; omega
        go_wp2
        go_ret
        exact ⟨_, xs, rfl, G1.own.mono (by omega), HI.out, hl, G1.bel⟩
    · have hL := left_any _ A n c i wr hs1
      rw [decide_eq_false hi] at hL
      have HL := Lib.hid hL
      clear hL
      go_wp2_with fail
      refine HL.out.mono ?_; rintro e w2 ⟨rfl, q, rfl⟩
      have G1 := G0.drewN q
      go_wp2
      go_ret
      exact ⟨_, xs, rfl, G1.own.mono (by omega), HI.out, hl, G1.bel⟩

end Go.Proofs.Ytkdbbekoapcgdaa
