/-
  The walks of the laws of layer 1, the last ones.
-/
import Derived.Test.YtdkpjcgahlbmlaaVLaws
namespace Go.Proofs.Ytdkpjcgahlbmlaa
open Go.RowKit

set_option maxRecDepth 100000 in
set_option maxHeartbeats 400000 in
theorem walk_VarintIsShortest (s : ByteArray) (c : Int) (w : World) (hs : s.size ≤ 140737488351232) (wc : (Lit.int .u8 c).wf = true) :
    Calls Try.prog 9 #[.string s, .int .u8 c] w fun e w' => e = .returned (.bool true) ∧ Below w.heap.size w w' := by
  obtain ⟨c, rfl, hc⟩ := wf_u8 wc
  clear wc
  have hcv := byte_str_at Try.bytes Try.underlying5 Try.underlying9 c hc
  by_cases h9 : 9 < (s.size : Int)
  · go_enter Try.func9, Try.ntmps9
    go_wp2_with fail
    go_region
    have hT : (s.extract 0 9 ++ { data := #[UInt8.ofNat c] }).size ≤ 10 := by
      rw [ByteArray.size_append, ByteArray.size_extract]; show _ + 1 ≤ _; omega
    generalize s.extract 0 9 ++ { data := #[UInt8.ofNat c] } = T at *
    go_wp2_with fail
    obtain ⟨v, i, e, hr, hcase⟩ := getL_short T.data.toList
    have hU := getL_U64 T.data.toList 0
    have hc' := fun W => get_any T 0 W (by omega)
    rw [hr] at hU
    simp only [hr] at hc'
    have HC := Lib.hid hc'
    clear hc'
    refine (HC.out _).mono ?_; rintro e' w0 ⟨rfl, rfl⟩
    rcases hcase with ⟨rfl, n, rfl, h1, h2, h3⟩ | ⟨he, rfl, rfl⟩
    · have hx := take_eq h3
      have hn : n ≤ T.size := by simpa using h2
      clear h3 h2 hr
      have hd1 : decide (1 ≤ (n : Int)) = true := by simp; omega
      have hd2 : decide ((n : Int) ≤ (T.size : Int)) = true := by simp; omega
      have hd3 : decide (1 ≤ n) = true := by simp; omega
      have hd4 : decide (n ≤ T.size) = true := by simp; omega
      go_wp2_with fail
      go_region_held3 (fun _ => True) (trivial) (first | (go_at_call 12; refine (awake1 _).mono ?_; rintro e w1 ⟨rfl, hb1⟩) | (go_at_call 16; refine (put_any v _ hU).mono ?_; rintro e w2 ⟨rfl, hb2⟩))
      go_wp2
      go_ret
      exact ⟨ret_bool (by first | rfl | simp), bt (bt (((Below.refl _ _).alloc (Nat.le_refl _) _).drew.drew) hb1) hb2⟩
    · have hbe : (e == 0) = false := by simpa using he
      have hbn : (e != 0) = true := by simpa using he
      go_wp2_with fail
      refine (awake1 _).mono ?_; rintro e w1 ⟨rfl, hb1⟩
      go_wp2
      go_ret
      exact ⟨ret_bool (by first | rfl | simp), bt (((Below.refl _ _).alloc (Nat.le_refl _) _).drew) hb1⟩
  · go_enter Try.func9, Try.ntmps9
    go_wp2_with fail
    go_region
    have hT : (s ++ { data := #[UInt8.ofNat c] }).size ≤ 10 := by
      rw [ByteArray.size_append]; show _ + 1 ≤ _; omega
    generalize s ++ { data := #[UInt8.ofNat c] } = T at *
    go_wp2_with fail
    obtain ⟨v, i, e, hr, hcase⟩ := getL_short T.data.toList
    have hU := getL_U64 T.data.toList 0
    have hc' := fun W => get_any T 0 W (by omega)
    rw [hr] at hU
    simp only [hr] at hc'
    have HC := Lib.hid hc'
    clear hc'
    refine (HC.out _).mono ?_; rintro e' w0 ⟨rfl, rfl⟩
    rcases hcase with ⟨rfl, n, rfl, h1, h2, h3⟩ | ⟨he, rfl, rfl⟩
    · have hx := take_eq h3
      have hn : n ≤ T.size := by simpa using h2
      clear h3 h2 hr
      have hd1 : decide (1 ≤ (n : Int)) = true := by simp; omega
      have hd2 : decide ((n : Int) ≤ (T.size : Int)) = true := by simp; omega
      have hd3 : decide (1 ≤ n) = true := by simp; omega
      have hd4 : decide (n ≤ T.size) = true := by simp; omega
      go_wp2_with fail
      go_region_held3 (fun _ => True) (trivial) (first | (go_at_call 12; refine (awake1 _).mono ?_; rintro e w1 ⟨rfl, hb1⟩) | (go_at_call 16; refine (put_any v _ hU).mono ?_; rintro e w2 ⟨rfl, hb2⟩))
      go_wp2
      go_ret
      exact ⟨ret_bool (by first | rfl | simp), bt (bt (((Below.refl _ _).alloc (Nat.le_refl _) _).drew.drew) hb1) hb2⟩
    · have hbe : (e == 0) = false := by simpa using he
      have hbn : (e != 0) = true := by simpa using he
      go_wp2_with fail
      refine (awake1 _).mono ?_; rintro e w1 ⟨rfl, hb1⟩
      go_wp2
      go_ret
      exact ⟨ret_bool (by first | rfl | simp), bt (((Below.refl _ _).alloc (Nat.le_refl _) _).drew) hb1⟩

set_option maxRecDepth 100000 in
set_option maxHeartbeats 400000 in
theorem walk_VarintExamples (w : World) : Calls Try.prog 10 #[] w fun e w' => e = .returned (.bool true) ∧ Below w.heap.size w w' := by
  have hg : getL [172, 2] 0 = (300, 2, 0) := by
    have := getL_put (v := 300) (by unfold U64; omega) [] []
    rw [putL_300] at this
    simpa using this
  have hc' := fun W => get_any ⟨#[172, 2]⟩ 0 W (by decide)
  simp only [hg] at hc'
  have HC := Lib.hid hc'
  clear hc' hg
  have hz1 := fun W => zig_any (-1) W (by unfold I64; omega)
  have hz2 := fun W => zig_any 1 W (by unfold I64; omega)
  have hz3 := fun W => zag_any 3 W (by unfold U64; omega)
  have Z1 := Lib.hid hz1
  have Z2 := Lib.hid hz2
  have Z3 := Lib.hid hz3
  clear hz1 hz2 hz3
  go_enter Try.func10, Try.ntmps10
  go_wp2_with fail
  refine (HC.out _).mono ?_; rintro e w0 ⟨rfl, rfl⟩
  go_wp2_with fail
  refine (put_300 _).mono ?_; rintro e w1 ⟨rfl, hb1⟩
  go_wp2_with fail
  refine (Z1.out _).mono ?_; rintro e w0 ⟨rfl, rfl⟩
  go_wp2_with fail
  refine (Z2.out _).mono ?_; rintro e w0 ⟨rfl, rfl⟩
  go_wp2_with fail
  refine (Z3.out _).mono ?_; rintro e w0 ⟨rfl, rfl⟩
  go_wp2
  go_ret
  exact ⟨ret_bool (by first | rfl | simp), hb1⟩

end Go.Proofs.Ytdkpjcgahlbmlaa
