/-
  The walks of the laws of layer 11: each law returns true, whatever its arguments, and writes nothing that was there.
-/
import Derived.Test.YtkdbbekoapcgdaaEDecR
import Derived.Test.YtkdbbekoapcgdaaERefT
import Derived.Test.YtkdbbekoapcgdaaEMake
namespace Go.Proofs.Ytkdbbekoapcgdaa
open Go.RowKit

theorem encD_len {l : List Int} (hz : ∀ z ∈ l, I64 z) : (encD l).length ≤ 40000 := by
  unfold encD
  split
  · simp
  · rename_i h
    have h0 : l ≠ [] := fun e => h (.inl e)
    have hl : l.length ≤ 4096 := by
      rcases Nat.lt_or_ge 4096 l.length with h1 | h1
      · exact absurd (Or.inr h1) h
      · exact h1
    have hU : U64 (zigN (l.getD 0 0)) := zigN_U64 (by
      cases l with
      | nil => exact absurd rfl h0
      | cons x t => exact hz x (by simp))
    have h1 := putL_len hU
    have h2 := encB_len (diffs_I64 l) (((diffs l).length + 31) / 32) (by omega)
    have h3 := diffs_len l
    rw [List.length_append]
    omega
theorem decGo_len {s : List UInt8} {n : Nat} : ∀ (f : Nat) (l : List Int) (at_ : Nat), l.length ≤ n → (decGo s n f l at_).1.length ≤ n
  | 0, _, _, _ => by simp [decGo]
  | f + 1, l, at_, h => by
    rcases Nat.lt_or_ge l.length n with h1 | h1
    · rcases offsL_cases s at_ (min 32 (n - l.length)) with ⟨d, a, ho, hd, _, _⟩ | ⟨e, he, ho⟩
      · rw [decGo_next h1 ho]
        exact decGo_len f _ _ (by rw [sumsL_len]; omega)
      · rw [decGo_err h1 ho he]; simp
    · by_cases ha : at_ < s.length
      · rw [decGo_more h1 ha]; simp
      · rw [decGo_done h1 ha]; exact h
theorem decR_len (s : List UInt8) (n : Int) : (decR s n).1.length ≤ 4096 := by
  unfold decR
  split
  · simp
  · split
    · split <;> simp
    · obtain ⟨z, a, e, hg⟩ : ∃ z a e, getL s 0 = (z, a, e) := ⟨_, _, _, rfl⟩
      rw [hg]
      dsimp only
      split
      · simp
      · have := decGo_len (s := s) (n := n.toNat) (n.toNat + 1) [zagI z] a.toNat (by simp; omega)
        omega
theorem encD_ex : encD [10, 12, 14] = [20, 4, 0] := by
  have hd : diffs [10, 12, 14] = [2, 2] := by simp [diffs, diffA, wrap64, List.range_succ]
  have hp : part [2, 2] 0 = [2, 2] := by decide
  have ho : offs [2, 2] = [0, 0] := by decide
  have hm : maxW [0, 0] = 0 := by simp [maxW, widthN_zero]
  have hk : packL [0, 0] 0 = [] := by rfl
  have hmin : minI [2, 2] = 2 := by decide
  unfold encD
  rw [if_neg (by simp), hd]
  show putL (zigN 10) ++ encB [2, 2] 1 = _
  rw [encB_succ, hp]
  unfold blockL
  rw [hmin, ho, hm, hk, putL_lt (by decide), putL_lt (by decide)]
  decide
set_option maxRecDepth 100000 in
set_option maxHeartbeats 400000 in
theorem same_i64 (A B : Option Addr) (n c d : Nat) (zs : List Int) (w : World) (hA : Rd w w.heap.size A (zs.map Iv)) (hB : Rd w w.heap.size B (zs.map Iv)) (hn : zs.length = n) (hm : n ≤ 1000000000000000) :
    Calls Try.prog 16 #[.slice A n c, .slice B n d] w fun e w' => e = .returned (.bool true) ∧ ∃ q, w.drewN q = w' := by
  have HN := Lib.hid hn
  clear hn
  go_enter Try.func16, Try.ntmps16
  go_wp2
  go_loopw [13] (fun a wr => ∃ k q : Nat, a = .int .i64 (k : Int) ∧ k ≤ n ∧ wr = w.drewN q) (fun a _ => n - (intOf a).toNat)
  case atStart => exact ⟨0, 0, rfl, by omega, rfl⟩
  case round =>
    obtain ⟨k, q, rfl, hk, rfl⟩ := hrel
    by_cases hlt : k < n
    · obtain ⟨z, hz⟩ : ∃ z, zs[k]? = some z := ⟨_, List.getElem?_eq_getElem (by rw [HN.out]; exact hlt)⟩
      obtain ⟨ad, rfl, _, hc⟩ := hA.at_ (j := k) (u := Iv z) (by rw [List.getElem?_map, hz]; rfl)
      obtain ⟨bd, rfl, _, hc'⟩ := hB.at_ (j := k) (u := Iv z) (by rw [List.getElem?_map, hz]; rfl)
      clear hz
      go_wp2
      go_quiet (fail)
      go_wp2
      go_roundw
      case rel => exact ⟨k + 1, _, by go_num, by omega, rfl⟩
      case measure => simp [intOf]; omega
    · go_wp2
      go_ret
      exact ⟨rfl, q, rfl⟩

set_option maxRecDepth 100000 in
set_option maxHeartbeats 400000 in
theorem decodes_any (s : ByteArray) (n : Int) (w : World) (hsz : s.size ≤ 1000000000000000) :
    Calls Try.prog 13 #[.string s, .int .i64 n] w fun e w' => e = .returned (.bool true) ∧ Below w.heap.size w w' := by
  go_enter Try.func13, Try.ntmps13
  go_wp2_with fail
  refine (decode_any s n _ hsz).mono ?_; rintro e w1 ⟨v, xs, err, rfl, hd, ho, hI, hb1⟩
  obtain ⟨A, c, rfl, _⟩ := own_form ho
  have HD := Lib.hid hd
  clear hd hI
  go_wp2_with fail
  refine (rdecode_any s n _ hsz).mono ?_; rintro e w2 ⟨v', ys, err', rfl, hd', ho', _, hb2⟩
  obtain ⟨B, d, rfl, _⟩ := own_form ho'
  rw [HD.out] at hd'
  cases hd'
  have hl : xs.length ≤ 4096 := by have := decR_len s.data.toList n; rw [HD.out] at this; exact this
  have r1 := (Rd.of_own ho).call hb2
  have r2 := Rd.of_own ho'
  clear ho ho'
  go_wp2_with fail
  refine (same_i64 A B _ c d xs _ r1 r2 rfl (by omega)).mono ?_; rintro e w3 ⟨rfl, q, rfl⟩
  go_wp2
  go_ret
  exact ⟨ret_bool (by first | rfl | (simp; done)), below_drewN (bt hb1 hb2) q⟩

set_option maxRecDepth 100000 in
set_option maxHeartbeats 400000 in
theorem awake11 (w : World) : Calls Try.prog 11 #[] w fun e w' => e = .returned (.bool true) ∧ Below w.heap.size w w' := by
  have hcv : ∀ W : World, Calls Try.prog 9 #[.slice (some ⟨W.heap.size, 0, none⟩) 3 3] (W.alloc (.cells #[.int .i64 10, .int .i64 12, .int .i64 14] 2)) fun e w' =>
      e = .returned (.string ⟨#[20, 4, 0]⟩) ∧ Below (W.alloc (.cells #[.int .i64 10, .int .i64 12, .int .i64 14] 2)).heap.size (W.alloc (.cells #[.int .i64 10, .int .i64 12, .int .i64 14] 2)) w' := fun W => by
    have h := encode_any (some ⟨W.heap.size, 0, none⟩) 3 3 [10, 12, 14] (W.alloc (.cells #[.int .i64 10, .int .i64 12, .int .i64 14] 2)) (.inr ⟨_, rfl, by simp, fun j u hj => by
      have e0 : (⟨W.heap.size, 0, none⟩ : Addr).add j = ⟨W.heap.size, j, none⟩ := by unfold Addr.add; split <;> simp_all
      rw [e0, World.cell?_alloc_mark]
      simpa using hj⟩) rfl (by omega) (by intro z hz; simp at hz; unfold I64; omega)
    rw [encD_ex] at h
    exact h
  have HC := Lib.hid hcv
  clear hcv
  go_enter Try.func11, Try.ntmps11
  go_wp2_with fail
  refine (HC.out _).mono ?_; rintro e w1 ⟨rfl, hb1⟩
  go_wp2
  go_ret
  exact ⟨ret_bool (by first | rfl | (simp; done)), bt ((Below.refl _ _).alloc (Nat.le_refl _) _) hb1⟩
set_option maxRecDepth 100000 in
set_option maxHeartbeats 400000 in
theorem walk_DeltaExamples (w : World) : Calls Try.prog 3 #[] w fun e w' => e = .returned (.bool true) ∧ Below w.heap.size w w' := by
  have hcv : ∀ W : World, Calls Try.prog 9 #[.slice (some ⟨W.heap.size, 0, none⟩) 3 3] (W.alloc (.cells #[.int .i64 10, .int .i64 12, .int .i64 14] 2)) fun e w' =>
      e = .returned (.string ⟨#[20, 4, 0]⟩) ∧ Below (W.alloc (.cells #[.int .i64 10, .int .i64 12, .int .i64 14] 2)).heap.size (W.alloc (.cells #[.int .i64 10, .int .i64 12, .int .i64 14] 2)) w' := fun W => by
    have h := encode_any (some ⟨W.heap.size, 0, none⟩) 3 3 [10, 12, 14] (W.alloc (.cells #[.int .i64 10, .int .i64 12, .int .i64 14] 2)) (.inr ⟨_, rfl, by simp, fun j u hj => by
      have e0 : (⟨W.heap.size, 0, none⟩ : Addr).add j = ⟨W.heap.size, j, none⟩ := by unfold Addr.add; split <;> simp_all
      rw [e0, World.cell?_alloc_mark]
      simpa using hj⟩) rfl (by omega) (by intro z hz; simp at hz; unfold I64; omega)
    rw [encD_ex] at h
    exact h
  have HC := Lib.hid hcv
  clear hcv
  go_enter Try.func3, Try.ntmps3
  go_wp2_with fail
  refine (HC.out _).mono ?_; rintro e w1 ⟨rfl, hb1⟩
  go_wp2
  go_ret
  exact ⟨ret_bool (by first | rfl | (simp; done)), bt ((Below.refl _ _).alloc (Nat.le_refl _) _) hb1⟩

set_option maxRecDepth 100000 in
set_option maxHeartbeats 400000 in
theorem walk_DeltaEncodes (A : Option Addr) (n c : Nat) (zs : List Int) (A2 : Option Addr) (n2 c2 : Nat) (zs2 : List Int) (w : World)
    (hr0 : Rd w w.heap.size A (zs.map Iv)) (hn0 : zs.length = n) (hz0 : ∀ z ∈ zs, (Lit.int .i64 z).wf = true) (hc0 : n ≤ c) (_hb0 : n * 8 ≤ 140737488351232)
    (hr : Rd w w.heap.size A2 (zs2.map Iv)) (hn : zs2.length = n2) (hz : ∀ z ∈ zs2, (Lit.int .i64 z).wf = true) (_hc : n2 ≤ c2) (hb : n2 * 8 ≤ 140737488351232) :
    Calls Try.prog 4 #[.slice A n c, .slice A2 n2 c2] w fun e w' => e = .returned (.bool true) ∧ Below w.heap.size w w' := by
  have HZ := Lib.hid (wf_i64s hz)
  have HZ0 := Lib.hid (wf_i64s hz0)
  have HN0 := Lib.hid hn0
  clear hz hz0 hn0
  go_enter Try.func4, Try.ntmps4
  go_wp2_with fail
  refine (list_any _ _ _ _ _ hr hn HZ.out (by omega)).mono ?_
  rintro e w1 ⟨v, xs, rfl, ho, hI, hl, hb1⟩
  obtain ⟨B, d, rfl, hd⟩ := own_form ho
  have hx := Rd.of_own ho
  have HI := Lib.hid hI
  clear ho hI
  have hl1 := hr0.call hb1
  go_wp2_with fail
  refine (awake11 _).mono ?_; rintro e w2 ⟨rfl, hb2⟩
  have hx2 := hx.call hb2
  have hl2 := hl1.call hb2
  go_wp2_with fail
  refine (encode_any A n c zs _ hl2 HN0.out hc0 HZ0.out).mono ?_; rintro e w3 ⟨rfl, hb3⟩
  have hx3 := hx2.call hb3
  have hl3 := hl2.call hb3
  go_wp2_with fail
  refine (rencode_any A n c zs _ hl3 HN0.out HZ0.out).mono ?_; rintro e w4 ⟨rfl, hb4⟩
  have hx4 := hx3.call hb4
  go_wp2_with fail
  refine (encode_any B _ d xs _ hx4 rfl hd HI.out).mono ?_; rintro e w5 ⟨rfl, hb5⟩
  have hx5 := hx4.call hb5
  go_wp2_with fail
  refine (rencode_any B _ d xs _ hx5 rfl HI.out).mono ?_; rintro e w6 ⟨rfl, hb6⟩
  go_wp2
  go_ret
  exact ⟨ret_bool (by first | rfl | (simp; done) | (simp; omega)), bt (bt (bt (bt (bt hb1 hb2) hb3) hb4) hb5) hb6⟩

set_option maxRecDepth 100000 in
set_option maxHeartbeats 400000 in
theorem walk_DeltaDecodes (s : ByteArray) (n : Int) (w : World) (hs : s.size ≤ 140737488351232) (_wn : (Lit.int .i64 n).wf = true) :
    Calls Try.prog 5 #[.string s, .int .i64 n] w fun e w' => e = .returned (.bool true) ∧ Below w.heap.size w w' := by
  go_enter Try.func5, Try.ntmps5
  go_wp2_with fail
  refine (awake11 _).mono ?_; rintro e w1 ⟨rfl, hb1⟩
  go_wp2_with fail
  refine (pick_any n 100 _ (by omega) (by omega)).mono ?_; rintro e w0 ⟨rfl, rfl⟩
  have hp := pickN_lt n (show 0 < 100 by omega)
  go_wp2_with fail
  refine (decodes_any s _ _ (by omega)).mono ?_; rintro e w2 ⟨rfl, hb2⟩
  go_wp2_with fail
  refine (decodes_any s _ _ (by omega)).mono ?_; rintro e w3 ⟨rfl, hb3⟩
  go_wp2
  go_ret
  exact ⟨ret_bool (by first | rfl | (simp; done) | (simp; omega)), bt (bt hb1 hb2) hb3⟩

end Go.Proofs.Ytkdbbekoapcgdaa
