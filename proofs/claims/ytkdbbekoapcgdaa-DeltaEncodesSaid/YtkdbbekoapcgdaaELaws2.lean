/-
  The walks of the laws of layer 11, the last ones.
-/
import Derived.Test.YtkdbbekoapcgdaaELaws
namespace Go.Proofs.Ytkdbbekoapcgdaa
open Go.RowKit

set_option maxRecDepth 100000 in
set_option maxHeartbeats 1000000 in
theorem walk_DeltaMutations (A : Option Addr) (n c : Nat) (zs : List Int) (i b m : Int) (w : World) (hr : Rd w w.heap.size A (zs.map Iv)) (hn : zs.length = n) (hz : ∀ z ∈ zs, (Lit.int .i64 z).wf = true) (_hc : n ≤ c) (hb : n * 8 ≤ 140737488351232)
    (_wi : (Lit.int .i64 i).wf = true) (wb : (Lit.int .u8 b).wf = true) (_wm : (Lit.int .i64 m).wf = true) :
    Calls Try.prog 6 #[.slice A n c, .int .i64 i, .int .u8 b, .int .i64 m] w fun e w' => e = .returned (.bool true) ∧ Below w.heap.size w w' := by
  have HZ := Lib.hid (wf_i64s hz)
  obtain ⟨b, rfl, hb8⟩ := wf_u8 wb
  clear hz wb
  have hcv := byte_str_at Try.bytes Try.underlying5 Try.underlying9 b hb8
  go_enter Try.func6, Try.ntmps6
  go_wp2_with fail
  refine (list_any _ _ _ _ _ hr hn HZ.out (by omega)).mono ?_
  rintro e w1 ⟨v, xs, rfl, ho, hI, hl, hb1⟩
  obtain ⟨B, d, rfl, hd⟩ := own_form ho
  have hx := Rd.of_own ho
  have HI := Lib.hid hI
  clear ho hI
  have hsz := encD_len HI.out
  go_wp2_with fail
  refine (rencode_any B _ d xs _ hx rfl HI.out).mono ?_; rintro e w2 ⟨rfl, hb2⟩
  go_wp2_with fail
  refine (pick_any i ((encD xs).length + 1) _ (by omega) (by omega)).mono ?_; rintro e w0 ⟨rfl, rfl⟩
  have hp := pickN_lt i (show 0 < (encD xs).length + 1 by omega)
  generalize pickN i ((encD xs).length + 1) = k at *
  have hk2 : k ≤ (encD xs).length := by omega
  have hm1 : min ((encD xs).length : Int) ((k : Int) + 1) ≤ ((encD xs).length : Int) := by omega
  have hm2 : 0 ≤ min ((encD xs).length : Int) ((k : Int) + 1) := by omega
  go_wp2_with fail
  go_region
  have hT : (({ data := (encD xs).toArray } : ByteArray).extract 0 k ++ { data := #[UInt8.ofNat b] } ++ ({ data := (encD xs).toArray } : ByteArray).extract (min ((encD xs).length : Int) ((k : Int) + 1)).toNat (encD xs).length).size ≤ 1000000000000000 := by
    rw [ByteArray.size_append, ByteArray.size_append, ByteArray.size_extract, ByteArray.size_extract, size_mk]
    show _ + 1 + _ ≤ _
    omega
  generalize ({ data := (encD xs).toArray } : ByteArray).extract 0 k ++ { data := #[UInt8.ofNat b] } ++ ({ data := (encD xs).toArray } : ByteArray).extract (min ((encD xs).length : Int) ((k : Int) + 1)).toNat (encD xs).length = T at *
  have bA := ((bt hb1 hb2).alloc (bt hb1 hb2).size (.cells #[.int .u8 (b : Int)] 5)).drew
  go_wp2_with fail
  refine (awake11 _).mono ?_; rintro e w4 ⟨rfl, hb4⟩
  have hE : (({ data := (encD xs).toArray } : ByteArray).extract 0 k).size ≤ 1000000000000000 := by rw [ByteArray.size_extract, size_mk]; omega
  go_wp2_with fail
  refine (decodes_any _ _ _ hE).mono ?_; rintro e w5 ⟨rfl, hb5⟩
  go_wp2_with fail
  refine (decodes_any _ _ _ hT).mono ?_; rintro e w6 ⟨rfl, hb6⟩
  have hF : (ByteArray.mk (encD xs).toArray ++ { data := #[UInt8.ofNat b] }).size ≤ 1000000000000000 := by
    rw [ByteArray.size_append, size_mk]; show _ + 1 ≤ _; omega
  go_wp2_with fail
  refine (decodes_any _ _ _ hF).mono ?_; rintro e w7 ⟨rfl, hb7⟩
  have hb6' := bt (bt (bt bA hb4) hb5) hb6
  have hb7' := bt (hb6'.alloc hb6'.size _) hb7
  go_wp2_with fail
  refine (pick_any m 5 _ (by omega) (by omega)).mono ?_; rintro e w0 ⟨rfl, rfl⟩
  have hp5 := pickN_lt m (show 0 < 5 by omega)
  have hG : (ByteArray.mk (encD xs).toArray).size ≤ 1000000000000000 := by rw [size_mk]; omega
  go_wp2_with fail
  refine (decodes_any _ _ _ hG).mono ?_; rintro e w8 ⟨rfl, hb8'⟩
  go_wp2
  go_ret
  exact ⟨ret_bool (by first | rfl | (simp; done) | (simp; omega)), bt hb7' hb8'⟩

theorem dec_back {w w' : World} {l : List Int} {e : Ending} (hz : ∀ z ∈ l, I64 z) (hn : l.length ≤ 4096) (h : DecPost w (decR (ByteArray.mk (encD l).toArray).data.toList (l.length : Int)) e w') : ∃ A c, e = .returned (.tuple #[.slice A l.length c, .int .i64 0]) ∧ Rd w' w'.heap.size A (l.map Iv) ∧ Below w.heap.size w w' := by
  obtain ⟨v, xs, err, rfl, hd, ho, _, hb⟩ := h
  rw [show (ByteArray.mk (encD l).toArray).data.toList = encD l from rfl, decR_enc hz hn] at hd
  cases hd
  obtain ⟨A, c, rfl, _⟩ := own_form ho
  exact ⟨A, c, rfl, Rd.of_own ho, hb⟩
set_option maxRecDepth 100000 in
set_option maxHeartbeats 1000000 in
theorem walk_DeltaRoundTrip (A : Option Addr) (n c : Nat) (zs : List Int) (A2 : Option Addr) (n2 c2 : Nat) (zs2 : List Int) (w : World)
    (hr0 : Rd w w.heap.size A (zs.map Iv)) (hn0 : zs.length = n) (hz0 : ∀ z ∈ zs, (Lit.int .i64 z).wf = true) (hc0 : n ≤ c) (hb0 : n * 8 ≤ 140737488351232)
    (hr : Rd w w.heap.size A2 (zs2.map Iv)) (hn : zs2.length = n2) (hz : ∀ z ∈ zs2, (Lit.int .i64 z).wf = true) (_hc : n2 ≤ c2) (hb : n2 * 8 ≤ 140737488351232) :
    Calls Try.prog 7 #[.slice A n c, .slice A2 n2 c2] w fun e w' => e = .returned (.bool true) ∧ Below w.heap.size w w' := by
  have HZ := Lib.hid (wf_i64s hz)
  obtain ⟨L, hL⟩ : ∃ L, L = zs.take (min n 4096) := ⟨_, rfl⟩
  obtain ⟨k, hk⟩ : ∃ k, k = min n 4096 := ⟨_, rfl⟩
  have HZ0 : Hid (∀ z ∈ L, I64 z) := fun z hz' => wf_i64s hz0 z (by rw [hL] at hz'; exact List.mem_of_mem_take hz')
  have hll : L.length = k := by rw [hL, List.length_take, hn0]; omega
  have hrl : Rd w w.heap.size A (L.map Iv) := by rw [hL, List.map_take]; exact hr0.take _
  have hmn : min (n : Int) 4096 = (k : Int) := by omega
  have hkc : k ≤ c := by omega
  have hk4 : k ≤ 4096 := by omega
  have HLL := Lib.hid hll
  clear hz hz0 hL hr0 hn0 hk hll
  go_enter Try.func7, Try.ntmps7
  go_wp2_with fail
  refine (list_any _ _ _ _ _ hr hn HZ.out (by omega)).mono ?_
  rintro e w1 ⟨v, xs, rfl, ho, hI, hl, hb1⟩
  obtain ⟨B, d, rfl, hd⟩ := own_form ho
  have hx := Rd.of_own ho
  have HI := Lib.hid hI
  clear ho hI
  have hl1 := hrl.call hb1
  have hsz := encD_len HI.out
  have hszl := encD_len HZ0.out
  go_wp2_with fail
  refine (encode_any A k c L _ hl1 HLL.out hkc HZ0.out).mono ?_; rintro e w2 ⟨rfl, hb2⟩
  have hx2 := hx.call hb2
  have hl2 := hl1.call hb2
  go_wp2_with fail
  refine (decode_any _ _ _ (by rw [size_mk]; omega)).mono ?_; intro e w3 hpd
  rw [← HLL.out] at hpd
  obtain ⟨C, c3, rfl, hd3, hb3⟩ := dec_back (l := L) HZ0.out (by rw [HLL.out]; exact hk4) hpd
  rw [HLL.out]
  have hx3 := hx2.call hb3
  have hl3 := hl2.call hb3
  clear hpd
  go_wp2_with fail
  refine (encode_any B _ d xs _ hx3 rfl hd HI.out).mono ?_; rintro e w4 ⟨rfl, hb4⟩
  have hx4 := hx3.call hb4
  have hl4 := hl3.call hb4
  have hd4 := hd3.call hb4
  go_wp2_with fail
  refine (decode_any _ _ _ (by rw [size_mk]; omega)).mono ?_; intro e w5 hpd
  obtain ⟨D, c5, rfl, he5, hb5⟩ := dec_back (l := xs) HI.out (by omega) hpd
  have hx5 := hx4.call hb5
  have hl5 := hl4.call hb5
  have hd5 := hd4.call hb5
  clear hpd
  go_wp2_with fail
  refine (awake11 _).mono ?_; rintro e w6 ⟨rfl, hb6⟩
  have hx6 := hx5.call hb6
  have hl6 := hl5.call hb6
  have hd6 := hd5.call hb6
  have he6 := he5.call hb6
  go_wp2_with fail
  refine (same_i64 _ _ _ _ _ L _ hd6 hl6 HLL.out (by omega)).mono ?_; rintro e w7 ⟨rfl, q, rfl⟩
  go_wp2_with fail
  refine (same_i64 _ _ _ _ _ xs _ (he6.drewN q) (hx6.drewN q) rfl (by omega)).mono ?_; rintro e w8 ⟨rfl, q2, rfl⟩
  go_wp2
  go_ret
  exact ⟨ret_bool (by first | rfl | (simp; done) | (simp; omega)), below_drewN (bt (bt (bt (bt (bt hb1 hb2) hb3) hb4) hb5) hb6) _⟩

/-- Numbers with equal differences. -/
def stepN (f s : Int) (i : Nat) : Int := wrap64 (f + s * (i : Int))
def stepL (f s : Int) (n : Nat) : List Int := (List.range n).map (stepN f s)
theorem stepN_zero {f : Int} (s : Int) (h : I64 f) : stepN f s 0 = f := by unfold I64 at h; unfold stepN wrap64; simp; omega
theorem stepN_next (f s : Int) (i : Nat) : wrap64 (stepN f s i + s) = stepN f s (i + 1) := by
  unfold stepN
  rw [show s * ((i + 1 : Nat) : Int) = s * (i : Int) + s by rw [Int.natCast_add, Int.mul_add]; simp]
  generalize s * (i : Int) = p
  unfold wrap64
  omega
theorem stepL_len (f s : Int) (n : Nat) : (stepL f s n).length = n := by simp [stepL]
theorem stepL_I64 (f s : Int) (n : Nat) : ∀ z ∈ stepL f s n, I64 z := by
  intro z hz
  simp only [stepL, List.mem_map] at hz
  obtain ⟨i, _, rfl⟩ := hz
  exact I64_wrap _
theorem stepL_diff {f s : Int} (hs : I64 s) (n : Nat) : ∀ x ∈ diffs (stepL f s n), x = s := by
  intro x hx
  simp only [diffs, List.mem_map, List.mem_range, stepL_len] at hx
  obtain ⟨i, hi, rfl⟩ := hx
  have hg : ∀ j, j < n → (stepL f s n).getD j 0 = stepN f s j := fun j hj => by
    rw [List.getD, stepL, List.getElem?_map, List.getElem?_range hj]; rfl
  unfold diffA
  rw [hg _ (by omega), hg _ (by omega), ← stepN_next]
  have := I64_wrap (f + s * (i : Int))
  change I64 (stepN f s i) at this
  unfold I64 at this hs
  unfold wrap64
  omega
theorem stepL_snoc (f s : Int) (n : Nat) : stepL f s (n + 1) = stepL f s n ++ [stepN f s n] := by unfold stepL; rw [List.range_succ, List.map_append]; rfl
set_option maxRecDepth 100000 in
set_option maxHeartbeats 1000000 in
theorem walk_DeltaSteady (f s n : Int) (w : World) (wf : (Lit.int .i64 f).wf = true) (ws : (Lit.int .i64 s).wf = true) (_wn : (Lit.int .i64 n).wf = true) :
    Calls Try.prog 8 #[.int .i64 f, .int .i64 s, .int .i64 n] w fun e w' => e = .returned (.bool true) ∧ Below w.heap.size w w' := by
  have hf := wf_i64 wf
  have hs := wf_i64 ws
  have HF := Lib.hid (stepN_zero s hf)
  have HS := Lib.hid hs
  clear wf ws hf hs
  go_enter Try.func8, Try.ntmps8
  go_wp2_with fail
  refine (pick_any n 300 _ (by omega) (by omega)).mono ?_; rintro e w0 ⟨rfl, rfl⟩
  have hp := pickN_lt n (show 0 < 300 by omega)
  generalize pickN n 300 = m at *
  go_wp2
  go_loopw [7, 8, 9] (fun a b c wr => ∃ i : Nat, c = .int .i64 (i : Int) ∧ i ≤ m + 1 ∧ b = Iv (stepN f s i) ∧ Own w wr 2 1 a i ((stepL f s i).map Iv)) (fun _ _ c _ => m + 1 - (intOf c).toNat)
  case atStart => exact ⟨0, rfl, by omega, by rw [HF.out], Own.nil _ _ _⟩
  case round =>
    obtain ⟨i, rfl, hi, rfl, hO⟩ := hrel
    obtain ⟨B, cp, rfl, hcp⟩ := own_form hO.1
    have HN := Lib.hid (stepN_next f s i)
    have HT := Lib.hid (stepL_snoc f s i)
    by_cases hin : i < m + 1
    · generalize stepN f s i = x at *
      go_wp2_with (at_builtin; refine own_one hO i64s rfl (by decide) rfl (one_i64 _) (by omega) (by unfold maxLen; omega) ?_ rfl _ _ rfl rfl rfl)
      intro v' w' hO'
      go_wp2
      go_roundw
      case rel => exact ⟨i + 1, by go_num, by omega, by rw [← HN.out], by rw [HT.out, List.map_append]; exact hO'⟩
      case measure => simp [intOf]; omega
    · have him : i = m + 1 := by omega
      subst him
      clear HN HT
      generalize stepN f s (m + 1) = x at *
      have hI := stepL_I64 f s (m + 1)
      have hln := stepL_len f s (m + 1)
      have hst := encD_steady hI HS.out (stepL_diff HS.out (m + 1))
      have hsz := encD_len hI
      rw [hln] at hst
      have hr := Rd.of_own hO.1
      generalize stepL f s (m + 1) = L at *
      have HI := Lib.hid hI
      have HL := Lib.hid hln
      clear hI hln
      go_wp2_with fail
      refine (encode_any B (m + 1) cp L _ hr HL.out hcp HI.out).mono ?_; rintro e w2 ⟨rfl, hb2⟩
      have hr2 := hr.call hb2
      go_wp2_with fail
      refine (decode_any _ _ _ (by rw [size_mk]; omega)).mono ?_; intro e w3 hpd
      have hpd' : DecPost w2 (decR (ByteArray.mk (encD L).toArray).data.toList (L.length : Int)) e w3 := by rw [HL.out, show ((m + 1 : Nat) : Int) = 1 + (m : Int) by omega]; exact hpd
      obtain ⟨C, c3, rfl, hd3, hb3⟩ := dec_back (l := L) HI.out (by rw [HL.out]; omega) hpd'
      rw [HL.out]
      have hr3 := hr2.call hb3
      clear hpd hpd'
      have hd0 : ((m : Int) + 1 == (m : Int) + 1) = true := by simp
      have hle : ((encD L).length : Int) ≤ 10 + 11 * ((1 + (m : Int) - 1 + 32 - 1) / 32) := by omega
      go_wp2_with fail
      refine (awake11 _).mono ?_; rintro e w4 ⟨rfl, hb4⟩
      have hr4 := hr3.call hb4
      have hd4 := hd3.call hb4
      go_wp2_with fail
      refine (same_i64 _ _ _ _ _ L _ hd4 hr4 HL.out (by omega)).mono ?_; rintro e w7 ⟨rfl, q, rfl⟩
      go_wp2
      go_ret
      exact ⟨ret_bool (by first | rfl | (simp; done) | (simp; omega)), below_drewN (bt (bt (bt hO.2 hb2) hb3) hb4) _⟩

end Go.Proofs.Ytkdbbekoapcgdaa
