/-
  The walks of the laws of layer 9, the last ones.
-/
import Derived.Test.YtgpipjifelfjlaaRLaws
namespace Go.Proofs.Ytgpipjifelfjlaa
open Go.RowKit




set_option maxRecDepth 100000 in
set_option maxHeartbeats 1000000 in
theorem walk_RleIsUnique (A : Option Addr) (n c : Nat) (zs : List Int) (i b : Int) (w : World) (hr : Rd w w.heap.size A (zs.map Iv)) (hn : zs.length = n) (hz : ∀ z ∈ zs, (Lit.int .i64 z).wf = true) (_hc : n ≤ c) (hb : n * 8 ≤ 140737488351232)
    (_wi : (Lit.int .i64 i).wf = true) (wb : (Lit.int .u8 b).wf = true) :
    Calls Try.prog 9 #[.slice A n c, .int .i64 i, .int .u8 b] w fun e w' => e = .returned (.bool true) ∧ Below w.heap.size w w' := by
  have HZ := Lib.hid (wf_i64s hz)
  obtain ⟨b, rfl, hb8⟩ := wf_u8 wb
  clear hz wb
  have hcv := byte_str_at Try.bytes Try.underlying5 Try.underlying9 b hb8
  go_enter Try.func9, Try.ntmps9
  go_wp2_with fail
  refine (runs_any _ _ _ _ _ hr hn HZ.out (by omega)).mono ?_
  rintro e w1 ⟨v, xs, rfl, ho, hI, hl, hb1⟩
  obtain ⟨B, d, rfl, hd⟩ := own_form ho
  have hx := Rd.of_own ho
  have HI := Lib.hid hI
  clear ho hI
  have hsz := encR_len _ xs (Nat.le_refl _) HI.out
  go_wp2_with fail
  refine (rencode_any B _ d xs _ hx rfl (by omega) HI.out).mono ?_; rintro e w2 ⟨rfl, hb2⟩
  have hx2 := hx.call hb2
  by_cases h0 : 0 < (encR xs).length
  · go_wp2_with fail
    refine (pick_any i (encR xs).length _ h0 (by omega)).mono ?_; rintro e w0 ⟨rfl, rfl⟩
    have hp := pickN_lt i h0
    generalize pickN i (encR xs).length = k at *
    have hk1 : k + 1 ≤ (encR xs).length := hp
    have hk2 : k ≤ (encR xs).length := by omega
    go_wp2_with fail
    go_region
    have hT : (({ data := (encR xs).toArray } : ByteArray).extract 0 k ++ { data := #[UInt8.ofNat b] } ++ ({ data := (encR xs).toArray } : ByteArray).extract (k + 1) (encR xs).length).size ≤ 1000000000000000 := by
      rw [ByteArray.size_append, ByteArray.size_append, ByteArray.size_extract, ByteArray.size_extract, size_mk]
      show _ + 1 + _ ≤ _
      omega
    generalize ({ data := (encR xs).toArray } : ByteArray).extract 0 k ++ { data := #[UInt8.ofNat b] } ++ ({ data := (encR xs).toArray } : ByteArray).extract (k + 1) (encR xs).length = T at *
    go_wp2_with fail
    refine (decode_any _ _ _ hT).mono ?_; rintro e w3 ⟨v3, ys, err, rfl, hdd, ho3, hI3, hb3⟩
    obtain ⟨C, c3, rfl, hc3⟩ := own_form ho3
    have hy3 := Rd.of_own ho3
    have HI3 := Lib.hid hI3
    have HD := Lib.hid hdd
    clear ho3 hdd hI3
    by_cases he : err = 0
    · subst he
      obtain ⟨he1, he2, _⟩ := decodeR_only HD.out
      have hys : ys.length ≤ 308 := by omega
      have HE1 := Lib.hid he1
      have HE2 := Lib.hid he2
      clear he1 he2
      go_wp2_with fail
      refine (awake9 _).mono ?_; rintro e w4 ⟨rfl, hb4⟩
      have hy4 := hy3.call hb4
      go_wp2_with fail
      refine (encode_any C _ c3 ys _ hy4 rfl hc3 (by omega) HI3.out).mono ?_; rintro e w5 ⟨rfl, hb5⟩
      have hs1 : T = ⟨(encR ys).toArray⟩ := by
        apply ByteArray.ext; apply Array.toList_inj.1; rw [HE1.out]
      subst hs1
      have hl2 := HE2.out
      clear HD HE1
      go_wp2
      go_ret
      exact ⟨ret_bool (by first | rfl | (simp; done) | (simp; omega)), bt (bt (bt (((bt hb1 hb2).alloc (bt hb1 hb2).size _).drew) hb3) hb4) hb5⟩
    · have hbe : (err != 0) = true := by simpa using he
      go_wp2_with fail
      refine (awake9 _).mono ?_; rintro e w4 ⟨rfl, hb4⟩
      go_wp2
      go_ret
      exact ⟨ret_bool (by first | rfl | (simp; done) | (simp; omega)), bt (bt (((bt hb1 hb2).alloc (bt hb1 hb2).size _).drew) hb3) hb4⟩
  · have hT : (ByteArray.mk (encR xs).toArray).size ≤ 1000000000000000 := by rw [size_mk]; omega
    obtain ⟨T, hT'⟩ : ∃ T : ByteArray, T = ⟨(encR xs).toArray⟩ := ⟨_, rfl⟩
    rw [← hT'] at hT
    have HT' := Lib.hid hT'
    clear hT'
    go_wp2_with fail
    rw [show Sv (encR xs) = Value.string T from by rw [HT'.out]]
    clear HT'
    go_wp2_with fail
    refine (decode_any _ _ _ hT).mono ?_; rintro e w3 ⟨v3, ys, err, rfl, hdd, ho3, hI3, hb3⟩
    obtain ⟨C, c3, rfl, hc3⟩ := own_form ho3
    have hy3 := Rd.of_own ho3
    have HI3 := Lib.hid hI3
    have HD := Lib.hid hdd
    clear ho3 hdd hI3
    by_cases he : err = 0
    · subst he
      obtain ⟨he1, he2, _⟩ := decodeR_only HD.out
      have hys : ys.length ≤ 308 := by omega
      have HE1 := Lib.hid he1
      have HE2 := Lib.hid he2
      clear he1 he2
      go_wp2_with fail
      refine (awake9 _).mono ?_; rintro e w4 ⟨rfl, hb4⟩
      have hy4 := hy3.call hb4
      go_wp2_with fail
      refine (encode_any C _ c3 ys _ hy4 rfl hc3 (by omega) HI3.out).mono ?_; rintro e w5 ⟨rfl, hb5⟩
      have hs1 : T = ⟨(encR ys).toArray⟩ := by
        apply ByteArray.ext; apply Array.toList_inj.1; rw [HE1.out]
      subst hs1
      have hl2 := HE2.out
      clear HD HE1
      go_wp2
      go_ret
      exact ⟨ret_bool (by first | rfl | (simp; done) | (simp; omega)), bt (bt (bt (bt hb1 hb2) hb3) hb4) hb5⟩
    · have hbe : (err != 0) = true := by simpa using he
      go_wp2_with fail
      refine (awake9 _).mono ?_; rintro e w4 ⟨rfl, hb4⟩
      go_wp2
      go_ret
      exact ⟨ret_bool (by first | rfl | (simp; done) | (simp; omega)), bt (bt (bt hb1 hb2) hb3) hb4⟩

set_option maxRecDepth 100000 in
set_option maxHeartbeats 1000000 in
theorem walk_RleMutations (A : Option Addr) (n c : Nat) (zs : List Int) (i b m : Int) (w : World) (hr : Rd w w.heap.size A (zs.map Iv)) (hn : zs.length = n) (hz : ∀ z ∈ zs, (Lit.int .i64 z).wf = true) (_hc : n ≤ c) (hb : n * 8 ≤ 140737488351232)
    (_wi : (Lit.int .i64 i).wf = true) (wb : (Lit.int .u8 b).wf = true) (_wm : (Lit.int .i64 m).wf = true) :
    Calls Try.prog 7 #[.slice A n c, .int .i64 i, .int .u8 b, .int .i64 m] w fun e w' => e = .returned (.bool true) ∧ Below w.heap.size w w' := by
  have HZ := Lib.hid (wf_i64s hz)
  obtain ⟨b, rfl, hb8⟩ := wf_u8 wb
  clear hz wb
  have hcv := byte_str_at Try.bytes Try.underlying5 Try.underlying9 b hb8
  go_enter Try.func7, Try.ntmps7
  go_wp2_with fail
  refine (runs_any _ _ _ _ _ hr hn HZ.out (by omega)).mono ?_
  rintro e w1 ⟨v, xs, rfl, ho, hI, hl, hb1⟩
  obtain ⟨B, d, rfl, hd⟩ := own_form ho
  have hx := Rd.of_own ho
  have HI := Lib.hid hI
  clear ho hI
  have hsz := encR_len _ xs (Nat.le_refl _) HI.out
  go_wp2_with fail
  refine (rencode_any B _ d xs _ hx rfl (by omega) HI.out).mono ?_; rintro e w2 ⟨rfl, hb2⟩
  go_wp2_with fail
  refine (pick_any i ((encR xs).length + 1) _ (by omega) (by omega)).mono ?_; rintro e w0 ⟨rfl, rfl⟩
  have hp := pickN_lt i (show 0 < (encR xs).length + 1 by omega)
  generalize pickN i ((encR xs).length + 1) = k at *
  have hk2 : k ≤ (encR xs).length := by omega
  by_cases h1 : (k : Int) + 1 < ((encR xs).length : Int)
  · go_wp2_with fail
    go_region
    have hT : (({ data := (encR xs).toArray } : ByteArray).extract 0 k ++ { data := #[UInt8.ofNat b] } ++ ({ data := (encR xs).toArray } : ByteArray).extract (k + 1) (encR xs).length).size ≤ 1000000000000000 := by
      rw [ByteArray.size_append, ByteArray.size_append, ByteArray.size_extract, ByteArray.size_extract, size_mk]
      show _ + 1 + _ ≤ _
      omega
    generalize ({ data := (encR xs).toArray } : ByteArray).extract 0 k ++ { data := #[UInt8.ofNat b] } ++ ({ data := (encR xs).toArray } : ByteArray).extract (k + 1) (encR xs).length = T at *
    have bA := ((bt hb1 hb2).alloc (bt hb1 hb2).size (.cells #[.int .u8 (b : Int)] 5)).drew
    go_wp2_with fail
    refine (awake9 _).mono ?_; rintro e w4 ⟨rfl, hb4⟩
    have hE : (({ data := (encR xs).toArray } : ByteArray).extract 0 k).size ≤ 1000000000000000 := by rw [ByteArray.size_extract, size_mk]; omega
    go_wp2_with fail
    refine (decodes_any _ _ _ hE).mono ?_; rintro e w5 ⟨rfl, hb5⟩
    go_wp2_with fail
    refine (decodes_any _ _ _ hT).mono ?_; rintro e w6 ⟨rfl, hb6⟩
    have hF : (ByteArray.mk (encR xs).toArray ++ { data := #[UInt8.ofNat b] }).size ≤ 1000000000000000 := by
      rw [ByteArray.size_append, size_mk]; show _ + 1 ≤ _; omega
    go_wp2_with fail
    refine (decodes_any _ _ _ hF).mono ?_; rintro e w7 ⟨rfl, hb7⟩
    have hb6' := bt (bt (bt bA hb4) hb5) hb6
    have hb7' := bt (hb6'.alloc hb6'.size _) hb7
    go_wp2_with fail
    refine (pick_any m 5 _ (by omega) (by omega)).mono ?_; rintro e w0 ⟨rfl, rfl⟩
    have hp5 := pickN_lt m (show 0 < 5 by omega)
    have hG : (ByteArray.mk (encR xs).toArray).size ≤ 1000000000000000 := by rw [size_mk]; omega
    go_wp2_with fail
    refine (decodes_any _ _ _ hG).mono ?_; rintro e w8 ⟨rfl, hb8'⟩
    go_wp2
    go_ret
    exact ⟨ret_bool (by first | rfl | (simp; done) | (simp; omega)), bt hb7' hb8'⟩
  · go_wp2_with fail
    go_region
    have hT : (({ data := (encR xs).toArray } : ByteArray).extract 0 k ++ { data := #[UInt8.ofNat b] }).size ≤ 1000000000000000 := by
      rw [ByteArray.size_append, ByteArray.size_extract, size_mk]
      show _ + 1 ≤ _
      omega
    generalize ({ data := (encR xs).toArray } : ByteArray).extract 0 k ++ { data := #[UInt8.ofNat b] } = T at *
    have bA := ((bt hb1 hb2).alloc (bt hb1 hb2).size (.cells #[.int .u8 (b : Int)] 5)).drew
    go_wp2_with fail
    refine (awake9 _).mono ?_; rintro e w4 ⟨rfl, hb4⟩
    have hE : (({ data := (encR xs).toArray } : ByteArray).extract 0 k).size ≤ 1000000000000000 := by rw [ByteArray.size_extract, size_mk]; omega
    go_wp2_with fail
    refine (decodes_any _ _ _ hE).mono ?_; rintro e w5 ⟨rfl, hb5⟩
    go_wp2_with fail
    refine (decodes_any _ _ _ hT).mono ?_; rintro e w6 ⟨rfl, hb6⟩
    have hF : (ByteArray.mk (encR xs).toArray ++ { data := #[UInt8.ofNat b] }).size ≤ 1000000000000000 := by
      rw [ByteArray.size_append, size_mk]; show _ + 1 ≤ _; omega
    go_wp2_with fail
    refine (decodes_any _ _ _ hF).mono ?_; rintro e w7 ⟨rfl, hb7⟩
    have hb6' := bt (bt (bt bA hb4) hb5) hb6
    have hb7' := bt (hb6'.alloc hb6'.size _) hb7
    go_wp2_with fail
    refine (pick_any m 5 _ (by omega) (by omega)).mono ?_; rintro e w0 ⟨rfl, rfl⟩
    have hp5 := pickN_lt m (show 0 < 5 by omega)
    have hG : (ByteArray.mk (encR xs).toArray).size ≤ 1000000000000000 := by rw [size_mk]; omega
    go_wp2_with fail
    refine (decodes_any _ _ _ hG).mono ?_; rintro e w8 ⟨rfl, hb8'⟩
    go_wp2
    go_ret
    exact ⟨ret_bool (by first | rfl | (simp; done) | (simp; omega)), bt hb7' hb8'⟩

end Go.Proofs.Ytgpipjifelfjlaa
