/-
  Laws of layer 19: ManifestSealed, ManifestScans.
-/
import Derived.Test.YtgacjpkgpegcdaaMFile
namespace Go.Proofs.Ytgacjpkgpegcdaa
open Go.RowKit

theorem wf_u8' {b : Int} (h : (Lit.int .u8 b).wf = true) : 0 ≤ b ∧ b ≤ 255 := by
  simpa [Lit.wf, IntKind.min, IntKind.max, IntKind.signed, IntKind.bits] using h
theorem u32_nat (x : Int) : ∃ V : Nat, IntKind.u32.wrap x = (V : Int) ∧ V < 4294967296 := by
  have w1 : IntKind.u32.wrap x = x % 4294967296 := by simp [IntKind.wrap, IntKind.bits, IntKind.signed]
  exact ⟨(x % 4294967296).toNat, by rw [w1]; omega, by omega⟩
set_option maxRecDepth 100000 in
set_option maxHeartbeats 1000000 in
theorem seal_any (p : ByteArray) (w : World) (hsz : p.size ≤ 1000000000) : Calls Try.prog 21 #[.string p] w fun e w' => (∃ s : ByteArray, e = .returned (.string s) ∧ s.size = p.size + 8) ∧ Below w.heap.size w w' := by
  obtain ⟨V, hV, hVl⟩ := u32_nat (p.size : Int)
  go_enter Try.func21, Try.ntmps21
  go_wp2_with fail
  refine (four_any V _ hVl).mono ?_; rintro _ w1 ⟨rfl, hb1⟩
  obtain ⟨L, hL, hLl⟩ : ∃ L, fourL V = L ∧ L.length = 4 := ⟨_, rfl, rfl⟩
  rw [hL]
  clear hL hV
  have hc1 : ¬ (9223372036854775807 < L.length + p.size) := by omega
  have hc2 : ¬ (9223372036854775807 < 4 + p.size) := by omega
  go_wp2_with fail
  obtain ⟨S, hS, hSl⟩ : ∃ S : ByteArray, (⟨L.toArray⟩ : ByteArray) ++ p = S ∧ S.size = p.size + 4 := ⟨_, rfl, by rw [ByteArray.size_append]; show L.toArray.size + _ = _; simp; omega⟩
  rw [hS]
  clear hS hc1 hc2
  refine (rcrc_any S _ (by omega)).mono ?_; rintro _ w2 ⟨rfl, hb2⟩
  obtain ⟨c, hc, hcl⟩ : ∃ c : Nat, crcL S.data.toList = c ∧ c < 4294967296 := ⟨_, rfl, crcL_lt _⟩
  rw [hc]
  clear hc
  go_wp2_with fail
  refine (four_any c _ hcl).mono ?_; rintro _ w3 ⟨rfl, hb3⟩
  obtain ⟨L2, hL2, hL2l⟩ : ∃ L, fourL c = L ∧ L.length = 4 := ⟨_, rfl, rfl⟩
  rw [hL2]
  clear hL2
  have hc1 : ¬ (9223372036854775807 < S.size + L2.length) := by omega
  have hc2 : ¬ (9223372036854775807 < S.size + 4) := by omega
  go_wp2
  go_ret
  exact ⟨⟨_, rfl, by rw [ByteArray.size_append]; show _ + L2.toArray.size = _; simp; omega⟩, bt (bt hb1 hb2) hb3⟩
theorem fileL_cons' (r : Rc) (rs : List Rc) : fileL (r :: rs) = encR r ++ fileL rs := rfl
theorem fileL_mono' : ∀ (rs : List Rc) {i j : Nat}, i ≤ j → (fileL (rs.take i)).length ≤ (fileL (rs.take j)).length
  | [], i, j, _ => by simp
  | r :: rs, 0, j, _ => by simp [fileL]
  | r :: rs, i + 1, 0, h => by omega
  | r :: rs, i + 1, j + 1, h => by
    rw [List.take_succ_cons, List.take_succ_cons, fileL_cons', fileL_cons', List.length_append, List.length_append]
    have := fileL_mono' rs (i := i) (j := j) (by omega)
    omega
theorem bodyP_pos (r : Rc) : 1 ≤ (bodyP r).length := by
  unfold bodyP
  simp only [List.length_append, List.length_singleton]
  omega
theorem cv_byte {b : Int} (hb : 0 ≤ b ∧ b ≤ 255) (wa : World) : (convert 43 9 (.slice (some ⟨wa.heap.size, 0, none⟩) 1 1)).run Try.prog (wa.alloc (.cells #[.int .u8 b] 5)) = .ok (Sv [UInt8.ofNat b.toNat]) (wa.alloc (.cells #[.int .u8 b] 5)) := by
  have hZ := Blk.new' wa 5 #[.int .u8 b]
  refine run_convert_bytes_back (P := Try.prog) _ 43 9 5 ⟨wa.heap.size, 0, none⟩ 1 [UInt8.ofNat b.toNat] Try.underlying43 Try.underlying5 Try.underlying9 (fun j hj => ?_)
  have hj0 : j = 0 := by simpa using hj
  subst hj0
  have e0 : (⟨wa.heap.size, 0, none⟩ : Addr).add 0 = ⟨wa.heap.size, 0, none⟩ := by unfold Addr.add; simp
  rw [e0, hZ.cell]
  simp
  omega
set_option maxRecDepth 100000 in
set_option maxHeartbeats 4000000 in
theorem walk_ManifestSealed (pl : ByteArray) (A : Option Addr) (n c : Nat) (zs : List Int) (at_ b : Int) (w : World) (hpl : pl.size ≤ 1048576) (hr : Rd w w.heap.size A (zs.map Iv)) (hn : zs.length = n) (hz : ∀ z ∈ zs, (Lit.int .i64 z).wf = true) (_ : n ≤ c) (hb : n * 8 ≤ 140737488351232) (_ : (Lit.int .i64 at_).wf = true) (hbw : (Lit.int .u8 b).wf = true) :
    Calls Try.prog 6 #[.string pl, .slice A n c, .int .i64 at_, .int .u8 b] w fun e w' => e = .returned (.bool true) ∧ Below w.heap.size w w' := by
  have HFI := Lib.hid (file_any A n c zs w hr hn (wf_i64s hz) (by omega))
  have HBB := Lib.hid (wf_u8' hbw)
  clear hr hn hz hb hbw
  go_enter Try.func6, Try.ntmps6
  go_wp2_with fail
  refine HFI.out.mono ?_; rintro _ w1 ⟨F, rs, B, d, rfl, hF, hok, hl4, hlF, hE, hd, hb1⟩
  have HF := Lib.hid hF
  have HEE := Lib.hid hE
  clear hF hok hE
  by_cases h1 : rs.length = 0
  · have hgt : decide ((1 : Int) < (rs.length : Int) + 1) = false := decide_eq_false (by omega)
    go_upto_region 7 with fail
    clear HFI HEE
    have hb2 := hb1
    go_wp2_with fail
    refine (awake_any _).mono ?_; rintro _ w3 ⟨rfl, hb3⟩
    go_wp2_with fail
    refine (seal_any pl _ (by omega)).mono ?_; rintro _ w4 ⟨⟨S1, rfl, hS1⟩, hb4⟩
    go_wp2_with fail
    refine (scans_any S1 _ (by omega)).mono ?_; rintro _ w5 ⟨rfl, hb5⟩
    go_wp2_with fail
    refine (seal_any pl _ (by omega)).mono ?_; rintro _ w6 ⟨⟨S2, rfl, hS2⟩, hb6⟩
    go_wp2_with fail
    refine (scans_any S2 _ (by omega)).mono ?_; rintro _ w7 ⟨rfl, hb7⟩
    go_wp2_with fail
    refine (seal_any pl _ (by omega)).mono ?_; rintro _ w8 ⟨⟨S3, rfl, hS3⟩, hb8⟩
    have hc1 : ¬ (9223372036854775807 < F.length + S3.size) := by omega
    have hc2 : ¬ (9223372036854775807 < F.length + S3.size + F.length) := by omega
    go_wp2_with fail
    refine (scans_any _ _ (by rw [ByteArray.size_append, ByteArray.size_append]; show F.toArray.size + _ + F.toArray.size ≤ _; simp; omega)).mono ?_; rintro _ w9 ⟨rfl, hb9⟩
    go_wp2
    go_ret
    exact ⟨rfl, bt (bt (bt (bt (bt (bt (bt hb2 hb3) hb4) hb5) hb6) hb7) hb8) hb9⟩
  · have hgt : decide ((1 : Int) < (rs.length : Int) + 1) = true := decide_eq_true (by omega)
    obtain ⟨E1, hE1, h9, hEF⟩ : ∃ E1 : Nat, (endsL rs)[1]? = some (E1 : Int) ∧ 9 ≤ E1 ∧ E1 ≤ F.length := by
      refine ⟨(fileL (rs.take 1)).length, ?_, ?_, ?_⟩
      · unfold endsL
        rw [List.getElem?_map, List.getElem?_range (by omega)]
        rfl
      · cases rs with
        | nil => simp at h1
        | cons r rs =>
          rw [List.take_succ_cons, fileL_cons', List.length_append, encR_len]
          have := bodyP_pos r
          omega
      · have := fileL_mono' rs (i := 1) (j := rs.length) (by omega)
        rw [List.take_length, ← HF.out] at this
        exact this
    obtain ⟨ad, rfl, _, c1⟩ := HEE.out.at_ (j := 1) (u := Iv (E1 : Int)) (by rw [List.getElem?_map, hE1]; rfl)
    clear hE1
    have c1' : w1.cell? ⟨ad.block, ad.off + 1, none⟩ = some (.int .i64 (E1 : Int)) := by simpa [Addr.add] using c1
    have hw4 : IntKind.i64.wrap ((E1 : Int) - 4) = (E1 : Int) - 4 := IntWalk.i64_in _ (by omega)
    have hn4 : ((E1 : Int) - 4).toNat = E1 - 4 := by omega
    have g1 : (4 : Int) ≤ (E1 : Int) - 4 := by omega
    have g2 : (E1 : Int) - 4 ≤ (F.length : Int) := by omega
    go_upto_region 5 with fail
    obtain ⟨T0, hT0, hT0s⟩ : ∃ T0 : ByteArray, (⟨F.toArray⟩ : ByteArray).extract 4 (E1 - 4) = T0 ∧ T0.size = E1 - 8 := ⟨_, rfl, by rw [ByteArray.size_extract]; show min _ F.toArray.size - 4 = _; simp; omega⟩
    rw [hT0]
    clear hT0 hw4 hn4 g1 g2 c1 c1' HEE
    obtain ⟨m, hm, hm1⟩ : ∃ m, T0.size = m ∧ 0 < m := ⟨_, rfl, by omega⟩
    have hmb : m ≤ 100000 := by omega
    clear hT0s h9 hEF
    have hkl := pickN_lt at_ hm1
    have HPK := Lib.hid (pick_any at_ m w1 hm1 (by omega))
    generalize pickN at_ m = k at *
    go_wp2_with fail
    refine HPK.out.mono ?_; rintro _ _ ⟨rfl, rfl⟩
    clear HPK
    obtain ⟨X1, hX1, hX1s⟩ : ∃ X, T0.extract 0 k = X ∧ X.size = k := ⟨_, rfl, by rw [ByteArray.size_extract]; omega⟩
    obtain ⟨X2, hX2, hX2s⟩ : ∃ X, T0.extract (k + 1) m = X ∧ X.size = m - (k + 1) := ⟨_, rfl, by rw [ByteArray.size_extract]; omega⟩
    have hwk : IntKind.i64.wrap ((k : Int) + 1) = (k : Int) + 1 := IntWalk.i64_in _ (by omega)
    have g1 : (k : Int) ≤ (m : Int) := by omega
    have g2 : (k : Int) + 1 ≤ (m : Int) := by omega
    have g3 : (0 : Int) ≤ (k : Int) + 1 := by omega
    go_upto_region 6 with fail
    refine wp_region_L (fun _ _ => True) (by kernel_rfl) ?_
    have hbd := Below.drew (Below.refl w1.heap.size w1)
    generalize w1.drew = wy at *
    refine wpAnyL_takeD (fun _ => True) (i := 0) (v := (.string T0)) (some 32) rfl rfl (by kernel_rfl) (by kernel_rfl) (by kernel_rfl) (fun _ _ _ h => h) (fun _ _ _ _ _ _ => trivial) (fun _ _ _ => Iff.rfl) trivial (Or.inl ⟨by rfl, fun w' hw' => by go_simp⟩) trivial ?_
    simp only [Act.put, List.setIfInBounds_toArray, List.set_cons_zero, List.set_cons_succ]
    refine wpAnyL_takeD (fun _ => True) (i := 1) (v := (.int .i64 (k : Int))) (some 33) rfl rfl (by kernel_rfl) (by kernel_rfl) (by kernel_rfl) (fun _ _ _ h => h) (fun _ _ _ _ _ _ => trivial) (fun _ _ _ => Iff.rfl) trivial (Or.inl ⟨by rfl, fun w' hw' => by go_simp⟩) trivial ?_
    simp only [Act.put, List.setIfInBounds_toArray, List.set_cons_zero, List.set_cons_succ]
    refine wpAnyL_takeD (fun _ => True) (i := 2) (v := (.string X1)) (some 34) rfl rfl (by kernel_rfl) (by kernel_rfl) (by kernel_rfl) (fun _ _ _ h => h) (fun _ _ _ _ _ _ => trivial) (fun _ _ _ => Iff.rfl) trivial (Or.inl ⟨by rfl, fun w' hw' => by go_simp⟩) trivial ?_
    simp only [Act.put, List.setIfInBounds_toArray, List.set_cons_zero, List.set_cons_succ]
    refine wpAnyL_takeD (fun _ => True) (i := 3) (v := (.int .u8 b)) (some 35) rfl rfl (by kernel_rfl) (by kernel_rfl) (by kernel_rfl) (fun _ _ _ h => h) (fun _ _ _ _ _ _ => trivial) (fun _ _ _ => Iff.rfl) trivial (Or.inl ⟨by rfl, fun w' hw' => by go_simp⟩) trivial ?_
    simp only [Act.put, List.setIfInBounds_toArray, List.set_cons_zero, List.set_cons_succ]
    refine wpAnyL_takeD (fun _ => True) (i := 7) (v := (.string T0)) (some 39) rfl rfl (by kernel_rfl) (by kernel_rfl) (by kernel_rfl) (fun _ _ _ h => h) (fun _ _ _ _ _ _ => trivial) (fun _ _ _ => Iff.rfl) trivial (Or.inl ⟨by rfl, fun w' hw' => by go_simp⟩) trivial ?_
    simp only [Act.put, List.setIfInBounds_toArray, List.set_cons_zero, List.set_cons_succ]
    refine wpAnyL_takeD (fun _ => True) (i := 8) (v := (.int .i64 (k : Int))) (some 40) rfl rfl (by kernel_rfl) (by kernel_rfl) (by kernel_rfl) (fun _ _ _ h => h) (fun _ _ _ _ _ _ => trivial) (fun _ _ _ => Iff.rfl) trivial (Or.inl ⟨by rfl, fun w' hw' => by go_simp⟩) trivial ?_
    simp only [Act.put, List.setIfInBounds_toArray, List.set_cons_zero, List.set_cons_succ]
    refine wpAnyL_takeD (fun _ => True) (i := 9) (v := (.int .i64 ((k : Int) + 1))) (some 41) rfl rfl (by kernel_rfl) (by kernel_rfl) (by kernel_rfl) (fun _ _ _ h => h) (fun _ _ _ _ _ _ => trivial) (fun _ _ _ => Iff.rfl) trivial (Or.inl ⟨by rfl, fun w' hw' => by go_simp⟩) trivial ?_
    simp only [Act.put, List.setIfInBounds_toArray, List.set_cons_zero, List.set_cons_succ]
    refine wpAnyL_takeD (fun _ => True) (i := 10) (v := (.string X2)) (some 42) rfl rfl (by kernel_rfl) (by kernel_rfl) (by kernel_rfl) (fun _ _ _ h => h) (fun _ _ _ _ _ _ => trivial) (fun _ _ _ => Iff.rfl) trivial (Or.inl ⟨by rfl, fun w' hw' => by go_simp⟩) trivial ?_
    simp only [Act.put, List.setIfInBounds_toArray, List.set_cons_zero, List.set_cons_succ]
    refine wpAnyL_one (i := 4) (by decide +kernel) ?_
    refine wpOp_go (o := _) rfl (fun K hK => ?_)
    go_simp
    have hcv := cv_byte HBB.out wy
    obtain ⟨B1, hB1, hB1s⟩ : ∃ B : ByteArray, (⟨[UInt8.ofNat b.toNat].toArray⟩ : ByteArray) = B ∧ B.size = 1 := ⟨_, rfl, rfl⟩
    change (convert 43 9 (.slice (some ⟨wy.heap.size, 0, none⟩) 1 1)).run Try.prog (wy.alloc (.cells #[.int .u8 b] 5)) = .ok (.string ⟨[UInt8.ofNat b.toNat].toArray⟩) (wy.alloc (.cells #[.int .u8 b] 5)) at hcv
    rw [hB1] at hcv
    clear hB1
    have hbe := (Below.refl wy.heap.size wy).alloc (Nat.le_refl _) (.cells #[.int .u8 b] 5)
    refine hK _ _ ⟨trivial, ?_⟩
    clear hK K
    generalize wy.alloc (.cells #[.int .u8 b] 5) = wz at *
    refine wpAnyL_one (i := 5) (by decide +kernel) ?_
    refine wpOp_go (o := _) rfl (fun K hK => ?_)
    go_simp
    refine hK _ _ ⟨trivial, ?_⟩
    clear hK K hcv
    have hc1 : ¬ (9223372036854775807 < X1.size + B1.size) := by omega
    have hc2 : ¬ (9223372036854775807 < X1.size + B1.size + X2.size) := by omega
    have hc3 : ¬ (9223372036854775807 < k + 1) := by omega
    have hc4 : ¬ (9223372036854775807 < k + 1 + (m - (k + 1))) := by omega
    refine wpAnyL_takeD (fun _ => True) (i := 6) (v := (.string (X1 ++ B1))) (some 38) rfl rfl (by kernel_rfl) (by kernel_rfl) (by kernel_rfl) (fun _ _ _ h => h) (fun _ _ _ _ _ _ => trivial) (fun _ _ _ => Iff.rfl) trivial (Or.inl ⟨by rfl, fun w' hw' => by go_simp⟩) trivial ?_
    simp only [Act.put, List.setIfInBounds_toArray, List.set_cons_zero, List.set_cons_succ]
    refine wpAnyL_takeD (fun _ => True) (i := 11) (v := (.string (X1 ++ B1 ++ X2))) (some 43) rfl rfl (by kernel_rfl) (by kernel_rfl) (by kernel_rfl) (fun _ _ _ h => h) (fun _ _ _ _ _ _ => trivial) (fun _ _ _ => Iff.rfl) trivial (Or.inl ⟨by rfl, fun w' hw' => by go_simp⟩) trivial ?_
    simp only [Act.put, List.setIfInBounds_toArray, List.set_cons_zero, List.set_cons_succ]
    refine wpAnyL_takeD (fun _ => True) (i := 12) (v := (.string (X1 ++ B1 ++ X2))) (some 11) rfl rfl (by kernel_rfl) (by kernel_rfl) (by kernel_rfl) (fun _ _ _ h => h) (fun _ _ _ _ _ _ => trivial) (fun _ _ _ => Iff.rfl) trivial (Or.inl ⟨by rfl, fun w' hw' => by go_simp⟩) trivial ?_
    simp only [Act.put, List.setIfInBounds_toArray, List.set_cons_zero, List.set_cons_succ]
    refine wpAnyL_done (by decide +kernel) ?_ _
    obtain ⟨T, hT, hTs⟩ : ∃ T, X1 ++ B1 ++ X2 = T ∧ T.size ≤ 200000 := ⟨_, rfl, by rw [ByteArray.size_append, ByteArray.size_append]; omega⟩
    rw [hT]
    clear hT hX1 hX2 hX1s hX2s hB1s hwk g1 g2 g3 hc1 hc2 hc3 hc4 hm hm1
    have hb2 := bt hb1 (bt hbd hbe)
    go_wp2_with fail
    refine (awake_any _).mono ?_; rintro _ w3 ⟨rfl, hb3⟩
    go_wp2_with fail
    refine (seal_any pl _ (by omega)).mono ?_; rintro _ w4 ⟨⟨S1, rfl, hS1⟩, hb4⟩
    go_wp2_with fail
    refine (scans_any S1 _ (by omega)).mono ?_; rintro _ w5 ⟨rfl, hb5⟩
    go_wp2_with fail
    refine (seal_any T _ (by omega)).mono ?_; rintro _ w6 ⟨⟨S2, rfl, hS2⟩, hb6⟩
    go_wp2_with fail
    refine (scans_any S2 _ (by omega)).mono ?_; rintro _ w7 ⟨rfl, hb7⟩
    go_wp2_with fail
    refine (seal_any T _ (by omega)).mono ?_; rintro _ w8 ⟨⟨S3, rfl, hS3⟩, hb8⟩
    have hc1 : ¬ (9223372036854775807 < F.length + S3.size) := by omega
    have hc2 : ¬ (9223372036854775807 < F.length + S3.size + F.length) := by omega
    go_wp2_with fail
    refine (scans_any _ _ (by rw [ByteArray.size_append, ByteArray.size_append]; show F.toArray.size + _ + F.toArray.size ≤ _; simp; omega)).mono ?_; rintro _ w9 ⟨rfl, hb9⟩
    go_wp2
    go_ret
    exact ⟨rfl, bt (bt (bt (bt (bt (bt (bt hb2 hb3) hb4) hb5) hb6) hb7) hb8) hb9⟩
set_option maxRecDepth 100000 in
set_option maxHeartbeats 1000000 in
theorem walk_ManifestScans (raw : ByteArray) (A : Option Addr) (n c : Nat) (zs : List Int) (at_ b : Int) (w : World) (hpl : raw.size ≤ 1048576) (hr : Rd w w.heap.size A (zs.map Iv)) (hn : zs.length = n) (hz : ∀ z ∈ zs, (Lit.int .i64 z).wf = true) (_ : n ≤ c) (hb : n * 8 ≤ 140737488351232) (_ : (Lit.int .i64 at_).wf = true) (hbw : (Lit.int .u8 b).wf = true) :
    Calls Try.prog 5 #[.string raw, .slice A n c, .int .i64 at_, .int .u8 b] w fun e w' => e = .returned (.bool true) ∧ Below w.heap.size w w' := by
  have HFI := Lib.hid (file_any A n c zs w hr hn (wf_i64s hz) (by omega))
  have HBB := Lib.hid (wf_u8' hbw)
  clear hr hn hz hb hbw
  go_enter Try.func5, Try.ntmps5
  go_wp2_with fail
  refine HFI.out.mono ?_; rintro _ w1 ⟨F, rs, B, d, rfl, hF, hok, hl4, hlF, hE, hd, hb1⟩
  clear HFI hF hok hE hl4
  by_cases h1 : F = []
  · subst h1
    go_wp2_with fail
    refine (awake_any _).mono ?_; rintro _ w3 ⟨rfl, hb3⟩
    go_wp2_with fail
    refine (scans_any raw _ (by omega)).mono ?_; rintro _ w5 ⟨rfl, hb5⟩
    go_wp2
    go_ret
    exact ⟨rfl, bt (bt hb1 hb3) hb5⟩
  · have hFp : 0 < F.length := List.length_pos_iff.2 h1
    have hem : F.isEmpty = false := by cases F with | nil => exact absurd rfl h1 | cons x l => rfl
    obtain ⟨m, hm, hm1⟩ : ∃ m, F.length = m ∧ 0 < m := ⟨_, rfl, hFp⟩
    have hmb : m ≤ 100000 := by omega
    have hkl := pickN_lt at_ hm1
    have HPK := Lib.hid (pick_any at_ m w1 hm1 (by omega))
    generalize pickN at_ m = k at *
    have HMM := Lib.hid hm
    have hFs : (⟨F.toArray⟩ : ByteArray).size = m := by rw [← hm]; show F.toArray.size = _; simp
    clear hFp hlF
    go_wp2_with fail
    refine HPK.out.mono ?_; rintro _ _ ⟨rfl, rfl⟩
    clear HPK
    obtain ⟨X1, hX1, hX1s⟩ : ∃ X, (⟨F.toArray⟩ : ByteArray).extract 0 k = X ∧ X.size = k := ⟨_, rfl, by rw [ByteArray.size_extract, hFs]; omega⟩
    obtain ⟨X2, hX2, hX2s⟩ : ∃ X, (⟨F.toArray⟩ : ByteArray).extract (k + 1) m = X ∧ X.size = m - (k + 1) := ⟨_, rfl, by rw [ByteArray.size_extract, hFs]; omega⟩
    have hwk : IntKind.i64.wrap ((k : Int) + 1) = (k : Int) + 1 := IntWalk.i64_in _ (by omega)
    have g1 : (k : Int) ≤ (m : Int) := by omega
    have g2 : (k : Int) + 1 ≤ (m : Int) := by omega
    have g3 : (0 : Int) ≤ (k : Int) + 1 := by omega
    go_upto_region 5 with fail
    refine wp_region_L (fun _ _ => True) (by kernel_rfl) ?_
    have hBel := bt hb1 (Below.drew (Below.refl w1.heap.size w1))
    generalize w1.drew = wy at *
    refine wpAnyL_one (i := 0) (by decide +kernel) ?_
    refine wpOp_go (o := _) rfl (fun K hK => ?_)
    go_simp
    go_at_call 15
    refine (awake_any _).mono ?_; rintro _ wy ⟨rfl, hbq⟩
    have hBel := bt hBel hbq
    refine hK _ _ ⟨trivial, ?_⟩
    clear hK K hbq
    refine wpAnyL_takeD (fun _ => True) (i := 1) (v := (.bool true)) (some 29) rfl rfl (by kernel_rfl) (by kernel_rfl) (by kernel_rfl) (fun _ _ _ h => h) (fun _ _ _ _ _ _ => trivial) (fun _ _ _ => Iff.rfl) trivial (Or.inl ⟨by rfl, fun w' hw' => by go_simp⟩) trivial ?_
    simp only [Act.put, List.setIfInBounds_toArray, List.set_cons_zero, List.set_cons_succ]
    refine wpAnyL_takeD (fun _ => True) (i := 2) (v := (.string raw)) (some 30) rfl rfl (by kernel_rfl) (by kernel_rfl) (by kernel_rfl) (fun _ _ _ h => h) (fun _ _ _ _ _ _ => trivial) (fun _ _ _ => Iff.rfl) trivial (Or.inl ⟨by rfl, fun w' hw' => by go_simp⟩) trivial ?_
    simp only [Act.put, List.setIfInBounds_toArray, List.set_cons_zero, List.set_cons_succ]
    refine wpAnyL_one (i := 3) (by decide +kernel) ?_
    refine wpOp_go (o := _) rfl (fun K hK => ?_)
    go_simp
    go_at_call 20
    refine (scans_any _ _ (by omega)).mono ?_; rintro _ wy ⟨rfl, hbq⟩
    have hBel := bt hBel hbq
    refine hK _ _ ⟨trivial, ?_⟩
    clear hK K hbq
    refine wpAnyL_takeD (fun _ => True) (i := 4) (v := (.bool true)) (some 32) rfl rfl (by kernel_rfl) (by kernel_rfl) (by kernel_rfl) (fun _ _ _ h => h) (fun _ _ _ _ _ _ => trivial) (fun _ _ _ => Iff.rfl) trivial (Or.inl ⟨by rfl, fun w' hw' => by go_simp⟩) trivial ?_
    simp only [Act.put, List.setIfInBounds_toArray, List.set_cons_zero, List.set_cons_succ]
    refine wpAnyL_takeD (fun _ => True) (i := 5) (v := (.bool true)) (some 33) rfl rfl (by kernel_rfl) (by kernel_rfl) (by kernel_rfl) (fun _ _ _ h => h) (fun _ _ _ _ _ _ => trivial) (fun _ _ _ => Iff.rfl) trivial (Or.inl ⟨by rfl, fun w' hw' => by go_simp⟩) trivial ?_
    simp only [Act.put, List.setIfInBounds_toArray, List.set_cons_zero, List.set_cons_succ]
    refine wpAnyL_takeD (fun _ => True) (i := 6) (v := (Sv F)) (some 34) rfl rfl (by kernel_rfl) (by kernel_rfl) (by kernel_rfl) (fun _ _ _ h => h) (fun _ _ _ _ _ _ => trivial) (fun _ _ _ => Iff.rfl) trivial (Or.inl ⟨by rfl, fun w' hw' => by go_simp⟩) trivial ?_
    simp only [Act.put, List.setIfInBounds_toArray, List.set_cons_zero, List.set_cons_succ]
    refine wpAnyL_takeD (fun _ => True) (i := 7) (v := (.string raw)) (some 35) rfl rfl (by kernel_rfl) (by kernel_rfl) (by kernel_rfl) (fun _ _ _ h => h) (fun _ _ _ _ _ _ => trivial) (fun _ _ _ => Iff.rfl) trivial (Or.inl ⟨by rfl, fun w' hw' => by go_simp⟩) trivial ?_
    simp only [Act.put, List.setIfInBounds_toArray, List.set_cons_zero, List.set_cons_succ]
    have hc1 : ¬ (9223372036854775807 < m + raw.size) := by omega
    refine wpAnyL_takeD (fun _ => True) (i := 8) (v := (.string (⟨F.toArray⟩ ++ raw))) (some 36) rfl rfl (by kernel_rfl) (by kernel_rfl) (by kernel_rfl) (fun _ _ _ h => h) (fun _ _ _ _ _ _ => trivial) (fun _ _ _ => Iff.rfl) trivial (Or.inl ⟨by rfl, fun w' hw' => by go_simp⟩) trivial ?_
    simp only [Act.put, List.setIfInBounds_toArray, List.set_cons_zero, List.set_cons_succ]
    refine wpAnyL_one (i := 9) (by decide +kernel) ?_
    refine wpOp_go (o := _) rfl (fun K hK => ?_)
    go_simp
    go_at_call 20
    refine (scans_any _ _ (by rw [ByteArray.size_append, hFs]; omega)).mono ?_; rintro _ wy ⟨rfl, hbq⟩
    have hBel := bt hBel hbq
    refine hK _ _ ⟨trivial, ?_⟩
    clear hK K hbq
    refine wpAnyL_takeD (fun _ => True) (i := 10) (v := (.bool true)) (some 38) rfl rfl (by kernel_rfl) (by kernel_rfl) (by kernel_rfl) (fun _ _ _ h => h) (fun _ _ _ _ _ _ => trivial) (fun _ _ _ => Iff.rfl) trivial (Or.inl ⟨by rfl, fun w' hw' => by go_simp⟩) trivial ?_
    simp only [Act.put, List.setIfInBounds_toArray, List.set_cons_zero, List.set_cons_succ]
    refine wpAnyL_takeD (fun _ => True) (i := 11) (v := (.bool true)) (some 39) rfl rfl (by kernel_rfl) (by kernel_rfl) (by kernel_rfl) (fun _ _ _ h => h) (fun _ _ _ _ _ _ => trivial) (fun _ _ _ => Iff.rfl) trivial (Or.inl ⟨by rfl, fun w' hw' => by go_simp⟩) trivial ?_
    simp only [Act.put, List.setIfInBounds_toArray, List.set_cons_zero, List.set_cons_succ]
    refine wpAnyL_takeD (fun _ => True) (i := 12) (v := (Sv F)) (some 40) rfl rfl (by kernel_rfl) (by kernel_rfl) (by kernel_rfl) (fun _ _ _ h => h) (fun _ _ _ _ _ _ => trivial) (fun _ _ _ => Iff.rfl) trivial (Or.inl ⟨by rfl, fun w' hw' => by go_simp⟩) trivial ?_
    simp only [Act.put, List.setIfInBounds_toArray, List.set_cons_zero, List.set_cons_succ]
    refine wpAnyL_takeD (fun _ => True) (i := 13) (v := (.int .i64 (k : Int))) (some 41) rfl rfl (by kernel_rfl) (by kernel_rfl) (by kernel_rfl) (fun _ _ _ h => h) (fun _ _ _ _ _ _ => trivial) (fun _ _ _ => Iff.rfl) trivial (Or.inl ⟨by rfl, fun w' hw' => by go_simp⟩) trivial ?_
    simp only [Act.put, List.setIfInBounds_toArray, List.set_cons_zero, List.set_cons_succ]
    refine wpAnyL_takeD (fun _ => True) (i := 14) (v := (.string X1)) (some 42) rfl rfl (by kernel_rfl) (by kernel_rfl) (by kernel_rfl) (fun _ _ _ h => h) (fun _ _ _ _ _ _ => trivial) (fun _ _ _ => Iff.rfl) trivial (Or.inl ⟨by rfl, fun w' hw' => by go_simp⟩) trivial ?_
    simp only [Act.put, List.setIfInBounds_toArray, List.set_cons_zero, List.set_cons_succ]
    refine wpAnyL_takeD (fun _ => True) (i := 15) (v := (.int .u8 b)) (some 43) rfl rfl (by kernel_rfl) (by kernel_rfl) (by kernel_rfl) (fun _ _ _ h => h) (fun _ _ _ _ _ _ => trivial) (fun _ _ _ => Iff.rfl) trivial (Or.inl ⟨by rfl, fun w' hw' => by go_simp⟩) trivial ?_
    simp only [Act.put, List.setIfInBounds_toArray, List.set_cons_zero, List.set_cons_succ]
    refine wpAnyL_takeD (fun _ => True) (i := 19) (v := (Sv F)) (some 47) rfl rfl (by kernel_rfl) (by kernel_rfl) (by kernel_rfl) (fun _ _ _ h => h) (fun _ _ _ _ _ _ => trivial) (fun _ _ _ => Iff.rfl) trivial (Or.inl ⟨by rfl, fun w' hw' => by go_simp⟩) trivial ?_
    simp only [Act.put, List.setIfInBounds_toArray, List.set_cons_zero, List.set_cons_succ]
    refine wpAnyL_takeD (fun _ => True) (i := 20) (v := (.int .i64 (k : Int))) (some 48) rfl rfl (by kernel_rfl) (by kernel_rfl) (by kernel_rfl) (fun _ _ _ h => h) (fun _ _ _ _ _ _ => trivial) (fun _ _ _ => Iff.rfl) trivial (Or.inl ⟨by rfl, fun w' hw' => by go_simp⟩) trivial ?_
    simp only [Act.put, List.setIfInBounds_toArray, List.set_cons_zero, List.set_cons_succ]
    refine wpAnyL_takeD (fun _ => True) (i := 21) (v := (.int .i64 ((k : Int) + 1))) (some 49) rfl rfl (by kernel_rfl) (by kernel_rfl) (by kernel_rfl) (fun _ _ _ h => h) (fun _ _ _ _ _ _ => trivial) (fun _ _ _ => Iff.rfl) trivial (Or.inl ⟨by rfl, fun w' hw' => by go_simp⟩) trivial ?_
    simp only [Act.put, List.setIfInBounds_toArray, List.set_cons_zero, List.set_cons_succ]
    refine wpAnyL_takeD (fun _ => True) (i := 22) (v := (.string X2)) (some 50) rfl rfl (by kernel_rfl) (by kernel_rfl) (by kernel_rfl) (fun _ _ _ h => h) (fun _ _ _ _ _ _ => trivial) (fun _ _ _ => Iff.rfl) trivial (Or.inl ⟨by rfl, fun w' hw' => by go_simp⟩) trivial ?_
    simp only [Act.put, List.setIfInBounds_toArray, List.set_cons_zero, List.set_cons_succ]
    refine wpAnyL_one (i := 16) (by decide +kernel) ?_
    refine wpOp_go (o := _) rfl (fun K hK => ?_)
    go_simp
    have hcv := cv_byte HBB.out wy
    obtain ⟨B1, hB1, hB1s⟩ : ∃ B : ByteArray, (⟨[UInt8.ofNat b.toNat].toArray⟩ : ByteArray) = B ∧ B.size = 1 := ⟨_, rfl, rfl⟩
    change (convert 43 9 (.slice (some ⟨wy.heap.size, 0, none⟩) 1 1)).run Try.prog (wy.alloc (.cells #[.int .u8 b] 5)) = .ok (.string ⟨[UInt8.ofNat b.toNat].toArray⟩) (wy.alloc (.cells #[.int .u8 b] 5)) at hcv
    rw [hB1] at hcv
    clear hB1
    have hbe := (Below.refl wy.heap.size wy).alloc (Nat.le_refl _) (.cells #[.int .u8 b] 5)
    refine hK _ _ ⟨trivial, ?_⟩
    clear hK K
    generalize wy.alloc (.cells #[.int .u8 b] 5) = wz at *
    refine wpAnyL_one (i := 17) (by decide +kernel) ?_
    refine wpOp_go (o := _) rfl (fun K hK => ?_)
    go_simp
    refine hK _ _ ⟨trivial, ?_⟩
    clear hK K hcv
    have hBel := bt hBel hbe
    have hc2 : ¬ (9223372036854775807 < X1.size + B1.size) := by omega
    have hc3 : ¬ (9223372036854775807 < k + 1) := by omega
    have hc4 : ¬ (9223372036854775807 < k + 1 + (m - (k + 1))) := by omega
    refine wpAnyL_takeD (fun _ => True) (i := 18) (v := (.string (X1 ++ B1))) (some 46) rfl rfl (by kernel_rfl) (by kernel_rfl) (by kernel_rfl) (fun _ _ _ h => h) (fun _ _ _ _ _ _ => trivial) (fun _ _ _ => Iff.rfl) trivial (Or.inl ⟨by rfl, fun w' hw' => by go_simp⟩) trivial ?_
    simp only [Act.put, List.setIfInBounds_toArray, List.set_cons_zero, List.set_cons_succ]
    refine wpAnyL_takeD (fun _ => True) (i := 23) (v := (.string (X1 ++ B1 ++ X2))) (some 51) rfl rfl (by kernel_rfl) (by kernel_rfl) (by kernel_rfl) (fun _ _ _ h => h) (fun _ _ _ _ _ _ => trivial) (fun _ _ _ => Iff.rfl) trivial (Or.inl ⟨by rfl, fun w' hw' => by go_simp⟩) trivial ?_
    simp only [Act.put, List.setIfInBounds_toArray, List.set_cons_zero, List.set_cons_succ]
    refine wpAnyL_one (i := 24) (by decide +kernel) ?_
    refine wpOp_go (o := _) rfl (fun K hK => ?_)
    go_simp
    go_at_call 20
    refine (scans_any _ _ (by rw [ByteArray.size_append, ByteArray.size_append]; omega)).mono ?_; rintro _ wy ⟨rfl, hbq⟩
    have hBel := bt hBel hbq
    refine hK _ _ ⟨trivial, ?_⟩
    clear hK K hbq
    refine wpAnyL_takeD (fun _ => True) (i := 25) (v := (.bool true)) (some 53) rfl rfl (by kernel_rfl) (by kernel_rfl) (by kernel_rfl) (fun _ _ _ h => h) (fun _ _ _ _ _ _ => trivial) (fun _ _ _ => Iff.rfl) trivial (Or.inl ⟨by rfl, fun w' hw' => by go_simp⟩) trivial ?_
    simp only [Act.put, List.setIfInBounds_toArray, List.set_cons_zero, List.set_cons_succ]
    refine wpAnyL_takeD (fun _ => True) (i := 26) (v := (.bool true)) (some 54) rfl rfl (by kernel_rfl) (by kernel_rfl) (by kernel_rfl) (fun _ _ _ h => h) (fun _ _ _ _ _ _ => trivial) (fun _ _ _ => Iff.rfl) trivial (Or.inl ⟨by rfl, fun w' hw' => by go_simp⟩) trivial ?_
    simp only [Act.put, List.setIfInBounds_toArray, List.set_cons_zero, List.set_cons_succ]
    refine wpAnyL_takeD (fun _ => True) (i := 27) (v := (Sv F)) (some 55) rfl rfl (by kernel_rfl) (by kernel_rfl) (by kernel_rfl) (fun _ _ _ h => h) (fun _ _ _ _ _ _ => trivial) (fun _ _ _ => Iff.rfl) trivial (Or.inl ⟨by rfl, fun w' hw' => by go_simp⟩) trivial ?_
    simp only [Act.put, List.setIfInBounds_toArray, List.set_cons_zero, List.set_cons_succ]
    refine wpAnyL_takeD (fun _ => True) (i := 28) (v := (.int .i64 (k : Int))) (some 56) rfl rfl (by kernel_rfl) (by kernel_rfl) (by kernel_rfl) (fun _ _ _ h => h) (fun _ _ _ _ _ _ => trivial) (fun _ _ _ => Iff.rfl) trivial (Or.inl ⟨by rfl, fun w' hw' => by go_simp⟩) trivial ?_
    simp only [Act.put, List.setIfInBounds_toArray, List.set_cons_zero, List.set_cons_succ]
    refine wpAnyL_takeD (fun _ => True) (i := 29) (v := (.string X1)) (some 57) rfl rfl (by kernel_rfl) (by kernel_rfl) (by kernel_rfl) (fun _ _ _ h => h) (fun _ _ _ _ _ _ => trivial) (fun _ _ _ => Iff.rfl) trivial (Or.inl ⟨by rfl, fun w' hw' => by go_simp⟩) trivial ?_
    simp only [Act.put, List.setIfInBounds_toArray, List.set_cons_zero, List.set_cons_succ]
    refine wpAnyL_one (i := 30) (by decide +kernel) ?_
    refine wpOp_go (o := _) rfl (fun K hK => ?_)
    go_simp
    go_at_call 20
    refine (scans_any _ _ (by omega)).mono ?_; rintro _ wy ⟨rfl, hbq⟩
    have hBel := bt hBel hbq
    refine hK _ _ ⟨trivial, ?_⟩
    clear hK K hbq
    refine wpAnyL_takeD (fun _ => True) (i := 31) (v := (.bool true)) (some 59) rfl rfl (by kernel_rfl) (by kernel_rfl) (by kernel_rfl) (fun _ _ _ h => h) (fun _ _ _ _ _ _ => trivial) (fun _ _ _ => Iff.rfl) trivial (Or.inl ⟨by rfl, fun w' hw' => by go_simp⟩) trivial ?_
    simp only [Act.put, List.setIfInBounds_toArray, List.set_cons_zero, List.set_cons_succ]
    refine wpAnyL_takeD (fun _ => True) (i := 32) (v := (.bool true)) (some 8) rfl rfl (by kernel_rfl) (by kernel_rfl) (by kernel_rfl) (fun _ _ _ h => h) (fun _ _ _ _ _ _ => trivial) (fun _ _ _ => Iff.rfl) trivial (Or.inl ⟨by rfl, fun w' hw' => by go_simp⟩) trivial ?_
    simp only [Act.put, List.setIfInBounds_toArray, List.set_cons_zero, List.set_cons_succ]
    refine wpAnyL_done (by decide +kernel) ?_ _
    go_wp2
    go_ret
    exact ⟨rfl, hBel⟩

end Go.Proofs.Ytgacjpkgpegcdaa
