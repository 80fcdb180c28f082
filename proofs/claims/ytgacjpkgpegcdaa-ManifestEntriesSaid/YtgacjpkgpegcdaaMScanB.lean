/-
  MScanB: texts of layer 19 in one.
-/
import Derived.Test.YtgacjpkgpegcdaaMScanA
import Derived.Test.YtgacjpkgpegcdaaMDec
import Derived.Test.YtgacjpkgpegcdaaMShelf
import Derived.Test.YtgacjpkgpegcdaaMEnc
import Derived.Test.YtgacjpkgpegcdaaMChk2
import Derived.Test.YtgacjpkgpegcdaaMEncR
/-! The reference's Scan. -/
namespace Go.Proofs.Ytgacjpkgpegcdaa
open Go.RowKit

theorem pair_ex {α β : Type} (p : α × β) : ∃ a b, p = (a, b) := ⟨p.1, p.2, rfl⟩
theorem take_mk' {a : ByteArray} {k : Nat} : (a.extract 0 k).data.toList = a.data.toList.take k := by
  rw [ByteArray.data_extract, Array.toList_extract, List.extract_eq_take_drop]; simp
set_option maxRecDepth 100000 in
set_option maxHeartbeats 2000000 in
theorem rscan_any (s : ByteArray) (w : World) (hsz : s.size ≤ 1000000000000) : Calls Try.prog 22 #[.string s] w (ScanPost w s) := by
  have hI := ScanI.start w s.data.toList
  go_enter Try.func22, Try.ntmps22
  go_wp2_with fail
  go_loopw [4, 5] (fun a b wr => ∃ (i : Nat) (xs : List RV), b = .int .i64 (i : Int) ∧ i ≤ s.size ∧ Hid (ScanI w wr s.data.toList a xs i)) (fun _ b _ => s.size - (intOf b).toNat)
  case atStart => exact ⟨0, [], rfl, by omega, hI⟩
  case round =>
    clear hI
    obtain ⟨i, xs, rfl, hi, hI⟩ := hrel
    obtain ⟨A, c, q, hv⟩ := slice_form hI.out.own.1
    subst hv
    have HT : Hid ((s.extract i s.size).data.toList = s.data.toList.drop i) := by
      show _ = _
      rw [ByteArray.data_extract, Array.toList_extract, List.extract_eq_take_drop]
      exact List.take_of_length_le (by rw [List.length_drop, size_list]; exact Nat.le_refl _)
    have HZ : Hid ((s.extract i s.size).size = s.size - i) := by
      show _ = _
      rw [ByteArray.size_extract]; omega
    by_cases h8 : s.size - i < 8
    · have hd8 : decide (((s.size - i : Nat) : Int) < 8) = true := decide_eq_true (by omega)
      have hend := hI.out.post hi (no_short (by rw [List.length_drop, size_list]; exact h8))
      have HEND := Lib.hid hend
      clear hend
      go_wp2
      go_ret2
      exact HEND.out
    · have hd8 : decide (((s.size - i : Nat) : Int) < 8) = false := decide_eq_false (by omega)
      have W0 := Lib.hid (word_any (s.extract i s.size) 0 wr (by rw [HZ.out]; omega) (by rw [HZ.out]; omega))
      have hN : ∃ N, wordL (s.extract i s.size).data.toList 0 = N := ⟨_, rfl⟩
      obtain ⟨N, hN⟩ := hN
      have hNl : N < 4294967296 := by rw [← hN]; exact word_lt _ _
      rw [hN] at W0
      have HN := Lib.hid hN
      clear hN
      go_wp2_with fail
      refine W0.out.mono ?_; rintro _ w1 ⟨rfl, q1, rfl⟩
      have hwn : IntKind.i64.wrap (N : Int) = (N : Int) := IntWalk.i64_in _ (by omega)
      have hb : Hid (Below wr.heap.size wr (wr.drewN q1)) := (⟨rfl, rfl, rfl, Nat.le_refl _, fun _ _ => rfl⟩ : Below wr.heap.size wr (wr.drewN q1))
      go_upto_region 7 with fail
      have hw8 : IntKind.i64.wrap (((s.size - i : Nat) : Int) - 8) = ((s.size - i : Nat) : Int) - 8 := IntWalk.i64_in _ (by omega)
      by_cases hNs : s.size - i < N + 8
      · have hd9 : decide (((s.size - i : Nat) : Int) - 8 < (N : Int)) = true := decide_eq_true (by omega)
        refine wp_region_L (fun _ _ => True) (by kernel_rfl) ?_
        replace hb : Hid (Below wr.heap.size wr (wr.drewN q1).drew) := hb.out.drew
        generalize (wr.drewN q1).drew = wy at *
        refine wpAnyL_takeD (fun _ => True) (i := 0) (v := (.int .i64 (N : Int))) (some 21) rfl rfl (by kernel_rfl) (by kernel_rfl) (by kernel_rfl) (fun _ _ _ h => h) (fun _ _ _ _ _ _ => trivial) (fun _ _ _ => Iff.rfl) trivial (Or.inl ⟨by rfl, fun w' hw' => by go_simp⟩) trivial ?_
        simp only [Act.put, List.setIfInBounds_toArray, List.set_cons_zero, List.set_cons_succ]
        refine wpAnyL_takeD (fun _ => True) (i := 1) (v := (.string (s.extract i s.size))) (some 22) rfl rfl (by kernel_rfl) (by kernel_rfl) (by kernel_rfl) (fun _ _ _ h => h) (fun _ _ _ _ _ _ => trivial) (fun _ _ _ => Iff.rfl) trivial (Or.inl ⟨by rfl, fun w' hw' => by go_simp⟩) trivial ?_
        simp only [Act.put, List.setIfInBounds_toArray, List.set_cons_zero, List.set_cons_succ]
        refine wpAnyL_takeD (fun _ => True) (i := 2) (v := (.int .i64 ((s.size - i : Nat) : Int))) (some 23) rfl rfl (by kernel_rfl) (by kernel_rfl) (by kernel_rfl) (fun _ _ _ h => h) (fun _ _ _ _ _ _ => trivial) (fun _ _ _ => Iff.rfl) trivial (Or.inl ⟨by rfl, fun w' hw' => by go_simp⟩) trivial ?_
        simp only [Act.put, List.setIfInBounds_toArray, List.set_cons_zero, List.set_cons_succ]
        refine wpAnyL_takeD (fun _ => True) (i := 3) (v := (.int .i64 (((s.size - i : Nat) : Int) - 8))) (some 24) rfl rfl (by kernel_rfl) (by kernel_rfl) (by kernel_rfl) (fun _ _ _ h => h) (fun _ _ _ _ _ _ => trivial) (fun _ _ _ => Iff.rfl) trivial (Or.inl ⟨by rfl, fun w' hw' => by go_simp⟩) trivial ?_
        simp only [Act.put, List.setIfInBounds_toArray, List.set_cons_zero, List.set_cons_succ]
        refine wpAnyL_takeD (fun _ => True) (i := 4) (v := (.bool true)) (some 25) rfl rfl (by kernel_rfl) (by kernel_rfl) (by kernel_rfl) (fun _ _ _ h => h) (fun _ _ _ _ _ _ => trivial) (fun _ _ _ => Iff.rfl) trivial (Or.inl ⟨by rfl, fun w' hw' => by go_simp⟩) trivial ?_
        simp only [Act.put, List.setIfInBounds_toArray, List.set_cons_zero, List.set_cons_succ]
        refine wpAnyL_takeD (fun _ => True) (i := 5) (v := (.bool true)) (some 26) rfl rfl (by kernel_rfl) (by kernel_rfl) (by kernel_rfl) (fun _ _ _ h => h) (fun _ _ _ _ _ _ => trivial) (fun _ _ _ => Iff.rfl) trivial (Or.inl ⟨by rfl, fun w' hw' => by go_simp⟩) trivial ?_
        simp only [Act.put, List.setIfInBounds_toArray, List.set_cons_zero, List.set_cons_succ]
        refine wpAnyL_takeD (fun _ => True) (i := 6) (v := undef) (some 27) rfl rfl (by kernel_rfl) (by kernel_rfl) (by kernel_rfl) (fun _ _ _ h => h) (fun _ _ _ _ _ _ => trivial) (fun _ _ _ => Iff.rfl) trivial (Or.inr ⟨by rfl, rfl⟩) trivial ?_
        simp only [Act.put, List.setIfInBounds_toArray, List.set_cons_zero, List.set_cons_succ]
        refine wpAnyL_takeD (fun _ => True) (i := 7) (v := undef) (some 28) rfl rfl (by kernel_rfl) (by kernel_rfl) (by kernel_rfl) (fun _ _ _ h => h) (fun _ _ _ _ _ _ => trivial) (fun _ _ _ => Iff.rfl) trivial (Or.inr ⟨by rfl, rfl⟩) trivial ?_
        simp only [Act.put, List.setIfInBounds_toArray, List.set_cons_zero, List.set_cons_succ]
        refine wpAnyL_takeD (fun _ => True) (i := 8) (v := undef) (some 29) rfl rfl (by kernel_rfl) (by kernel_rfl) (by kernel_rfl) (fun _ _ _ h => h) (fun _ _ _ _ _ _ => trivial) (fun _ _ _ => Iff.rfl) trivial (Or.inr ⟨by rfl, rfl⟩) trivial ?_
        simp only [Act.put, List.setIfInBounds_toArray, List.set_cons_zero, List.set_cons_succ]
        refine wpAnyL_takeD (fun _ => True) (i := 9) (v := undef) (some 30) rfl rfl (by kernel_rfl) (by kernel_rfl) (by kernel_rfl) (fun _ _ _ h => h) (fun _ _ _ _ _ _ => trivial) (fun _ _ _ => Iff.rfl) trivial (Or.inr ⟨by rfl, rfl⟩) trivial ?_
        simp only [Act.put, List.setIfInBounds_toArray, List.set_cons_zero, List.set_cons_succ]
        refine wpAnyL_takeD (fun _ => True) (i := 10) (v := undef) (some 31) rfl rfl (by kernel_rfl) (by kernel_rfl) (by kernel_rfl) (fun _ _ _ h => h) (fun _ _ _ _ _ _ => trivial) (fun _ _ _ => Iff.rfl) trivial (Or.inr ⟨by rfl, rfl⟩) trivial ?_
        simp only [Act.put, List.setIfInBounds_toArray, List.set_cons_zero, List.set_cons_succ]
        refine wpAnyL_takeD (fun _ => True) (i := 11) (v := undef) (some 32) rfl rfl (by kernel_rfl) (by kernel_rfl) (by kernel_rfl) (fun _ _ _ h => h) (fun _ _ _ _ _ _ => trivial) (fun _ _ _ => Iff.rfl) trivial (Or.inr ⟨by rfl, rfl⟩) trivial ?_
        simp only [Act.put, List.setIfInBounds_toArray, List.set_cons_zero, List.set_cons_succ]
        refine wpAnyL_takeD (fun _ => True) (i := 12) (v := undef) (some 33) rfl rfl (by kernel_rfl) (by kernel_rfl) (by kernel_rfl) (fun _ _ _ h => h) (fun _ _ _ _ _ _ => trivial) (fun _ _ _ => Iff.rfl) trivial (Or.inr ⟨by rfl, rfl⟩) trivial ?_
        simp only [Act.put, List.setIfInBounds_toArray, List.set_cons_zero, List.set_cons_succ]
        refine wpAnyL_takeD (fun _ => True) (i := 13) (v := undef) (some 34) rfl rfl (by kernel_rfl) (by kernel_rfl) (by kernel_rfl) (fun _ _ _ h => h) (fun _ _ _ _ _ _ => trivial) (fun _ _ _ => Iff.rfl) trivial (Or.inr ⟨by rfl, rfl⟩) trivial ?_
        simp only [Act.put, List.setIfInBounds_toArray, List.set_cons_zero, List.set_cons_succ]
        refine wpAnyL_takeD (fun _ => True) (i := 14) (v := undef) (some 35) rfl rfl (by kernel_rfl) (by kernel_rfl) (by kernel_rfl) (fun _ _ _ h => h) (fun _ _ _ _ _ _ => trivial) (fun _ _ _ => Iff.rfl) trivial (Or.inr ⟨by rfl, rfl⟩) trivial ?_
        simp only [Act.put, List.setIfInBounds_toArray, List.set_cons_zero, List.set_cons_succ]
        refine wpAnyL_takeD (fun _ => True) (i := 15) (v := undef) (some 36) rfl rfl (by kernel_rfl) (by kernel_rfl) (by kernel_rfl) (fun _ _ _ h => h) (fun _ _ _ _ _ _ => trivial) (fun _ _ _ => Iff.rfl) trivial (Or.inr ⟨by rfl, rfl⟩) trivial ?_
        simp only [Act.put, List.setIfInBounds_toArray, List.set_cons_zero, List.set_cons_succ]
        refine wpAnyL_takeD (fun _ => True) (i := 16) (v := (.bool true)) (some 37) rfl rfl (by kernel_rfl) (by kernel_rfl) (by kernel_rfl) (fun _ _ _ h => h) (fun _ _ _ _ _ _ => trivial) (fun _ _ _ => Iff.rfl) trivial (Or.inl ⟨by rfl, fun w' hw' => by go_simp⟩) trivial ?_
        simp only [Act.put, List.setIfInBounds_toArray, List.set_cons_zero, List.set_cons_succ]
        refine wpAnyL_done (by decide +kernel) ?_ _
        have HEND := Lib.hid ((hI.out.call hb.out).post hi (no_size (by rw [List.length_drop, size_list, ← HT.out, HN.out]; exact hNs)))
        go_wp2
        go_ret2
        exact HEND.out
      · have hd9 : decide (((s.size - i : Nat) : Int) - 8 < (N : Int)) = false := decide_eq_false (by omega)
        have hw4 : IntKind.i64.wrap ((N : Int) + 4) = (N : Int) + 4 := IntWalk.i64_in _ (by omega)
        have hn4 : ((N : Int) + 4).toNat = N + 4 := by omega
        have b4 : (0 : Int) ≤ (N : Int) + 4 := by omega
        have l4 : (N : Int) + 4 ≤ ((s.size - i : Nat) : Int) := by omega
        refine wp_region_L (fun _ _ => True) (by kernel_rfl) ?_
        replace hb : Hid (Below wr.heap.size wr (wr.drewN q1).drew) := hb.out.drew
        generalize (wr.drewN q1).drew = wy at *
        refine wpAnyL_takeD (fun _ => True) (i := 0) (v := (.int .i64 (N : Int))) (some 21) rfl rfl (by kernel_rfl) (by kernel_rfl) (by kernel_rfl) (fun _ _ _ h => h) (fun _ _ _ _ _ _ => trivial) (fun _ _ _ => Iff.rfl) trivial (Or.inl ⟨by rfl, fun w' hw' => by go_simp⟩) trivial ?_
        simp only [Act.put, List.setIfInBounds_toArray, List.set_cons_zero, List.set_cons_succ]
        refine wpAnyL_takeD (fun _ => True) (i := 1) (v := (.string (s.extract i s.size))) (some 22) rfl rfl (by kernel_rfl) (by kernel_rfl) (by kernel_rfl) (fun _ _ _ h => h) (fun _ _ _ _ _ _ => trivial) (fun _ _ _ => Iff.rfl) trivial (Or.inl ⟨by rfl, fun w' hw' => by go_simp⟩) trivial ?_
        simp only [Act.put, List.setIfInBounds_toArray, List.set_cons_zero, List.set_cons_succ]
        refine wpAnyL_takeD (fun _ => True) (i := 2) (v := (.int .i64 ((s.size - i : Nat) : Int))) (some 23) rfl rfl (by kernel_rfl) (by kernel_rfl) (by kernel_rfl) (fun _ _ _ h => h) (fun _ _ _ _ _ _ => trivial) (fun _ _ _ => Iff.rfl) trivial (Or.inl ⟨by rfl, fun w' hw' => by go_simp⟩) trivial ?_
        simp only [Act.put, List.setIfInBounds_toArray, List.set_cons_zero, List.set_cons_succ]
        refine wpAnyL_takeD (fun _ => True) (i := 3) (v := (.int .i64 (((s.size - i : Nat) : Int) - 8))) (some 24) rfl rfl (by kernel_rfl) (by kernel_rfl) (by kernel_rfl) (fun _ _ _ h => h) (fun _ _ _ _ _ _ => trivial) (fun _ _ _ => Iff.rfl) trivial (Or.inl ⟨by rfl, fun w' hw' => by go_simp⟩) trivial ?_
        simp only [Act.put, List.setIfInBounds_toArray, List.set_cons_zero, List.set_cons_succ]
        refine wpAnyL_takeD (fun _ => True) (i := 4) (v := (.bool false)) (some 25) rfl rfl (by kernel_rfl) (by kernel_rfl) (by kernel_rfl) (fun _ _ _ h => h) (fun _ _ _ _ _ _ => trivial) (fun _ _ _ => Iff.rfl) trivial (Or.inl ⟨by rfl, fun w' hw' => by go_simp⟩) trivial ?_
        simp only [Act.put, List.setIfInBounds_toArray, List.set_cons_zero, List.set_cons_succ]
        refine wpAnyL_takeD (fun _ => True) (i := 5) (v := (.bool false)) (some 26) rfl rfl (by kernel_rfl) (by kernel_rfl) (by kernel_rfl) (fun _ _ _ h => h) (fun _ _ _ _ _ _ => trivial) (fun _ _ _ => Iff.rfl) trivial (Or.inl ⟨by rfl, fun w' hw' => by go_simp⟩) trivial ?_
        simp only [Act.put, List.setIfInBounds_toArray, List.set_cons_zero, List.set_cons_succ]
        refine wpAnyL_takeD (fun _ => True) (i := 6) (v := (.string (s.extract i s.size))) (some 27) rfl rfl (by kernel_rfl) (by kernel_rfl) (by kernel_rfl) (fun _ _ _ h => h) (fun _ _ _ _ _ _ => trivial) (fun _ _ _ => Iff.rfl) trivial (Or.inl ⟨by rfl, fun w' hw' => by go_simp⟩) trivial ?_
        simp only [Act.put, List.setIfInBounds_toArray, List.set_cons_zero, List.set_cons_succ]
        refine wpAnyL_takeD (fun _ => True) (i := 7) (v := (.int .i64 (N : Int))) (some 28) rfl rfl (by kernel_rfl) (by kernel_rfl) (by kernel_rfl) (fun _ _ _ h => h) (fun _ _ _ _ _ _ => trivial) (fun _ _ _ => Iff.rfl) trivial (Or.inl ⟨by rfl, fun w' hw' => by go_simp⟩) trivial ?_
        simp only [Act.put, List.setIfInBounds_toArray, List.set_cons_zero, List.set_cons_succ]
        refine wpAnyL_takeD (fun _ => True) (i := 8) (v := (.int .i64 ((N : Int) + 4))) (some 29) rfl rfl (by kernel_rfl) (by kernel_rfl) (by kernel_rfl) (fun _ _ _ h => h) (fun _ _ _ _ _ _ => trivial) (fun _ _ _ => Iff.rfl) trivial (Or.inl ⟨by rfl, fun w' hw' => by go_simp⟩) trivial ?_
        simp only [Act.put, List.setIfInBounds_toArray, List.set_cons_zero, List.set_cons_succ]
        refine wpAnyL_takeD (fun _ => True) (i := 10) (v := (.string (s.extract i s.size))) (some 31) rfl rfl (by kernel_rfl) (by kernel_rfl) (by kernel_rfl) (fun _ _ _ h => h) (fun _ _ _ _ _ _ => trivial) (fun _ _ _ => Iff.rfl) trivial (Or.inl ⟨by rfl, fun w' hw' => by go_simp⟩) trivial ?_
        simp only [Act.put, List.setIfInBounds_toArray, List.set_cons_zero, List.set_cons_succ]
        refine wpAnyL_takeD (fun _ => True) (i := 11) (v := (.int .i64 (N : Int))) (some 32) rfl rfl (by kernel_rfl) (by kernel_rfl) (by kernel_rfl) (fun _ _ _ h => h) (fun _ _ _ _ _ _ => trivial) (fun _ _ _ => Iff.rfl) trivial (Or.inl ⟨by rfl, fun w' hw' => by go_simp⟩) trivial ?_
        simp only [Act.put, List.setIfInBounds_toArray, List.set_cons_zero, List.set_cons_succ]
        refine wpAnyL_takeD (fun _ => True) (i := 12) (v := (.int .i64 ((N : Int) + 4))) (some 33) rfl rfl (by kernel_rfl) (by kernel_rfl) (by kernel_rfl) (fun _ _ _ h => h) (fun _ _ _ _ _ _ => trivial) (fun _ _ _ => Iff.rfl) trivial (Or.inl ⟨by rfl, fun w' hw' => by go_simp⟩) trivial ?_
        simp only [Act.put, List.setIfInBounds_toArray, List.set_cons_zero, List.set_cons_succ]
        refine wpAnyL_takeD (fun _ => True) (i := 13) (v := (.string ((s.extract i s.size).extract 0 (N + 4)))) (some 34) rfl rfl (by kernel_rfl) (by kernel_rfl) (by kernel_rfl) (fun _ _ _ h => h) (fun _ _ _ _ _ _ => trivial) (fun _ _ _ => Iff.rfl) trivial (Or.inl ⟨by rfl, fun w' hw' => by go_simp⟩) trivial ?_
        simp only [Act.put, List.setIfInBounds_toArray, List.set_cons_zero, List.set_cons_succ]
        have hsT : (s.extract i s.size).size ≤ 1000000000000000 := by rw [HZ.out]; omega
        have hsU : ((s.extract i s.size).extract 0 (N + 4)).size ≤ 1000000000000000 := by rw [ByteArray.size_extract]; omega
        refine wpAnyL_one (i := 9) (by decide +kernel) ?_
        refine wpOp_go (o := _) rfl (fun K hK => ?_)
        go_simp
        go_at_call 54
        refine (word_any (s.extract i s.size) (N + 4) _ (by rw [HZ.out]; omega) hsT).mono ?_; rintro _ w2 ⟨rfl, q2, rfl⟩
        refine hK _ _ ⟨trivial, ?_⟩
        clear hK K
        have hb2 : Hid (Below wr.heap.size wr (wy.drewN q2)) := hb.out.trans (⟨rfl, rfl, rfl, Nat.le_refl _, fun _ _ => rfl⟩ : Below wr.heap.size wy (wy.drewN q2))
        generalize wy.drewN q2 = wz at *
        have HC := Lib.hid (rcrc_any ((s.extract i s.size).extract 0 (N + 4)) wz hsU)
        have hCe : Hid (((s.extract i s.size).extract 0 (N + 4)).data.toList = (s.data.toList.drop i).take (N + 4)) := by
          show _ = _
          rw [take_mk' , HT.out]
        rw [hCe.out] at HC
        have hWe : Hid (wordL (s.extract i s.size).data.toList (N + 4) = wordL (s.data.toList.drop i) (N + 4)) := by show _ = _; rw [HT.out]
        rw [hWe.out]
        refine wpAnyL_one (i := 14) (by decide +kernel) ?_
        refine wpOp_go (o := _) rfl (fun K hK => ?_)
        go_simp
        go_at_call 53
        refine HC.out.mono ?_; rintro _ w3 ⟨rfl, hb3⟩
        refine hK _ _ ⟨trivial, ?_⟩
        clear hK K
        have hb4 : Hid (Below wr.heap.size wr w3) := bt hb2.out hb3
        by_cases hxy : wordL (s.data.toList.drop i) (N + 4) = crcL ((s.data.toList.drop i).take (N + 4))
        · have HST : Hid (∀ r, payM (payL (s.data.toList.drop i)) = (r, true) → Stands (s.data.toList.drop i) r) := fun r hp => stands_of_ref (by rw [← HT.out, HN.out, HT.out, List.length_drop, size_list]; omega) (by rw [← HT.out, HN.out, HT.out]; exact hxy) hp
          have HXY := Lib.hid hxy
          have hne : ((wordL (s.data.toList.drop i) (N + 4) : Int) != (crcL ((s.data.toList.drop i).take (N + 4)) : Int)) = false := by simp [hxy]
          clear hxy
          generalize wordL (s.data.toList.drop i) (N + 4) = X at *
          generalize crcL ((s.data.toList.drop i).take (N + 4)) = Y at *
          refine wpAnyL_takeD (fun _ => True) (i := 15) (v := (.bool false)) (some 36) rfl rfl (by kernel_rfl) (by kernel_rfl) (by kernel_rfl) (fun _ _ _ h => h) (fun _ _ _ _ _ _ => trivial) (fun _ _ _ => Iff.rfl) trivial (Or.inl ⟨by rfl, fun w' hw' => by go_simp⟩) trivial ?_
          simp only [Act.put, List.setIfInBounds_toArray, List.set_cons_zero, List.set_cons_succ]
          refine wpAnyL_takeD (fun _ => True) (i := 16) (v := (.bool false)) (some 37) rfl rfl (by kernel_rfl) (by kernel_rfl) (by kernel_rfl) (fun _ _ _ h => h) (fun _ _ _ _ _ _ => trivial) (fun _ _ _ => Iff.rfl) trivial (Or.inl ⟨by rfl, fun w' hw' => by go_simp⟩) trivial ?_
          simp only [Act.put, List.setIfInBounds_toArray, List.set_cons_zero, List.set_cons_succ]
          refine wpAnyL_done (by decide +kernel) ?_ _
          have hsP : (payL (s.data.toList.drop i)).size ≤ 1000000000000000 := by
            have := payL_size (s.data.toList.drop i)
            rw [List.length_drop, size_list] at this
            omega
          have HP := Lib.hid (payload_any (payL (s.data.toList.drop i)) w3 hsP)
          have hp := pair_ex (payM (payL (s.data.toList.drop i)))
          obtain ⟨r, ok, hp⟩ := hp
          rw [hp] at HP
          have HE : Hid ((s.extract i s.size).extract 4 (N + 4) = payL (s.data.toList.drop i)) := pay_ext HT.out HN.out
          have b44 : (4 : Int) ≤ (N : Int) + 4 := by omega
          have hp1 := Lib.hid hp
          clear hp
          have HI3 := Lib.hid (hI.out.call hb4.out)
          go_wp2_with fail
          rw [HE.out]
          refine HP.out.mono ?_; rintro _ w4 ⟨v, v2, rfl, o1, o2, hb5⟩
          obtain ⟨A1, c1, rfl, _⟩ := own_form o1
          obtain ⟨A2, c2, rfl, _⟩ := own_form o2
          have HX := Lib.hid (ScanX.begin (x := ⟨r, .slice A1 r.add.length c1, .slice A2 r.rem.length c2⟩) HI3.out o1 o2 hb5)
          clear o1 o2 hb5 HP HI3
          obtain ⟨kd, ve, ns, ni, add, rem⟩ := r
          dsimp only at HX ⊢
          cases ok
          · have HEND := Lib.hid (HX.out.scn.post hi (no_pay hp1.out))
            go_wp2_with fail
            go_ret2
            exact HEND.out
          · have hst := HST.out _ hp1.out
            have hle : (encR ⟨kd, ve, ns, ni, add, rem⟩).length = N + 8 := by
              rw [encR_len, ← (stands_pay hst).1, ← HT.out, HN.out]
            have HSN := Lib.hid (And.intro hst hle)
            clear hst hle HST hp1
            have hsm := HX.out.scn.sm
            go_upto_region 10 with fail
            generalize w4.alloc (.cells #[.int .i64 kd, .int .i64 ve, .int .i64 ns, .int .i64 ni, .slice A1 add.length c1, .slice A2 rem.length c2] 31) = w5 at *
            generalize w4.heap.size = g at *
            have r0 : w5.cell? ⟨g, 0, none⟩ = some (.int .i64 kd) := HX.out.blk.cellAt 0 rfl
            have r1 : w5.cell? ⟨g, 1, none⟩ = some (.int .i64 ve) := HX.out.blk.cellAt 1 rfl
            have r2 : w5.cell? ⟨g, 2, none⟩ = some (.int .i64 ns) := HX.out.blk.cellAt 2 rfl
            have r3 : w5.cell? ⟨g, 3, none⟩ = some (.int .i64 ni) := HX.out.blk.cellAt 3 rfl
            have r4 : w5.cell? ⟨g, 4, none⟩ = some (.slice A1 add.length c1) := HX.out.blk.cellAt 4 rfl
            have r5 : w5.cell? ⟨g, 5, none⟩ = some (.slice A2 rem.length c2) := HX.out.blk.cellAt 5 rfl
            have hq : q = xs.length := (own_len HX.out.scn.own.1).1
            subst hq
            have hown := HX.out.scn.own
            go_wp2_with (at_builtin; refine own_one2 hown recs rfl (by decide) rfl (one_rc ⟨kd, ve, ns, ni, add, rem⟩ A1 A2 add.length c1 rem.length c2) (by omega) (by unfold maxLen; omega) ?_ rfl _ _ rfl rfl rfl)
            intro v' w' hA2
            have hN := HX.out.scn.next HX.out.lie ⟨HSN.out.1.1, HSN.out.1.2.1⟩ HSN.out.1 hA2
            rw [HSN.out.2] at hN
            have HNX := Lib.hid hN
            clear hN hA2 hown r0 r1 r2 r3 r4 r5
            have hw9 : IntKind.i64.wrap ((N : Int) + 8) = (N : Int) + 8 := IntWalk.i64_in _ (by omega)
            have hw10 : IntKind.i64.wrap ((i : Int) + ((N : Int) + 8)) = (i : Int) + ((N : Int) + 8) := IntWalk.i64_in _ (by omega)
            go_wp2
            go_roundw
            case rel => exact ⟨i + (N + 8), _, by go_num, by omega, HNX⟩
            case measure => simp [intOf]; omega
        · have hne : ((wordL (s.data.toList.drop i) (N + 4) : Int) != (crcL ((s.data.toList.drop i).take (N + 4)) : Int)) = true := by simp; omega
          have HEND := Lib.hid ((hI.out.call hb4.out).post hi (no_crc (by rw [← HT.out, HN.out, HT.out]; exact hxy)))
          clear hxy
          generalize wordL (s.data.toList.drop i) (N + 4) = X at *
          generalize crcL ((s.data.toList.drop i).take (N + 4)) = Y at *
          refine wpAnyL_takeD (fun _ => True) (i := 15) (v := (.bool true)) (some 36) rfl rfl (by kernel_rfl) (by kernel_rfl) (by kernel_rfl) (fun _ _ _ h => h) (fun _ _ _ _ _ _ => trivial) (fun _ _ _ => Iff.rfl) trivial (Or.inl ⟨by rfl, fun w' hw' => by go_simp⟩) trivial ?_
          simp only [Act.put, List.setIfInBounds_toArray, List.set_cons_zero, List.set_cons_succ]
          refine wpAnyL_takeD (fun _ => True) (i := 16) (v := (.bool true)) (some 37) rfl rfl (by kernel_rfl) (by kernel_rfl) (by kernel_rfl) (fun _ _ _ h => h) (fun _ _ _ _ _ _ => trivial) (fun _ _ _ => Iff.rfl) trivial (Or.inl ⟨by rfl, fun w' hw' => by go_simp⟩) trivial ?_
          simp only [Act.put, List.setIfInBounds_toArray, List.set_cons_zero, List.set_cons_succ]
          refine wpAnyL_done (by decide +kernel) ?_ _
          go_wp2
          go_ret2
          exact HEND.out

end Go.Proofs.Ytgacjpkgpegcdaa
/-! The program's Scan. -/
namespace Go.Proofs.Ytgacjpkgpegcdaa
open Go.RowKit

theorem ScanI.postC {w wr : World} {s : ByteArray} {A : Option Addr} {q c i : Nat} {xs : List RV} (h : ScanI w wr s.data.toList (.slice A q c) xs i) (hi : i ≤ s.size) (hs : ∀ r, ¬ Stands (s.data.toList.drop i) r) : ScanPost w s (.returned (.tuple #[.slice A q q, .int .i64 (i : Int)])) wr := by
  obtain ⟨A', c', n, xs', e, h1, h2, h3, h4, h5, h6⟩ := h.post hi hs
  injection e with e
  injection e with e
  simp only [Array.mk.injEq, List.cons.injEq, Value.slice.injEq, Value.int.injEq, true_and, and_true] at e
  obtain ⟨⟨rfl, rfl, rfl⟩, e2⟩ := e
  have e3 : i = n := by omega
  subst e3
  exact ⟨A, xs'.length, i, xs', rfl, Nat.le_refl _, h2, h3, h4, h5, h6⟩
theorem decT_len (s : ByteArray) : (decT s).add.length ≤ 256 ∧ (decT s).rem.length ≤ 256 := by
  unfold decT
  split
  · simp [zeroRc]
  · simp only [entsT_len, remsT_len]
    have h1 := cntT_rng s (numT s (numT s (numT s (1, false)).2).2).2
    constructor
    · omega
    · have := cntT_rng s (entsT s (cntT s (numT s (numT s (numT s (1, false)).2).2).2).1.toNat (cntT s (numT s (numT s (numT s (1, false)).2).2).2).2).2
      omega
theorem InA.rcat {w : World} {v : Value} {r : Rc} {A A2 : Option Addr} {q c q2 c2 : Nat} (h : InA w v ⟨r, .slice A q c, .slice A2 q2 c2⟩) (h1 : r.add.length ≤ 1000) (h2 : r.rem.length ≤ 1000) : RcAt w r A q c A2 q2 c2 := by
  obtain ⟨A', c', A2', c2', e1, l1, e2, l2, r1, r2⟩ := h
  simp only [Value.slice.injEq] at e1 e2
  obtain ⟨rfl, rfl, rfl⟩ := e1
  obtain ⟨rfl, rfl, rfl⟩ := e2
  exact ⟨r1.rd, r2.rd, rfl, rfl, l1, l2, by omega, by omega⟩
theorem has_iff {t e : List UInt8} : Lib.hasPrefix t (⟨e.toArray⟩ : ByteArray).data.toList = true ↔ e <+: t := by
  unfold Lib.hasPrefix
  exact List.isPrefixOf_iff_prefix
theorem pay_at {s : ByteArray} {i N : Nat} (h : (s.extract i s.size).data.toList = s.data.toList.drop i) (hN : wordL (s.extract i s.size).data.toList 0 = N) : s.extract (i + 4) (i + 4 + N) = payL (s.data.toList.drop i) := by
  rw [h] at hN
  subst hN
  apply ByteArray.ext
  apply Array.toList_inj.1
  rw [ByteArray.data_extract, Array.toList_extract, List.extract_eq_take_drop]
  simp [payL, List.drop_drop]
set_option maxRecDepth 100000 in
set_option maxHeartbeats 2000000 in
theorem scan_any (s : ByteArray) (w : World) (hsz : s.size ≤ 1000000000000) : Calls Try.prog 11 #[.string s] w (ScanPost w s) := by
  have hI := ScanI.start w s.data.toList
  go_enter Try.func11, Try.ntmps11
  go_wp2_with fail
  go_loopw [4, 5] (fun a b wr => ∃ (i : Nat) (xs : List RV), b = .int .i64 (i : Int) ∧ i ≤ s.size ∧ Hid (ScanI w wr s.data.toList a xs i)) (fun _ b _ => s.size - (intOf b).toNat)
  case atStart => exact ⟨0, [], rfl, by omega, hI⟩
  case round =>
    clear hI
    obtain ⟨i, xs, rfl, hi, hI⟩ := hrel
    obtain ⟨A, c, q, hv⟩ := slice_form hI.out.own.1
    subst hv
    have hqc : q ≤ c := by
      have := own_len hI.out.own.1
      omega
    have hws : IntKind.i64.wrap ((s.size : Int) - (i : Int)) = (s.size : Int) - (i : Int) := IntWalk.i64_in _ (by omega)
    by_cases h8 : s.size - i < 8
    · have hd8 : decide (8 ≤ (s.size : Int) - (i : Int)) = false := decide_eq_false (by omega)
      have HEND := Lib.hid (hI.out.postC hi (no_short (by rw [List.length_drop, size_list]; exact h8)))
      go_wp2_with fail
      refine (clip_any _ _ _ _ hqc).mono ?_; rintro _ w9 ⟨rfl, rfl⟩
      go_wp2
      go_ret2
      exact HEND.out
    · have hd8 : decide (8 ≤ (s.size : Int) - (i : Int)) = true := decide_eq_true (by omega)
      have HT : Hid ((s.extract i s.size).data.toList = s.data.toList.drop i) := by
        show _ = _
        rw [ByteArray.data_extract, Array.toList_extract, List.extract_eq_take_drop]
        exact List.take_of_length_le (by rw [List.length_drop, size_list]; exact Nat.le_refl _)
      have HZ : Hid ((s.extract i s.size).size = s.size - i) := by
        show _ = _
        rw [ByteArray.size_extract]; omega
      have W0 := Lib.hid (get4_any (s.extract i s.size) wr (by rw [HZ.out]; omega) (by rw [HZ.out]; omega))
      have hN : ∃ N, wordL (s.extract i s.size).data.toList 0 = N := ⟨_, rfl⟩
      obtain ⟨N, hN⟩ := hN
      have hNl : N < 4294967296 := by rw [← hN]; exact word_lt _ _
      rw [hN] at W0
      have HN := Lib.hid hN
      clear hN
      go_wp2_with fail
      refine W0.out.mono ?_; rintro _ w1 ⟨rfl, q1, rfl⟩
      have hb : Hid (Below wr.heap.size wr (wr.drewN q1)) := (⟨rfl, rfl, rfl, Nat.le_refl _, fun _ _ => rfl⟩ : Below wr.heap.size wr (wr.drewN q1))
      have HI2 := Lib.hid (hI.out.call hb.out)
      clear hI W0
      generalize wr.drewN q1 = wx at *
      have hw8 : IntKind.i64.wrap ((s.size : Int) - (i : Int) - 8) = (s.size : Int) - (i : Int) - 8 := IntWalk.i64_in _ (by omega)
      by_cases hNs : s.size - i < N + 8
      · have hd9 : decide ((s.size : Int) - (i : Int) - 8 < (N : Int)) = true := decide_eq_true (by omega)
        have HEND := Lib.hid (HI2.out.postC hi (no_size (by rw [List.length_drop, size_list, ← HT.out, HN.out]; exact hNs)))
        go_wp2_with fail
        refine (clip_any _ _ _ _ hqc).mono ?_; rintro _ w9 ⟨rfl, rfl⟩
        go_wp2
        go_ret2
        exact HEND.out
      · have hd9 : decide ((s.size : Int) - (i : Int) - 8 < (N : Int)) = false := decide_eq_false (by omega)
        have hw4 : IntKind.i64.wrap ((i : Int) + 4) = (i : Int) + 4 := IntWalk.i64_in _ (by omega)
        have hw5 : IntKind.i64.wrap ((i : Int) + 4 + (N : Int)) = (i : Int) + 4 + (N : Int) := IntWalk.i64_in _ (by omega)
        have hn4 : ((i : Int) + 4).toNat = i + 4 := by omega
        have hn5 : ((i : Int) + 4 + (N : Int)).toNat = i + 4 + N := by omega
        have b4 : (0 : Int) ≤ (i : Int) + 4 := by omega
        have b5 : (i : Int) + 4 ≤ (i : Int) + 4 + (N : Int) := by omega
        have b6 : (i : Int) + 4 + (N : Int) ≤ (s.size : Int) := by omega
        have hsP : (payL (s.data.toList.drop i)).size ≤ 1000000000000000 := by
          have := payL_size (s.data.toList.drop i)
          rw [List.length_drop, size_list] at this
          omega
        have HE : Hid (s.extract (i + 4) (i + 4 + N) = payL (s.data.toList.drop i)) := pay_at HT.out HN.out
        have HP := Lib.hid (decode_any (payL (s.data.toList.drop i)) wx hsP)
        have hdl := decT_len (payL (s.data.toList.drop i))
        have HKK := Lib.hid (decT_keys (payL (s.data.toList.drop i)))
        have HD : Hid (∃ d, decT (payL (s.data.toList.drop i)) = d) := ⟨_, rfl⟩
        obtain ⟨⟨kd, ve, ns, ni, add, rem⟩, hD⟩ := HD.out
        rw [hD] at HP hdl HKK
        have HDD := Lib.hid hD
        clear hD HD
        go_wp2_with fail
        rw [HE.out]
        refine HP.out.mono ?_; rintro _ w4 ⟨v, v2, rfl, o1, o2, hb5⟩
        obtain ⟨A1, c1, rfl, _⟩ := own_form o1
        obtain ⟨A2, c2, rfl, _⟩ := own_form o2
        have HX := Lib.hid (ScanX.begin (x := ⟨⟨kd, ve, ns, ni, add, rem⟩, .slice A1 add.length c1, .slice A2 rem.length c2⟩) HI2.out o1 o2 hb5)
        clear o1 o2 hb5 HP HI2
        dsimp only at HX hdl ⊢
        go_upto_region 7 with fail
        generalize w4.alloc (.cells #[.int .i64 kd, .int .i64 ve, .int .i64 ns, .int .i64 ni, .slice A1 add.length c1, .slice A2 rem.length c2] 31) = w5 at *
        generalize w4.heap.size = g at *
        have r0 : w5.cell? ⟨g, 0, none⟩ = some (.int .i64 kd) := HX.out.blk.cellAt 0 rfl
        have r1 : w5.cell? ⟨g, 1, none⟩ = some (.int .i64 ve) := HX.out.blk.cellAt 1 rfl
        have r2 : w5.cell? ⟨g, 2, none⟩ = some (.int .i64 ns) := HX.out.blk.cellAt 2 rfl
        have r3 : w5.cell? ⟨g, 3, none⟩ = some (.int .i64 ni) := HX.out.blk.cellAt 3 rfl
        have r4 : w5.cell? ⟨g, 4, none⟩ = some (.slice A1 add.length c1) := HX.out.blk.cellAt 4 rfl
        have r5 : w5.cell? ⟨g, 5, none⟩ = some (.slice A2 rem.length c2) := HX.out.blk.cellAt 5 rfl
        have HEN := Lib.hid (encode_any ⟨kd, ve, ns, ni, add, rem⟩ A1 add.length c1 A2 rem.length c2 w5 (HX.out.lie.rcat (by dsimp only; omega) (by dsimp only; omega)) HKK.out)
        dsimp only [Kv] at HEN
        go_wp2_with fail
        refine HEN.out.mono ?_; rintro _ w6 ⟨rfl, hb6⟩
        have HX6 := Lib.hid (HX.out.call hb6)
        clear HX HEN hb6 r0 r1 r2 r3 r4 r5
        have hch : ∃ ch : Int, chkR ⟨kd, ve, ns, ni, add, rem⟩ = ch := ⟨_, rfl⟩
        obtain ⟨ch, hch⟩ := hch
        rw [hch]
        by_cases h0 : ch = 0
        · subst h0
          have hE : encV ⟨kd, ve, ns, ni, add, rem⟩ = encR ⟨kd, ve, ns, ni, add, rem⟩ := if_pos hch
          rw [hE]
          have HCH := Lib.hid hch
          clear hch hE
          have hEE : ∃ E, encR ⟨kd, ve, ns, ni, add, rem⟩ = E := ⟨_, rfl⟩
          obtain ⟨E, hEE⟩ := hEE
          rw [hEE]
          have HEE := Lib.hid hEE
          clear hEE
          go_wp2_with fail
          refine (hasPrefix_any _ _ _).mono ?_; rintro _ w7 ⟨rfl, rfl⟩
          have hpx : ∃ p, Lib.hasPrefix (s.extract i s.size).data.toList (⟨E.toArray⟩ : ByteArray).data.toList = p := ⟨_, rfl⟩
          obtain ⟨p, hpx⟩ := hpx
          rw [hpx]
          have HPX := Lib.hid hpx
          clear hpx
          cases p
          · have HEND := Lib.hid (HX6.out.scn.postC hi (no_pre (by rw [HDD.out, HEE.out]; exact fun h => by have h2 := has_iff.2 h; rw [← HT.out, HPX.out] at h2; cases h2)))
            go_wp2_with fail
            refine (clip_any _ _ _ _ hqc).mono ?_; rintro _ w9 ⟨rfl, rfl⟩
            go_wp2
            go_ret2
            exact HEND.out
          · have hst := stands_of_prog (t := s.data.toList.drop i) (by rw [HDD.out]; exact HCH.out) (by rw [HDD.out, HEE.out]; exact has_iff.1 (by rw [← HT.out]; exact HPX.out))
            rw [HDD.out] at hst
            have hle : E.length = N + 8 := by
              rw [← HEE.out, encR_len, ← (stands_pay hst).1, ← HT.out, HN.out]
            have HSN := Lib.hid (And.intro hst (HEE.out ▸ hle : (encR ⟨kd, ve, ns, ni, add, rem⟩).length = N + 8))
            clear hst
            have hne : ((E.length : Int) != (N : Int) + 8) = false := by simp; omega
            have hw9 : IntKind.i64.wrap ((N : Int) + 8) = (N : Int) + 8 := IntWalk.i64_in _ (by omega)
            have hsm := HX6.out.scn.sm
            have r0 : w7.cell? ⟨g, 0, none⟩ = some (.int .i64 kd) := HX6.out.blk.cellAt 0 rfl
            have r1 : w7.cell? ⟨g, 1, none⟩ = some (.int .i64 ve) := HX6.out.blk.cellAt 1 rfl
            have r2 : w7.cell? ⟨g, 2, none⟩ = some (.int .i64 ns) := HX6.out.blk.cellAt 2 rfl
            have r3 : w7.cell? ⟨g, 3, none⟩ = some (.int .i64 ni) := HX6.out.blk.cellAt 3 rfl
            have r4 : w7.cell? ⟨g, 4, none⟩ = some (.slice A1 add.length c1) := HX6.out.blk.cellAt 4 rfl
            have r5 : w7.cell? ⟨g, 5, none⟩ = some (.slice A2 rem.length c2) := HX6.out.blk.cellAt 5 rfl
            have hq : q = xs.length := (own_len HX6.out.scn.own.1).1
            subst hq
            have hown := HX6.out.scn.own
            go_wp2_with (at_builtin; refine own_one2 hown recs rfl (by decide) rfl (one_rc ⟨kd, ve, ns, ni, add, rem⟩ A1 A2 add.length c1 rem.length c2) (by omega) (by unfold maxLen; omega) ?_ rfl _ _ rfl rfl rfl)
            intro v' w' hA2
            have hN := HX6.out.scn.next HX6.out.lie ⟨HSN.out.1.1, HSN.out.1.2.1⟩ HSN.out.1 hA2
            rw [HSN.out.2] at hN
            have HNX := Lib.hid hN
            clear hN hA2 hown r0 r1 r2 r3 r4 r5
            have hw10 : IntKind.i64.wrap ((i : Int) + ((N : Int) + 8)) = (i : Int) + ((N : Int) + 8) := IntWalk.i64_in _ (by omega)
            go_wp2
            go_roundw
            case rel => exact ⟨i + (N + 8), _, by go_num, by omega, HNX⟩
            case measure => simp [intOf]; omega
        · have hne : (ch != 0) = true := by simpa using h0
          have HEND := Lib.hid (HX6.out.scn.postC hi (no_chk (by rw [HDD.out, hch]; exact h0)))
          clear h0 hch
          go_wp2_with fail
          refine (clip_any _ _ _ _ hqc).mono ?_; rintro _ w9 ⟨rfl, rfl⟩
          go_wp2
          go_ret2
          exact HEND.out

end Go.Proofs.Ytgacjpkgpegcdaa
/-! keep.Same at lists of numbers and of entries, keep.SameRecord and keep.SameRecords, at equal lists. -/
namespace Go.Proofs.Ytgacjpkgpegcdaa
open Go.RowKit

set_option maxRecDepth 100000 in
set_option maxHeartbeats 400000 in
theorem same_int (A B : Option Addr) (n c d : Nat) (zs : List Int) (w : World) (hA : Rd w w.heap.size A (zs.map Iv)) (hB : Rd w w.heap.size B (zs.map Iv)) (hn : zs.length = n) (hm : n ≤ 1000000000000) :
    Calls Try.prog 78 #[.slice A n c, .slice B n d] w fun e w' => e = .returned (.bool true) ∧ ∃ q, w.drewN q = w' := by
  have HN := Lib.hid hn
  clear hn
  go_enter Try.func78, Try.ntmps78
  go_wp2
  go_loopw [13] (fun a wr => ∃ k q : Nat, a = .int .i64 (k : Int) ∧ k ≤ n ∧ wr = w.drewN q) (fun a _ => n - (intOf a).toNat)
  case atStart => exact ⟨0, 0, rfl, by omega, rfl⟩
  case round =>
    obtain ⟨k, q, rfl, hk, rfl⟩ := hrel
    by_cases hlt : k < n
    · obtain ⟨z, hz⟩ : ∃ z, zs[k]? = some z := ⟨_, List.getElem?_eq_getElem (by rw [HN.out]; exact hlt)⟩
      obtain ⟨ad, rfl, _, hc⟩ := hA.at_ (j := k) (u := Iv z) (by rw [List.getElem?_map, hz]; rfl)
      obtain ⟨bd, rfl, _, hc'⟩ := hB.at_ (j := k) (u := Iv z) (by rw [List.getElem?_map, hz]; rfl)
      clear hz
      go_wp2
      go_quiet (fail)
      go_wp2
      go_roundw
      case rel => exact ⟨k + 1, _, by go_num, by omega, rfl⟩
      case measure => simp [intOf]; omega
    · go_wp2
      go_ret
      exact ⟨rfl, q, rfl⟩
set_option maxRecDepth 100000 in
set_option maxHeartbeats 1000000 in
theorem same_ent (A B : Option Addr) (n c d : Nat) (L : List En) (w : World) (hA : Rd w w.heap.size A (L.flatMap entC)) (hB : Rd w w.heap.size B (L.flatMap entC)) (hn : L.length = n) (hm : n ≤ 2000000000000) :
    Calls Try.prog 77 #[.slice A n c, .slice B n d] w fun e w' => e = .returned (.bool true) ∧ ∃ q, w.drewN q = w' := by
  have HN := Lib.hid hn
  clear hn
  go_enter Try.func77, Try.ntmps77
  go_wp2
  go_loopw [13] (fun a wr => ∃ k q : Nat, a = .int .i64 (k : Int) ∧ k ≤ n ∧ wr = w.drewN q) (fun a _ => n - (intOf a).toNat)
  case atStart => exact ⟨0, 0, rfl, by omega, rfl⟩
  case round =>
    obtain ⟨k, q, rfl, hk, rfl⟩ := hrel
    by_cases hlt : k < n
    · obtain ⟨z, hz⟩ : ∃ z, L[k]? = some z := ⟨_, List.getElem?_eq_getElem (by rw [HN.out]; exact hlt)⟩
      obtain ⟨ad, rfl, _, c0, c1, c2, c3, c4, c5, c6, c7, c8, c9, c10, c11⟩ := hA.ent hz
      obtain ⟨bd, rfl, _, d0, d1, d2, d3, d4, d5, d6, d7, d8, d9, d10, d11⟩ := hB.ent hz
      clear hz
      go_wp2
      go_quiet (fail)
      go_wp2
      go_roundw
      case rel => exact ⟨k + 1, _, by go_num, by omega, rfl⟩
      case measure => simp [intOf]; omega
    · go_wp2
      go_ret
      exact ⟨rfl, q, rfl⟩
set_option maxRecDepth 100000 in
set_option maxHeartbeats 1000000 in
theorem same_rec (r : Rc) (A : Option Addr) (n c : Nat) (A2 : Option Addr) (n2 c2 : Nat) (B : Option Addr) (d : Nat) (B2 : Option Addr) (d2 : Nat) (w : World) (h1 : RcAt w r A n c A2 n2 c2) (h2 : RcAt w r B n d B2 n2 d2) (hs2 : n2 ≤ 1000000000000) :
    Calls Try.prog 56 #[Kv r A n c A2 n2 c2, Kv r B n d B2 n2 d2] w fun e w' => e = .returned (.bool true) ∧ Below w.heap.size w w' := by
  have hsm := h1.sm
  obtain ⟨kd, ve, ns, ni, add, rem⟩ := r
  dsimp only [Kv]
  have hb1 : Below w.heap.size w (w.alloc (.cells #[.int .i64 kd, .int .i64 ve, .int .i64 ns, .int .i64 ni, .slice A n c, .slice A2 n2 c2] 31)) := (Below.refl _ _).alloc (Nat.le_refl _) _
  have hR1 := Blk.new' w 31 #[.int .i64 kd, .int .i64 ve, .int .i64 ns, .int .i64 ni, .slice A n c, .slice A2 n2 c2]
  go_enter Try.func56, Try.ntmps56
  go_upto_region 1 with fail
  have hR2 := Blk.new' (w.alloc (.cells #[.int .i64 kd, .int .i64 ve, .int .i64 ns, .int .i64 ni, .slice A n c, .slice A2 n2 c2] 31)) 31 #[.int .i64 kd, .int .i64 ve, .int .i64 ns, .int .i64 ni, .slice B n d, .slice B2 n2 d2]
  have hsz1 : (w.alloc (.cells #[.int .i64 kd, .int .i64 ve, .int .i64 ns, .int .i64 ni, .slice A n c, .slice A2 n2 c2] 31)).heap.size = w.heap.size + 1 := by simp
  rw [hsz1] at hR2
  have hb2 := hb1.alloc (by rw [hsz1]; omega) (.cells #[.int .i64 kd, .int .i64 ve, .int .i64 ns, .int .i64 ni, .slice B n d, .slice B2 n2 d2] 31)
  replace hR1 := hR1.alloc (.cells #[.int .i64 kd, .int .i64 ve, .int .i64 ns, .int .i64 ni, .slice B n d, .slice B2 n2 d2] 31)
  clear hsz1 hb1
  generalize (w.alloc (.cells #[.int .i64 kd, .int .i64 ve, .int .i64 ns, .int .i64 ni, .slice A n c, .slice A2 n2 c2] 31)).alloc (.cells #[.int .i64 kd, .int .i64 ve, .int .i64 ns, .int .i64 ni, .slice B n d, .slice B2 n2 d2] 31) = w1 at *
  have a0 := hR1.cellAt 0 rfl
  have a1 := hR1.cellAt 1 rfl
  have a2 := hR1.cellAt 2 rfl
  have a3 := hR1.cellAt 3 rfl
  have a4 := hR1.cellAt 4 rfl
  have a5 := hR1.cellAt 5 rfl
  have b0 := hR2.cellAt 0 rfl
  have b1 := hR2.cellAt 1 rfl
  have b2 := hR2.cellAt 2 rfl
  have b3 := hR2.cellAt 3 rfl
  have b4 := hR2.cellAt 4 rfl
  have b5 := hR2.cellAt 5 rfl
  have HA := Lib.hid (same_ent A B n c d add w1 (h1.call hb2).add (h2.call hb2).add h1.ln hsm)
  go_wp2_with fail
  refine HA.out.mono ?_; rintro _ w2 ⟨rfl, q, rfl⟩
  have a4' : (w1.drewN q).cell? _ = _ := a4
  have a5' : (w1.drewN q).cell? _ = _ := a5
  have b5' : (w1.drewN q).cell? _ = _ := b5
  have hb3 : Below w.heap.size w (w1.drewN q) := hb2.trans ⟨rfl, rfl, rfl, Nat.le_refl _, fun _ _ => rfl⟩
  have HC := Lib.hid (same_int A2 B2 n2 c2 d2 rem (w1.drewN q) (h1.call hb3).rem (h2.call hb3).rem h1.ln2 hs2)
  go_wp2_with fail
  refine HC.out.mono ?_; rintro _ w3 ⟨rfl, q3, rfl⟩
  go_wp2
  go_ret
  exact ⟨rfl, hb3.trans ⟨rfl, rfl, rfl, Nat.le_refl _, fun _ _ => rfl⟩⟩
def RecAt6 (w : World) (ad : Addr) (x : RV) : Prop :=
  w.cell? ad = some (.int .i64 x.r.kind) ∧ w.cell? ⟨ad.block, ad.off + 1, none⟩ = some (.int .i64 x.r.version) ∧ w.cell? ⟨ad.block, ad.off + 2, none⟩ = some (.int .i64 x.r.nextSeq) ∧ w.cell? ⟨ad.block, ad.off + 3, none⟩ = some (.int .i64 x.r.nextId) ∧ w.cell? ⟨ad.block, ad.off + 4, none⟩ = some x.v ∧ w.cell? ⟨ad.block, ad.off + 5, none⟩ = some x.v2
theorem RecAt6.call {w w' : World} {ad : Addr} {x : RV} (h : RecAt6 w ad x) (hl : ad.block < w.heap.size) (hb : Below w.heap.size w w') : RecAt6 w' ad x := by
  obtain ⟨h0, h1, h2, h3, h4, h5⟩ := h
  have k : ∀ a : Addr, a.block = ad.block → w'.cell? a = w.cell? a := fun a e => hb.cell (by rw [e]; exact hl)
  exact ⟨(k ad rfl).trans h0, (k ⟨ad.block, ad.off + 1, none⟩ rfl).trans h1, (k ⟨ad.block, ad.off + 2, none⟩ rfl).trans h2, (k ⟨ad.block, ad.off + 3, none⟩ rfl).trans h3, (k ⟨ad.block, ad.off + 4, none⟩ rfl).trans h4, (k ⟨ad.block, ad.off + 5, none⟩ rfl).trans h5⟩
theorem Rd.rec {w : World} {B : Nat} {A : Option Addr} {L : List RV} (h : Rd w B A (L.flatMap recC)) {i : Nat} {x : RV} (hi : L[i]? = some x) : ∃ ad, A = some ad ∧ ad.block < B ∧ RecAt6 w (ad.add (i * 6)) x := by
  have g := fun j hj => flat_get (f := recC) (k := 6) (fun _ => rfl) L i j x hi hj
  obtain ⟨ad, rfl, hb, c0⟩ := h.at_ (j := i * 6) (u := .int .i64 x.r.kind) (by have := g 0 (by omega); rw [Nat.add_zero] at this; rw [this]; rfl)
  have k : ∀ j u, j < 6 → j ≠ 0 → (recC x)[j]? = some u → w.cell? ⟨(ad.add (i * 6)).block, (ad.add (i * 6)).off + j, none⟩ = some u := fun j u h1 h2 h3 => by
    obtain ⟨_, e1, _, c⟩ := h.at_ (j := i * 6 + j) (u := u) (by rw [g j h1]; exact h3)
    cases e1
    rw [add_off _ _ _ h2] at c
    exact c
  exact ⟨ad, rfl, hb, c0, k 1 _ (by omega) (by omega) rfl, k 2 _ (by omega) (by omega) rfl, k 3 _ (by omega) (by omega) rfl, k 4 _ (by omega) (by omega) rfl, k 5 _ (by omega) (by omega) rfl⟩
set_option maxRecDepth 100000 in
set_option maxHeartbeats 1000000 in
theorem same_recs (A B : Option Addr) (n c d : Nat) (xs ys : List RV) (w : World) (hA : RecsAt w A xs) (hB : RecsAt w B ys) (he : xs.map RV.r = ys.map RV.r) (hk : ∀ x ∈ xs, chkR x.r = 0) (hn : xs.length = n) (hm : n ≤ 1000000000000) :
    Calls Try.prog 23 #[.slice A n c, .slice B n d] w fun e w' => e = .returned (.bool true) ∧ Below w.heap.size w w' := by
  have HN := Lib.hid hn
  clear hn
  have HK := Lib.hid hk
  clear hk
  have HE := Lib.hid he
  clear he
  go_enter Try.func23, Try.ntmps23
  go_wp2
  go_loopw [13] (fun a wr => ∃ k : Nat, a = .int .i64 (k : Int) ∧ k ≤ n ∧ Hid (Below w.heap.size w wr)) (fun a _ => n - (intOf a).toNat)
  case atStart => exact ⟨0, rfl, by omega, Below.refl _ _⟩
  case round =>
    obtain ⟨k, rfl, hk, hb⟩ := hrel
    by_cases hlt : k < n
    · obtain ⟨x, hx⟩ : ∃ x, xs[k]? = some x := ⟨_, List.getElem?_eq_getElem (by rw [HN.out]; exact hlt)⟩
      obtain ⟨y, hy⟩ : ∃ y, ys[k]? = some y := ⟨_, List.getElem?_eq_getElem (by have := congrArg List.length HE.out; rw [List.length_map, List.length_map, HN.out] at this; omega)⟩
      have hxy : x.r = y.r := by
        have := congrArg (fun l => l[k]?) HE.out
        simpa [hx, hy] using this
      have hA1 := hA.call hb.out
      have hB1 := hB.call hb.out
      obtain ⟨ad, rfl, la, cx⟩ := hA1.1.rec hx
      obtain ⟨bd, rfl, lb, cy⟩ := hB1.1.rec hy
      have hzx := chk_zero (HK.out x (List.mem_of_getElem? hx))
      obtain ⟨X1, p1, X2, p2, ex1, lx1, ex2, lx2, rx1, rx2⟩ := hA1.2 x (List.mem_of_getElem? hx)
      obtain ⟨Y1, q1, Y2, q2, ey1, ly1, ey2, ly2, ry1, ry2⟩ := hB1.2 y (List.mem_of_getElem? hy)
      obtain ⟨xr, xv, xv2⟩ := x
      obtain ⟨yr, yv, yv2⟩ := y
      dsimp only at hxy ex1 ex2 ey1 ey2 lx1 lx2 ly1 ly2 rx1 rx2 ry1 ry2 hzx
      subst hxy
      subst ex1
      subst ex2
      subst ey1
      subst ey2
      have hcall := Lib.hid (fun w2 (hb2 : Below wr.heap.size wr w2) => same_rec xr X1 xr.add.length p1 X2 xr.rem.length p2 Y1 q1 Y2 q2 w2 (RcAt.call ⟨rx1, rx2, rfl, rfl, lx1, lx2, by omega, by omega⟩ hb2) (RcAt.call ⟨ry1, ry2, rfl, rfl, ly1, ly2, by omega, by omega⟩ hb2) (by omega))
      clear hx hy hzx rx1 rx2 ry1 ry2
      go_upto_region 6 with fail
      refine wp_region_L (fun _ w' => Below wr.heap.size wr w' ∧ RecAt6 w' (ad.add (k * 6)) ⟨xr, .slice X1 xr.add.length p1, .slice X2 xr.rem.length p2⟩ ∧ RecAt6 w' (bd.add (k * 6)) ⟨xr, .slice Y1 xr.add.length q1, .slice Y2 xr.rem.length q2⟩) (by kernel_rfl) ?_
      have HS : Hid (Below wr.heap.size wr wr.drew ∧ RecAt6 wr.drew (ad.add (k * 6)) ⟨xr, .slice X1 xr.add.length p1, .slice X2 xr.rem.length p2⟩ ∧ RecAt6 wr.drew (bd.add (k * 6)) ⟨xr, .slice Y1 xr.add.length q1, .slice Y2 xr.rem.length q2⟩) := ⟨Below.drew (Below.refl _ _), cx, cy⟩
      clear cx cy
      generalize wr.drew = wy at *
      refine wpAnyL_takeD (fun _ => True) (i := 0) (v := (.slice (some ad) n c)) (some 16) rfl rfl (by kernel_rfl) (by kernel_rfl) (by kernel_rfl) (fun _ _ _ h => h) (fun _ _ _ _ _ _ => trivial) (fun _ _ _ => Iff.rfl) trivial (Or.inl ⟨by rfl, fun w' hw' => by obtain ⟨l, _, hl⟩ := hw'; obtain ⟨_, ⟨x0, x1, x2, x3, x4, x5⟩, ⟨y0, y1, y2, y3, y4, y5⟩⟩ := hl; go_simp⟩) HS.out ?_
      simp only [Act.put, List.setIfInBounds_toArray, List.set_cons_zero, List.set_cons_succ]
      refine wpAnyL_takeD (fun _ => True) (i := 1) (v := (.int .i64 (k : Int))) (some 17) rfl rfl (by kernel_rfl) (by kernel_rfl) (by kernel_rfl) (fun _ _ _ h => h) (fun _ _ _ _ _ _ => trivial) (fun _ _ _ => Iff.rfl) trivial (Or.inl ⟨by rfl, fun w' hw' => by obtain ⟨l, _, hl⟩ := hw'; obtain ⟨_, ⟨x0, x1, x2, x3, x4, x5⟩, ⟨y0, y1, y2, y3, y4, y5⟩⟩ := hl; go_simp⟩) HS.out ?_
      simp only [Act.put, List.setIfInBounds_toArray, List.set_cons_zero, List.set_cons_succ]
      refine wpAnyL_takeD (fun _ => True) (i := 4) (v := (.slice (some bd) n d)) (some 20) rfl rfl (by kernel_rfl) (by kernel_rfl) (by kernel_rfl) (fun _ _ _ h => h) (fun _ _ _ _ _ _ => trivial) (fun _ _ _ => Iff.rfl) trivial (Or.inl ⟨by rfl, fun w' hw' => by obtain ⟨l, _, hl⟩ := hw'; obtain ⟨_, ⟨x0, x1, x2, x3, x4, x5⟩, ⟨y0, y1, y2, y3, y4, y5⟩⟩ := hl; go_simp⟩) HS.out ?_
      simp only [Act.put, List.setIfInBounds_toArray, List.set_cons_zero, List.set_cons_succ]
      refine wpAnyL_takeD (fun _ => True) (i := 5) (v := (.int .i64 (k : Int))) (some 21) rfl rfl (by kernel_rfl) (by kernel_rfl) (by kernel_rfl) (fun _ _ _ h => h) (fun _ _ _ _ _ _ => trivial) (fun _ _ _ => Iff.rfl) trivial (Or.inl ⟨by rfl, fun w' hw' => by obtain ⟨l, _, hl⟩ := hw'; obtain ⟨_, ⟨x0, x1, x2, x3, x4, x5⟩, ⟨y0, y1, y2, y3, y4, y5⟩⟩ := hl; go_simp⟩) HS.out ?_
      simp only [Act.put, List.setIfInBounds_toArray, List.set_cons_zero, List.set_cons_succ]
      refine wpAnyL_takeD (fun _ => True) (i := 2) (v := (.pointer (some (ad.add (k * 6))))) (some 18) rfl rfl (by kernel_rfl) (by kernel_rfl) (by kernel_rfl) (fun _ _ _ h => h) (fun _ _ _ _ _ _ => trivial) (fun _ _ _ => Iff.rfl) trivial (Or.inl ⟨by rfl, fun w' hw' => by obtain ⟨l, _, hl⟩ := hw'; obtain ⟨_, ⟨x0, x1, x2, x3, x4, x5⟩, ⟨y0, y1, y2, y3, y4, y5⟩⟩ := hl; go_simp⟩) HS.out ?_
      simp only [Act.put, List.setIfInBounds_toArray, List.set_cons_zero, List.set_cons_succ]
      refine wpAnyL_takeD (fun _ => True) (i := 6) (v := (.pointer (some (bd.add (k * 6))))) (some 22) rfl rfl (by kernel_rfl) (by kernel_rfl) (by kernel_rfl) (fun _ _ _ h => h) (fun _ _ _ _ _ _ => trivial) (fun _ _ _ => Iff.rfl) trivial (Or.inl ⟨by rfl, fun w' hw' => by obtain ⟨l, _, hl⟩ := hw'; obtain ⟨_, ⟨x0, x1, x2, x3, x4, x5⟩, ⟨y0, y1, y2, y3, y4, y5⟩⟩ := hl; go_simp⟩) HS.out ?_
      simp only [Act.put, List.setIfInBounds_toArray, List.set_cons_zero, List.set_cons_succ]
      refine wpAnyL_takeD (fun _ => True) (i := 3) (v := (.agg #[.int .i64 xr.kind, .int .i64 xr.version, .int .i64 xr.nextSeq, .int .i64 xr.nextId, .slice X1 xr.add.length p1, .slice X2 xr.rem.length p2])) (some 19) rfl rfl (by kernel_rfl) (by kernel_rfl) (by kernel_rfl) (fun _ _ _ h => h) (fun _ _ _ _ _ _ => trivial) (fun _ _ _ => Iff.rfl) trivial (Or.inl ⟨by rfl, fun w' hw' => by obtain ⟨l, _, hl⟩ := hw'; obtain ⟨_, ⟨x0, x1, x2, x3, x4, x5⟩, ⟨y0, y1, y2, y3, y4, y5⟩⟩ := hl; go_simp⟩) HS.out ?_
      simp only [Act.put, List.setIfInBounds_toArray, List.set_cons_zero, List.set_cons_succ]
      refine wpAnyL_takeD (fun _ => True) (i := 7) (v := (.agg #[.int .i64 xr.kind, .int .i64 xr.version, .int .i64 xr.nextSeq, .int .i64 xr.nextId, .slice Y1 xr.add.length q1, .slice Y2 xr.rem.length q2])) (some 23) rfl rfl (by kernel_rfl) (by kernel_rfl) (by kernel_rfl) (fun _ _ _ h => h) (fun _ _ _ _ _ _ => trivial) (fun _ _ _ => Iff.rfl) trivial (Or.inl ⟨by rfl, fun w' hw' => by obtain ⟨l, _, hl⟩ := hw'; obtain ⟨_, ⟨x0, x1, x2, x3, x4, x5⟩, ⟨y0, y1, y2, y3, y4, y5⟩⟩ := hl; go_simp⟩) HS.out ?_
      simp only [Act.put, List.setIfInBounds_toArray, List.set_cons_zero, List.set_cons_succ]
      refine wpAnyL_one (i := 8) (by decide +kernel) ?_
      refine wpOp_go (o := _) rfl (fun K hK => ?_)
      go_simp
      go_at_call 56
      refine (hcall.out _ HS.out.1).mono ?_; rintro _ w2 ⟨rfl, hb2⟩
      have HS2 : Hid (Below wr.heap.size wr w2 ∧ RecAt6 w2 (ad.add (k * 6)) ⟨xr, .slice X1 xr.add.length p1, .slice X2 xr.rem.length p2⟩ ∧ RecAt6 w2 (bd.add (k * 6)) ⟨xr, .slice Y1 xr.add.length q1, .slice Y2 xr.rem.length q2⟩) := ⟨bt HS.out.1 hb2, HS.out.2.1.call (by rw [block_of_add]; exact Nat.lt_of_lt_of_le la HS.out.1.size) hb2, HS.out.2.2.call (by rw [block_of_add]; exact Nat.lt_of_lt_of_le lb HS.out.1.size) hb2⟩
      refine hK _ _ ⟨HS2.out, ?_⟩
      clear hK K hb2 HS
      replace HS := HS2
      refine wpAnyL_takeD (fun _ => True) (i := 9) (v := (.bool false)) (some 25) rfl rfl (by kernel_rfl) (by kernel_rfl) (by kernel_rfl) (fun _ _ _ h => h) (fun _ _ _ _ _ _ => trivial) (fun _ _ _ => Iff.rfl) trivial (Or.inl ⟨by rfl, fun w' hw' => by obtain ⟨l, _, hl⟩ := hw'; obtain ⟨_, ⟨x0, x1, x2, x3, x4, x5⟩, ⟨y0, y1, y2, y3, y4, y5⟩⟩ := hl; go_simp⟩) HS.out ?_
      simp only [Act.put, List.setIfInBounds_toArray, List.set_cons_zero, List.set_cons_succ]
      refine wpAnyL_done (by decide +kernel) ?_ _
      have hb3 := bt hb.out HS.out.1
      go_wp2
      go_roundw
      case rel => exact ⟨k + 1, by go_num, by omega, hb3⟩
      case measure => simp [intOf]; omega
    · go_wp2
      go_ret
      exact ⟨rfl, hb.out⟩

end Go.Proofs.Ytgacjpkgpegcdaa
/-! law19.base, law19.awake, law19.scans, manifest.Bound and the reference's Bound. -/
namespace Go.Proofs.Ytgacjpkgpegcdaa
open Go.RowKit

theorem scanR_len {t : List UInt8} {l : List Rc} {n : Nat} (h : ScanR t l n) : l.length * 8 ≤ n := by
  induction h with
  | stop _ => simp
  | more h _ ih =>
    have := (stands_len h).2
    rw [List.length_cons]
    omega
def baseR : Rc := ⟨1, 0, 0, 1, [], []⟩
theorem keys_base : keysOk baseR := fun e h => by simp [baseR] at h
theorem chk_base : chkR baseR = 0 := chk_ok (.inl rfl) ⟨by decide, by decide, by decide, by decide, by decide⟩ (by decide) (by decide) (fun i h => absurd h (Nat.not_lt_zero _)) (fun _ => rfl) (fun i h => absurd h (Nat.not_lt_zero _))
theorem enc_base : (encR baseR).length = 14 := by
  rw [encR_len]
  have h0 : putL 0 = [0] := putL_lt (by decide)
  have h1 : putL 1 = [1] := putL_lt (by decide)
  simp [bodyP, baseR, numP, h0, h1]
theorem rcat_base (w : World) : RcAt w baseR none 0 0 none 0 0 := ⟨.inl rfl, .inl rfl, rfl, rfl, Nat.le_refl _, Nat.le_refl _, by decide, by decide⟩
set_option maxRecDepth 100000 in
set_option maxHeartbeats 1000000 in
theorem base_any (w : World) : Calls Try.prog 13 #[] w fun e w' => e = .returned (Kv baseR none 0 0 none 0 0) ∧ Below w.heap.size w w' := by
  have hR := Blk.new w 31 zeroRcC
  have hb : Below w.heap.size w (w.alloc (.cells zeroRcC.toArray 31)) := (Below.refl _ _).alloc (Nat.le_refl _) _
  go_enter Try.func13, Try.ntmps13
  go_upto_region 1 with fail
  change Below w.heap.size w (w.alloc (.cells #[.int .i64 0, .int .i64 0, .int .i64 0, .int .i64 0, .slice none 0 0, .slice none 0 0] 31)) at hb
  change Blk (w.alloc (.cells #[.int .i64 0, .int .i64 0, .int .i64 0, .int .i64 0, .slice none 0 0, .slice none 0 0] 31)) w.heap.size 31 zeroRcC at hR
  generalize w.alloc (.cells #[.int .i64 0, .int .i64 0, .int .i64 0, .int .i64 0, .slice none 0 0, .slice none 0 0] 31) = wa at *
  have r0 := hR.cellAt 0 rfl
  have r1 := hR.cellAt 1 rfl
  have r2 := hR.cellAt 2 rfl
  have r3 := hR.cellAt 3 rfl
  have r4 := hR.cellAt 4 rfl
  have r5 := hR.cellAt 5 rfl
  have rf := hR.frozen
  go_wp2
  have hg := grown6 wa w.heap.size (.int .i64 1) (.int .i64 0) (.int .i64 0) (.int .i64 1) (.slice none 0 0) (.slice none 0 0)
  exact bodyPost_ret (v := .agg #[.int .i64 1, .int .i64 0, .int .i64 0, .int .i64 1, .slice none 0 0, .slice none 0 0]) (by simp [results, Try.results13, go_sem, r0, r1, r2, r3, r4, r5]) rfl ⟨rfl, hb.grown hg hb.size (fun j e => by injection e; omega)⟩
/-- The bytes of one record with one byte behind it. -/
theorem scan_base {s : ByteArray} {l : List Rc} {n : Nat} (hs : s.data.toList = encR baseR ++ [120]) (h : ScanR s.data.toList l n) : l = [baseR] ∧ n = 14 := by
  have h2 : ScanR s.data.toList [baseR] ((encR baseR).length + 0) := .more ⟨chk_base, keys_base, by rw [hs]; exact List.prefix_append _ _⟩ (.stop (no_short (by rw [hs, List.drop_left]; decide)))
  rw [enc_base] at h2
  exact h.one h2
set_option maxRecDepth 100000 in
set_option maxHeartbeats 1000000 in
theorem scans_any (s : ByteArray) (w : World) (hsz : s.size ≤ 1000000000000) : Calls Try.prog 20 #[.string s] w fun e w' => e = .returned (.bool true) ∧ Below w.heap.size w w' := by
  go_enter Try.func20, Try.ntmps20
  go_wp2_with fail
  refine (scan_any s _ hsz).mono ?_; rintro _ w1 ⟨A, c, n, xs, rfl, hc, hn, hR, hok, hS, hb1⟩
  have HR := Lib.hid hR
  have HO := Lib.hid hok
  have HS := Lib.hid hS
  clear hR hok hS
  go_wp2_with fail
  refine (rscan_any s _ hsz).mono ?_; rintro _ w2 ⟨B, d, m, ys, rfl, hd, hm, hR2, hok2, hS2, hb2⟩
  obtain ⟨e1, e2⟩ := HS.out.one hS2
  have hlen : ys.length = xs.length := by have := congrArg List.length e1; simpa using this.symm
  rw [hlen]
  subst e2
  have hl8 := scanR_len HS.out
  rw [List.length_map] at hl8
  have HC := Lib.hid (same_recs A B xs.length c d xs ys w2 (HR.out.call hb2) hR2 e1 (fun x hx => (HO.out x hx).1) rfl)
  clear e1 hR2 hok2 hS2
  go_wp2_with fail
  refine (HC.out (by omega)).mono ?_; rintro _ w3 ⟨rfl, hb3⟩
  go_wp2
  go_ret
  exact ⟨rfl, bt (bt hb1 hb2) hb3⟩
theorem recsAt_one {w : World} {r : Rc} {A A2 : Option Addr} {n c n2 c2 : Nat} (h : RcAt w r A n c A2 n2 c2) : RecsAt (w.alloc (.cells #[.int .i64 r.kind, .int .i64 r.version, .int .i64 r.nextSeq, .int .i64 r.nextId, .slice A n c, .slice A2 n2 c2] 31)) (some ⟨w.heap.size, 0, none⟩) [⟨r, .slice A n c, .slice A2 n2 c2⟩] := by
  have h2 := h.call ((Below.refl _ _).alloc (Nat.le_refl w.heap.size) (.cells #[.int .i64 r.kind, .int .i64 r.version, .int .i64 r.nextSeq, .int .i64 r.nextId, .slice A n c, .slice A2 n2 c2] 31))
  refine ⟨.inr ⟨_, rfl, by simp, fun j u hj => ?_⟩, fun x hx => ?_⟩
  · have e0 : (⟨w.heap.size, 0, none⟩ : Addr).add j = ⟨w.heap.size, j, none⟩ := by unfold Addr.add; split <;> simp_all
    rw [e0, World.cell?_alloc_mark]
    simpa [recC] using hj
  · rw [List.mem_singleton.1 hx]
    have l1 := h.ln; have l2 := h.ln2
    subst l1; subst l2
    exact ⟨A, c, A2, c2, rfl, h.lc, rfl, h.lc2, h2.add, h2.rem⟩
theorem app_str {E : List UInt8} {b : ByteArray} : (⟨E.toArray⟩ : ByteArray) ++ b = ⟨(E ++ b.data.toList).toArray⟩ := by
  apply ByteArray.ext
  rw [ByteArray.data_append]
  apply Array.toList_inj.1
  simp
set_option maxRecDepth 100000 in
set_option maxHeartbeats 1000000 in
theorem awake_any (w : World) : Calls Try.prog 15 #[] w fun e w' => e = .returned (.bool true) ∧ Below w.heap.size w w' := by
  have hE0 : encV baseR = encR baseR := if_pos chk_base
  have hEE : ∃ E, encR baseR = E := ⟨_, rfl⟩
  obtain ⟨E, hEE⟩ := hEE
  have HL : Hid (E.length = 14) := by
    show _ = _
    rw [← hEE]; exact enc_base
  have HE := Lib.hid hEE
  rw [hEE] at hE0
  clear hEE
  go_enter Try.func15, Try.ntmps15
  go_wp2_with fail
  refine (base_any _).mono ?_; rintro _ w1 ⟨rfl, hb1⟩
  have HR0 := Lib.hid (rencode_any baseR none 0 0 none 0 0 w1 (rcat_base _) keys_base)
  rw [chk_base, hE0] at HR0
  clear hE0
  go_wp2_with fail
  refine HR0.out.mono ?_; rintro _ w2 ⟨rfl, hb2⟩
  have hl14 : E.length = 14 := HL.out
  have hsz : (⟨E.toArray⟩ ++ ⟨#[120]⟩ : ByteArray).size ≤ 1000000000000 := by rw [ByteArray.size_append]; show E.toArray.size + 1 ≤ _; simp; omega
  go_wp2_with fail
  refine (scan_any _ _ hsz).mono ?_; rintro _ w3 ⟨A, c, n, xs, rfl, hc, hn, hR, hok, hS, hb3⟩
  obtain ⟨e1, rfl⟩ := scan_base (by rw [app_str, HE.out]) hS
  have hx1 : xs.length = 1 := by have := congrArg List.length e1; simpa using this
  rw [hx1] at hc ⊢
  have HR := Lib.hid hR
  have HO := Lib.hid hok
  have HX1 := Lib.hid hx1
  have HE1 := Lib.hid e1
  clear hR hok hS hx1 e1
  go_wp2_with fail
  refine (base_any _).mono ?_; rintro _ w4 ⟨rfl, hb4⟩
  go_wp2_with fail
  refine (same_recs A _ 1 c 1 xs _ _ ((HR.out.call hb4).call ((Below.refl _ _).alloc (Nat.le_refl _) _)) (recsAt_one (rcat_base w4)) (by rw [HE1.out]; rfl) (fun x hx => (HO.out x hx).1) HX1.out (by omega)).mono ?_; rintro _ w5 ⟨rfl, hb5⟩
  go_wp2
  go_ret
  exact ⟨rfl, bt (bt (bt (bt hb1 hb2) hb3) hb4) (bt ((Below.refl _ _).alloc (Nat.le_refl _) _) hb5)⟩

def bndV (x y : Int) : Int := if x < 0 ∨ 256 < x ∨ y < 0 ∨ 256 < y then 0 else 40 + 192 * x + 5 * y
theorem ret_i {a b : Int} (h : a = b) : Ending.returned (.int .i64 a) = .returned (.int .i64 b) := by rw [h]
set_option maxRecDepth 100000 in
theorem bound_any (x y : Int) (w : World) : Calls Try.prog 28 #[.int .i64 x, .int .i64 y] w fun e w' => e = .returned (.int .i64 (bndV x y)) ∧ w = w' := by
  by_cases h1 : x < 0
  · have d1 : decide (x < 0) = true := decide_eq_true h1
    have HB := Lib.hid (show (0 : Int) = bndV x y from (if_pos (by omega)).symm)
    go_enter Try.func28, Try.ntmps28
    go_wp2
    go_ret
    exact ⟨ret_i HB.out, rfl⟩
  · have d1 : decide (x < 0) = false := decide_eq_false h1
    by_cases h2 : 256 < x
    · have d2 : decide (256 < x) = true := decide_eq_true h2
      have HB := Lib.hid (show (0 : Int) = bndV x y from (if_pos (by omega)).symm)
      go_enter Try.func28, Try.ntmps28
      go_wp2
      go_ret
      exact ⟨ret_i HB.out, rfl⟩
    · have d2 : decide (256 < x) = false := decide_eq_false h2
      by_cases h3 : y < 0
      · have d3 : decide (y < 0) = true := decide_eq_true h3
        have HB := Lib.hid (show (0 : Int) = bndV x y from (if_pos (by omega)).symm)
        go_enter Try.func28, Try.ntmps28
        go_wp2
        go_ret
        exact ⟨ret_i HB.out, rfl⟩
      · have d3 : decide (y < 0) = false := decide_eq_false h3
        by_cases h4 : 256 < y
        · have d4 : decide (256 < y) = true := decide_eq_true h4
          have HB := Lib.hid (show (0 : Int) = bndV x y from (if_pos (by omega)).symm)
          go_enter Try.func28, Try.ntmps28
          go_wp2
          go_ret
          exact ⟨ret_i HB.out, rfl⟩
        · have d4 : decide (256 < y) = false := decide_eq_false h4
          have HB := Lib.hid (show 40 + 192 * x + 5 * y = bndV x y from (if_neg (by omega)).symm)
          have w1 : IntKind.i64.wrap (192 * x) = 192 * x := IntWalk.i64_in _ (by omega)
          have w2 : IntKind.i64.wrap (40 + 192 * x) = 40 + 192 * x := IntWalk.i64_in _ (by omega)
          have w3 : IntKind.i64.wrap (5 * y) = 5 * y := IntWalk.i64_in _ (by omega)
          have w4 : IntKind.i64.wrap (40 + 192 * x + 5 * y) = 40 + 192 * x + 5 * y := IntWalk.i64_in _ (by omega)
          go_enter Try.func28, Try.ntmps28
          go_wp2
          go_ret
          exact ⟨ret_i HB.out, rfl⟩
set_option maxRecDepth 100000 in
theorem rbound_any (x y : Int) (w : World) : Calls Try.prog 29 #[.int .i64 x, .int .i64 y] w fun e w' => e = .returned (.int .i64 (bndV x y)) ∧ w = w' := by
  by_cases h1 : inB x 0 256 = true
  · by_cases h2 : inB y 0 256 = true
    · have k1 := h1
      have k2 := h2
      unfold inB at k1 k2
      simp at k1 k2
      have HB := Lib.hid (show 40 + 192 * x + 5 * y = bndV x y from (if_neg (by omega)).symm)
      have w1 : IntKind.i64.wrap (192 * x) = 192 * x := IntWalk.i64_in _ (by omega)
      have w2 : IntKind.i64.wrap (40 + 192 * x) = 40 + 192 * x := IntWalk.i64_in _ (by omega)
      have w3 : IntKind.i64.wrap (5 * y) = 5 * y := IntWalk.i64_in _ (by omega)
      have w4 : IntKind.i64.wrap (40 + 192 * x + 5 * y) = 40 + 192 * x + 5 * y := IntWalk.i64_in _ (by omega)
      go_enter Try.func29, Try.ntmps29
      go_wp2_with fail
      refine (rin_any x 0 256 _).mono ?_; rintro _ _ ⟨rfl, rfl⟩
      go_wp2_with fail
      refine (rin_any y 0 256 _).mono ?_; rintro _ _ ⟨rfl, rfl⟩
      go_wp2
      go_ret
      exact ⟨ret_i HB.out, rfl⟩
    · have h2 : inB y 0 256 = false := by simpa using h2
      have k2 := h2
      unfold inB at k2
      simp at k2
      have HB := Lib.hid (show (0 : Int) = bndV x y from (if_pos (by omega)).symm)
      clear k2
      go_enter Try.func29, Try.ntmps29
      go_wp2_with fail
      refine (rin_any x 0 256 _).mono ?_; rintro _ _ ⟨rfl, rfl⟩
      go_wp2_with fail
      refine (rin_any y 0 256 _).mono ?_; rintro _ _ ⟨rfl, rfl⟩
      go_wp2
      go_ret
      exact ⟨ret_i HB.out, rfl⟩
  · have h1 : inB x 0 256 = false := by simpa using h1
    have k1 := h1
    unfold inB at k1
    simp at k1
    have HB := Lib.hid (show (0 : Int) = bndV x y from (if_pos (by omega)).symm)
    clear k1
    go_enter Try.func29, Try.ntmps29
    go_wp2_with fail
    refine (rin_any x 0 256 _).mono ?_; rintro _ _ ⟨rfl, rfl⟩
    go_wp2
    go_ret
    exact ⟨ret_i HB.out, rfl⟩

end Go.Proofs.Ytgacjpkgpegcdaa
