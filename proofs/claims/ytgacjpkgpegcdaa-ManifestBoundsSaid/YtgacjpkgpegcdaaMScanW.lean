/-
  The reference's Scan.
-/
import Derived.Test.YtgacjpkgpegcdaaMScanR
namespace Go.Proofs.Ytgacjpkgpegcdaa
open Go.RowKit

theorem pair_ex {α β : Type} (p : α × β) : ∃ a b, p = (a, b) := ⟨p.1, p.2, rfl⟩
theorem take_mk' {a : ByteArray} {k : Nat} : (a.extract 0 k).data.toList = a.data.toList.take k := by
  rw [ByteArray.data_extract, Array.toList_extract, List.extract_eq_take_drop]; simp
set_option maxRecDepth 100000 in
set_option maxHeartbeats 2000000 in
theorem rscan_any (s : ByteArray) (w : World) (hsz : s.size ≤ 1000000000000) : Calls Try.prog 22 #[.string s] w (ScanPost w s) := by
  have hI := ScanI.start w s.data.toList
  go_enter Try.func22, Try.ntmps22
  go_wp2_with fail
  go_loopw [4, 5] (fun a b wr => ∃ (i : Nat) (xs : List RV), b = .int .i64 (i : Int) ∧ i ≤ s.size ∧ Hid (ScanI w wr s.data.toList a xs i)) (fun _ b _ => s.size - (intOf b).toNat)
  case atStart => exact ⟨0, [], rfl, by omega, hI⟩
  case round =>
    clear hI
    obtain ⟨i, xs, rfl, hi, hI⟩ := hrel
    obtain ⟨A, c, q, hv⟩ := slice_form hI.out.own.1
    subst hv
    have HT : Hid ((s.extract i s.size).data.toList = s.data.toList.drop i) := by
      show _ = _
      rw [ByteArray.data_extract, Array.toList_extract, List.extract_eq_take_drop]
      exact List.take_of_length_le (by rw [List.length_drop, size_list]; exact Nat.le_refl _)
    have HZ : Hid ((s.extract i s.size).size = s.size - i) := by
      show _ = _
      rw [ByteArray.size_extract]; omega
    by_cases h8 : s.size - i < 8
    · have hd8 : decide (((s.size - i : Nat) : Int) < 8) = true := decide_eq_true (by omega)
      have hend := hI.out.post hi (no_short (by rw [List.length_drop, size_list]; exact h8))
      have HEND := Lib.hid hend
      clear hend
      go_wp2
      go_ret2
      exact HEND.out
    · have hd8 : decide (((s.size - i : Nat) : Int) < 8) = false := decide_eq_false (by omega)
      have W0 := Lib.hid (word_any (s.extract i s.size) 0 wr (by rw [HZ.out]; omega) (by rw [HZ.out]; omega))
      have hN : ∃ N, wordL (s.extract i s.size).data.toList 0 = N := ⟨_, rfl⟩
      obtain ⟨N, hN⟩ := hN
      have hNl : N < 4294967296 := by rw [← hN]; exact word_lt _ _
      rw [hN] at W0
      have HN := Lib.hid hN
      clear hN
      go_wp2_with fail
      refine W0.out.mono ?_; rintro _ w1 ⟨rfl, q1, rfl⟩
      have hwn : IntKind.i64.wrap (N : Int) = (N : Int) := IntWalk.i64_in _ (by omega)
      have hb : Hid (Below wr.heap.size wr (wr.drewN q1)) := (⟨rfl, rfl, rfl, Nat.le_refl _, fun _ _ => rfl⟩ : Below wr.heap.size wr (wr.drewN q1))
      go_upto_region 7 with fail
      have hw8 : IntKind.i64.wrap (((s.size - i : Nat) : Int) - 8) = ((s.size - i : Nat) : Int) - 8 := IntWalk.i64_in _ (by omega)
      by_cases hNs : s.size - i < N + 8
      · have hd9 : decide (((s.size - i : Nat) : Int) - 8 < (N : Int)) = true := decide_eq_true (by omega)
        refine wp_region_L (fun _ _ => True) (by kernel_rfl) ?_
        replace hb : Hid (Below wr.heap.size wr (wr.drewN q1).drew) := hb.out.drew
        generalize (wr.drewN q1).drew = wy at *
        refine wpAnyL_takeD (fun _ => True) (i := 0) (v := (.int .i64 (N : Int))) (some 21) rfl rfl (by kernel_rfl) (by kernel_rfl) (by kernel_rfl) (fun _ _ _ h => h) (fun _ _ _ _ _ _ => trivial) (fun _ _ _ => Iff.rfl) trivial (Or.inl ⟨by rfl, fun w' hw' => by go_simp⟩) trivial ?_
        simp only [Act.put, List.setIfInBounds_toArray, List.set_cons_zero, List.set_cons_succ]
        refine wpAnyL_takeD (fun _ => True) (i := 1) (v := (.string (s.extract i s.size))) (some 22) rfl rfl (by kernel_rfl) (by kernel_rfl) (by kernel_rfl) (fun _ _ _ h => h) (fun _ _ _ _ _ _ => trivial) (fun _ _ _ => Iff.rfl) trivial (Or.inl ⟨by rfl, fun w' hw' => by go_simp⟩) trivial ?_
        simp only [Act.put, List.setIfInBounds_toArray, List.set_cons_zero, List.set_cons_succ]
        refine wpAnyL_takeD (fun _ => True) (i := 2) (v := (.int .i64 ((s.size - i : Nat) : Int))) (some 23) rfl rfl (by kernel_rfl) (by kernel_rfl) (by kernel_rfl) (fun _ _ _ h => h) (fun _ _ _ _ _ _ => trivial) (fun _ _ _ => Iff.rfl) trivial (Or.inl ⟨by rfl, fun w' hw' => by go_simp⟩) trivial ?_
        simp only [Act.put, List.setIfInBounds_toArray, List.set_cons_zero, List.set_cons_succ]
        refine wpAnyL_takeD (fun _ => True) (i := 3) (v := (.int .i64 (((s.size - i : Nat) : Int) - 8))) (some 24) rfl rfl (by kernel_rfl) (by kernel_rfl) (by kernel_rfl) (fun _ _ _ h => h) (fun _ _ _ _ _ _ => trivial) (fun _ _ _ => Iff.rfl) trivial (Or.inl ⟨by rfl, fun w' hw' => by go_simp⟩) trivial ?_
        simp only [Act.put, List.setIfInBounds_toArray, List.set_cons_zero, List.set_cons_succ]
        refine wpAnyL_takeD (fun _ => True) (i := 4) (v := (.bool true)) (some 25) rfl rfl (by kernel_rfl) (by kernel_rfl) (by kernel_rfl) (fun _ _ _ h => h) (fun _ _ _ _ _ _ => trivial) (fun _ _ _ => Iff.rfl) trivial (Or.inl ⟨by rfl, fun w' hw' => by go_simp⟩) trivial ?_
        simp only [Act.put, List.setIfInBounds_toArray, List.set_cons_zero, List.set_cons_succ]
        refine wpAnyL_takeD (fun _ => True) (i := 5) (v := (.bool true)) (some 26) rfl rfl (by kernel_rfl) (by kernel_rfl) (by kernel_rfl) (fun _ _ _ h => h) (fun _ _ _ _ _ _ => trivial) (fun _ _ _ => Iff.rfl) trivial (Or.inl ⟨by rfl, fun w' hw' => by go_simp⟩) trivial ?_
        simp only [Act.put, List.setIfInBounds_toArray, List.set_cons_zero, List.set_cons_succ]
        refine wpAnyL_takeD (fun _ => True) (i := 6) (v := undef) (some 27) rfl rfl (by kernel_rfl) (by kernel_rfl) (by kernel_rfl) (fun _ _ _ h => h) (fun _ _ _ _ _ _ => trivial) (fun _ _ _ => Iff.rfl) trivial (Or.inr ⟨by rfl, rfl⟩) trivial ?_
        simp only [Act.put, List.setIfInBounds_toArray, List.set_cons_zero, List.set_cons_succ]
        refine wpAnyL_takeD (fun _ => True) (i := 7) (v := undef) (some 28) rfl rfl (by kernel_rfl) (by kernel_rfl) (by kernel_rfl) (fun _ _ _ h => h) (fun _ _ _ _ _ _ => trivial) (fun _ _ _ => Iff.rfl) trivial (Or.inr ⟨by rfl, rfl⟩) trivial ?_
        simp only [Act.put, List.setIfInBounds_toArray, List.set_cons_zero, List.set_cons_succ]
        refine wpAnyL_takeD (fun _ => True) (i := 8) (v := undef) (some 29) rfl rfl (by kernel_rfl) (by kernel_rfl) (by kernel_rfl) (fun _ _ _ h => h) (fun _ _ _ _ _ _ => trivial) (fun _ _ _ => Iff.rfl) trivial (Or.inr ⟨by rfl, rfl⟩) trivial ?_
        simp only [Act.put, List.setIfInBounds_toArray, List.set_cons_zero, List.set_cons_succ]
        refine wpAnyL_takeD (fun _ => True) (i := 9) (v := undef) (some 30) rfl rfl (by kernel_rfl) (by kernel_rfl) (by kernel_rfl) (fun _ _ _ h => h) (fun _ _ _ _ _ _ => trivial) (fun _ _ _ => Iff.rfl) trivial (Or.inr ⟨by rfl, rfl⟩) trivial ?_
        simp only [Act.put, List.setIfInBounds_toArray, List.set_cons_zero, List.set_cons_succ]
        refine wpAnyL_takeD (fun _ => True) (i := 10) (v := undef) (some 31) rfl rfl (by kernel_rfl) (by kernel_rfl) (by kernel_rfl) (fun _ _ _ h => h) (fun _ _ _ _ _ _ => trivial) (fun _ _ _ => Iff.rfl) trivial (Or.inr ⟨by rfl, rfl⟩) trivial ?_
        simp only [Act.put, List.setIfInBounds_toArray, List.set_cons_zero, List.set_cons_succ]
        refine wpAnyL_takeD (fun _ => True) (i := 11) (v := undef) (some 32) rfl rfl (by kernel_rfl) (by kernel_rfl) (by kernel_rfl) (fun _ _ _ h => h) (fun _ _ _ _ _ _ => trivial) (fun _ _ _ => Iff.rfl) trivial (Or.inr ⟨by rfl, rfl⟩) trivial ?_
        simp only [Act.put, List.setIfInBounds_toArray, List.set_cons_zero, List.set_cons_succ]
        refine wpAnyL_takeD (fun _ => True) (i := 12) (v := undef) (some 33) rfl rfl (by kernel_rfl) (by kernel_rfl) (by kernel_rfl) (fun _ _ _ h => h) (fun _ _ _ _ _ _ => trivial) (fun _ _ _ => Iff.rfl) trivial (Or.inr ⟨by rfl, rfl⟩) trivial ?_
        simp only [Act.put, List.setIfInBounds_toArray, List.set_cons_zero, List.set_cons_succ]
        refine wpAnyL_takeD (fun _ => True) (i := 13) (v := undef) (some 34) rfl rfl (by kernel_rfl) (by kernel_rfl) (by kernel_rfl) (fun _ _ _ h => h) (fun _ _ _ _ _ _ => trivial) (fun _ _ _ => Iff.rfl) trivial (Or.inr ⟨by rfl, rfl⟩) trivial ?_
        simp only [Act.put, List.setIfInBounds_toArray, List.set_cons_zero, List.set_cons_succ]
        refine wpAnyL_takeD (fun _ => True) (i := 14) (v := undef) (some 35) rfl rfl (by kernel_rfl) (by kernel_rfl) (by kernel_rfl) (fun _ _ _ h => h) (fun _ _ _ _ _ _ => trivial) (fun _ _ _ => Iff.rfl) trivial (Or.inr ⟨by rfl, rfl⟩) trivial ?_
        simp only [Act.put, List.setIfInBounds_toArray, List.set_cons_zero, List.set_cons_succ]
        refine wpAnyL_takeD (fun _ => True) (i := 15) (v := undef) (some 36) rfl rfl (by kernel_rfl) (by kernel_rfl) (by kernel_rfl) (fun _ _ _ h => h) (fun _ _ _ _ _ _ => trivial) (fun _ _ _ => Iff.rfl) trivial (Or.inr ⟨by rfl, rfl⟩) trivial ?_
        simp only [Act.put, List.setIfInBounds_toArray, List.set_cons_zero, List.set_cons_succ]
        refine wpAnyL_takeD (fun _ => True) (i := 16) (v := (.bool true)) (some 37) rfl rfl (by kernel_rfl) (by kernel_rfl) (by kernel_rfl) (fun _ _ _ h => h) (fun _ _ _ _ _ _ => trivial) (fun _ _ _ => Iff.rfl) trivial (Or.inl ⟨by rfl, fun w' hw' => by go_simp⟩) trivial ?_
        simp only [Act.put, List.setIfInBounds_toArray, List.set_cons_zero, List.set_cons_succ]
        refine wpAnyL_done (by decide +kernel) ?_ _
        have HEND := Lib.hid ((hI.out.call hb.out).post hi (no_size (by rw [List.length_drop, size_list, ← HT.out, HN.out]; exact hNs)))
        go_wp2
        go_ret2
        exact HEND.out
      · have hd9 : decide (((s.size - i : Nat) : Int) - 8 < (N : Int)) = false := decide_eq_false (by omega)
        have hw4 : IntKind.i64.wrap ((N : Int) + 4) = (N : Int) + 4 := IntWalk.i64_in _ (by omega)
        have hn4 : ((N : Int) + 4).toNat = N + 4 := by omega
        have b4 : (0 : Int) ≤ (N : Int) + 4 := by omega
        have l4 : (N : Int) + 4 ≤ ((s.size - i : Nat) : Int) := by omega
        refine wp_region_L (fun _ _ => True) (by kernel_rfl) ?_
        replace hb : Hid (Below wr.heap.size wr (wr.drewN q1).drew) := hb.out.drew
        generalize (wr.drewN q1).drew = wy at *
        refine wpAnyL_takeD (fun _ => True) (i := 0) (v := (.int .i64 (N : Int))) (some 21) rfl rfl (by kernel_rfl) (by kernel_rfl) (by kernel_rfl) (fun _ _ _ h => h) (fun _ _ _ _ _ _ => trivial) (fun _ _ _ => Iff.rfl) trivial (Or.inl ⟨by rfl, fun w' hw' => by go_simp⟩) trivial ?_
        simp only [Act.put, List.setIfInBounds_toArray, List.set_cons_zero, List.set_cons_succ]
        refine wpAnyL_takeD (fun _ => True) (i := 1) (v := (.string (s.extract i s.size))) (some 22) rfl rfl (by kernel_rfl) (by kernel_rfl) (by kernel_rfl) (fun _ _ _ h => h) (fun _ _ _ _ _ _ => trivial) (fun _ _ _ => Iff.rfl) trivial (Or.inl ⟨by rfl, fun w' hw' => by go_simp⟩) trivial ?_
        simp only [Act.put, List.setIfInBounds_toArray, List.set_cons_zero, List.set_cons_succ]
        refine wpAnyL_takeD (fun _ => True) (i := 2) (v := (.int .i64 ((s.size - i : Nat) : Int))) (some 23) rfl rfl (by kernel_rfl) (by kernel_rfl) (by kernel_rfl) (fun _ _ _ h => h) (fun _ _ _ _ _ _ => trivial) (fun _ _ _ => Iff.rfl) trivial (Or.inl ⟨by rfl, fun w' hw' => by go_simp⟩) trivial ?_
        simp only [Act.put, List.setIfInBounds_toArray, List.set_cons_zero, List.set_cons_succ]
        refine wpAnyL_takeD (fun _ => True) (i := 3) (v := (.int .i64 (((s.size - i : Nat) : Int) - 8))) (some 24) rfl rfl (by kernel_rfl) (by kernel_rfl) (by kernel_rfl) (fun _ _ _ h => h) (fun _ _ _ _ _ _ => trivial) (fun _ _ _ => Iff.rfl) trivial (Or.inl ⟨by rfl, fun w' hw' => by go_simp⟩) trivial ?_
        simp only [Act.put, List.setIfInBounds_toArray, List.set_cons_zero, List.set_cons_succ]
        refine wpAnyL_takeD (fun _ => True) (i := 4) (v := (.bool false)) (some 25) rfl rfl (by kernel_rfl) (by kernel_rfl) (by kernel_rfl) (fun _ _ _ h => h) (fun _ _ _ _ _ _ => trivial) (fun _ _ _ => Iff.rfl) trivial (Or.inl ⟨by rfl, fun w' hw' => by go_simp⟩) trivial ?_
        simp only [Act.put, List.setIfInBounds_toArray, List.set_cons_zero, List.set_cons_succ]
        refine wpAnyL_takeD (fun _ => True) (i := 5) (v := (.bool false)) (some 26) rfl rfl (by kernel_rfl) (by kernel_rfl) (by kernel_rfl) (fun _ _ _ h => h) (fun _ _ _ _ _ _ => trivial) (fun _ _ _ => Iff.rfl) trivial (Or.inl ⟨by rfl, fun w' hw' => by go_simp⟩) trivial ?_
        simp only [Act.put, List.setIfInBounds_toArray, List.set_cons_zero, List.set_cons_succ]
        refine wpAnyL_takeD (fun _ => True) (i := 6) (v := (.string (s.extract i s.size))) (some 27) rfl rfl (by kernel_rfl) (by kernel_rfl) (by kernel_rfl) (fun _ _ _ h => h) (fun _ _ _ _ _ _ => trivial) (fun _ _ _ => Iff.rfl) trivial (Or.inl ⟨by rfl, fun w' hw' => by go_simp⟩) trivial ?_
        simp only [Act.put, List.setIfInBounds_toArray, List.set_cons_zero, List.set_cons_succ]
        refine wpAnyL_takeD (fun _ => True) (i := 7) (v := (.int .i64 (N : Int))) (some 28) rfl rfl (by kernel_rfl) (by kernel_rfl) (by kernel_rfl) (fun _ _ _ h => h) (fun _ _ _ _ _ _ => trivial) (fun _ _ _ => Iff.rfl) trivial (Or.inl ⟨by rfl, fun w' hw' => by go_simp⟩) trivial ?_
        simp only [Act.put, List.setIfInBounds_toArray, List.set_cons_zero, List.set_cons_succ]
        refine wpAnyL_takeD (fun _ => True) (i := 8) (v := (.int .i64 ((N : Int) + 4))) (some 29) rfl rfl (by kernel_rfl) (by kernel_rfl) (by kernel_rfl) (fun _ _ _ h => h) (fun _ _ _ _ _ _ => trivial) (fun _ _ _ => Iff.rfl) trivial (Or.inl ⟨by rfl, fun w' hw' => by go_simp⟩) trivial ?_
        simp only [Act.put, List.setIfInBounds_toArray, List.set_cons_zero, List.set_cons_succ]
        refine wpAnyL_takeD (fun _ => True) (i := 10) (v := (.string (s.extract i s.size))) (some 31) rfl rfl (by kernel_rfl) (by kernel_rfl) (by kernel_rfl) (fun _ _ _ h => h) (fun _ _ _ _ _ _ => trivial) (fun _ _ _ => Iff.rfl) trivial (Or.inl ⟨by rfl, fun w' hw' => by go_simp⟩) trivial ?_
        simp only [Act.put, List.setIfInBounds_toArray, List.set_cons_zero, List.set_cons_succ]
        refine wpAnyL_takeD (fun _ => True) (i := 11) (v := (.int .i64 (N : Int))) (some 32) rfl rfl (by kernel_rfl) (by kernel_rfl) (by kernel_rfl) (fun _ _ _ h => h) (fun _ _ _ _ _ _ => trivial) (fun _ _ _ => Iff.rfl) trivial (Or.inl ⟨by rfl, fun w' hw' => by go_simp⟩) trivial ?_
        simp only [Act.put, List.setIfInBounds_toArray, List.set_cons_zero, List.set_cons_succ]
        refine wpAnyL_takeD (fun _ => True) (i := 12) (v := (.int .i64 ((N : Int) + 4))) (some 33) rfl rfl (by kernel_rfl) (by kernel_rfl) (by kernel_rfl) (fun _ _ _ h => h) (fun _ _ _ _ _ _ => trivial) (fun _ _ _ => Iff.rfl) trivial (Or.inl ⟨by rfl, fun w' hw' => by go_simp⟩) trivial ?_
        simp only [Act.put, List.setIfInBounds_toArray, List.set_cons_zero, List.set_cons_succ]
        refine wpAnyL_takeD (fun _ => True) (i := 13) (v := (.string ((s.extract i s.size).extract 0 (N + 4)))) (some 34) rfl rfl (by kernel_rfl) (by kernel_rfl) (by kernel_rfl) (fun _ _ _ h => h) (fun _ _ _ _ _ _ => trivial) (fun _ _ _ => Iff.rfl) trivial (Or.inl ⟨by rfl, fun w' hw' => by go_simp⟩) trivial ?_
        simp only [Act.put, List.setIfInBounds_toArray, List.set_cons_zero, List.set_cons_succ]
        have hsT : (s.extract i s.size).size ≤ 1000000000000000 := by rw [HZ.out]; omega
        have hsU : ((s.extract i s.size).extract 0 (N + 4)).size ≤ 1000000000000000 := by rw [ByteArray.size_extract]; omega
        refine wpAnyL_one (i := 9) (by decide +kernel) ?_
        refine wpOp_go (o := _) rfl (fun K hK => ?_)
        go_simp
        go_at_call 54
        refine (word_any (s.extract i s.size) (N + 4) _ (by rw [HZ.out]; omega) hsT).mono ?_; rintro _ w2 ⟨rfl, q2, rfl⟩
        refine hK _ _ ⟨trivial, ?_⟩
        clear hK K
        have hb2 : Hid (Below wr.heap.size wr (wy.drewN q2)) := hb.out.trans (⟨rfl, rfl, rfl, Nat.le_refl _, fun _ _ => rfl⟩ : Below wr.heap.size wy (wy.drewN q2))
        generalize wy.drewN q2 = wz at *
        have HC := Lib.hid (rcrc_any ((s.extract i s.size).extract 0 (N + 4)) wz hsU)
        have hCe : Hid (((s.extract i s.size).extract 0 (N + 4)).data.toList = (s.data.toList.drop i).take (N + 4)) := by
          show _ = _
          rw [take_mk' , HT.out]
        rw [hCe.out] at HC
        have hWe : Hid (wordL (s.extract i s.size).data.toList (N + 4) = wordL (s.data.toList.drop i) (N + 4)) := by show _ = _; rw [HT.out]
        rw [hWe.out]
        refine wpAnyL_one (i := 14) (by decide +kernel) ?_
        refine wpOp_go (o := _) rfl (fun K hK => ?_)
        go_simp
        go_at_call 53
        refine HC.out.mono ?_; rintro _ w3 ⟨rfl, hb3⟩
        refine hK _ _ ⟨trivial, ?_⟩
        clear hK K
        have hb4 : Hid (Below wr.heap.size wr w3) := bt hb2.out hb3
        by_cases hxy : wordL (s.data.toList.drop i) (N + 4) = crcL ((s.data.toList.drop i).take (N + 4))
        · have HST : Hid (∀ r, payM (payL (s.data.toList.drop i)) = (r, true) → Stands (s.data.toList.drop i) r) := fun r hp => stands_of_ref (by rw [← HT.out, HN.out, HT.out, List.length_drop, size_list]; omega) (by rw [← HT.out, HN.out, HT.out]; exact hxy) hp
          have HXY := Lib.hid hxy
          have hne : ((wordL (s.data.toList.drop i) (N + 4) : Int) != (crcL ((s.data.toList.drop i).take (N + 4)) : Int)) = false := by simp [hxy]
          clear hxy
          generalize wordL (s.data.toList.drop i) (N + 4) = X at *
          generalize crcL ((s.data.toList.drop i).take (N + 4)) = Y at *
          refine wpAnyL_takeD (fun _ => True) (i := 15) (v := (.bool false)) (some 36) rfl rfl (by kernel_rfl) (by kernel_rfl) (by kernel_rfl) (fun _ _ _ h => h) (fun _ _ _ _ _ _ => trivial) (fun _ _ _ => Iff.rfl) trivial (Or.inl ⟨by rfl, fun w' hw' => by go_simp⟩) trivial ?_
          simp only [Act.put, List.setIfInBounds_toArray, List.set_cons_zero, List.set_cons_succ]
          refine wpAnyL_takeD (fun _ => True) (i := 16) (v := (.bool false)) (some 37) rfl rfl (by kernel_rfl) (by kernel_rfl) (by kernel_rfl) (fun _ _ _ h => h) (fun _ _ _ _ _ _ => trivial) (fun _ _ _ => Iff.rfl) trivial (Or.inl ⟨by rfl, fun w' hw' => by go_simp⟩) trivial ?_
          simp only [Act.put, List.setIfInBounds_toArray, List.set_cons_zero, List.set_cons_succ]
          refine wpAnyL_done (by decide +kernel) ?_ _
          have hsP : (payL (s.data.toList.drop i)).size ≤ 1000000000000000 := by
            have := payL_size (s.data.toList.drop i)
            rw [List.length_drop, size_list] at this
            omega
          have HP := Lib.hid (payload_any (payL (s.data.toList.drop i)) w3 hsP)
          have hp := pair_ex (payM (payL (s.data.toList.drop i)))
          obtain ⟨r, ok, hp⟩ := hp
          rw [hp] at HP
          have HE : Hid ((s.extract i s.size).extract 4 (N + 4) = payL (s.data.toList.drop i)) := pay_ext HT.out HN.out
          have b44 : (4 : Int) ≤ (N : Int) + 4 := by omega
          have hp1 := Lib.hid hp
          clear hp
          have HI3 := Lib.hid (hI.out.call hb4.out)
          go_wp2_with fail
          rw [HE.out]
          refine HP.out.mono ?_; rintro _ w4 ⟨v, v2, rfl, o1, o2, hb5⟩
          obtain ⟨A1, c1, rfl, _⟩ := own_form o1
          obtain ⟨A2, c2, rfl, _⟩ := own_form o2
          have HX := Lib.hid (ScanX.begin (x := ⟨r, .slice A1 r.add.length c1, .slice A2 r.rem.length c2⟩) HI3.out o1 o2 hb5)
          clear o1 o2 hb5 HP HI3
          obtain ⟨kd, ve, ns, ni, add, rem⟩ := r
          dsimp only at HX ⊢
          cases ok
          · have HEND := Lib.hid (HX.out.scn.post hi (no_pay hp1.out))
            go_wp2_with fail
            go_ret2
            exact HEND.out
          · have hst := HST.out _ hp1.out
            have hle : (encR ⟨kd, ve, ns, ni, add, rem⟩).length = N + 8 := by
              rw [encR_len, ← (stands_pay hst).1, ← HT.out, HN.out]
            have HSN := Lib.hid (And.intro hst hle)
            clear hst hle HST hp1
            have hsm := HX.out.scn.sm
            go_upto_region 10 with fail
            generalize w4.alloc (.cells #[.int .i64 kd, .int .i64 ve, .int .i64 ns, .int .i64 ni, .slice A1 add.length c1, .slice A2 rem.length c2] 31) = w5 at *
            generalize w4.heap.size = g at *
            have r0 : w5.cell? ⟨g, 0, none⟩ = some (.int .i64 kd) := HX.out.blk.cellAt 0 rfl
            have r1 : w5.cell? ⟨g, 1, none⟩ = some (.int .i64 ve) := HX.out.blk.cellAt 1 rfl
            have r2 : w5.cell? ⟨g, 2, none⟩ = some (.int .i64 ns) := HX.out.blk.cellAt 2 rfl
            have r3 : w5.cell? ⟨g, 3, none⟩ = some (.int .i64 ni) := HX.out.blk.cellAt 3 rfl
            have r4 : w5.cell? ⟨g, 4, none⟩ = some (.slice A1 add.length c1) := HX.out.blk.cellAt 4 rfl
            have r5 : w5.cell? ⟨g, 5, none⟩ = some (.slice A2 rem.length c2) := HX.out.blk.cellAt 5 rfl
            have hq : q = xs.length := (own_len HX.out.scn.own.1).1
            subst hq
            have hown := HX.out.scn.own
            go_wp2_with (at_builtin; refine own_one2 hown recs rfl (by decide) rfl (one_rc ⟨kd, ve, ns, ni, add, rem⟩ A1 A2 add.length c1 rem.length c2) (by omega) (by unfold maxLen; omega) ?_ rfl _ _ rfl rfl rfl)
            intro v' w' hA2
            have hN := HX.out.scn.next HX.out.lie ⟨HSN.out.1.1, HSN.out.1.2.1⟩ HSN.out.1 hA2
            rw [HSN.out.2] at hN
            have HNX := Lib.hid hN
            clear hN hA2 hown r0 r1 r2 r3 r4 r5
            have hw9 : IntKind.i64.wrap ((N : Int) + 8) = (N : Int) + 8 := IntWalk.i64_in _ (by omega)
            have hw10 : IntKind.i64.wrap ((i : Int) + ((N : Int) + 8)) = (i : Int) + ((N : Int) + 8) := IntWalk.i64_in _ (by omega)
            go_wp2
            go_roundw
            case rel => exact ⟨i + (N + 8), _, by go_num, by omega, HNX⟩
            case measure => simp [intOf]; omega
        · have hne : ((wordL (s.data.toList.drop i) (N + 4) : Int) != (crcL ((s.data.toList.drop i).take (N + 4)) : Int)) = true := by simp; omega
          have HEND := Lib.hid ((hI.out.call hb4.out).post hi (no_crc (by rw [← HT.out, HN.out, HT.out]; exact hxy)))
          clear hxy
          generalize wordL (s.data.toList.drop i) (N + 4) = X at *
          generalize crcL ((s.data.toList.drop i).take (N + 4)) = Y at *
          refine wpAnyL_takeD (fun _ => True) (i := 15) (v := (.bool true)) (some 36) rfl rfl (by kernel_rfl) (by kernel_rfl) (by kernel_rfl) (fun _ _ _ h => h) (fun _ _ _ _ _ _ => trivial) (fun _ _ _ => Iff.rfl) trivial (Or.inl ⟨by rfl, fun w' hw' => by go_simp⟩) trivial ?_
          simp only [Act.put, List.setIfInBounds_toArray, List.set_cons_zero, List.set_cons_succ]
          refine wpAnyL_takeD (fun _ => True) (i := 16) (v := (.bool true)) (some 37) rfl rfl (by kernel_rfl) (by kernel_rfl) (by kernel_rfl) (fun _ _ _ h => h) (fun _ _ _ _ _ _ => trivial) (fun _ _ _ => Iff.rfl) trivial (Or.inl ⟨by rfl, fun w' hw' => by go_simp⟩) trivial ?_
          simp only [Act.put, List.setIfInBounds_toArray, List.set_cons_zero, List.set_cons_succ]
          refine wpAnyL_done (by decide +kernel) ?_ _
          go_wp2
          go_ret2
          exact HEND.out

end Go.Proofs.Ytgacjpkgpegcdaa
