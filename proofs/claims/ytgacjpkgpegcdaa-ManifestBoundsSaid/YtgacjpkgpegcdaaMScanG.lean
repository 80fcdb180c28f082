/-
  The program's Scan.
-/
import Derived.Test.YtgacjpkgpegcdaaMScanR
import Derived.Test.YtgacjpkgpegcdaaMDec
import Derived.Test.YtgacjpkgpegcdaaMShelf
import Derived.Test.YtgacjpkgpegcdaaMEnc
namespace Go.Proofs.Ytgacjpkgpegcdaa
open Go.RowKit

theorem ScanI.postC {w wr : World} {s : ByteArray} {A : Option Addr} {q c i : Nat} {xs : List RV} (h : ScanI w wr s.data.toList (.slice A q c) xs i) (hi : i ≤ s.size) (hs : ∀ r, ¬ Stands (s.data.toList.drop i) r) : ScanPost w s (.returned (.tuple #[.slice A q q, .int .i64 (i : Int)])) wr := by
  obtain ⟨A', c', n, xs', e, h1, h2, h3, h4, h5, h6⟩ := h.post hi hs
  injection e with e
  injection e with e
  simp only [Array.mk.injEq, List.cons.injEq, Value.slice.injEq, Value.int.injEq, true_and, and_true] at e
  obtain ⟨⟨rfl, rfl, rfl⟩, e2⟩ := e
  have e3 : i = n := by omega
  subst e3
  exact ⟨A, xs'.length, i, xs', rfl, Nat.le_refl _, h2, h3, h4, h5, h6⟩
theorem decT_len (s : ByteArray) : (decT s).add.length ≤ 256 ∧ (decT s).rem.length ≤ 256 := by
  unfold decT
  split
  · simp [zeroRc]
  · simp only [entsT_len, remsT_len]
    have h1 := cntT_rng s (numT s (numT s (numT s (1, false)).2).2).2
    constructor
    · omega
    · have := cntT_rng s (entsT s (cntT s (numT s (numT s (numT s (1, false)).2).2).2).1.toNat (cntT s (numT s (numT s (numT s (1, false)).2).2).2).2).2
      omega
theorem InA.rcat {w : World} {v : Value} {r : Rc} {A A2 : Option Addr} {q c q2 c2 : Nat} (h : InA w v ⟨r, .slice A q c, .slice A2 q2 c2⟩) (h1 : r.add.length ≤ 1000) (h2 : r.rem.length ≤ 1000) : RcAt w r A q c A2 q2 c2 := by
  obtain ⟨A', c', A2', c2', e1, l1, e2, l2, r1, r2⟩ := h
  simp only [Value.slice.injEq] at e1 e2
  obtain ⟨rfl, rfl, rfl⟩ := e1
  obtain ⟨rfl, rfl, rfl⟩ := e2
  exact ⟨r1.rd, r2.rd, rfl, rfl, l1, l2, by omega, by omega⟩
theorem has_iff {t e : List UInt8} : Lib.hasPrefix t (⟨e.toArray⟩ : ByteArray).data.toList = true ↔ e <+: t := by
  unfold Lib.hasPrefix
  exact List.isPrefixOf_iff_prefix
theorem pay_at {s : ByteArray} {i N : Nat} (h : (s.extract i s.size).data.toList = s.data.toList.drop i) (hN : wordL (s.extract i s.size).data.toList 0 = N) : s.extract (i + 4) (i + 4 + N) = payL (s.data.toList.drop i) := by
  rw [h] at hN
  subst hN
  apply ByteArray.ext
  apply Array.toList_inj.1
  rw [ByteArray.data_extract, Array.toList_extract, List.extract_eq_take_drop]
  simp [payL, List.drop_drop]
set_option maxRecDepth 100000 in
set_option maxHeartbeats 2000000 in
theorem scan_any (s : ByteArray) (w : World) (hsz : s.size ≤ 1000000000000) : Calls Try.prog 11 #[.string s] w (ScanPost w s) := by
  have hI := ScanI.start w s.data.toList
  go_enter Try.func11, Try.ntmps11
  go_wp2_with fail
  go_loopw [4, 5] (fun a b wr => ∃ (i : Nat) (xs : List RV), b = .int .i64 (i : Int) ∧ i ≤ s.size ∧ Hid (ScanI w wr s.data.toList a xs i)) (fun _ b _ => s.size - (intOf b).toNat)
  case atStart => exact ⟨0, [], rfl, by omega, hI⟩
  case round =>
    clear hI
    obtain ⟨i, xs, rfl, hi, hI⟩ := hrel
    obtain ⟨A, c, q, hv⟩ := slice_form hI.out.own.1
    subst hv
    have hqc : q ≤ c := by
      have := own_len hI.out.own.1
      omega
    have hws : IntKind.i64.wrap ((s.size : Int) - (i : Int)) = (s.size : Int) - (i : Int) := IntWalk.i64_in _ (by omega)
    by_cases h8 : s.size - i < 8
    · have hd8 : decide (8 ≤ (s.size : Int) - (i : Int)) = false := decide_eq_false (by omega)
      have HEND := Lib.hid (hI.out.postC hi (no_short (by rw [List.length_drop, size_list]; exact h8)))
      go_wp2_with fail
      refine (clip_any _ _ _ _ hqc).mono ?_; rintro _ w9 ⟨rfl, rfl⟩
      go_wp2
      go_ret2
      exact HEND.out
    · have hd8 : decide (8 ≤ (s.size : Int) - (i : Int)) = true := decide_eq_true (by omega)
      have HT : Hid ((s.extract i s.size).data.toList = s.data.toList.drop i) := by
        show _ = _
        rw [ByteArray.data_extract, Array.toList_extract, List.extract_eq_take_drop]
        exact List.take_of_length_le (by rw [List.length_drop, size_list]; exact Nat.le_refl _)
      have HZ : Hid ((s.extract i s.size).size = s.size - i) := by
        show _ = _
        rw [ByteArray.size_extract]; omega
      have W0 := Lib.hid (get4_any (s.extract i s.size) wr (by rw [HZ.out]; omega) (by rw [HZ.out]; omega))
      have hN : ∃ N, wordL (s.extract i s.size).data.toList 0 = N := ⟨_, rfl⟩
      obtain ⟨N, hN⟩ := hN
      have hNl : N < 4294967296 := by rw [← hN]; exact word_lt _ _
      rw [hN] at W0
      have HN := Lib.hid hN
      clear hN
      go_wp2_with fail
      refine W0.out.mono ?_; rintro _ w1 ⟨rfl, q1, rfl⟩
      have hb : Hid (Below wr.heap.size wr (wr.drewN q1)) := (⟨rfl, rfl, rfl, Nat.le_refl _, fun _ _ => rfl⟩ : Below wr.heap.size wr (wr.drewN q1))
      have HI2 := Lib.hid (hI.out.call hb.out)
      clear hI W0
      generalize wr.drewN q1 = wx at *
      have hw8 : IntKind.i64.wrap ((s.size : Int) - (i : Int) - 8) = (s.size : Int) - (i : Int) - 8 := IntWalk.i64_in _ (by omega)
      by_cases hNs : s.size - i < N + 8
      · have hd9 : decide ((s.size : Int) - (i : Int) - 8 < (N : Int)) = true := decide_eq_true (by omega)
        have HEND := Lib.hid (HI2.out.postC hi (no_size (by rw [List.length_drop, size_list, ← HT.out, HN.out]; exact hNs)))
        go_wp2_with fail
        refine (clip_any _ _ _ _ hqc).mono ?_; rintro _ w9 ⟨rfl, rfl⟩
        go_wp2
        go_ret2
        exact HEND.out
      · have hd9 : decide ((s.size : Int) - (i : Int) - 8 < (N : Int)) = false := decide_eq_false (by omega)
        have hw4 : IntKind.i64.wrap ((i : Int) + 4) = (i : Int) + 4 := IntWalk.i64_in _ (by omega)
        have hw5 : IntKind.i64.wrap ((i : Int) + 4 + (N : Int)) = (i : Int) + 4 + (N : Int) := IntWalk.i64_in _ (by omega)
        have hn4 : ((i : Int) + 4).toNat = i + 4 := by omega
        have hn5 : ((i : Int) + 4 + (N : Int)).toNat = i + 4 + N := by omega
        have b4 : (0 : Int) ≤ (i : Int) + 4 := by omega
        have b5 : (i : Int) + 4 ≤ (i : Int) + 4 + (N : Int) := by omega
        have b6 : (i : Int) + 4 + (N : Int) ≤ (s.size : Int) := by omega
        have hsP : (payL (s.data.toList.drop i)).size ≤ 1000000000000000 := by
          have := payL_size (s.data.toList.drop i)
          rw [List.length_drop, size_list] at this
          omega
        have HE : Hid (s.extract (i + 4) (i + 4 + N) = payL (s.data.toList.drop i)) := pay_at HT.out HN.out
        have HP := Lib.hid (decode_any (payL (s.data.toList.drop i)) wx hsP)
        have hdl := decT_len (payL (s.data.toList.drop i))
        have HKK := Lib.hid (decT_keys (payL (s.data.toList.drop i)))
        have HD : Hid (∃ d, decT (payL (s.data.toList.drop i)) = d) := ⟨_, rfl⟩
        obtain ⟨⟨kd, ve, ns, ni, add, rem⟩, hD⟩ := HD.out
        rw [hD] at HP hdl HKK
        have HDD := Lib.hid hD
        clear hD HD
        go_wp2_with fail
        rw [HE.out]
        refine HP.out.mono ?_; rintro _ w4 ⟨v, v2, rfl, o1, o2, hb5⟩
        obtain ⟨A1, c1, rfl, _⟩ := own_form o1
        obtain ⟨A2, c2, rfl, _⟩ := own_form o2
        have HX := Lib.hid (ScanX.begin (x := ⟨⟨kd, ve, ns, ni, add, rem⟩, .slice A1 add.length c1, .slice A2 rem.length c2⟩) HI2.out o1 o2 hb5)
        clear o1 o2 hb5 HP HI2
        dsimp only at HX hdl ⊢
        go_upto_region 7 with fail
        generalize w4.alloc (.cells #[.int .i64 kd, .int .i64 ve, .int .i64 ns, .int .i64 ni, .slice A1 add.length c1, .slice A2 rem.length c2] 31) = w5 at *
        generalize w4.heap.size = g at *
        have r0 : w5.cell? ⟨g, 0, none⟩ = some (.int .i64 kd) := HX.out.blk.cellAt 0 rfl
        have r1 : w5.cell? ⟨g, 1, none⟩ = some (.int .i64 ve) := HX.out.blk.cellAt 1 rfl
        have r2 : w5.cell? ⟨g, 2, none⟩ = some (.int .i64 ns) := HX.out.blk.cellAt 2 rfl
        have r3 : w5.cell? ⟨g, 3, none⟩ = some (.int .i64 ni) := HX.out.blk.cellAt 3 rfl
        have r4 : w5.cell? ⟨g, 4, none⟩ = some (.slice A1 add.length c1) := HX.out.blk.cellAt 4 rfl
        have r5 : w5.cell? ⟨g, 5, none⟩ = some (.slice A2 rem.length c2) := HX.out.blk.cellAt 5 rfl
        have HEN := Lib.hid (encode_any ⟨kd, ve, ns, ni, add, rem⟩ A1 add.length c1 A2 rem.length c2 w5 (HX.out.lie.rcat (by dsimp only; omega) (by dsimp only; omega)) HKK.out)
        dsimp only [Kv] at HEN
        go_wp2_with fail
        refine HEN.out.mono ?_; rintro _ w6 ⟨rfl, hb6⟩
        have HX6 := Lib.hid (HX.out.call hb6)
        clear HX HEN hb6 r0 r1 r2 r3 r4 r5
        have hch : ∃ ch : Int, chkR ⟨kd, ve, ns, ni, add, rem⟩ = ch := ⟨_, rfl⟩
        obtain ⟨ch, hch⟩ := hch
        rw [hch]
        by_cases h0 : ch = 0
        · subst h0
          have hE : encV ⟨kd, ve, ns, ni, add, rem⟩ = encR ⟨kd, ve, ns, ni, add, rem⟩ := if_pos hch
          rw [hE]
          have HCH := Lib.hid hch
          clear hch hE
          have hEE : ∃ E, encR ⟨kd, ve, ns, ni, add, rem⟩ = E := ⟨_, rfl⟩
          obtain ⟨E, hEE⟩ := hEE
          rw [hEE]
          have HEE := Lib.hid hEE
          clear hEE
          go_wp2_with fail
          refine (hasPrefix_any _ _ _).mono ?_; rintro _ w7 ⟨rfl, rfl⟩
          have hpx : ∃ p, Lib.hasPrefix (s.extract i s.size).data.toList (⟨E.toArray⟩ : ByteArray).data.toList = p := ⟨_, rfl⟩
          obtain ⟨p, hpx⟩ := hpx
          rw [hpx]
          have HPX := Lib.hid hpx
          clear hpx
          cases p
          · have HEND := Lib.hid (HX6.out.scn.postC hi (no_pre (by rw [HDD.out, HEE.out]; exact fun h => by have h2 := has_iff.2 h; rw [← HT.out, HPX.out] at h2; cases h2)))
            go_wp2_with fail
            refine (clip_any _ _ _ _ hqc).mono ?_; rintro _ w9 ⟨rfl, rfl⟩
            go_wp2
            go_ret2
            exact HEND.out
          · have hst := stands_of_prog (t := s.data.toList.drop i) (by rw [HDD.out]; exact HCH.out) (by rw [HDD.out, HEE.out]; exact has_iff.1 (by rw [← HT.out]; exact HPX.out))
            rw [HDD.out] at hst
            have hle : E.length = N + 8 := by
              rw [← HEE.out, encR_len, ← (stands_pay hst).1, ← HT.out, HN.out]
            have HSN := Lib.hid (And.intro hst (HEE.out ▸ hle : (encR ⟨kd, ve, ns, ni, add, rem⟩).length = N + 8))
            clear hst
            have hne : ((E.length : Int) != (N : Int) + 8) = false := by simp; omega
            have hw9 : IntKind.i64.wrap ((N : Int) + 8) = (N : Int) + 8 := IntWalk.i64_in _ (by omega)
            have hsm := HX6.out.scn.sm
            have r0 : w7.cell? ⟨g, 0, none⟩ = some (.int .i64 kd) := HX6.out.blk.cellAt 0 rfl
            have r1 : w7.cell? ⟨g, 1, none⟩ = some (.int .i64 ve) := HX6.out.blk.cellAt 1 rfl
            have r2 : w7.cell? ⟨g, 2, none⟩ = some (.int .i64 ns) := HX6.out.blk.cellAt 2 rfl
            have r3 : w7.cell? ⟨g, 3, none⟩ = some (.int .i64 ni) := HX6.out.blk.cellAt 3 rfl
            have r4 : w7.cell? ⟨g, 4, none⟩ = some (.slice A1 add.length c1) := HX6.out.blk.cellAt 4 rfl
            have r5 : w7.cell? ⟨g, 5, none⟩ = some (.slice A2 rem.length c2) := HX6.out.blk.cellAt 5 rfl
            have hq : q = xs.length := (own_len HX6.out.scn.own.1).1
            subst hq
            have hown := HX6.out.scn.own
            go_wp2_with (at_builtin; refine own_one2 hown recs rfl (by decide) rfl (one_rc ⟨kd, ve, ns, ni, add, rem⟩ A1 A2 add.length c1 rem.length c2) (by omega) (by unfold maxLen; omega) ?_ rfl _ _ rfl rfl rfl)
            intro v' w' hA2
            have hN := HX6.out.scn.next HX6.out.lie ⟨HSN.out.1.1, HSN.out.1.2.1⟩ HSN.out.1 hA2
            rw [HSN.out.2] at hN
            have HNX := Lib.hid hN
            clear hN hA2 hown r0 r1 r2 r3 r4 r5
            have hw10 : IntKind.i64.wrap ((i : Int) + ((N : Int) + 8)) = (i : Int) + ((N : Int) + 8) := IntWalk.i64_in _ (by omega)
            go_wp2
            go_roundw
            case rel => exact ⟨i + (N + 8), _, by go_num, by omega, HNX⟩
            case measure => simp [intOf]; omega
        · have hne : (ch != 0) = true := by simpa using h0
          have HEND := Lib.hid (HX6.out.scn.postC hi (no_chk (by rw [HDD.out, hch]; exact h0)))
          clear h0 hch
          go_wp2_with fail
          refine (clip_any _ _ _ _ hqc).mono ?_; rintro _ w9 ⟨rfl, rfl⟩
          go_wp2
          go_ret2
          exact HEND.out

end Go.Proofs.Ytgacjpkgpegcdaa
