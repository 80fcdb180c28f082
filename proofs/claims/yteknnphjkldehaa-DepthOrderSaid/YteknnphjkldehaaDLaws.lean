/-
  The walks of the laws of layer 27, first part.
-/
import Derived.Test.YteknnphjkldehaaDAwake
import Derived.Test.YteknnphjkldehaaDPlain2
namespace Go.Proofs.Yteknnphjkldehaa
open Go.RowKit

set_option maxRecDepth 100000 in
set_option maxHeartbeats 1000000 in
theorem walk_DepthDisjoint
  (A : Option Addr) (n c : Nat) (zs : List Int) (w : World)
      (hr : Rd w w.heap.size A (zs.map Iv)) (hn : zs.length = n) (hz : ∀ z ∈ zs, (Lit.int .i64 z).wf = true) (_hc : n ≤ c) (hb : n * 8 ≤ 140737488351232) :
    Calls Try.prog 3 #[.slice A n c] w fun e w' => e = .returned (.bool true) ∧ Below w.heap.size w w' := by
  have HZ := Lib.hid (wf_i64s hz)
  have HN := Lib.hid hn
  clear hz hn _hc
  go_enter Try.func3, Try.ntmps3
  go_wp2_with fail
  refine (ranges_any A n c 5 zs _ hr HN.out HZ.out (by omega) (by omega)).mono ?_; rintro e w1 ⟨v1, r, rfl, ho1, hg1, hl1, hb1⟩
  obtain ⟨B1, d1, rfl, hd1⟩ := own_form ho1
  have hx1 := Rd.of_own ho1
  have HC := Lib.hid (gen_chk hg1 (by omega))
  have HG := Lib.hid hg1
  clear ho1 hr hg1
  go_wp2_with fail
  refine (awake27 _).mono ?_; rintro e w2 ⟨rfl, hb2⟩
  go_wp2_with fail
  refine (disj_any 1 B1 _ d1 r _ (hx1.call hb2) rfl (by omega)).mono ?_; rintro e w3 ⟨rfl, hb3⟩
  rw [HC.out]
  go_wp2_with fail
  refine (depth_any 1 B1 _ d1 r _ ((hx1.call hb2).call hb3) rfl (by omega)).mono ?_; rintro e w4 ⟨rfl, hb4⟩
  generalize (mostR 1 r).1 = m
  go_wp2
  go_ret
  exact ⟨ret_bool (by first | rfl | (simp; done) | (simp; omega)), bt (bt (bt hb1 hb2) hb3) hb4⟩

set_option maxRecDepth 100000 in
set_option maxHeartbeats 4000000 in
theorem walk_DepthIsGreatest
  (A : Option Addr) (n c : Nat) (zs : List Int) (w : World)
      (hr : Rd w w.heap.size A (zs.map Iv)) (hn : zs.length = n) (hz : ∀ z ∈ zs, (Lit.int .i64 z).wf = true) (_hc : n ≤ c) (hb : n * 8 ≤ 140737488351232) :
    Calls Try.prog 10 #[.slice A n c] w fun e w' => e = .returned (.bool true) ∧ Below w.heap.size w w' := by
  have HZ := Lib.hid (wf_i64s hz)
  have HN := Lib.hid hn
  clear hz hn _hc
  go_enter Try.func10, Try.ntmps10
  go_wp2_with fail
  refine (ranges_any A n c 8 zs _ hr HN.out HZ.out (by omega) (by omega)).mono ?_; rintro e w1 ⟨v1, r, rfl, ho1, hg1, hl1, hb1⟩
  obtain ⟨B1, d1, rfl, hd1⟩ := own_form ho1
  have hx1 := Rd.of_own ho1
  have HC := Lib.hid (gen_chk hg1 (by omega))
  have HG := Lib.hid hg1
  clear ho1 hr hg1
  go_wp2_with fail
  refine (depth_any 1 B1 _ d1 r _ hx1 rfl (by omega)).mono ?_; rintro e w2 ⟨rfl, hb2⟩
  have hx2 := hx1.call hb2
  have hb12 := bt hb1 hb2
  have HLE := Lib.hid (fun p => stab_le_depth HC.out p)
  have hdl := mostR_le 1 r
  have HP := Lib.hid (fun h => peak_at (t := 1) (L := r) HC.out h)
  have HGR := Lib.hid (depth_grid HG.out HC.out)
  have HPK := Lib.hid (rfl : mostR 1 r = mostR 1 r)
  obtain ⟨m, hmm⟩ : ∃ m, m = mostR 1 r := ⟨_, rfl⟩
  rw [← hmm] at HLE hdl HP HGR ⊢
  have HM := Lib.hid hmm
  clear hmm hx1 hb1 hb2 HPK
  obtain ⟨d, at_⟩ := m
  dsimp only at HLE hdl HP HGR ⊢
  go_wp2_with fail
  go_loopw [5, 6] (fun f kk wr => ∃ (k : Int) (f0 : Bool), kk = .int .i64 k ∧ f = .bool f0 ∧ -1 ≤ k ∧ k ≤ 13 ∧ Hid (∀ x y : Int, -1 ≤ x → x < k → 0 ≤ y → y < 3 → stabC 1 r ⟨⟨false, x, ⟨#[]⟩⟩, y⟩ = d → f0 = true) ∧ Below w2.heap.size w2 wr) (fun _ kk _ => (13 - intOf kk).toNat)
  case atStart => exact ⟨-1, false, rfl, rfl, by omega, by omega, (fun x y h1 h2 => by omega), Below.refl _ _⟩
  case round =>
    obtain ⟨k, f0, rfl, rfl, hk1, hk2, HK, hb⟩ := hrel
    by_cases hin : k < 13
    · go_wp2_with fail
      go_loopw [5, 7] (fun f ss wr => ∃ (s : Int) (f1 : Bool), ss = .int .i64 s ∧ f = .bool f1 ∧ 0 ≤ s ∧ s ≤ 3 ∧ Hid (∀ x y : Int, -1 ≤ x → x < k → 0 ≤ y → y < 3 → stabC 1 r ⟨⟨false, x, ⟨#[]⟩⟩, y⟩ = d → f1 = true) ∧ Hid (∀ y : Int, 0 ≤ y → y < s → stabC 1 r ⟨⟨false, k, ⟨#[]⟩⟩, y⟩ = d → f1 = true) ∧ Below w2.heap.size w2 wr) (fun _ ss _ => (3 - intOf ss).toNat)
      case atStart => exact ⟨0, f0, rfl, rfl, by omega, by omega, HK, (fun y h1 h2 => by omega), hb⟩
      case round =>
        clear HK hb
        obtain ⟨s, f1, rfl, rfl, hs1, hs2, HK, HS, hb⟩ := hrel
        by_cases hsn : s < 3
        · go_wp2_with fail
          refine (stab_any 1 B1 _ d1 r ⟨⟨false, k, ⟨#[]⟩⟩, s⟩ _ (hx2.call hb) rfl (by omega)).mono ?_; rintro e w3 ⟨rfl, hb3⟩
          have hle := HLE.out ⟨⟨false, k, ⟨#[]⟩⟩, s⟩
          have HV : Hid (∃ v, v = stabC 1 r ⟨⟨false, k, ⟨#[]⟩⟩, s⟩) := ⟨_, rfl⟩
          obtain ⟨v, hv⟩ := HV.out
          have HVV := Lib.hid hv
          rw [← hv] at hle ⊢
          clear hv HV
          cases f1
          · by_cases hvd : v = d
            · have hq : ((v : Int) == (d : Int)) = true := by simp only [beq_iff_eq]; omega
              go_wp2
              go_roundw
              case rel => exact ⟨s + 1, true, rfl, by first | rfl | simp, by omega, by omega, (fun _ _ _ _ _ _ _ => rfl), (fun _ _ _ _ => rfl), bt hb hb3⟩
              case measure => simp [intOf]; omega
            · have hq : ((v : Int) == (d : Int)) = false := by simp only [beq_eq_false_iff_ne]; omega
              go_wp2
              go_roundw
              case rel => exact ⟨s + 1, false, rfl, by first | rfl | simp, by omega, by omega, HK, (fun y h1 h2 h3 => by
                by_cases hy : y = s
                · subst hy; rw [← HVV.out] at h3; exact absurd h3 hvd
                · exact HS.out y h1 (by omega) h3), bt hb hb3⟩
              case measure => simp [intOf]; omega
          · go_wp2
            go_roundw
            case rel => exact ⟨s + 1, true, rfl, by first | rfl | simp, by omega, by omega, (fun _ _ _ _ _ _ _ => rfl), (fun _ _ _ _ => rfl), bt hb hb3⟩
            case measure => simp [intOf]; omega
        · have hs3 : s = 3 := by omega
          subst hs3
          go_wp2
          go_roundw
          case rel => exact ⟨k + 1, f1, rfl, rfl, by omega, by omega, (fun x y h1 h2 h3 h4 h5 => by
            by_cases hx : x = k
            · subst hx; exact HS.out y h3 h4 h5
            · exact HK.out x y h1 (by omega) h3 h4 h5), hb⟩
          case measure => simp [intOf]; omega
    · have hk3 : k = 13 := by omega
      subst hk3
      have hf : f0 = true := by
        obtain ⟨x, y, h1, h2, h3, h4, h5⟩ := HGR.out
        exact HK.out x y h1 h2 h3 h4 h5
      subst hf
      obtain ⟨⟨an, ai, az⟩, aq⟩ := at_
      clear HK HGR HLE
      go_wp2_with fail
      refine (peak_any 1 B1 _ d1 r _ (hx2.call hb) rfl (by omega)).mono ?_; rintro e w3 ⟨rfl, hb3⟩
      rw [← HM.out]
      dsimp only [Rv]
      have hN := Blk.new' w3 33 #[.bool an, .int .i64 ai, .string az, .int .i64 aq]
      have hb4 := bt hb3 ((Below.refl _ _).alloc (Nat.le_refl _) (.cells #[.bool an, .int .i64 ai, .string az, .int .i64 aq] 33))
      cases r with
      | nil =>
        have hd0 : d = 0 := by simp at hdl; omega
        subst hd0
        go_wp2_with fail
        refine (awake27 _).mono ?_; rintro e w5 ⟨rfl, hb5⟩
        go_wp2
        go_ret
        exact ⟨ret_bool (by first | rfl | (simp; done)), bt (bt (bt hb12 hb) hb4) hb5⟩
      | cons a X =>
        obtain ⟨hd0, hst⟩ := HP.out (by simp)
        have hdd : decide ((0 : Int) < (d : Int)) = true := by simpa using hd0
        have hdd' : decide (0 < d) = true := by simpa using hd0
        have HST := Lib.hid hst
        clear hst HP
        have hpos : 0 < (a :: X).length := by simp
        generalize a :: X = r at *
        go_wp2_with fail
        generalize w3.alloc (.cells #[.bool an, .int .i64 ai, .string az, .int .i64 aq] 33) = w4 at *
        refine (awake27 _).mono ?_; rintro e w5 ⟨rfl, hb5⟩
        have hN5 := hN.call hb5
        have o0 := hN5.cellAt 0 rfl
        have o1 := hN5.cellAt 1 rfl
        have o2 := hN5.cellAt 2 rfl
        have o3 := hN5.cellAt 3 rfl
        go_wp2_with fail
        refine (stab_any 1 B1 _ d1 r ⟨⟨an, ai, az⟩, aq⟩ _ ((hx2.call (bt hb hb4)).call hb5) rfl (by omega)).mono ?_; rintro e w6 ⟨rfl, hb6⟩
        rw [HST.out]
        go_wp2
        go_ret
        exact ⟨ret_bool (by first | rfl | (simp; done)), bt (bt (bt (bt hb12 hb) hb4) hb5) hb6⟩

end Go.Proofs.Yteknnphjkldehaa
