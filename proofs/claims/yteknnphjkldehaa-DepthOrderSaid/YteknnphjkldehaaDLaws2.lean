/-
  The walks of the laws of layer 27, second part.
-/
import Derived.Test.YteknnphjkldehaaDLaws
import Derived.Test.YteknnphjkldehaaDPlain3
namespace Go.Proofs.Yteknnphjkldehaa
open Go.RowKit

theorem beg_no {r : List Rg} {i : Nat} {x : Rg} {p : Rk} (hx : r[i]? = some x) (h : (∃ y ∈ r.take i, y.lo = p) → false = true) (hne : x.lo ≠ p) : (∃ y ∈ r.take (i + 1), y.lo = p) → false = true := by
  rintro ⟨y, hy, e⟩
  rw [List.take_add_one, hx, List.mem_append] at hy
  rcases hy with hy | hy
  · exact h ⟨y, hy, e⟩
  · simp at hy; subst hy; exact absurd e hne
set_option maxRecDepth 100000 in
set_option maxHeartbeats 1000000 in
theorem walk_DepthPeakIsLeast (A : Option Addr) (n c : Nat) (zs : List Int) (w : World)
    (hr : Rd w w.heap.size A (zs.map Iv)) (hn : zs.length = n) (hz : ∀ z ∈ zs, (Lit.int .i64 z).wf = true) (_hc : n ≤ c) (hb : n * 8 ≤ 140737488351232) :
    Calls Try.prog 5 #[.slice A n c] w fun e w' => e = .returned (.bool true) ∧ Below w.heap.size w w' := by
  have HZ := Lib.hid (wf_i64s hz)
  have HN := Lib.hid hn
  clear hz hn _hc
  go_enter Try.func5, Try.ntmps5
  go_wp2_with fail
  refine (ranges_any A n c 8 zs _ hr HN.out HZ.out (by omega) (by omega)).mono ?_; rintro e w1 ⟨v1, r, rfl, ho1, hg1, hl1, hb1⟩
  obtain ⟨B1, d1, rfl, hd1⟩ := own_form ho1
  have hx1 := Rd.of_own ho1
  have HC := Lib.hid (gen_chk hg1 (by omega))
  have HG := Lib.hid hg1
  clear ho1 hr hg1
  go_wp2_with fail
  refine (peak_any 1 B1 _ d1 r _ hx1 rfl (by omega)).mono ?_; rintro e w2 ⟨rfl, hb2⟩
  have hx2 := hx1.call hb2
  have hb12 := bt hb1 hb2
  have HB := Lib.hid (fun h => peak_begins (t := 1) (L := r) HC.out h)
  have HP := Lib.hid (fun h => peak_at (t := 1) (L := r) HC.out h)
  have HL := Lib.hid (fun (x : Rg) (h : x ∈ r) h2 => peak_least (t := 1) (L := r) HC.out h h2)
  have hdl := mostR_le 1 r
  have HD := Lib.hid (depth_most 1 r)
  have HGP := peak_gen (L := r) HG.out HC.out
  obtain ⟨m, hmm⟩ : ∃ m, m = mostR 1 r := ⟨_, rfl⟩
  rw [← hmm] at HB HP HL HD hdl HGP ⊢
  clear hmm hx1 hb1 hb2
  obtain ⟨d, at_⟩ := m
  obtain ⟨ai, aq, hai, haq, eat⟩ := HGP
  dsimp only at eat
  subst eat
  dsimp only [Rv] at HB HP HL HD hdl ⊢
  have hN := Blk.new' w2 33 #[.bool false, .int .i64 (ai : Int), .string ⟨#[]⟩, .int .i64 (aq : Int)]
  have hb3 := bt hb12 ((Below.refl _ _).alloc (Nat.le_refl _) (.cells #[.bool false, .int .i64 (ai : Int), .string ⟨#[]⟩, .int .i64 (aq : Int)] 33))
  have hx3 := hx2.call ((Below.refl _ _).alloc (Nat.le_refl _) (.cells #[.bool false, .int .i64 (ai : Int), .string ⟨#[]⟩, .int .i64 (aq : Int)] 33))
  go_wp2_with fail
  generalize w2.alloc (.cells #[.bool false, .int .i64 (ai : Int), .string ⟨#[]⟩, .int .i64 (aq : Int)] 33) = w3 at *
  clear hx2 hb12
  go_loopw [6, 18] (fun f b wr => ∃ (i : Nat) (f0 : Bool), b = .int .i64 (i : Int) ∧ f = .bool f0 ∧ i ≤ r.length ∧ Hid ((∃ x ∈ r.take i, x.lo = ⟨⟨false, ai, ⟨#[]⟩⟩, aq⟩) → f0 = true) ∧ Below w3.heap.size w3 wr) (fun _ b _ => r.length - (intOf b).toNat)
  case atStart => exact ⟨0, false, rfl, rfl, by omega, (fun h => by simp at h), Below.refl _ _⟩
  case round =>
    obtain ⟨i, f0, rfl, rfl, hi, HK, hb⟩ := hrel
    by_cases hin : i < r.length
    · obtain ⟨x, hx⟩ : ∃ x, r[i]? = some x := ⟨_, List.getElem?_eq_getElem hin⟩
      obtain ⟨ad, rfl, hadb, c0, c1, c2, c3, c4, c5, c6, c7⟩ := (hx3.call hb).range hx
      have HX := Lib.hid hx
      have HLx := Lib.hid (HL.out x (List.mem_of_getElem? hx))
      have hgx := (HG.out x (List.mem_of_getElem? hx)).1
      obtain ⟨lo, ⟨⟨dn, di, dz⟩, dq⟩⟩ := x
      obtain ⟨ci, cq, hci, hcq, elo⟩ := hgx
      dsimp only at elo
      subst elo
      dsimp only at c0 c1 c2 c3 c4 c5 c6 c7
      clear hx
      have hNw := hN.call hb
      have o0 := fun o => (hNw.alloc o).cellAt 0 rfl
      have o1 := fun o => (hNw.alloc o).cellAt 1 rfl
      have o2 := fun o => (hNw.alloc o).cellAt 2 rfl
      have o3 := fun o => (hNw.alloc o).cellAt 3 rfl
      cases f0
      · by_cases h1 : ci = ai
        · by_cases h2 : cq = aq
          · subst h1
            subst h2
            go_wp2_with fail
            refine (rcmp_rank 1 ⟨⟨false, ci, ⟨#[]⟩⟩, cq⟩ ⟨⟨false, ci, ⟨#[]⟩⟩, cq⟩ _).mono ?_; rintro e w5 ⟨rfl, hb5⟩
            have hR := (Blk.new' wr 37 #[.bool false, .int .i64 (ci : Int), .string ⟨#[]⟩, .int .i64 (cq : Int), .bool dn, .int .i64 di, .string dz, .int .i64 dq]).call hb5
            have r0 := hR.cellAt 0 rfl
            have r1 := hR.cellAt 1 rfl
            have r2 := hR.cellAt 2 rfl
            have r3 := hR.cellAt 3 rfl
            have hb6 := bt (bt hb ((Below.refl _ _).alloc (Nat.le_refl _) _)) hb5
            by_cases h3 : cmpR 1 ⟨⟨false, ci, ⟨#[]⟩⟩, cq⟩ ⟨⟨false, ci, ⟨#[]⟩⟩, cq⟩ < 0
            · have hlt := HLx.out h3
              go_wp2_with fail
              refine (rstab_any 1 _ _ d1 r ⟨⟨false, ci, ⟨#[]⟩⟩, cq⟩ _ (hx3.call hb6) rfl (by omega)).mono ?_; rintro e w7 ⟨rfl, hb7⟩
              go_wp2_with fail
              refine (rdepth_any 1 _ _ d1 r _ ((hx3.call hb6).call hb7) rfl (by omega)).mono ?_; rintro e w8 ⟨rfl, hb8⟩
              rw [HD.out]
              generalize stabC 1 r ⟨⟨false, ci, ⟨#[]⟩⟩, cq⟩ = s at *
              go_wp2
              go_roundw
              case rel => exact ⟨i + 1, true, by go_num, by first | rfl | simp, by omega, (fun _ => rfl), bt (bt hb6 hb7) hb8⟩
              case measure => simp [intOf]; omega
            · go_wp2
              go_roundw
              case rel => exact ⟨i + 1, true, by go_num, by first | rfl | simp, by omega, (fun _ => rfl), hb6⟩
              case measure => simp [intOf]; omega
          · subst h1
            have q2 : ((cq : Int) == (aq : Int)) = false := by simp only [beq_eq_false_iff_ne]; omega
            go_wp2_with fail
            refine (rcmp_rank 1 ⟨⟨false, ci, ⟨#[]⟩⟩, cq⟩ ⟨⟨false, ci, ⟨#[]⟩⟩, aq⟩ _).mono ?_; rintro e w5 ⟨rfl, hb5⟩
            have hR := (Blk.new' wr 37 #[.bool false, .int .i64 (ci : Int), .string ⟨#[]⟩, .int .i64 (cq : Int), .bool dn, .int .i64 di, .string dz, .int .i64 dq]).call hb5
            have r0 := hR.cellAt 0 rfl
            have r1 := hR.cellAt 1 rfl
            have r2 := hR.cellAt 2 rfl
            have r3 := hR.cellAt 3 rfl
            have hb6 := bt (bt hb ((Below.refl _ _).alloc (Nat.le_refl _) _)) hb5
            by_cases h3 : cmpR 1 ⟨⟨false, ci, ⟨#[]⟩⟩, cq⟩ ⟨⟨false, ci, ⟨#[]⟩⟩, aq⟩ < 0
            · have hlt := HLx.out h3
              go_wp2_with fail
              refine (rstab_any 1 _ _ d1 r ⟨⟨false, ci, ⟨#[]⟩⟩, cq⟩ _ (hx3.call hb6) rfl (by omega)).mono ?_; rintro e w7 ⟨rfl, hb7⟩
              go_wp2_with fail
              refine (rdepth_any 1 _ _ d1 r _ ((hx3.call hb6).call hb7) rfl (by omega)).mono ?_; rintro e w8 ⟨rfl, hb8⟩
              rw [HD.out]
              generalize stabC 1 r ⟨⟨false, ci, ⟨#[]⟩⟩, cq⟩ = s at *
              go_wp2
              go_roundw
              case rel => exact ⟨i + 1, false, by go_num, by first | rfl | simp, by omega, (beg_no HX.out HK.out (fun e => by injection e with _ e; omega)), bt (bt hb6 hb7) hb8⟩
              case measure => simp [intOf]; omega
            · go_wp2
              go_roundw
              case rel => exact ⟨i + 1, false, by go_num, by first | rfl | simp, by omega, (beg_no HX.out HK.out (fun e => by injection e with _ e; omega)), hb6⟩
              case measure => simp [intOf]; omega
        · have q1 : ((ci : Int) == (ai : Int)) = false := by simp only [beq_eq_false_iff_ne]; omega
          go_wp2_with fail
          refine (rcmp_rank 1 ⟨⟨false, ci, ⟨#[]⟩⟩, cq⟩ ⟨⟨false, ai, ⟨#[]⟩⟩, aq⟩ _).mono ?_; rintro e w5 ⟨rfl, hb5⟩
          have hR := (Blk.new' wr 37 #[.bool false, .int .i64 (ci : Int), .string ⟨#[]⟩, .int .i64 (cq : Int), .bool dn, .int .i64 di, .string dz, .int .i64 dq]).call hb5
          have r0 := hR.cellAt 0 rfl
          have r1 := hR.cellAt 1 rfl
          have r2 := hR.cellAt 2 rfl
          have r3 := hR.cellAt 3 rfl
          have hb6 := bt (bt hb ((Below.refl _ _).alloc (Nat.le_refl _) _)) hb5
          by_cases h3 : cmpR 1 ⟨⟨false, ci, ⟨#[]⟩⟩, cq⟩ ⟨⟨false, ai, ⟨#[]⟩⟩, aq⟩ < 0
          · have hlt := HLx.out h3
            go_wp2_with fail
            refine (rstab_any 1 _ _ d1 r ⟨⟨false, ci, ⟨#[]⟩⟩, cq⟩ _ (hx3.call hb6) rfl (by omega)).mono ?_; rintro e w7 ⟨rfl, hb7⟩
            go_wp2_with fail
            refine (rdepth_any 1 _ _ d1 r _ ((hx3.call hb6).call hb7) rfl (by omega)).mono ?_; rintro e w8 ⟨rfl, hb8⟩
            rw [HD.out]
            generalize stabC 1 r ⟨⟨false, ci, ⟨#[]⟩⟩, cq⟩ = s at *
            go_wp2
            go_roundw
            case rel => exact ⟨i + 1, false, by go_num, by first | rfl | simp, by omega, (beg_no HX.out HK.out (fun e => by injection e with e _; injection e with _ e _; omega)), bt (bt hb6 hb7) hb8⟩
            case measure => simp [intOf]; omega
          · go_wp2
            go_roundw
            case rel => exact ⟨i + 1, false, by go_num, by first | rfl | simp, by omega, (beg_no HX.out HK.out (fun e => by injection e with e _; injection e with _ e _; omega)), hb6⟩
            case measure => simp [intOf]; omega
      · go_wp2_with fail
        refine (rcmp_rank 1 ⟨⟨false, ci, ⟨#[]⟩⟩, cq⟩ ⟨⟨false, ai, ⟨#[]⟩⟩, aq⟩ _).mono ?_; rintro e w5 ⟨rfl, hb5⟩
        have hR := (Blk.new' wr 37 #[.bool false, .int .i64 (ci : Int), .string ⟨#[]⟩, .int .i64 (cq : Int), .bool dn, .int .i64 di, .string dz, .int .i64 dq]).call hb5
        have r0 := hR.cellAt 0 rfl
        have r1 := hR.cellAt 1 rfl
        have r2 := hR.cellAt 2 rfl
        have r3 := hR.cellAt 3 rfl
        have hb6 := bt (bt hb ((Below.refl _ _).alloc (Nat.le_refl _) _)) hb5
        by_cases h3 : cmpR 1 ⟨⟨false, ci, ⟨#[]⟩⟩, cq⟩ ⟨⟨false, ai, ⟨#[]⟩⟩, aq⟩ < 0
        · have hlt := HLx.out h3
          go_wp2_with fail
          refine (rstab_any 1 _ _ d1 r ⟨⟨false, ci, ⟨#[]⟩⟩, cq⟩ _ (hx3.call hb6) rfl (by omega)).mono ?_; rintro e w7 ⟨rfl, hb7⟩
          go_wp2_with fail
          refine (rdepth_any 1 _ _ d1 r _ ((hx3.call hb6).call hb7) rfl (by omega)).mono ?_; rintro e w8 ⟨rfl, hb8⟩
          rw [HD.out]
          generalize stabC 1 r ⟨⟨false, ci, ⟨#[]⟩⟩, cq⟩ = s at *
          go_wp2
          go_roundw
          case rel => exact ⟨i + 1, true, by go_num, by first | rfl | simp, by omega, (fun _ => rfl), bt (bt hb6 hb7) hb8⟩
          case measure => simp [intOf]; omega
        · go_wp2
          go_roundw
          case rel => exact ⟨i + 1, true, by go_num, by first | rfl | simp, by omega, (fun _ => rfl), hb6⟩
          case measure => simp [intOf]; omega
    · have hin2 : i = r.length := by omega
      subst hin2
      have HF : Hid (r ≠ [] → f0 = true) := fun hne => HK.out (by
        obtain ⟨x, hx, e⟩ := HB.out hne
        exact ⟨x, by rw [List.take_length]; exact hx, e⟩)
      cases r with
      | nil =>
        have hd0 : d = 0 := by simp at hdl; omega
        subst hd0
        go_wp2_with fail
        refine (awake27 _).mono ?_; rintro e w5 ⟨rfl, hb5⟩
        cases f0
        · go_wp2
          go_ret
          exact ⟨ret_bool (by first | rfl | (simp; done)), bt (bt hb3 hb) hb5⟩
        · go_wp2
          go_ret
          exact ⟨ret_bool (by first | rfl | (simp; done)), bt (bt hb3 hb) hb5⟩
      | cons a X =>
        obtain ⟨hd0, _⟩ := HP.out (by simp)
        have hf := HF.out (by simp)
        subst hf
        have hdd : decide ((0 : Int) < (d : Int)) = true := by simpa using hd0
        have hdd' : decide (0 < d) = true := by simpa using hd0
        generalize a :: X = r at *
        go_wp2_with fail
        refine (awake27 _).mono ?_; rintro e w5 ⟨rfl, hb5⟩
        go_wp2
        go_ret
        exact ⟨ret_bool (by first | rfl | (simp; done)), bt (bt hb3 hb) hb5⟩

end Go.Proofs.Yteknnphjkldehaa
