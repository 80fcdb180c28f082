/-
  The walk of PotentialFalls.
-/
import Derived.Test.YtmmnfniebiggpaaPLaws3
import Derived.Test.YtmmnfniebiggpaaPPlain3
namespace Go.Proofs.Ytmmnfniebiggpaa
open Go.RowKit

theorem filter_yes {L : List Rg} {i : Nat} {p : Rg} {f : Rg → Bool} (hp : L[i]? = some p) (h : f p = true) : (L.take (i + 1)).filter f = (L.take i).filter f ++ [p] := by
  rw [List.take_add_one, hp, List.filter_append]; simp [h]
theorem filter_no {L : List Rg} {i : Nat} {p : Rg} {f : Rg → Bool} (hp : L[i]? = some p) (h : f p = false) : (L.take (i + 1)).filter f = (L.take i).filter f := by
  rw [List.take_add_one, hp, List.filter_append]; simp [h]
theorem filter_len {L : List Rg} {f : Rg → Bool} : (L.filter f).length ≤ L.length := List.length_filter_le _ _
theorem one_rd {w : World} {a : Rg} {g : Nat} (h : Blk w g 41 (rangeC a)) : Rd w w.heap.size (some ⟨g, 0, none⟩) ([a].flatMap rangeC) := by
  have := h.rd
  simpa using this
set_option maxRecDepth 100000 in
set_option maxHeartbeats 2000000 in
theorem walk_PotentialFalls (A : Option Addr) (n c : Nat) (zs : List Int) (A2 : Option Addr) (n2 c2 : Nat) (zs2 : List Int) (com cut : Int) (w : World)
    (hr : Rd w w.heap.size A (zs.map Iv)) (hn : zs.length = n) (hz : ∀ z ∈ zs, (Lit.int .i64 z).wf = true) (_hc : n ≤ c) (hb : n * 8 ≤ 140737488351232)
    (hr2 : Rd w w.heap.size A2 (zs2.map Iv)) (hn2 : zs2.length = n2) (hz2 : ∀ z ∈ zs2, (Lit.int .i64 z).wf = true) (_hc2 : n2 ≤ c2) (hb2 : n2 * 8 ≤ 140737488351232) (_w1 : (Lit.int .i64 com).wf = true) (_w2 : (Lit.int .i64 cut).wf = true) :
    Calls Try.prog 6 #[.slice A n c, .slice A2 n2 c2, .int .i64 com, .int .i64 cut] w fun e w' => e = .returned (.bool true) ∧ Below w.heap.size w w' := by
  have HZ := Lib.hid (wf_i64s hz)
  have HZ2 := Lib.hid (wf_i64s hz2)
  have HN := Lib.hid hn
  have HN2 := Lib.hid hn2
  clear hz hz2 hn hn2 _hc _hc2 _w1 _w2
  go_enter Try.func6, Try.ntmps6
  go_wp2_with fail
  refine (ranges_any A n c 6 zs _ hr HN.out HZ.out (by omega) (by omega)).mono ?_; rintro e w1 ⟨v1, r, rfl, ho1, hg1, hl1, hb1⟩
  obtain ⟨B1, d1, rfl, _⟩ := own_form ho1
  have hx1 := Rd.of_own ho1
  have hr2b := hr2.call hb1
  have HG := Lib.hid hg1
  clear ho1 hr hr2 hg1
  go_wp2_with fail
  refine (ranks_any A2 n2 c2 12 zs2 _ hr2b HN2.out HZ2.out (by omega) (by omega)).mono ?_; rintro e w2 ⟨v2, p, rfl, ho2, _, hl2, hb2'⟩
  obtain ⟨B2, d2, rfl, _⟩ := own_form ho2
  have hp2 := Rd.of_own ho2
  have hx2 := hx1.call hb2'
  have hb12 := bt hb1 hb2'
  clear ho2 hx1 hr2b hb1 hb2'
  by_cases hpos : 0 < p.length
  · have hq0 : ((p.length : Int) == 0) = false := by simp only [beq_eq_false_iff_ne]; omega
    go_wp2_with fail
    refine (pick_any com p.length _ hpos (by omega)).mono ?_; rintro e w' ⟨rfl, rfl⟩
    have hjl := pickN_lt com hpos
    generalize pickN com p.length = j at *
    obtain ⟨x, hx⟩ : ∃ x, p[j]? = some x := ⟨_, List.getElem?_eq_getElem hjl⟩
    have HXP := Lib.hid (List.mem_of_getElem? hx)
    obtain ⟨ap, rfl, hadb, c0, c1, c2', c3⟩ := hp2.rank hx
    obtain ⟨⟨xn, xi, xz⟩, xq⟩ := x
    clear hx
    have hX := Blk.new' w2 38 #[.bool xn, .int .i64 xi, .string xz, .int .i64 xq]
    have hbx := (Below.refl w2.heap.size w2).alloc (Nat.le_refl _) (.cells #[.bool xn, .int .i64 xi, .string xz, .int .i64 xq] 38)
    have hx3 := hx2.call hbx
    have hp3 := hp2.call hbx
    have hb13 := bt hb12 hbx
    clear hx2 hp2 hb12 hbx
    go_upto_region 6 with fail
    generalize w2.alloc (.cells #[.bool xn, .int .i64 xi, .string xz, .int .i64 xq] 38) = w3 at *
    clear c0 c1 c2' c3
    go_wp2_with fail
    go_loopw [12, 36] (fun v b wr => ∃ (i : Nat) (L : List Rg), b = .int .i64 (i : Int) ∧ Own w3 wr 41 8 v L.length (L.flatMap rangeC) ∧ i ≤ r.length ∧ L.length ≤ i ∧ Hid (L = (r.take i).filter (fun a => hasB 1 a ⟨⟨xn, xi, xz⟩, xq⟩))) (fun _ b _ => r.length - (intOf b).toNat)
    case atStart => exact ⟨0, [], rfl, Own.nil _ _ _, by omega, by simp, rfl⟩
    case round =>
      obtain ⟨i, L, rfl, hO, hi, hLi, HL⟩ := hrel
      obtain ⟨B3, d3, rfl, hd3⟩ := own_form hO.1
      by_cases hin : i < r.length
      · obtain ⟨a, ha⟩ : ∃ a, r[i]? = some a := ⟨_, List.getElem?_eq_getElem hin⟩
        obtain ⟨ad, rfl, hadb2, c0, c1, c2', c3, c4, c5, c6, c7⟩ := (hx3.call hO.2).range ha
        have HA := Lib.hid ha
        obtain ⟨⟨⟨an, ai, az⟩, aq⟩, ⟨⟨bn, bi, bz⟩, bq⟩⟩ := a
        clear ha
        have hXw := hX.call hO.2
        have o0 := fun o => (hXw.alloc o).cellAt 0 rfl
        have o1 := fun o => (hXw.alloc o).cellAt 1 rfl
        have o2 := fun o => (hXw.alloc o).cellAt 2 rfl
        have o3 := fun o => (hXw.alloc o).cellAt 3 rfl
        have hR := Blk.new' wr 41 #[.bool an, .int .i64 ai, .string az, .int .i64 aq, .bool bn, .int .i64 bi, .string bz, .int .i64 bq]
        have hOa := hO.alloc (.cells #[.bool an, .int .i64 ai, .string az, .int .i64 aq, .bool bn, .int .i64 bi, .string bz, .int .i64 bq] 41)
        cases hB : hasB 1 ⟨⟨⟨an, ai, az⟩, aq⟩, ⟨⟨bn, bi, bz⟩, bq⟩⟩ ⟨⟨xn, xi, xz⟩, xq⟩
        · go_wp2_with fail
          refine (rcontains_any 1 ⟨⟨⟨an, ai, az⟩, aq⟩, ⟨⟨bn, bi, bz⟩, bq⟩⟩ ⟨⟨xn, xi, xz⟩, xq⟩ _).mono ?_; rintro e w4 ⟨rfl, hb4⟩
          rw [hB]
          have HB := Lib.hid hB
          clear hB
          go_wp2
          go_roundw
          case rel => exact ⟨i + 1, L, by go_num, hOa.call hb4, by omega, by omega, by show _ = _; rw [filter_no HA.out HB.out]; exact HL.out⟩
          case measure => simp [intOf]; omega
        · go_wp2_with fail
          refine (rcontains_any 1 ⟨⟨⟨an, ai, az⟩, aq⟩, ⟨⟨bn, bi, bz⟩, bq⟩⟩ ⟨⟨xn, xi, xz⟩, xq⟩ _).mono ?_; rintro e w4 ⟨rfl, hb4⟩
          rw [hB]
          have HB := Lib.hid hB
          clear hB
          have hR4 := hR.call hb4
          have hO4 := hOa.call hb4
          have r0 := hR4.cellAt 0 rfl
          have r1 := hR4.cellAt 1 rfl
          have r2 := hR4.cellAt 2 rfl
          have r3 := hR4.cellAt 3 rfl
          have r4 := hR4.cellAt 4 rfl
          have r5 := hR4.cellAt 5 rfl
          have r6 := hR4.cellAt 6 rfl
          have r7 := hR4.cellAt 7 rfl
          go_wp2_with (at_builtin; refine own_one hO4 rgs rfl (by decide) (cs := #[.bool an, .int .i64 ai, .string az, .int .i64 aq, .bool bn, .int .i64 bi, .string bz, .int .i64 bq]) rfl (one_rg ⟨⟨⟨an, ai, az⟩, aq⟩, ⟨⟨bn, bi, bz⟩, bq⟩⟩) (by omega) (by unfold maxLen; omega) ?_ rfl _ _ rfl rfl rfl)
          intro v5 w5 hO5
          go_wp2
          go_roundw
          case rel => exact ⟨i + 1, L ++ [⟨⟨⟨an, ai, az⟩, aq⟩, ⟨⟨bn, bi, bz⟩, bq⟩⟩], by go_num, by simpa [rangeC, rankC] using hO5, by omega, by simp; omega, by show _ = _; rw [filter_yes HA.out HB.out, ← HL.out]⟩
          case measure => simp [intOf]; omega
      · have hin2 : i = r.length := by omega
        subst hin2
        rw [List.take_length] at HL
        have hLr := hO.1
        have hr4 := Rd.of_own hO.1
        have hp4 := hp3.call hO.2
        have hb14 := bt hb13 hO.2
        have HLG : Hid (∀ a ∈ L, GenG a) := fun a ha => by rw [HL.out] at ha; exact HG.out a (List.mem_filter.1 ha).1
        have HLX : Hid (∀ a ∈ L, hasB 1 a ⟨⟨xn, xi, xz⟩, xq⟩ = true) := fun a ha => by rw [HL.out] at ha; exact (List.mem_filter.1 ha).2
        have HC := Lib.hid (gen_chk HLG.out (by omega))
        clear HL hO hLr hx3 hX hp3 hb13
        go_wp2_with fail
        refine (rhull_any 1 B3 _ d3 L _ hr4 rfl (by omega) hd3).mono ?_; rintro e w5 ⟨rfl, hb5⟩
        have hr5 := hr4.call hb5
        have hp5 := hp4.call hb5
        have hb15 := bt hb14 hb5
        clear hr4 hp4 hb14 hb5
        cases L with
        | nil =>
          have hbz := bt hb15 ((Below.refl w5.heap.size w5).alloc (Nat.le_refl _) (.cells #[.bool false, .int .i64 0, .string ⟨#[]⟩, .int .i64 0, .bool false, .int .i64 0, .string ⟨#[]⟩, .int .i64 0] 41))
          rw [show hullP 1 [] = (⟨zeroR, zeroR⟩, false) from rfl]
          dsimp only [Gv, zeroR]
          go_wp2_with fail
          refine (awake30 _).mono ?_; rintro e w6 ⟨rfl, hb6⟩
          go_wp2
          go_ret
          exact ⟨ret_bool (by first | rfl | (simp; done)), bt hbz hb6⟩
        | cons h T =>
          rw [hullP_yes HC.out]
          have HCOV := Lib.hid (fun M hM hl h2 => fall_le (t := 1) (h := h) (T := T) (M := M) (P := p) HLX.out hM hl h2 HXP.out)
          have HPS := Lib.hid (psiW_sum 1 p (h :: T) (h :: T).length (by have : (h :: T).length * p.length ≤ 6 * 12 := Nat.mul_le_mul (by omega) hl2; omega))
          rw [wsum_ssum] at HPS
          generalize hHH : hullT 1 h T = H at *
          clear hHH HC HLG HLX
          obtain ⟨⟨⟨an, ai, az⟩, aq⟩, ⟨⟨bn, bi, bz⟩, bq⟩⟩ := H
          generalize h :: T = L at *
          dsimp only [Gv]
          have hH := Blk.new' w5 41 #[.bool an, .int .i64 ai, .string az, .int .i64 aq, .bool bn, .int .i64 bi, .string bz, .int .i64 bq]
          have hb6 := (Below.refl w5.heap.size w5).alloc (Nat.le_refl _) (.cells #[.bool an, .int .i64 ai, .string az, .int .i64 aq, .bool bn, .int .i64 bi, .string bz, .int .i64 bq] 41)
          have hr6 := hr5.call hb6
          have hp6 := hp5.call hb6
          have hb16 := bt hb15 hb6
          clear hr5 hp5 hb15 hb6
          go_upto_region 13 with fail
          generalize w5.alloc (.cells #[.bool an, .int .i64 ai, .string az, .int .i64 aq, .bool bn, .int .i64 bi, .string bz, .int .i64 bq] 41) = w6 at *
          by_cases h2 : 2 ≤ L.length
          · have hH7 := Blk.new' w6 41 #[.bool an, .int .i64 ai, .string az, .int .i64 aq, .bool bn, .int .i64 bi, .string bz, .int .i64 bq]
            have hb7 := (Below.refl w6.heap.size w6).alloc (Nat.le_refl _) (.cells #[.bool an, .int .i64 ai, .string az, .int .i64 aq, .bool bn, .int .i64 bi, .string bz, .int .i64 bq] 41)
            have hr7 := hr6.call hb7
            have hp7 := hp6.call hb7
            have hH67 := hH.call hb7
            have hb17 := bt hb16 hb7
            have o0 := hH.cellAt 0 rfl
            have o1 := hH.cellAt 1 rfl
            have o2 := hH.cellAt 2 rfl
            have o3 := hH.cellAt 3 rfl
            have o4 := hH.cellAt 4 rfl
            have o5 := hH.cellAt 5 rfl
            have o6 := hH.cellAt 6 rfl
            have o7 := hH.cellAt 7 rfl
            clear hr6 hp6 hb16 hb7
            go_upto_region 16 with fail
            generalize w6.alloc (.cells #[.bool an, .int .i64 ai, .string az, .int .i64 aq, .bool bn, .int .i64 bi, .string bz, .int .i64 bq] 41) = w7 at *
            clear o0 o1 o2 o3 o4 o5 o6 o7 hH
            go_wp2_with fail
            refine (pick_any cut 12 _ (by omega) (by omega)).mono ?_; rintro e w' ⟨rfl, rfl⟩
            generalize pickN cut 12 = kc at *
            have hK := Blk.new' w7 38 #[.bool false, .int .i64 (kc : Int), .string ⟨#[]⟩, .int .i64 1]
            have hb8 := (Below.refl w7.heap.size w7).alloc (Nat.le_refl _) (.cells #[.bool false, .int .i64 (kc : Int), .string ⟨#[]⟩, .int .i64 1] 38)
            have hr8 := hr7.call hb8
            have hp8 := hp7.call hb8
            have hH8 := hH67.call hb8
            have hS8 := hH7.call hb8
            have hb18 := bt hb17 hb8
            clear hr7 hp7 hH67 hH7 hb17 hb8
            go_upto_region 17 with fail
            generalize w7.alloc (.cells #[.bool false, .int .i64 (kc : Int), .string ⟨#[]⟩, .int .i64 1] 38) = w8 at *
            generalize w7.heap.size = gk at *
            generalize w6.heap.size = gs at *
            generalize w5.heap.size = gh at *
            have o0 := hH8.cellAt 0 rfl
            have o1 := hH8.cellAt 1 rfl
            have o2 := hH8.cellAt 2 rfl
            have o3 := hH8.cellAt 3 rfl
            have o4 := hH8.cellAt 4 rfl
            have o5 := hH8.cellAt 5 rfl
            have o6 := hH8.cellAt 6 rfl
            have o7 := hH8.cellAt 7 rfl
            have k0 := hK.cellAt 0 rfl
            have k1 := hK.cellAt 1 rfl
            have k2 := hK.cellAt 2 rfl
            have k3 := hK.cellAt 3 rfl
            go_wp2_with fail
            refine (rcmp_rank 1 ⟨⟨an, ai, az⟩, aq⟩ ⟨⟨false, kc, ⟨#[]⟩⟩, 1⟩ _).mono ?_; rintro e w9 ⟨rfl, hb9⟩
            have hr9 := hr8.call hb9
            have hp9 := hp8.call hb9
            have hH9 := hH8.call hb9
            have hS9 := hS8.call hb9
            have hK9 := hK.call hb9
            have hb19 := bt hb18 hb9
            clear hr8 hp8 hH8 hS8 hK hb18 hb9 o0 o1 o2 o3 o4 o5 o6 o7 k0 k1 k2 k3
            have HP1 : Hid (psiW 1 p (1 : Nat) [⟨⟨⟨an, ai, az⟩, aq⟩, ⟨⟨bn, bi, bz⟩, bq⟩⟩] = ((1 + ssum 1 [⟨⟨⟨an, ai, az⟩, aq⟩, ⟨⟨bn, bi, bz⟩, bq⟩⟩] p : Nat) : Int)) := by
              show _ = _
              rw [psiW_sum 1 p _ 1 (by simp; omega), wsum_ssum]
            have hF1 := HCOV.out [⟨⟨⟨an, ai, az⟩, aq⟩, ⟨⟨bn, bi, bz⟩, bq⟩⟩] fall_hull (by simp) h2
            rw [List.length_cons, List.length_nil] at hF1
            have HF1 := Lib.hid hF1
            clear hF1
            by_cases hc1 : cmpR 1 ⟨⟨an, ai, az⟩, aq⟩ ⟨⟨false, kc, ⟨#[]⟩⟩, 1⟩ ≤ 0
            · have o0 := hH9.cellAt 0 rfl
              have o1 := hH9.cellAt 1 rfl
              have o2 := hH9.cellAt 2 rfl
              have o3 := hH9.cellAt 3 rfl
              have o4 := hH9.cellAt 4 rfl
              have o5 := hH9.cellAt 5 rfl
              have o6 := hH9.cellAt 6 rfl
              have o7 := hH9.cellAt 7 rfl
              have k0 := hK9.cellAt 0 rfl
              have k1 := hK9.cellAt 1 rfl
              have k2 := hK9.cellAt 2 rfl
              have k3 := hK9.cellAt 3 rfl
              go_wp2_with fail
              refine (rcmp_rank 1 ⟨⟨false, kc, ⟨#[]⟩⟩, 1⟩ ⟨⟨bn, bi, bz⟩, bq⟩ _).mono ?_; rintro e wt ⟨rfl, hbt⟩
              have hrt := hr9.call hbt
              have hpt := hp9.call hbt
              have hHt := hH9.call hbt
              have hSt := hS9.call hbt
              have hKt := hK9.call hbt
              have hb20 := bt hb19 hbt
              clear hr9 hp9 hH9 hS9 hK9 hb19 hbt o0 o1 o2 o3 o4 o5 o6 o7 k0 k1 k2 k3
              by_cases hc2 : cmpR 1 ⟨⟨false, kc, ⟨#[]⟩⟩, 1⟩ ⟨⟨bn, bi, bz⟩, bq⟩ < 0
              · have HF2 := Lib.hid (HCOV.out [⟨⟨⟨an, ai, az⟩, aq⟩, ⟨⟨false, kc, ⟨#[]⟩⟩, 1⟩⟩, ⟨⟨⟨false, kc, ⟨#[]⟩⟩, 2⟩, ⟨⟨bn, bi, bz⟩, bq⟩⟩] (fall_cut (H := ⟨⟨⟨an, ai, az⟩, aq⟩, ⟨⟨bn, bi, bz⟩, bq⟩⟩) hc1 hc2 (cut_lt kc)) (by simp) h2)
                rw [List.length_cons, List.length_cons, List.length_nil] at HF2
                have HP2 : Hid (psiW 1 p (2 : Nat) [⟨⟨⟨an, ai, az⟩, aq⟩, ⟨⟨false, kc, ⟨#[]⟩⟩, 1⟩⟩, ⟨⟨⟨false, kc, ⟨#[]⟩⟩, 2⟩, ⟨⟨bn, bi, bz⟩, bq⟩⟩] = ((2 + ssum 1 [⟨⟨⟨an, ai, az⟩, aq⟩, ⟨⟨false, kc, ⟨#[]⟩⟩, 1⟩⟩, ⟨⟨⟨false, kc, ⟨#[]⟩⟩, 2⟩, ⟨⟨bn, bi, bz⟩, bq⟩⟩] p : Nat) : Int)) := by
                  show _ = _
                  rw [psiW_sum 1 p _ 2 (by simp; omega), wsum_ssum]
                have o0 := hHt.cellAt 0 rfl
                have o1 := hHt.cellAt 1 rfl
                have o2 := hHt.cellAt 2 rfl
                have o3 := hHt.cellAt 3 rfl
                have o4 := hHt.cellAt 4 rfl
                have o5 := hHt.cellAt 5 rfl
                have o6 := hHt.cellAt 6 rfl
                have o7 := hHt.cellAt 7 rfl
                have k0 := hKt.cellAt 0 rfl
                have k1 := hKt.cellAt 1 rfl
                have k2 := hKt.cellAt 2 rfl
                have k3 := hKt.cellAt 3 rfl
                have hD := Blk.new' wt 41 #[.bool an, .int .i64 ai, .string az, .int .i64 aq, .bool false, .int .i64 (kc : Int), .string ⟨#[]⟩, .int .i64 1, .bool false, .int .i64 (kc : Int), .string ⟨#[]⟩, .int .i64 2, .bool bn, .int .i64 bi, .string bz, .int .i64 bq]
                have hbd := (Below.refl wt.heap.size wt).alloc (Nat.le_refl _) (.cells #[.bool an, .int .i64 ai, .string az, .int .i64 aq, .bool false, .int .i64 (kc : Int), .string ⟨#[]⟩, .int .i64 1, .bool false, .int .i64 (kc : Int), .string ⟨#[]⟩, .int .i64 2, .bool bn, .int .i64 bi, .string bz, .int .i64 bq] 41)
                have hru := hrt.call hbd
                have hpu := hpt.call hbd
                have hbu := bt hb20 hbd
                go_upto_region 19 with fail
                clear o0 o1 o2 o3 o4 o5 o6 o7 k0 k1 k2 k3 hrt hpt hHt hSt hKt hb20 hbd
                generalize wt.alloc (.cells #[.bool an, .int .i64 ai, .string az, .int .i64 aq, .bool false, .int .i64 (kc : Int), .string ⟨#[]⟩, .int .i64 1, .bool false, .int .i64 (kc : Int), .string ⟨#[]⟩, .int .i64 2, .bool bn, .int .i64 bi, .string bz, .int .i64 bq] 41) = wu at *
                have hDr : Rd wu wu.heap.size (some ⟨wt.heap.size, 0, none⟩) ([⟨⟨⟨an, ai, az⟩, aq⟩, ⟨⟨false, kc, ⟨#[]⟩⟩, 1⟩⟩, ⟨⟨⟨false, kc, ⟨#[]⟩⟩, 2⟩, ⟨⟨bn, bi, bz⟩, bq⟩⟩].flatMap rangeC) := hD.rd
                generalize wt.heap.size = gt at *
                -- [⟨⟨⟨an, ai, az⟩, aq⟩, ⟨⟨false, kc, ⟨#[]⟩⟩, 1⟩⟩, ⟨⟨⟨false, kc, ⟨#[]⟩⟩, 2⟩, ⟨⟨bn, bi, bz⟩, bq⟩⟩] M, gt slice's block, hDr Rd of it, hru Rd of r, hpu Rd of p, hbu Below, HP2 hM
                go_wp2_with fail
                refine (awake30 _).mono ?_; rintro e u1 ⟨rfl, hu1⟩
                go_wp2_with fail
                refine (psi_any 1 (some ⟨gt, 0, none⟩) 2 _ ([⟨⟨⟨an, ai, az⟩, aq⟩, ⟨⟨false, kc, ⟨#[]⟩⟩, 1⟩⟩, ⟨⟨⟨false, kc, ⟨#[]⟩⟩, 2⟩, ⟨⟨bn, bi, bz⟩, bq⟩⟩]) _ _ _ p _ (Rd.call (hDr) hu1) rfl (by simp) (hpu.call hu1) rfl (by omega)).mono ?_; rintro e u2 ⟨rfl, hu2⟩
                rw [(HP2).out]
                go_wp2_with fail
                refine (psi_any 1 B3 _ d3 L _ _ _ p _ ((hru.call hu1).call hu2) rfl (by omega) ((hpu.call hu1).call hu2) rfl (by omega)).mono ?_; rintro e u3 ⟨rfl, hu3⟩
                rw [HPS.out]
                have hf := (HF2).out
                have hs1 : ssum 1 L p ≤ 72 := by
                  have h1 := ssum_le 1 L p
                  have h3 : p.length * L.length ≤ 12 * 6 := Nat.mul_le_mul hl2 (by omega)
                  omega
                generalize ssum 1 L p = s1 at *
                generalize ssum 1 ([⟨⟨⟨an, ai, az⟩, aq⟩, ⟨⟨false, kc, ⟨#[]⟩⟩, 1⟩⟩, ⟨⟨⟨false, kc, ⟨#[]⟩⟩, 2⟩, ⟨⟨bn, bi, bz⟩, bq⟩⟩]) p = s2 at *
                go_wp2
                go_ret
                exact ⟨ret_bool (by first | rfl | (simp; done) | (simp; omega)), bt (bt (bt hbu hu1) hu2) hu3⟩
              · -- [⟨⟨⟨an, ai, az⟩, aq⟩, ⟨⟨bn, bi, bz⟩, bq⟩⟩] M, gs slice's block, one_rd hSt Rd of it, hrt Rd of r, hpt Rd of p, hb20 Below, HP1 hM
                go_wp2_with fail
                refine (awake30 _).mono ?_; rintro e u1 ⟨rfl, hu1⟩
                go_wp2_with fail
                refine (psi_any 1 (some ⟨gs, 0, none⟩) 1 _ ([⟨⟨⟨an, ai, az⟩, aq⟩, ⟨⟨bn, bi, bz⟩, bq⟩⟩]) _ _ _ p _ (Rd.call (one_rd hSt) hu1) rfl (by simp) (hpt.call hu1) rfl (by omega)).mono ?_; rintro e u2 ⟨rfl, hu2⟩
                rw [(HP1).out]
                go_wp2_with fail
                refine (psi_any 1 B3 _ d3 L _ _ _ p _ ((hrt.call hu1).call hu2) rfl (by omega) ((hpt.call hu1).call hu2) rfl (by omega)).mono ?_; rintro e u3 ⟨rfl, hu3⟩
                rw [HPS.out]
                have hf := (HF1).out
                have hs1 : ssum 1 L p ≤ 72 := by
                  have h1 := ssum_le 1 L p
                  have h3 : p.length * L.length ≤ 12 * 6 := Nat.mul_le_mul hl2 (by omega)
                  omega
                generalize ssum 1 L p = s1 at *
                generalize ssum 1 ([⟨⟨⟨an, ai, az⟩, aq⟩, ⟨⟨bn, bi, bz⟩, bq⟩⟩]) p = s2 at *
                go_wp2
                go_ret
                exact ⟨ret_bool (by first | rfl | (simp; done) | (simp; omega)), bt (bt (bt hb20 hu1) hu2) hu3⟩
            · -- [⟨⟨⟨an, ai, az⟩, aq⟩, ⟨⟨bn, bi, bz⟩, bq⟩⟩] M, gs slice's block, one_rd hS9 Rd of it, hr9 Rd of r, hp9 Rd of p, hb19 Below, HP1 hM
              go_wp2_with fail
              refine (awake30 _).mono ?_; rintro e u1 ⟨rfl, hu1⟩
              go_wp2_with fail
              refine (psi_any 1 (some ⟨gs, 0, none⟩) 1 _ ([⟨⟨⟨an, ai, az⟩, aq⟩, ⟨⟨bn, bi, bz⟩, bq⟩⟩]) _ _ _ p _ (Rd.call (one_rd hS9) hu1) rfl (by simp) (hp9.call hu1) rfl (by omega)).mono ?_; rintro e u2 ⟨rfl, hu2⟩
              rw [(HP1).out]
              go_wp2_with fail
              refine (psi_any 1 B3 _ d3 L _ _ _ p _ ((hr9.call hu1).call hu2) rfl (by omega) ((hp9.call hu1).call hu2) rfl (by omega)).mono ?_; rintro e u3 ⟨rfl, hu3⟩
              rw [HPS.out]
              have hf := (HF1).out
              have hs1 : ssum 1 L p ≤ 72 := by
                have h1 := ssum_le 1 L p
                have h3 : p.length * L.length ≤ 12 * 6 := Nat.mul_le_mul hl2 (by omega)
                omega
              generalize ssum 1 L p = s1 at *
              generalize ssum 1 ([⟨⟨⟨an, ai, az⟩, aq⟩, ⟨⟨bn, bi, bz⟩, bq⟩⟩]) p = s2 at *
              go_wp2
              go_ret
              exact ⟨ret_bool (by first | rfl | (simp; done) | (simp; omega)), bt (bt (bt hb19 hu1) hu2) hu3⟩
          · go_wp2_with fail
            refine (awake30 _).mono ?_; rintro e wl ⟨rfl, hbl⟩
            go_wp2
            go_ret
            exact ⟨ret_bool (by first | rfl | (simp; done)), bt hb16 hbl⟩
  · have hp0 : p = [] := List.eq_nil_of_length_eq_zero (by omega)
    subst hp0
    go_wp2_with fail
    refine (awake30 _).mono ?_; rintro e w4 ⟨rfl, hb4⟩
    go_wp2
    go_ret
    exact ⟨ret_bool (by first | rfl | (simp; done)), bt hb12 hb4⟩

end Go.Proofs.Ytmmnfniebiggpaa
