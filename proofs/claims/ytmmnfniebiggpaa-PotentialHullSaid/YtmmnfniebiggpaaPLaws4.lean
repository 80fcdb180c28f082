/-
  The walks of the laws of layer 30, fourth part: the hull.
-/
import Derived.Test.YtmmnfniebiggpaaPLaws3
namespace Go.Proofs.Ytmmnfniebiggpaa
open Go.RowKit

theorem seen_no {α : Type} {r : List Rg} {i : Nat} {x : Rg} {f : Rg → α} {v : α} (hx : r[i]? = some x) (h : (∃ y ∈ r.take i, f y = v) → false = true) (hne : f x ≠ v) : (∃ y ∈ r.take (i + 1), f y = v) → false = true := by
  rintro ⟨y, hy, e⟩
  rw [List.take_add_one, hx, List.mem_append] at hy
  rcases hy with hy | hy
  · exact h ⟨y, hy, e⟩
  · simp at hy; subst hy; exact absurd e hne
set_option maxRecDepth 100000 in
set_option maxHeartbeats 8000000 in
theorem walk_PotentialHull (A : Option Addr) (n c : Nat) (zs : List Int) (w : World)
    (hr : Rd w w.heap.size A (zs.map Iv)) (hn : zs.length = n) (hz : ∀ z ∈ zs, (Lit.int .i64 z).wf = true) (_hc : n ≤ c) (hb : n * 8 ≤ 140737488351232) :
    Calls Try.prog 9 #[.slice A n c] w fun e w' => e = .returned (.bool true) ∧ Below w.heap.size w w' := by
  have HZ := Lib.hid (wf_i64s hz)
  have HN := Lib.hid hn
  clear hz hn _hc
  go_enter Try.func9, Try.ntmps9
  go_wp2_with fail
  refine (ranges_any A n c 6 zs _ hr HN.out HZ.out (by omega) (by omega)).mono ?_; rintro e w1 ⟨v1, r, rfl, ho1, hg1, hl1, hb1⟩
  obtain ⟨B1, d1, rfl, hd1⟩ := own_form ho1
  have hx1 := Rd.of_own ho1
  have HG := Lib.hid hg1
  have HC := Lib.hid (gen_chk hg1 (by omega))
  clear ho1 hr hg1
  go_wp2_with fail
  refine (hull_any 1 B1 _ d1 r _ hx1 rfl (by omega) hd1).mono ?_; rintro e w2 ⟨rfl, hb2⟩
  have hx2 := hx1.call hb2
  have hb12 := bt hb1 hb2
  obtain ⟨hgl, hgh⟩ := hull_gen HG.out HC.out
  obtain ⟨HO1, HO2, HO3⟩ := hull_ok HC.out
  obtain ⟨m, hmm⟩ : ∃ m, m = hullP 1 r := ⟨_, rfl⟩
  rw [← hmm] at hgl hgh HO1 HO2 HO3 ⊢
  clear hmm hx1 hb1 hb2
  obtain ⟨⟨hlo, hhi⟩, ok⟩ := m
  obtain ⟨ai, aq, hai, haq, e1⟩ := hgl
  obtain ⟨bi, bq, hbi, hbq, e2⟩ := hgh
  dsimp only at e1 e2 HO1
  subst e1
  subst e2
  have HOL := Lib.hid HO1
  have HOC := Lib.hid HO2
  have HOM := Lib.hid HO3
  clear HO1 HO2 HO3
  dsimp only [Gv, Rv] at HOL HOC HOM ⊢
  have hN := Blk.new' w2 41 #[.bool false, .int .i64 (ai : Int), .string ⟨#[]⟩, .int .i64 (aq : Int), .bool false, .int .i64 (bi : Int), .string ⟨#[]⟩, .int .i64 (bq : Int)]
  have hb3 := bt hb12 ((Below.refl _ _).alloc (Nat.le_refl _) (.cells #[.bool false, .int .i64 (ai : Int), .string ⟨#[]⟩, .int .i64 (aq : Int), .bool false, .int .i64 (bi : Int), .string ⟨#[]⟩, .int .i64 (bq : Int)] 41))
  have hx3 := hx2.call ((Below.refl _ _).alloc (Nat.le_refl _) (.cells #[.bool false, .int .i64 (ai : Int), .string ⟨#[]⟩, .int .i64 (aq : Int), .bool false, .int .i64 (bi : Int), .string ⟨#[]⟩, .int .i64 (bq : Int)] 41))
  go_wp2_with fail
  generalize w2.alloc (.cells #[.bool false, .int .i64 (ai : Int), .string ⟨#[]⟩, .int .i64 (aq : Int), .bool false, .int .i64 (bi : Int), .string ⟨#[]⟩, .int .i64 (bq : Int)] 41) = w3 at *
  clear hx2 hb12
  go_loopw [6, 7, 19] (fun ff gg b wr => ∃ (i : Nat) (f g : Bool), b = .int .i64 (i : Int) ∧ ff = .bool f ∧ gg = .bool g ∧ i ≤ r.length ∧ Hid (f = true → 0 < i) ∧ Hid (g = true → 0 < i) ∧ Hid ((∃ x ∈ r.take i, x.lo = ⟨⟨false, ai, ⟨#[]⟩⟩, aq⟩) → f = true) ∧ Hid ((∃ x ∈ r.take i, x.hi = ⟨⟨false, bi, ⟨#[]⟩⟩, bq⟩) → g = true) ∧ Below w3.heap.size w3 wr) (fun _ _ b _ => r.length - (intOf b).toNat)
  case atStart => exact ⟨0, false, false, rfl, rfl, rfl, by omega, (fun h => by cases h), (fun h => by cases h), (fun h => by simp at h), (fun h => by simp at h), Below.refl _ _⟩
  case round =>
    obtain ⟨i, f, g, rfl, rfl, rfl, hi, HF0, HG0, HF, HG', hb⟩ := hrel
    by_cases hin : i < r.length
    · obtain ⟨x, hx⟩ : ∃ x, r[i]? = some x := ⟨_, List.getElem?_eq_getElem hin⟩
      obtain ⟨ad, rfl, hadb, c0, c1, c2, c3, c4, c5, c6, c7⟩ := (hx3.call hb).range hx
      have HX := Lib.hid hx
      obtain ⟨hc1, hc2⟩ := HOC.out x (List.mem_of_getElem? hx)
      obtain ⟨hgx, hgy, _⟩ := HG.out x (List.mem_of_getElem? hx)
      obtain ⟨lo, hi'⟩ := x
      obtain ⟨ci, cq, hci, hcq, elo⟩ := hgx
      obtain ⟨di, dq, hdi, hdq, ehi⟩ := hgy
      dsimp only at elo ehi
      subst elo
      subst ehi
      dsimp only at c0 c1 c2 c3 c4 c5 c6 c7 hc1 hc2
      clear hx
      have hNw := hN.call hb
      have o0 := fun o => (hNw.alloc o).cellAt 0 rfl
      have o1 := fun o => (hNw.alloc o).cellAt 1 rfl
      have o2 := fun o => (hNw.alloc o).cellAt 2 rfl
      have o3 := fun o => (hNw.alloc o).cellAt 3 rfl
      have hR0 := Blk.new' wr 41 #[.bool false, .int .i64 (ci : Int), .string ⟨#[]⟩, .int .i64 (cq : Int), .bool false, .int .i64 (di : Int), .string ⟨#[]⟩, .int .i64 (dq : Int)]
      go_wp2_with fail
      refine (rcmp_rank 1 ⟨⟨false, ai, ⟨#[]⟩⟩, aq⟩ ⟨⟨false, ci, ⟨#[]⟩⟩, cq⟩ _).mono ?_; rintro e w5 ⟨rfl, hb5⟩
      have hb6 := bt (bt hb ((Below.refl wr.heap.size wr).alloc (Nat.le_refl _) _)) hb5
      have hR5 := hR0.call hb5
      have hN5 := hN.call hb6
      clear o0 o1 o2 o3
      have r4 := hR5.cellAt 4 rfl
      have r5 := hR5.cellAt 5 rfl
      have r6 := hR5.cellAt 6 rfl
      have r7 := hR5.cellAt 7 rfl
      have o4 := hN5.cellAt 4 rfl
      have o5 := hN5.cellAt 5 rfl
      have o6 := hN5.cellAt 6 rfl
      have o7 := hN5.cellAt 7 rfl
      have hd1 : decide (0 < cmpR 1 ⟨⟨false, ai, ⟨#[]⟩⟩, aq⟩ ⟨⟨false, ci, ⟨#[]⟩⟩, cq⟩) = false := by simp only [decide_eq_false_iff_not]; omega
      go_wp2_with fail
      refine (rcmp_rank 1 ⟨⟨false, di, ⟨#[]⟩⟩, dq⟩ ⟨⟨false, bi, ⟨#[]⟩⟩, bq⟩ _).mono ?_; rintro e w6 ⟨rfl, hb7⟩
      have hb8 := bt hb6 hb7
      have hR6 := hR5.call hb7
      have hN6 := hN5.call hb7
      clear o4 o5 o6 o7 r4 r5 r6 r7
      have o0 := hN6.cellAt 0 rfl
      have o1 := hN6.cellAt 1 rfl
      have o2 := hN6.cellAt 2 rfl
      have o3 := hN6.cellAt 3 rfl
      have o4 := hN6.cellAt 4 rfl
      have o5 := hN6.cellAt 5 rfl
      have o6 := hN6.cellAt 6 rfl
      have o7 := hN6.cellAt 7 rfl
      have r0 := hR6.cellAt 0 rfl
      have r1 := hR6.cellAt 1 rfl
      have r2 := hR6.cellAt 2 rfl
      have r3 := hR6.cellAt 3 rfl
      have r4 := hR6.cellAt 4 rfl
      have r5 := hR6.cellAt 5 rfl
      have r6 := hR6.cellAt 6 rfl
      have r7 := hR6.cellAt 7 rfl
      have hd2 : decide (0 < cmpR 1 ⟨⟨false, di, ⟨#[]⟩⟩, dq⟩ ⟨⟨false, bi, ⟨#[]⟩⟩, bq⟩) = false := by simp only [decide_eq_false_iff_not]; omega
      generalize hw6 : w6.heap.size = z6 at *
      go_upto_region 9 with fail
      cases f
      · cases g
        · skip
          by_cases h1 : ci = ai
          · by_cases h2 : cq = aq
            · subst h1
              subst h2
              by_cases h3 : di = bi
              · by_cases h4 : dq = bq
                · subst h3
                  subst h4
                  go_quiet (fail)
                  go_wp2
                  go_roundw
                  case rel => exact ⟨i + 1, true, true, by go_num, by first | rfl | (simp; done), by first | rfl | (simp; done), by omega, (fun _ => by omega), (fun _ => by omega), (fun _ => rfl), (fun _ => rfl), below_drewN hb8 _⟩
                  case measure => simp [intOf]; omega
                · subst h3
                  have q4 : ((dq : Int) == (bq : Int)) = false := by simp only [beq_eq_false_iff_ne]; omega
                  go_quiet (fail)
                  go_wp2
                  go_roundw
                  case rel => exact ⟨i + 1, true, false, by go_num, by first | rfl | (simp; done), by first | rfl | (simp; done), by omega, (fun _ => by omega), (fun _ => by omega), (fun _ => rfl), (seen_no (f := Rg.hi) HX.out HG'.out (fun e => by injection e with e e'; injection e with _ e _; omega)), below_drewN hb8 _⟩
                  case measure => simp [intOf]; omega
              · have q3 : ((di : Int) == (bi : Int)) = false := by simp only [beq_eq_false_iff_ne]; omega
                go_quiet (fail)
                go_wp2
                go_roundw
                case rel => exact ⟨i + 1, true, false, by go_num, by first | rfl | (simp; done), by first | rfl | (simp; done), by omega, (fun _ => by omega), (fun _ => by omega), (fun _ => rfl), (seen_no (f := Rg.hi) HX.out HG'.out (fun e => by injection e with e e'; injection e with _ e _; omega)), below_drewN hb8 _⟩
                case measure => simp [intOf]; omega
            · subst h1
              have q2 : ((cq : Int) == (aq : Int)) = false := by simp only [beq_eq_false_iff_ne]; omega
              by_cases h3 : di = bi
              · by_cases h4 : dq = bq
                · subst h3
                  subst h4
                  go_quiet (fail)
                  go_wp2
                  go_roundw
                  case rel => exact ⟨i + 1, false, true, by go_num, by first | rfl | (simp; done), by first | rfl | (simp; done), by omega, (fun _ => by omega), (fun _ => by omega), (seen_no (f := Rg.lo) HX.out HF.out (fun e => by injection e with e e'; injection e with _ e _; omega)), (fun _ => rfl), below_drewN hb8 _⟩
                  case measure => simp [intOf]; omega
                · subst h3
                  have q4 : ((dq : Int) == (bq : Int)) = false := by simp only [beq_eq_false_iff_ne]; omega
                  go_quiet (fail)
                  go_wp2
                  go_roundw
                  case rel => exact ⟨i + 1, false, false, by go_num, by first | rfl | (simp; done), by first | rfl | (simp; done), by omega, (fun _ => by omega), (fun _ => by omega), (seen_no (f := Rg.lo) HX.out HF.out (fun e => by injection e with e e'; injection e with _ e _; omega)), (seen_no (f := Rg.hi) HX.out HG'.out (fun e => by injection e with e e'; injection e with _ e _; omega)), below_drewN hb8 _⟩
                  case measure => simp [intOf]; omega
              · have q3 : ((di : Int) == (bi : Int)) = false := by simp only [beq_eq_false_iff_ne]; omega
                go_quiet (fail)
                go_wp2
                go_roundw
                case rel => exact ⟨i + 1, false, false, by go_num, by first | rfl | (simp; done), by first | rfl | (simp; done), by omega, (fun _ => by omega), (fun _ => by omega), (seen_no (f := Rg.lo) HX.out HF.out (fun e => by injection e with e e'; injection e with _ e _; omega)), (seen_no (f := Rg.hi) HX.out HG'.out (fun e => by injection e with e e'; injection e with _ e _; omega)), below_drewN hb8 _⟩
                case measure => simp [intOf]; omega
          · have q1 : ((ci : Int) == (ai : Int)) = false := by simp only [beq_eq_false_iff_ne]; omega
            by_cases h3 : di = bi
            · by_cases h4 : dq = bq
              · subst h3
                subst h4
                go_quiet (fail)
                go_wp2
                go_roundw
                case rel => exact ⟨i + 1, false, true, by go_num, by first | rfl | (simp; done), by first | rfl | (simp; done), by omega, (fun _ => by omega), (fun _ => by omega), (seen_no (f := Rg.lo) HX.out HF.out (fun e => by injection e with e e'; injection e with _ e _; omega)), (fun _ => rfl), below_drewN hb8 _⟩
                case measure => simp [intOf]; omega
              · subst h3
                have q4 : ((dq : Int) == (bq : Int)) = false := by simp only [beq_eq_false_iff_ne]; omega
                go_quiet (fail)
                go_wp2
                go_roundw
                case rel => exact ⟨i + 1, false, false, by go_num, by first | rfl | (simp; done), by first | rfl | (simp; done), by omega, (fun _ => by omega), (fun _ => by omega), (seen_no (f := Rg.lo) HX.out HF.out (fun e => by injection e with e e'; injection e with _ e _; omega)), (seen_no (f := Rg.hi) HX.out HG'.out (fun e => by injection e with e e'; injection e with _ e _; omega)), below_drewN hb8 _⟩
                case measure => simp [intOf]; omega
            · have q3 : ((di : Int) == (bi : Int)) = false := by simp only [beq_eq_false_iff_ne]; omega
              go_quiet (fail)
              go_wp2
              go_roundw
              case rel => exact ⟨i + 1, false, false, by go_num, by first | rfl | (simp; done), by first | rfl | (simp; done), by omega, (fun _ => by omega), (fun _ => by omega), (seen_no (f := Rg.lo) HX.out HF.out (fun e => by injection e with e e'; injection e with _ e _; omega)), (seen_no (f := Rg.hi) HX.out HG'.out (fun e => by injection e with e e'; injection e with _ e _; omega)), below_drewN hb8 _⟩
              case measure => simp [intOf]; omega
        · skip
          by_cases h1 : ci = ai
          · by_cases h2 : cq = aq
            · subst h1
              subst h2
              go_quiet (fail)
              go_wp2
              go_roundw
              case rel => exact ⟨i + 1, true, true, by go_num, by first | rfl | (simp; done), by first | rfl | (simp; done), by omega, (fun _ => by omega), (fun _ => by omega), (fun _ => rfl), (fun _ => rfl), below_drewN hb8 _⟩
              case measure => simp [intOf]; omega
            · subst h1
              have q2 : ((cq : Int) == (aq : Int)) = false := by simp only [beq_eq_false_iff_ne]; omega
              go_quiet (fail)
              go_wp2
              go_roundw
              case rel => exact ⟨i + 1, false, true, by go_num, by first | rfl | (simp; done), by first | rfl | (simp; done), by omega, (fun _ => by omega), (fun _ => by omega), (seen_no (f := Rg.lo) HX.out HF.out (fun e => by injection e with e e'; injection e with _ e _; omega)), (fun _ => rfl), below_drewN hb8 _⟩
              case measure => simp [intOf]; omega
          · have q1 : ((ci : Int) == (ai : Int)) = false := by simp only [beq_eq_false_iff_ne]; omega
            go_quiet (fail)
            go_wp2
            go_roundw
            case rel => exact ⟨i + 1, false, true, by go_num, by first | rfl | (simp; done), by first | rfl | (simp; done), by omega, (fun _ => by omega), (fun _ => by omega), (seen_no (f := Rg.lo) HX.out HF.out (fun e => by injection e with e e'; injection e with _ e _; omega)), (fun _ => rfl), below_drewN hb8 _⟩
            case measure => simp [intOf]; omega
      · cases g
        · skip
          by_cases h3 : di = bi
          · by_cases h4 : dq = bq
            · subst h3
              subst h4
              go_quiet (fail)
              go_wp2
              go_roundw
              case rel => exact ⟨i + 1, true, true, by go_num, by first | rfl | (simp; done), by first | rfl | (simp; done), by omega, (fun _ => by omega), (fun _ => by omega), (fun _ => rfl), (fun _ => rfl), below_drewN hb8 _⟩
              case measure => simp [intOf]; omega
            · subst h3
              have q4 : ((dq : Int) == (bq : Int)) = false := by simp only [beq_eq_false_iff_ne]; omega
              go_quiet (fail)
              go_wp2
              go_roundw
              case rel => exact ⟨i + 1, true, false, by go_num, by first | rfl | (simp; done), by first | rfl | (simp; done), by omega, (fun _ => by omega), (fun _ => by omega), (fun _ => rfl), (seen_no (f := Rg.hi) HX.out HG'.out (fun e => by injection e with e e'; injection e with _ e _; omega)), below_drewN hb8 _⟩
              case measure => simp [intOf]; omega
          · have q3 : ((di : Int) == (bi : Int)) = false := by simp only [beq_eq_false_iff_ne]; omega
            go_quiet (fail)
            go_wp2
            go_roundw
            case rel => exact ⟨i + 1, true, false, by go_num, by first | rfl | (simp; done), by first | rfl | (simp; done), by omega, (fun _ => by omega), (fun _ => by omega), (fun _ => rfl), (seen_no (f := Rg.hi) HX.out HG'.out (fun e => by injection e with e e'; injection e with _ e _; omega)), below_drewN hb8 _⟩
            case measure => simp [intOf]; omega
        · skip
          go_quiet (fail)
          go_wp2
          go_roundw
          case rel => exact ⟨i + 1, true, true, by go_num, by first | rfl | (simp; done), by first | rfl | (simp; done), by omega, (fun _ => by omega), (fun _ => by omega), (fun _ => rfl), (fun _ => rfl), below_drewN hb8 _⟩
          case measure => simp [intOf]; omega
    · have hin2 : i = r.length := by omega
      subst hin2
      cases r with
      | nil =>
        have hok : ok = false := by rw [HOL.out]; rfl
        subst hok
        have hf : f = false := by cases f; rfl; exact absurd (HF0.out rfl) (by simp)
        have hg : g = false := by cases g; rfl; exact absurd (HG0.out rfl) (by simp)
        subst hf
        subst hg
        go_wp2_with fail
        refine (awake30 _).mono ?_; rintro e w5 ⟨rfl, hb5⟩
        go_wp2
        go_ret
        exact ⟨ret_bool (by first | rfl | (simp; done)), bt (bt hb3 hb) hb5⟩
      | cons a X =>
        have hok : ok = true := by rw [HOL.out]; simp
        subst hok
        obtain ⟨⟨x, hx, ex⟩, ⟨y, hy, ey⟩⟩ := HOM.out (by simp)
        have hf : f = true := HF.out ⟨x, by rw [List.take_length]; exact hx, ex⟩
        have hg : g = true := HG'.out ⟨y, by rw [List.take_length]; exact hy, ey⟩
        subst hf
        subst hg
        have hpos : decide ((0 : Int) < ((a :: X).length : Int)) = true := by simp only [decide_eq_true_eq]; simp
        have hp2 : 0 < (a :: X).length := by simp
        clear hx hy ex ey
        generalize a :: X = r at *
        go_wp2_with fail
        refine (awake30 _).mono ?_; rintro e w5 ⟨rfl, hb5⟩
        go_wp2
        go_ret
        exact ⟨ret_bool (by first | rfl | (simp; done)), bt (bt hb3 hb) hb5⟩

end Go.Proofs.Ytmmnfniebiggpaa
