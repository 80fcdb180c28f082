/-
  The walk of ZoneContains.
-/
import Derived.Test.YtnichmblekbccaaZPlain
namespace Go.Proofs.Ytnichmblekbccaa
open Go.RowKit

theorem list_inj {a b : ByteArray} (h : a.toList = b.toList) : a = b := by
  apply ByteArray.ext
  apply Array.toList_inj.1
  simpa [ByteArray.toList_eq] using h
theorem mem_more {xs : List Vl} {i : Nat} (h : ∃ y ∈ xs.take i, y.null = false) : ∃ y ∈ xs.take (i + 1), y.null = false := by
  obtain ⟨y, hy, e⟩ := h
  exact ⟨y, by rw [List.take_add_one, List.mem_append]; exact .inl hy, e⟩
theorem mem_last {xs : List Vl} {i : Nat} {x : Vl} (hx : xs[i]? = some x) (hn : x.null = false) : ∃ y ∈ xs.take (i + 1), y.null = false :=
  ⟨x, by rw [List.take_add_one, hx]; simp, hn⟩
theorem null_more {xs : List Vl} {i : Nat} {x z : Vl} {f : Bool} (hx : xs[i]? = some x) (hn : x.null = true) (h : (∃ y ∈ xs.take i, y = z ∧ y.null = false) → f = true) : (∃ y ∈ xs.take (i + 1), y = z ∧ y.null = false) → f = true := by
  rintro ⟨y, hy, e, hyn⟩
  rw [List.take_add_one, hx, List.mem_append] at hy
  rcases hy with hy | hy
  · exact h ⟨y, hy, e, hyn⟩
  · simp at hy; subst hy; rw [hn] at hyn; cases hyn
theorem neq_more {xs : List Vl} {i : Nat} {x z : Vl} (hx : xs[i]? = some x) (h : (∃ y ∈ xs.take i, y = z ∧ y.null = false) → false = true) (hne : x ≠ z) : (∃ y ∈ xs.take (i + 1), y = z ∧ y.null = false) → false = true := by
  rintro ⟨y, hy, e, hyn⟩
  rw [List.take_add_one, hx, List.mem_append] at hy
  rcases hy with hy | hy
  · exact h ⟨y, hy, e, hyn⟩
  · simp at hy; subst hy; exact absurd e hne
set_option maxRecDepth 100000 in
set_option maxHeartbeats 4000000 in
theorem walk_ZoneContains (t : Int) (nl : Bool) (A : Option Addr) (n c : Nat) (zs : List Int) (w : World) (_wt : (Lit.int .i64 t).wf = true)
    (hr : Rd w w.heap.size A (zs.map Iv)) (hn : zs.length = n) (hz : ∀ z ∈ zs, (Lit.int .i64 z).wf = true) (_hc : n ≤ c) (hb : n * 8 ≤ 140737488351232) :
    Calls Try.prog 5 #[.int .i64 t, .bool nl, .slice A n c] w fun e w' => e = .returned (.bool true) ∧ Below w.heap.size w w' := by
  have HZ := Lib.hid (wf_i64s hz)
  have HN := Lib.hid hn
  clear hz hn _hc _wt
  go_enter Try.func5, Try.ntmps5
  go_wp2_with fail
  refine (column_any t nl _).mono ?_; rintro e w1 ⟨k, hk, rfl, hb1⟩
  dsimp only [colV]
  have hC1 := Blk.new' w1 32 #[.string ⟨#[120]⟩, .int .i64 (1 + (k : Int)), .int .i64 0, .bool nl]
  have hbc := (Below.refl w1.heap.size w1).alloc (Nat.le_refl _) (.cells #[.string ⟨#[120]⟩, .int .i64 (1 + (k : Int)), .int .i64 0, .bool nl] 32)
  have hr1 := (hr.call hb1).call hbc
  have hbb := bt hb1 hbc
  clear hr hb1 hbc
  go_wp2_with fail
  generalize w1.alloc (.cells #[.string ⟨#[120]⟩, .int .i64 (1 + (k : Int)), .int .i64 0, .bool nl] 32) = w2 at *
  generalize w1.heap.size = gc at *
  refine (values_any k hk nl A n c zs w2 hr1 HN.out HZ.out (by omega)).mono ?_; rintro e w3 ⟨v3, xs, rfl, ho3, _, hl3, hb3⟩
  obtain ⟨B3, d3, rfl, hd3⟩ := own_form ho3
  have hx3 := Rd.of_own ho3
  have hC3 := hC1.call hb3
  have hbb3 := bt hbb hb3
  clear ho3 hC1 hr1 hbb hb3
  have c1 := hC3.cellAt 1 rfl
  go_wp2_with fail
  refine (of_any (1 + (k : Int)) B3 _ d3 xs _ hx3 rfl (by omega)).mono ?_; rintro e w4 ⟨rfl, hb4⟩
  have HL := Lib.hid (zone_law (1 + (k : Int)) xs.length xs)
  generalize zoneL (1 + (k : Int)) xs.length xs = z at *
  obtain ⟨rows, nulls, ⟨mn, mi, mz⟩, ⟨xn, xi, xz⟩⟩ := z
  have hZ4 := Blk.new' w4 25 #[.int .i64 rows, .int .i64 nulls, .bool mn, .int .i64 mi, .string mz, .bool xn, .int .i64 xi, .string xz]
  have hbz := (Below.refl w4.heap.size w4).alloc (Nat.le_refl _) (.cells #[.int .i64 rows, .int .i64 nulls, .bool mn, .int .i64 mi, .string mz, .bool xn, .int .i64 xi, .string xz] 25)
  have hx5 := (hx3.call hb4).call hbz
  have hC5 := (hC3.call hb4).call hbz
  have hb5 := bt (bt hbb3 hb4) hbz
  clear hx3 hC3 hbb3 hb4 hbz c1
  dsimp only [Zv]
  go_wp2_with fail
  generalize w4.alloc (.cells #[.int .i64 rows, .int .i64 nulls, .bool mn, .int .i64 mi, .string mz, .bool xn, .int .i64 xi, .string xz] 25) = w5 at *
  generalize w4.heap.size = gz at *
  go_loopw [10, 11, 12, 28] (fun nn ff gg b wr => ∃ (i kn : Nat) (f g : Bool), b = .int .i64 (i : Int) ∧ nn = .int .i64 (kn : Int) ∧ ff = .bool f ∧ gg = .bool g ∧ i ≤ xs.length ∧ kn ≤ i ∧ Hid (kn = (xs.take i).countP (fun v => v.null)) ∧ Hid (f = true → ∃ y ∈ xs.take i, y.null = false) ∧ Hid (g = true → ∃ y ∈ xs.take i, y.null = false) ∧ Hid ((∃ y ∈ xs.take i, y = ⟨mn, mi, mz⟩ ∧ y.null = false) → f = true) ∧ Hid ((∃ y ∈ xs.take i, y = ⟨xn, xi, xz⟩ ∧ y.null = false) → g = true) ∧ Below w5.heap.size w5 wr) (fun _ _ _ b _ => xs.length - (intOf b).toNat)
  case atStart => exact ⟨0, 0, false, false, rfl, rfl, rfl, rfl, by omega, by omega, rfl, (fun h => by cases h), (fun h => by cases h), (fun h => by simp at h), (fun h => by simp at h), Below.refl _ _⟩
  case round =>
    obtain ⟨i, kn, f, g, rfl, rfl, rfl, rfl, hi, hkn, HK, HF0, HG0, HF, HG, hb⟩ := hrel
    by_cases hin : i < xs.length
    · obtain ⟨x, hx⟩ : ∃ x, xs[i]? = some x := ⟨_, List.getElem?_eq_getElem hin⟩
      obtain ⟨ad, rfl, hadb, d0, d1, d2⟩ := (hx5.call hb).val hx
      have HX := Lib.hid hx
      obtain ⟨vn, vi, vz⟩ := x
      clear hx
      cases vn
      · have hmem : (⟨false, vi, vz⟩ : Vl) ∈ xs := List.mem_of_getElem? HX.out
        obtain ⟨h1, h2, h3, h4, h5⟩ := HL.out.some_ ⟨_, hmem, rfl⟩
        dsimp only at h1 h2
        subst h1
        subst h2
        obtain ⟨l1, l2⟩ := h5 _ hmem rfl
        have e1 : lessV (1 + (k : Int)) ⟨false, vi, vz⟩ ⟨false, mi, mz⟩ = false := by
          cases h : lessV (1 + (k : Int)) ⟨false, vi, vz⟩ ⟨false, mi, mz⟩
          · rfl
          · rw [less_cmp rfl rfl] at h
            have := (ord3V (1 + (k : Int))).neg ⟨false, vi, vz⟩ ⟨false, mi, mz⟩
            dsimp only at l1
            omega
        have e2 : lessV (1 + (k : Int)) ⟨false, xi, xz⟩ ⟨false, vi, vz⟩ = false := by
          cases h : lessV (1 + (k : Int)) ⟨false, xi, xz⟩ ⟨false, vi, vz⟩
          · rfl
          · rw [less_cmp rfl rfl] at h
            have := (ord3V (1 + (k : Int))).neg ⟨false, xi, xz⟩ ⟨false, vi, vz⟩
            dsimp only at l2
            omega
        clear h3 h4 h5 l1 l2
        have hV := Blk.new' wr 23 #[.bool false, .int .i64 vi, .string vz]
        have hba := bt hb ((Below.refl wr.heap.size wr).alloc (Nat.le_refl _) (.cells #[.bool false, .int .i64 vi, .string vz] 23))
        have hZw := (hZ4.call hb).alloc (.cells #[.bool false, .int .i64 vi, .string vz] 23)
        have hCw := (hC5.call hb).alloc (.cells #[.bool false, .int .i64 vi, .string vz] 23)
        go_upto_region 10 with fail
        generalize wr.alloc (.cells #[.bool false, .int .i64 vi, .string vz] 23) = wy at *
        generalize wr.heap.size = gv at *
        clear d0 d1 d2
        have z0 := hZw.cellAt 0 rfl
        have z1 := hZw.cellAt 1 rfl
        have z2 := hZw.cellAt 2 rfl
        have z3 := hZw.cellAt 3 rfl
        have z4 := hZw.cellAt 4 rfl
        have z5 := hZw.cellAt 5 rfl
        have z6 := hZw.cellAt 6 rfl
        have z7 := hZw.cellAt 7 rfl
        have c0 := hCw.cellAt 0 rfl
        have c1 := hCw.cellAt 1 rfl
        have c2 := hCw.cellAt 2 rfl
        have c3 := hCw.cellAt 3 rfl
        have v0 := hV.cellAt 0 rfl
        have v1 := hV.cellAt 1 rfl
        have v2 := hV.cellAt 2 rfl
        go_wp2_with fail
        refine (less_any (1 + (k : Int)) ⟨false, vi, vz⟩ ⟨false, mi, mz⟩ _).mono ?_; rintro e w6 ⟨rfl, hb6⟩
        rw [e1]
        have hZ6 := hZw.call hb6
        have hC6 := hCw.call hb6
        have hV6 := hV.call hb6
        clear z0 z1 z2 z3 z4 z5 z6 z7 c0 c1 c2 c3 v0 v1 v2
        have z0 := hZ6.cellAt 0 rfl
        have z1 := hZ6.cellAt 1 rfl
        have z2 := hZ6.cellAt 2 rfl
        have z3 := hZ6.cellAt 3 rfl
        have z4 := hZ6.cellAt 4 rfl
        have z5 := hZ6.cellAt 5 rfl
        have z6 := hZ6.cellAt 6 rfl
        have z7 := hZ6.cellAt 7 rfl
        have c0 := hC6.cellAt 0 rfl
        have c1 := hC6.cellAt 1 rfl
        have c2 := hC6.cellAt 2 rfl
        have c3 := hC6.cellAt 3 rfl
        have v0 := hV6.cellAt 0 rfl
        have v1 := hV6.cellAt 1 rfl
        have v2 := hV6.cellAt 2 rfl
        go_wp2_with fail
        refine (less_any (1 + (k : Int)) ⟨false, xi, xz⟩ ⟨false, vi, vz⟩ _).mono ?_; rintro e w7 ⟨rfl, hb7⟩
        rw [e2]
        have hZ7 := hZ6.call hb7
        have hC7 := hC6.call hb7
        have hV7 := hV6.call hb7
        have hb8 := bt (bt hba hb6) hb7
        clear z0 z1 z2 z3 z4 z5 z6 z7 c0 c1 c2 c3 v0 v1 v2
        have z0 := hZ7.cellAt 0 rfl
        have z1 := hZ7.cellAt 1 rfl
        have z2 := hZ7.cellAt 2 rfl
        have z3 := hZ7.cellAt 3 rfl
        have z4 := hZ7.cellAt 4 rfl
        have z5 := hZ7.cellAt 5 rfl
        have z6 := hZ7.cellAt 6 rfl
        have z7 := hZ7.cellAt 7 rfl
        have c0 := hC7.cellAt 0 rfl
        have c1 := hC7.cellAt 1 rfl
        have c2 := hC7.cellAt 2 rfl
        have c3 := hC7.cellAt 3 rfl
        have v0 := hV7.cellAt 0 rfl
        have v1 := hV7.cellAt 1 rfl
        have v2 := hV7.cellAt 2 rfl
        clear e1 e2
        go_upto_region 12 with fail
        cases f
        · cases g
          · skip
            by_cases p1 : vi = mi
            · by_cases p2 : vz = mz
              · subst p1
                subst p2
                by_cases q1 : vi = xi
                · by_cases q2 : vz = xz
                  · subst q1
                    subst q2
                    go_quiet (fail)
                    go_wp2
                    go_roundw
                    case rel => exact ⟨i + 1, kn, true, true, by go_num, rfl, by first | rfl | (simp; done), by first | rfl | (simp; done), by omega, by omega, by show _ = _; rw [List.take_add_one, HX.out, List.countP_append, ← HK.out]; simp, (fun _ => mem_last HX.out rfl), (fun _ => mem_last HX.out rfl), (fun _ => rfl), (fun _ => rfl), below_drewN hb8 _⟩
                    case measure => simp [intOf]; omega
                  · have q3 : (vz.toList == xz.toList) = false := by simp only [beq_eq_false_iff_ne]; exact fun e => q2 (list_inj e)
                    subst q1
                    go_quiet (fail)
                    go_wp2
                    go_roundw
                    case rel => exact ⟨i + 1, kn, true, false, by go_num, rfl, by first | rfl | (simp; done), by first | rfl | (simp; done), by omega, by omega, by show _ = _; rw [List.take_add_one, HX.out, List.countP_append, ← HK.out]; simp, (fun _ => mem_last HX.out rfl), (fun _ => mem_last HX.out rfl), (fun _ => rfl), (neq_more HX.out HG.out (fun e => by injection e with _ _ e2; exact q2 e2)), below_drewN hb8 _⟩
                    case measure => simp [intOf]; omega
                · have q4 : (vi == xi) = false := by simp only [beq_eq_false_iff_ne]; exact q1
                  go_quiet (fail)
                  go_wp2
                  go_roundw
                  case rel => exact ⟨i + 1, kn, true, false, by go_num, rfl, by first | rfl | (simp; done), by first | rfl | (simp; done), by omega, by omega, by show _ = _; rw [List.take_add_one, HX.out, List.countP_append, ← HK.out]; simp, (fun _ => mem_last HX.out rfl), (fun _ => mem_last HX.out rfl), (fun _ => rfl), (neq_more HX.out HG.out (fun e => by injection e with _ e1 _; exact q1 e1)), below_drewN hb8 _⟩
                  case measure => simp [intOf]; omega
              · have p3 : (vz.toList == mz.toList) = false := by simp only [beq_eq_false_iff_ne]; exact fun e => p2 (list_inj e)
                subst p1
                by_cases q1 : vi = xi
                · by_cases q2 : vz = xz
                  · subst q1
                    subst q2
                    go_quiet (fail)
                    go_wp2
                    go_roundw
                    case rel => exact ⟨i + 1, kn, false, true, by go_num, rfl, by first | rfl | (simp; done), by first | rfl | (simp; done), by omega, by omega, by show _ = _; rw [List.take_add_one, HX.out, List.countP_append, ← HK.out]; simp, (fun _ => mem_last HX.out rfl), (fun _ => mem_last HX.out rfl), (neq_more HX.out HF.out (fun e => by injection e with _ _ e2; exact p2 e2)), (fun _ => rfl), below_drewN hb8 _⟩
                    case measure => simp [intOf]; omega
                  · have q3 : (vz.toList == xz.toList) = false := by simp only [beq_eq_false_iff_ne]; exact fun e => q2 (list_inj e)
                    subst q1
                    go_quiet (fail)
                    go_wp2
                    go_roundw
                    case rel => exact ⟨i + 1, kn, false, false, by go_num, rfl, by first | rfl | (simp; done), by first | rfl | (simp; done), by omega, by omega, by show _ = _; rw [List.take_add_one, HX.out, List.countP_append, ← HK.out]; simp, (fun _ => mem_last HX.out rfl), (fun _ => mem_last HX.out rfl), (neq_more HX.out HF.out (fun e => by injection e with _ _ e2; exact p2 e2)), (neq_more HX.out HG.out (fun e => by injection e with _ _ e2; exact q2 e2)), below_drewN hb8 _⟩
                    case measure => simp [intOf]; omega
                · have q4 : (vi == xi) = false := by simp only [beq_eq_false_iff_ne]; exact q1
                  go_quiet (fail)
                  go_wp2
                  go_roundw
                  case rel => exact ⟨i + 1, kn, false, false, by go_num, rfl, by first | rfl | (simp; done), by first | rfl | (simp; done), by omega, by omega, by show _ = _; rw [List.take_add_one, HX.out, List.countP_append, ← HK.out]; simp, (fun _ => mem_last HX.out rfl), (fun _ => mem_last HX.out rfl), (neq_more HX.out HF.out (fun e => by injection e with _ _ e2; exact p2 e2)), (neq_more HX.out HG.out (fun e => by injection e with _ e1 _; exact q1 e1)), below_drewN hb8 _⟩
                  case measure => simp [intOf]; omega
            · have p4 : (vi == mi) = false := by simp only [beq_eq_false_iff_ne]; exact p1
              by_cases q1 : vi = xi
              · by_cases q2 : vz = xz
                · subst q1
                  subst q2
                  go_quiet (fail)
                  go_wp2
                  go_roundw
                  case rel => exact ⟨i + 1, kn, false, true, by go_num, rfl, by first | rfl | (simp; done), by first | rfl | (simp; done), by omega, by omega, by show _ = _; rw [List.take_add_one, HX.out, List.countP_append, ← HK.out]; simp, (fun _ => mem_last HX.out rfl), (fun _ => mem_last HX.out rfl), (neq_more HX.out HF.out (fun e => by injection e with _ e1 _; exact p1 e1)), (fun _ => rfl), below_drewN hb8 _⟩
                  case measure => simp [intOf]; omega
                · have q3 : (vz.toList == xz.toList) = false := by simp only [beq_eq_false_iff_ne]; exact fun e => q2 (list_inj e)
                  subst q1
                  go_quiet (fail)
                  go_wp2
                  go_roundw
                  case rel => exact ⟨i + 1, kn, false, false, by go_num, rfl, by first | rfl | (simp; done), by first | rfl | (simp; done), by omega, by omega, by show _ = _; rw [List.take_add_one, HX.out, List.countP_append, ← HK.out]; simp, (fun _ => mem_last HX.out rfl), (fun _ => mem_last HX.out rfl), (neq_more HX.out HF.out (fun e => by injection e with _ e1 _; exact p1 e1)), (neq_more HX.out HG.out (fun e => by injection e with _ _ e2; exact q2 e2)), below_drewN hb8 _⟩
                  case measure => simp [intOf]; omega
              · have q4 : (vi == xi) = false := by simp only [beq_eq_false_iff_ne]; exact q1
                go_quiet (fail)
                go_wp2
                go_roundw
                case rel => exact ⟨i + 1, kn, false, false, by go_num, rfl, by first | rfl | (simp; done), by first | rfl | (simp; done), by omega, by omega, by show _ = _; rw [List.take_add_one, HX.out, List.countP_append, ← HK.out]; simp, (fun _ => mem_last HX.out rfl), (fun _ => mem_last HX.out rfl), (neq_more HX.out HF.out (fun e => by injection e with _ e1 _; exact p1 e1)), (neq_more HX.out HG.out (fun e => by injection e with _ e1 _; exact q1 e1)), below_drewN hb8 _⟩
                case measure => simp [intOf]; omega
          · skip
            by_cases p1 : vi = mi
            · by_cases p2 : vz = mz
              · subst p1
                subst p2
                go_quiet (fail)
                go_wp2
                go_roundw
                case rel => exact ⟨i + 1, kn, true, true, by go_num, rfl, by first | rfl | (simp; done), by first | rfl | (simp; done), by omega, by omega, by show _ = _; rw [List.take_add_one, HX.out, List.countP_append, ← HK.out]; simp, (fun _ => mem_last HX.out rfl), (fun _ => mem_last HX.out rfl), (fun _ => rfl), (fun _ => rfl), below_drewN hb8 _⟩
                case measure => simp [intOf]; omega
              · have p3 : (vz.toList == mz.toList) = false := by simp only [beq_eq_false_iff_ne]; exact fun e => p2 (list_inj e)
                subst p1
                go_quiet (fail)
                go_wp2
                go_roundw
                case rel => exact ⟨i + 1, kn, false, true, by go_num, rfl, by first | rfl | (simp; done), by first | rfl | (simp; done), by omega, by omega, by show _ = _; rw [List.take_add_one, HX.out, List.countP_append, ← HK.out]; simp, (fun _ => mem_last HX.out rfl), (fun _ => mem_last HX.out rfl), (neq_more HX.out HF.out (fun e => by injection e with _ _ e2; exact p2 e2)), (fun _ => rfl), below_drewN hb8 _⟩
                case measure => simp [intOf]; omega
            · have p4 : (vi == mi) = false := by simp only [beq_eq_false_iff_ne]; exact p1
              go_quiet (fail)
              go_wp2
              go_roundw
              case rel => exact ⟨i + 1, kn, false, true, by go_num, rfl, by first | rfl | (simp; done), by first | rfl | (simp; done), by omega, by omega, by show _ = _; rw [List.take_add_one, HX.out, List.countP_append, ← HK.out]; simp, (fun _ => mem_last HX.out rfl), (fun _ => mem_last HX.out rfl), (neq_more HX.out HF.out (fun e => by injection e with _ e1 _; exact p1 e1)), (fun _ => rfl), below_drewN hb8 _⟩
              case measure => simp [intOf]; omega
        · cases g
          · skip
            by_cases q1 : vi = xi
            · by_cases q2 : vz = xz
              · subst q1
                subst q2
                go_quiet (fail)
                go_wp2
                go_roundw
                case rel => exact ⟨i + 1, kn, true, true, by go_num, rfl, by first | rfl | (simp; done), by first | rfl | (simp; done), by omega, by omega, by show _ = _; rw [List.take_add_one, HX.out, List.countP_append, ← HK.out]; simp, (fun _ => mem_last HX.out rfl), (fun _ => mem_last HX.out rfl), (fun _ => rfl), (fun _ => rfl), below_drewN hb8 _⟩
                case measure => simp [intOf]; omega
              · have q3 : (vz.toList == xz.toList) = false := by simp only [beq_eq_false_iff_ne]; exact fun e => q2 (list_inj e)
                subst q1
                go_quiet (fail)
                go_wp2
                go_roundw
                case rel => exact ⟨i + 1, kn, true, false, by go_num, rfl, by first | rfl | (simp; done), by first | rfl | (simp; done), by omega, by omega, by show _ = _; rw [List.take_add_one, HX.out, List.countP_append, ← HK.out]; simp, (fun _ => mem_last HX.out rfl), (fun _ => mem_last HX.out rfl), (fun _ => rfl), (neq_more HX.out HG.out (fun e => by injection e with _ _ e2; exact q2 e2)), below_drewN hb8 _⟩
                case measure => simp [intOf]; omega
            · have q4 : (vi == xi) = false := by simp only [beq_eq_false_iff_ne]; exact q1
              go_quiet (fail)
              go_wp2
              go_roundw
              case rel => exact ⟨i + 1, kn, true, false, by go_num, rfl, by first | rfl | (simp; done), by first | rfl | (simp; done), by omega, by omega, by show _ = _; rw [List.take_add_one, HX.out, List.countP_append, ← HK.out]; simp, (fun _ => mem_last HX.out rfl), (fun _ => mem_last HX.out rfl), (fun _ => rfl), (neq_more HX.out HG.out (fun e => by injection e with _ e1 _; exact q1 e1)), below_drewN hb8 _⟩
              case measure => simp [intOf]; omega
          · skip
            go_quiet (fail)
            go_wp2
            go_roundw
            case rel => exact ⟨i + 1, kn, true, true, by go_num, rfl, by first | rfl | (simp; done), by first | rfl | (simp; done), by omega, by omega, by show _ = _; rw [List.take_add_one, HX.out, List.countP_append, ← HK.out]; simp, (fun _ => mem_last HX.out rfl), (fun _ => mem_last HX.out rfl), (fun _ => rfl), (fun _ => rfl), below_drewN hb8 _⟩
            case measure => simp [intOf]; omega
      · go_wp2
        go_roundw
        case rel => exact ⟨i + 1, kn + 1, f, g, by go_num, by go_num, rfl, rfl, by omega, by omega, by show _ = _; rw [List.take_add_one, HX.out, List.countP_append, ← HK.out]; simp, (fun h => mem_more (HF0.out h)), (fun h => mem_more (HG0.out h)), null_more HX.out rfl HF.out, null_more HX.out rfl HG.out, bt hb ((Below.refl _ _).alloc (Nat.le_refl _) _)⟩
        case measure => simp [intOf]; omega
    · have hin2 : i = xs.length := by omega
      subst hin2
      rw [List.take_length] at HK HF0 HG0 HF HG
      have hrows := HL.out.rows
      have hnul := HL.out.nulls
      dsimp only at hrows hnul
      rw [← HK.out] at hnul
      subst hrows
      subst hnul
      have hZw := hZ4.call hb
      by_cases hs : ∃ v ∈ xs, v.null = false
      · obtain ⟨h1, h2, h3, h4, _⟩ := HL.out.some_ hs
        have hf : f = true := HF.out ⟨_, h3, rfl, h1⟩
        have hg : g = true := HG.out ⟨_, h4, rfl, h2⟩
        subst hf
        subst hg
        have hlt : kn < xs.length := by
          rcases Nat.lt_or_ge kn xs.length with h | h
          · exact h
          · exfalso
            have he : xs.countP (fun v => v.null) = xs.length := by rw [← HK.out]; omega
            obtain ⟨v, hv, hvn⟩ := hs
            have := List.countP_eq_length.1 he v hv
            rw [hvn] at this; cases this
        clear hs h1 h2 h3 h4
        go_wp2_with fail
        refine (awake14 _).mono ?_; rintro e w6 ⟨rfl, hb6⟩
        have z0 := (hZw.call hb6).cellAt 0 rfl
        have z1 := (hZw.call hb6).cellAt 1 rfl
        go_wp2
        go_ret
        exact ⟨ret_bool (by first | rfl | (simp; done)), bt (bt hb5 hb) hb6⟩
      · have hf : f = false := by cases f; rfl; exact absurd (HF0.out rfl) hs
        have hg : g = false := by cases g; rfl; exact absurd (HG0.out rfl) hs
        subst hf
        subst hg
        have hkl : kn = xs.length := by
          rw [HK.out]
          refine List.countP_eq_length.2 (fun v hv => ?_)
          cases hvn : v.null
          · exact absurd ⟨v, hv, hvn⟩ hs
          · rfl
        clear hs
        subst hkl
        go_wp2_with fail
        refine (awake14 _).mono ?_; rintro e w6 ⟨rfl, hb6⟩
        have z0 := (hZw.call hb6).cellAt 0 rfl
        have z1 := (hZw.call hb6).cellAt 1 rfl
        go_wp2
        go_ret
        exact ⟨ret_bool (by first | rfl | (simp; done)), bt (bt hb5 hb) hb6⟩

end Go.Proofs.Ytnichmblekbccaa
