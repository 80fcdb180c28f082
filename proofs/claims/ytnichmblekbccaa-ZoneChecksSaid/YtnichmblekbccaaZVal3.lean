/-
  The maker of a value of the type Bytes.
-/
import Derived.Test.YtnichmblekbccaaZVal
namespace Go.Proofs.Ytnichmblekbccaa
open Go.RowKit

theorem ok_bytes {s : List UInt8} {nl : Bool} (h : s.length ≤ 64) : okV 3 ⟨false, 0, ⟨s.toArray⟩⟩ ∧ (false = true → nl = true) := by
  have hs : (ByteArray.mk s.toArray).size ≤ 64 := by rw [size_mk]; exact h
  exact ⟨⟨fun e => (by cases e), fun _ => rfl, fun h => absurd rfl h, decide_eq_true hs, by unfold I64; simp, hs⟩, fun h => by cases h⟩
theorem infoU8z : (Try.prog.info? 5).map (fun i => (i.zero, i.size, i.bytes)) = some (some (.int .u8 0), 1, 1) := by kernel_rfl
theorem bytesZ : SlTy Try.prog 72 5 (.int .u8 0) 1 1 := ⟨Try.underlying72, info_parts infoU8z⟩
set_option maxRecDepth 100000 in
set_option maxHeartbeats 2000000 in
theorem kval_3 (g : Nat) (A : Option Addr) (n c i : Nat) (nl : Bool) (w : World) (hs : Src w g A n c i) :
    Calls Try.prog 30 #[.pointer (some ⟨g, 0, none⟩), colV 3 nl] w (ValPost w g A n c 3 nl) := by
  have hlt := hs.lt
  dsimp only [colV]
  have hC := (Blk.new' w 32 #[.string ⟨#[120]⟩, .int .i64 3, .int .i64 0, .bool nl]).alloc (.cells #[.bool false, .int .i64 0, .string ⟨#[]⟩] 23)
  have hZ := Blk.new' (w.alloc (.cells #[.string ⟨#[120]⟩, .int .i64 3, .int .i64 0, .bool nl] 32)) 23 #[.bool false, .int .i64 0, .string ⟨#[]⟩]
  have s1 : (w.alloc (.cells #[.string ⟨#[120]⟩, .int .i64 3, .int .i64 0, .bool nl] 32)).heap.size = w.heap.size + 1 := by simp
  rw [s1] at hZ
  clear s1
  have hb := ((Below.refl w.heap.size w).alloc (Nat.le_refl _) (.cells #[.string ⟨#[120]⟩, .int .i64 3, .int .i64 0, .bool nl] 32)).alloc (by simp) (.cells #[.bool false, .int .i64 0, .string ⟨#[]⟩] 23)
  have hs' := hs.below hb
  have hG : w.grownBy ((w.alloc (.cells #[.string ⟨#[120]⟩, .int .i64 3, .int .i64 0, .bool nl] 32)).alloc (.cells #[.bool false, .int .i64 0, .string ⟨#[]⟩] 23)) (some g) := ⟨hb.os, hb.tape, hb.output, hb.size, fun k hk _ => hb.block k hk⟩
  clear hs hb
  have hs := hs'
  clear hs'
  go_enter Try.func30, Try.ntmps30
  go_upto_region 1 with fail
  generalize (w.alloc (.cells #[.string ⟨#[120]⟩, .int .i64 3, .int .i64 0, .bool nl] 32)).alloc (.cells #[.bool false, .int .i64 0, .string ⟨#[]⟩] 23) = wa at *
  generalize hgz : w.heap.size = gz at *
  cases nl
  · have c0 := hC.cellAt 0 rfl
    have c1 := hC.cellAt 1 rfl
    have c2 := hC.cellAt 2 rfl
    have c3 := hC.cellAt 3 rfl
    have zf := fun j => hZ.frozen j
    have z0 := hZ.cellAt 0 rfl
    have z1 := hZ.cellAt 1 rfl
    have z2 := hZ.cellAt 2 rfl
    go_wp2_with fail
    clear c0 c1 c2 c3 zf z0 z1 z2
    refine (next_any g A n c _ 7 _ hs (by omega) (by omega)).mono ?_; rintro e u ⟨k7, hk7, rfl, hs', hg'⟩
    have hC' := hC.grownB hg' (by omega)
    have hZ' := hZ.grownB hg' (by omega)
    have hG' := hG.trans hg'
    clear hs hC hZ hG hg'
    have hs := hs'
    have hC := hC'
    have hZ := hZ'
    have hG := hG'
    clear hs' hC' hZ' hG'
    go_wp2_with fail
    refine (next_any g A n c _ 8 _ hs (by omega) (by omega)).mono ?_; rintro e u ⟨k8, hk8, rfl, hs', hg'⟩
    have hC' := hC.grownB hg' (by omega)
    have hZ' := hZ.grownB hg' (by omega)
    have hG' := hG.trans hg'
    clear hs hC hZ hG hg'
    have hs := hs'
    have hC := hC'
    have hZ := hZ'
    have hG := hG'
    clear hs' hC' hZ' hG'
    by_cases h80 : k8 = 0
    · subst h80
      go_wp2_with fail
      refine (raw_any g A n c _ _ hs).mono ?_; rintro e u ⟨x, hx, rfl, hs', hg'⟩
      have hC' := hC.grownB hg' (by omega)
      have hZ' := hZ.grownB hg' (by omega)
      have hG' := hG.trans hg'
      clear hs hC hZ hG hg'
      have hs := hs'
      have hC := hC'
      have hZ := hZ'
      have hG := hG'
      clear hs' hC' hZ' hG'
      have c0 := hC.cellAt 0 rfl
      have c1 := hC.cellAt 1 rfl
      have c2 := hC.cellAt 2 rfl
      have c3 := hC.cellAt 3 rfl
      have zf := fun j => hZ.frozen j
      have z0 := hZ.cellAt 0 rfl
      have z1 := hZ.cellAt 1 rfl
      have z2 := hZ.cellAt 2 rfl
      go_wp2_with fail
      clear c0 c1 c2 c3 zf z0 z1 z2
      refine (next_any g A n c _ 4 _ hs (by omega) (by omega)).mono ?_; rintro e u ⟨kb, hkb, rfl, hs', hg'⟩
      have hC' := hC.grownB hg' (by omega)
      have hZ' := hZ.grownB hg' (by omega)
      have hG' := hG.trans hg'
      clear hs hC hZ hG hg'
      have hs := hs'
      have hC := hC'
      have hZ := hZ'
      have hG := hG'
      clear hs' hC' hZ' hG'
      go_wp2_with fail
      go_loopw [6, 7] (fun sx kx wr => ∃ (m j : Nat) (s : List UInt8), kx = .int .i64 (m : Int) ∧ sx = Sv s ∧ s.length + m ≤ 4 ∧ Src wr g A n c j ∧ Blk wr (gz + 1) 23 [.bool false, .int .i64 0, .string ⟨#[]⟩] ∧ w.grownBy wr (some g)) (fun _ kx _ => (intOf kx).toNat)
      case atStart => exact ⟨kb, _, [], rfl, rfl, by simp; omega, hs, hZ, hG⟩
      case round =>
        clear hs hC hZ hG
        obtain ⟨m, j, s, rfl, rfl, hl, hs, hZ, hG⟩ := hrel
        by_cases hm : 0 < m
        · go_wp2_with fail
          refine (next_any g A n c _ 3 _ hs (by omega) (by omega)).mono ?_; rintro e u ⟨kk, hkk, rfl, hs', hg'⟩
          have hZ' := hZ.grownB hg' (by omega)
          have hG' := hG.trans hg'
          have hbs := byte_str bytesZ Try.underlying5 Try.underlying9 (97 + kk) (by omega) u
          have hw := sadd (P := Try.prog) (a := s) (b := [UInt8.ofNat (97 + kk)]) (by simp; omega)
          have hcast : (((97 + kk : Nat) : Nat) : Int) = 97 + (kk : Int) := by omega
          rw [hcast] at hbs
          have hsA := hs'.below ((Below.refl u.heap.size u).alloc (Nat.le_refl _) (.cells #[.int .u8 (97 + (kk : Int))] 5))
          have hZA := hZ'.alloc (.cells #[.int .u8 (97 + (kk : Int))] 5)
          have hGA : w.grownBy (u.alloc (.cells #[.int .u8 (97 + (kk : Int))] 5)) (some g) := hG'.trans ⟨rfl, rfl, rfl, by simp, fun k hk _ => heap_alloc_old u _ hk⟩
          go_wp2
          exact ⟨⟨m - 1, _, s ++ [97 + UInt8.ofNat kk], by congr 1; omega, congrArg Value.string (sv_add s [97 + UInt8.ofNat kk]), by simp; omega, hsA, hZA, hGA⟩, by simp [intOf]; omega⟩
        · have hm0 : m = 0 := by omega
          subst hm0
          have zf := fun j => hZ.frozen j
          have z0 := hZ.cellAt 0 rfl
          have z1 := hZ.cellAt 1 rfl
          have z2 := hZ.cellAt 2 rfl
          go_wp2
          have hg3 := put3_grown wr (gz + 1) (.bool false) (.int .i64 0) (.string ⟨s.toArray⟩)
          have hsf := hs.grown hg3 (fun k e => by injection e with e; omega)
          have hGf := grown_side hG hg3 (by omega)
          exact bodyPost_ret (v := .agg #[.bool false, .int .i64 0, .string ⟨s.toArray⟩]) (by simp [results, Try.results30, go_sem, z0, z1, z2]) rfl ⟨⟨false, 0, ⟨s.toArray⟩⟩, ok_bytes (by omega), rfl, ⟨_, hsf⟩, hGf⟩
    · have q0 : ((k8 : Int) == 0) = false := by simp only [beq_eq_false_iff_ne]; omega
      by_cases h81 : k8 = 1
      · subst h81
        go_wp2_with fail
        refine (raw_any g A n c _ _ hs).mono ?_; rintro e u ⟨x, hx, rfl, hs', hg'⟩
        have hC' := hC.grownB hg' (by omega)
        have hZ' := hZ.grownB hg' (by omega)
        have hG' := hG.trans hg'
        clear hs hC hZ hG hg'
        have hs := hs'
        have hC := hC'
        have hZ := hZ'
        have hG := hG'
        clear hs' hC' hZ' hG'
        have c0 := hC.cellAt 0 rfl
        have c1 := hC.cellAt 1 rfl
        have c2 := hC.cellAt 2 rfl
        have c3 := hC.cellAt 3 rfl
        have zf := fun j => hZ.frozen j
        have z0 := hZ.cellAt 0 rfl
        have z1 := hZ.cellAt 1 rfl
        have z2 := hZ.cellAt 2 rfl
        go_wp2_with fail
        clear c0 c1 c2 c3 zf z0 z1 z2
        refine (next_any g A n c _ 4 _ hs (by omega) (by omega)).mono ?_; rintro e u ⟨kb, hkb, rfl, hs', hg'⟩
        have hC' := hC.grownB hg' (by omega)
        have hZ' := hZ.grownB hg' (by omega)
        have hG' := hG.trans hg'
        clear hs hC hZ hG hg'
        have hs := hs'
        have hC := hC'
        have hZ := hZ'
        have hG := hG'
        clear hs' hC' hZ' hG'
        go_wp2_with fail
        go_loopw [6, 7] (fun sx kx wr => ∃ (m j : Nat) (s : List UInt8), kx = .int .i64 (m : Int) ∧ sx = Sv s ∧ s.length + m ≤ 4 ∧ Src wr g A n c j ∧ Blk wr (gz + 1) 23 [.bool false, .int .i64 0, .string ⟨#[]⟩] ∧ w.grownBy wr (some g)) (fun _ kx _ => (intOf kx).toNat)
        case atStart => exact ⟨kb, _, [], rfl, rfl, by simp; omega, hs, hZ, hG⟩
        case round =>
          clear hs hC hZ hG
          obtain ⟨m, j, s, rfl, rfl, hl, hs, hZ, hG⟩ := hrel
          by_cases hm : 0 < m
          · go_wp2_with fail
            refine (next_any g A n c _ 3 _ hs (by omega) (by omega)).mono ?_; rintro e u ⟨kk, hkk, rfl, hs', hg'⟩
            have hZ' := hZ.grownB hg' (by omega)
            have hG' := hG.trans hg'
            have hbs := byte_str bytesZ Try.underlying5 Try.underlying9 (97 + kk) (by omega) u
            have hw := sadd (P := Try.prog) (a := s) (b := [UInt8.ofNat (97 + kk)]) (by simp; omega)
            have hcast : (((97 + kk : Nat) : Nat) : Int) = 97 + (kk : Int) := by omega
            rw [hcast] at hbs
            have hsA := hs'.below ((Below.refl u.heap.size u).alloc (Nat.le_refl _) (.cells #[.int .u8 (97 + (kk : Int))] 5))
            have hZA := hZ'.alloc (.cells #[.int .u8 (97 + (kk : Int))] 5)
            have hGA : w.grownBy (u.alloc (.cells #[.int .u8 (97 + (kk : Int))] 5)) (some g) := hG'.trans ⟨rfl, rfl, rfl, by simp, fun k hk _ => heap_alloc_old u _ hk⟩
            go_wp2
            exact ⟨⟨m - 1, _, s ++ [97 + UInt8.ofNat kk], by congr 1; omega, congrArg Value.string (sv_add s [97 + UInt8.ofNat kk]), by simp; omega, hsA, hZA, hGA⟩, by simp [intOf]; omega⟩
          · have hm0 : m = 0 := by omega
            subst hm0
            have zf := fun j => hZ.frozen j
            have z0 := hZ.cellAt 0 rfl
            have z1 := hZ.cellAt 1 rfl
            have z2 := hZ.cellAt 2 rfl
            go_wp2
            have hg3 := put3_grown wr (gz + 1) (.bool false) (.int .i64 0) (.string ⟨s.toArray⟩)
            have hsf := hs.grown hg3 (fun k e => by injection e with e; omega)
            have hGf := grown_side hG hg3 (by omega)
            exact bodyPost_ret (v := .agg #[.bool false, .int .i64 0, .string ⟨s.toArray⟩]) (by simp [results, Try.results30, go_sem, z0, z1, z2]) rfl ⟨⟨false, 0, ⟨s.toArray⟩⟩, ok_bytes (by omega), rfl, ⟨_, hsf⟩, hGf⟩
      · have q1 : ((k8 : Int) == 1) = false := by simp only [beq_eq_false_iff_ne]; omega
        have c0 := hC.cellAt 0 rfl
        have c1 := hC.cellAt 1 rfl
        have c2 := hC.cellAt 2 rfl
        have c3 := hC.cellAt 3 rfl
        have zf := fun j => hZ.frozen j
        have z0 := hZ.cellAt 0 rfl
        have z1 := hZ.cellAt 1 rfl
        have z2 := hZ.cellAt 2 rfl
        go_wp2_with fail
        clear c0 c1 c2 c3 zf z0 z1 z2
        refine (next_any g A n c _ 4 _ hs (by omega) (by omega)).mono ?_; rintro e u ⟨kb, hkb, rfl, hs', hg'⟩
        have hC' := hC.grownB hg' (by omega)
        have hZ' := hZ.grownB hg' (by omega)
        have hG' := hG.trans hg'
        clear hs hC hZ hG hg'
        have hs := hs'
        have hC := hC'
        have hZ := hZ'
        have hG := hG'
        clear hs' hC' hZ' hG'
        go_wp2_with fail
        go_loopw [6, 7] (fun sx kx wr => ∃ (m j : Nat) (s : List UInt8), kx = .int .i64 (m : Int) ∧ sx = Sv s ∧ s.length + m ≤ 4 ∧ Src wr g A n c j ∧ Blk wr (gz + 1) 23 [.bool false, .int .i64 0, .string ⟨#[]⟩] ∧ w.grownBy wr (some g)) (fun _ kx _ => (intOf kx).toNat)
        case atStart => exact ⟨kb, _, [], rfl, rfl, by simp; omega, hs, hZ, hG⟩
        case round =>
          clear hs hC hZ hG
          obtain ⟨m, j, s, rfl, rfl, hl, hs, hZ, hG⟩ := hrel
          by_cases hm : 0 < m
          · go_wp2_with fail
            refine (next_any g A n c _ 3 _ hs (by omega) (by omega)).mono ?_; rintro e u ⟨kk, hkk, rfl, hs', hg'⟩
            have hZ' := hZ.grownB hg' (by omega)
            have hG' := hG.trans hg'
            have hbs := byte_str bytesZ Try.underlying5 Try.underlying9 (97 + kk) (by omega) u
            have hw := sadd (P := Try.prog) (a := s) (b := [UInt8.ofNat (97 + kk)]) (by simp; omega)
            have hcast : (((97 + kk : Nat) : Nat) : Int) = 97 + (kk : Int) := by omega
            rw [hcast] at hbs
            have hsA := hs'.below ((Below.refl u.heap.size u).alloc (Nat.le_refl _) (.cells #[.int .u8 (97 + (kk : Int))] 5))
            have hZA := hZ'.alloc (.cells #[.int .u8 (97 + (kk : Int))] 5)
            have hGA : w.grownBy (u.alloc (.cells #[.int .u8 (97 + (kk : Int))] 5)) (some g) := hG'.trans ⟨rfl, rfl, rfl, by simp, fun k hk _ => heap_alloc_old u _ hk⟩
            go_wp2
            exact ⟨⟨m - 1, _, s ++ [97 + UInt8.ofNat kk], by congr 1; omega, congrArg Value.string (sv_add s [97 + UInt8.ofNat kk]), by simp; omega, hsA, hZA, hGA⟩, by simp [intOf]; omega⟩
          · have hm0 : m = 0 := by omega
            subst hm0
            have zf := fun j => hZ.frozen j
            have z0 := hZ.cellAt 0 rfl
            have z1 := hZ.cellAt 1 rfl
            have z2 := hZ.cellAt 2 rfl
            go_wp2
            have hg3 := put3_grown wr (gz + 1) (.bool false) (.int .i64 0) (.string ⟨s.toArray⟩)
            have hsf := hs.grown hg3 (fun k e => by injection e with e; omega)
            have hGf := grown_side hG hg3 (by omega)
            exact bodyPost_ret (v := .agg #[.bool false, .int .i64 0, .string ⟨s.toArray⟩]) (by simp [results, Try.results30, go_sem, z0, z1, z2]) rfl ⟨⟨false, 0, ⟨s.toArray⟩⟩, ok_bytes (by omega), rfl, ⟨_, hsf⟩, hGf⟩
  · have c0 := hC.cellAt 0 rfl
    have c1 := hC.cellAt 1 rfl
    have c2 := hC.cellAt 2 rfl
    have c3 := hC.cellAt 3 rfl
    have zf := fun j => hZ.frozen j
    have z0 := hZ.cellAt 0 rfl
    have z1 := hZ.cellAt 1 rfl
    have z2 := hZ.cellAt 2 rfl
    go_wp2_with fail
    clear c0 c1 c2 c3 zf z0 z1 z2
    refine (next_any g A n c _ 4 _ hs (by omega) (by omega)).mono ?_; rintro e u ⟨k4, hk4, rfl, hs', hg'⟩
    have hC' := hC.grownB hg' (by omega)
    have hZ' := hZ.grownB hg' (by omega)
    have hG' := hG.trans hg'
    clear hs hC hZ hG hg'
    have hs := hs'
    have hC := hC'
    have hZ := hZ'
    have hG := hG'
    clear hs' hC' hZ' hG'
    by_cases h40 : k4 = 0
    · subst h40
      have c0 := hC.cellAt 0 rfl
      have c1 := hC.cellAt 1 rfl
      have c2 := hC.cellAt 2 rfl
      have c3 := hC.cellAt 3 rfl
      have zf := fun j => hZ.frozen j
      have z0 := hZ.cellAt 0 rfl
      have z1 := hZ.cellAt 1 rfl
      have z2 := hZ.cellAt 2 rfl
      go_wp2
      have hg3 := put3_grown u (gz + 1) (.bool true) (.int .i64 (0)) (.string ⟨#[]⟩)
      have hsf := hs.grown hg3 (fun k e => by injection e with e; omega)
      have hGf := grown_side hG hg3 (by omega)
      exact bodyPost_ret (v := .agg #[.bool true, .int .i64 (0), .string ⟨#[]⟩]) (by simp [results, Try.results30, go_sem, z0, z1, z2]) rfl ⟨⟨true, 0, ⟨#[]⟩⟩, ok_null, rfl, ⟨_, hsf⟩, hGf⟩
    · have q4 : ((k4 : Int) == 0) = false := by simp only [beq_eq_false_iff_ne]; omega
      have c0 := hC.cellAt 0 rfl
      have c1 := hC.cellAt 1 rfl
      have c2 := hC.cellAt 2 rfl
      have c3 := hC.cellAt 3 rfl
      have zf := fun j => hZ.frozen j
      have z0 := hZ.cellAt 0 rfl
      have z1 := hZ.cellAt 1 rfl
      have z2 := hZ.cellAt 2 rfl
      go_wp2_with fail
      clear c0 c1 c2 c3 zf z0 z1 z2
      refine (next_any g A n c _ 7 _ hs (by omega) (by omega)).mono ?_; rintro e u ⟨k7, hk7, rfl, hs', hg'⟩
      have hC' := hC.grownB hg' (by omega)
      have hZ' := hZ.grownB hg' (by omega)
      have hG' := hG.trans hg'
      clear hs hC hZ hG hg'
      have hs := hs'
      have hC := hC'
      have hZ := hZ'
      have hG := hG'
      clear hs' hC' hZ' hG'
      go_wp2_with fail
      refine (next_any g A n c _ 8 _ hs (by omega) (by omega)).mono ?_; rintro e u ⟨k8, hk8, rfl, hs', hg'⟩
      have hC' := hC.grownB hg' (by omega)
      have hZ' := hZ.grownB hg' (by omega)
      have hG' := hG.trans hg'
      clear hs hC hZ hG hg'
      have hs := hs'
      have hC := hC'
      have hZ := hZ'
      have hG := hG'
      clear hs' hC' hZ' hG'
      by_cases h80 : k8 = 0
      · subst h80
        go_wp2_with fail
        refine (raw_any g A n c _ _ hs).mono ?_; rintro e u ⟨x, hx, rfl, hs', hg'⟩
        have hC' := hC.grownB hg' (by omega)
        have hZ' := hZ.grownB hg' (by omega)
        have hG' := hG.trans hg'
        clear hs hC hZ hG hg'
        have hs := hs'
        have hC := hC'
        have hZ := hZ'
        have hG := hG'
        clear hs' hC' hZ' hG'
        have c0 := hC.cellAt 0 rfl
        have c1 := hC.cellAt 1 rfl
        have c2 := hC.cellAt 2 rfl
        have c3 := hC.cellAt 3 rfl
        have zf := fun j => hZ.frozen j
        have z0 := hZ.cellAt 0 rfl
        have z1 := hZ.cellAt 1 rfl
        have z2 := hZ.cellAt 2 rfl
        go_wp2_with fail
        clear c0 c1 c2 c3 zf z0 z1 z2
        refine (next_any g A n c _ 4 _ hs (by omega) (by omega)).mono ?_; rintro e u ⟨kb, hkb, rfl, hs', hg'⟩
        have hC' := hC.grownB hg' (by omega)
        have hZ' := hZ.grownB hg' (by omega)
        have hG' := hG.trans hg'
        clear hs hC hZ hG hg'
        have hs := hs'
        have hC := hC'
        have hZ := hZ'
        have hG := hG'
        clear hs' hC' hZ' hG'
        go_wp2_with fail
        go_loopw [6, 7] (fun sx kx wr => ∃ (m j : Nat) (s : List UInt8), kx = .int .i64 (m : Int) ∧ sx = Sv s ∧ s.length + m ≤ 4 ∧ Src wr g A n c j ∧ Blk wr (gz + 1) 23 [.bool false, .int .i64 0, .string ⟨#[]⟩] ∧ w.grownBy wr (some g)) (fun _ kx _ => (intOf kx).toNat)
        case atStart => exact ⟨kb, _, [], rfl, rfl, by simp; omega, hs, hZ, hG⟩
        case round =>
          clear hs hC hZ hG
          obtain ⟨m, j, s, rfl, rfl, hl, hs, hZ, hG⟩ := hrel
          by_cases hm : 0 < m
          · go_wp2_with fail
            refine (next_any g A n c _ 3 _ hs (by omega) (by omega)).mono ?_; rintro e u ⟨kk, hkk, rfl, hs', hg'⟩
            have hZ' := hZ.grownB hg' (by omega)
            have hG' := hG.trans hg'
            have hbs := byte_str bytesZ Try.underlying5 Try.underlying9 (97 + kk) (by omega) u
            have hw := sadd (P := Try.prog) (a := s) (b := [UInt8.ofNat (97 + kk)]) (by simp; omega)
            have hcast : (((97 + kk : Nat) : Nat) : Int) = 97 + (kk : Int) := by omega
            rw [hcast] at hbs
            have hsA := hs'.below ((Below.refl u.heap.size u).alloc (Nat.le_refl _) (.cells #[.int .u8 (97 + (kk : Int))] 5))
            have hZA := hZ'.alloc (.cells #[.int .u8 (97 + (kk : Int))] 5)
            have hGA : w.grownBy (u.alloc (.cells #[.int .u8 (97 + (kk : Int))] 5)) (some g) := hG'.trans ⟨rfl, rfl, rfl, by simp, fun k hk _ => heap_alloc_old u _ hk⟩
            go_wp2
            exact ⟨⟨m - 1, _, s ++ [97 + UInt8.ofNat kk], by congr 1; omega, congrArg Value.string (sv_add s [97 + UInt8.ofNat kk]), by simp; omega, hsA, hZA, hGA⟩, by simp [intOf]; omega⟩
          · have hm0 : m = 0 := by omega
            subst hm0
            have zf := fun j => hZ.frozen j
            have z0 := hZ.cellAt 0 rfl
            have z1 := hZ.cellAt 1 rfl
            have z2 := hZ.cellAt 2 rfl
            go_wp2
            have hg3 := put3_grown wr (gz + 1) (.bool false) (.int .i64 0) (.string ⟨s.toArray⟩)
            have hsf := hs.grown hg3 (fun k e => by injection e with e; omega)
            have hGf := grown_side hG hg3 (by omega)
            exact bodyPost_ret (v := .agg #[.bool false, .int .i64 0, .string ⟨s.toArray⟩]) (by simp [results, Try.results30, go_sem, z0, z1, z2]) rfl ⟨⟨false, 0, ⟨s.toArray⟩⟩, ok_bytes (by omega), rfl, ⟨_, hsf⟩, hGf⟩
      · have q0 : ((k8 : Int) == 0) = false := by simp only [beq_eq_false_iff_ne]; omega
        by_cases h81 : k8 = 1
        · subst h81
          go_wp2_with fail
          refine (raw_any g A n c _ _ hs).mono ?_; rintro e u ⟨x, hx, rfl, hs', hg'⟩
          have hC' := hC.grownB hg' (by omega)
          have hZ' := hZ.grownB hg' (by omega)
          have hG' := hG.trans hg'
          clear hs hC hZ hG hg'
          have hs := hs'
          have hC := hC'
          have hZ := hZ'
          have hG := hG'
          clear hs' hC' hZ' hG'
          have c0 := hC.cellAt 0 rfl
          have c1 := hC.cellAt 1 rfl
          have c2 := hC.cellAt 2 rfl
          have c3 := hC.cellAt 3 rfl
          have zf := fun j => hZ.frozen j
          have z0 := hZ.cellAt 0 rfl
          have z1 := hZ.cellAt 1 rfl
          have z2 := hZ.cellAt 2 rfl
          go_wp2_with fail
          clear c0 c1 c2 c3 zf z0 z1 z2
          refine (next_any g A n c _ 4 _ hs (by omega) (by omega)).mono ?_; rintro e u ⟨kb, hkb, rfl, hs', hg'⟩
          have hC' := hC.grownB hg' (by omega)
          have hZ' := hZ.grownB hg' (by omega)
          have hG' := hG.trans hg'
          clear hs hC hZ hG hg'
          have hs := hs'
          have hC := hC'
          have hZ := hZ'
          have hG := hG'
          clear hs' hC' hZ' hG'
          go_wp2_with fail
          go_loopw [6, 7] (fun sx kx wr => ∃ (m j : Nat) (s : List UInt8), kx = .int .i64 (m : Int) ∧ sx = Sv s ∧ s.length + m ≤ 4 ∧ Src wr g A n c j ∧ Blk wr (gz + 1) 23 [.bool false, .int .i64 0, .string ⟨#[]⟩] ∧ w.grownBy wr (some g)) (fun _ kx _ => (intOf kx).toNat)
          case atStart => exact ⟨kb, _, [], rfl, rfl, by simp; omega, hs, hZ, hG⟩
          case round =>
            clear hs hC hZ hG
            obtain ⟨m, j, s, rfl, rfl, hl, hs, hZ, hG⟩ := hrel
            by_cases hm : 0 < m
            · go_wp2_with fail
              refine (next_any g A n c _ 3 _ hs (by omega) (by omega)).mono ?_; rintro e u ⟨kk, hkk, rfl, hs', hg'⟩
              have hZ' := hZ.grownB hg' (by omega)
              have hG' := hG.trans hg'
              have hbs := byte_str bytesZ Try.underlying5 Try.underlying9 (97 + kk) (by omega) u
              have hw := sadd (P := Try.prog) (a := s) (b := [UInt8.ofNat (97 + kk)]) (by simp; omega)
              have hcast : (((97 + kk : Nat) : Nat) : Int) = 97 + (kk : Int) := by omega
              rw [hcast] at hbs
              have hsA := hs'.below ((Below.refl u.heap.size u).alloc (Nat.le_refl _) (.cells #[.int .u8 (97 + (kk : Int))] 5))
              have hZA := hZ'.alloc (.cells #[.int .u8 (97 + (kk : Int))] 5)
              have hGA : w.grownBy (u.alloc (.cells #[.int .u8 (97 + (kk : Int))] 5)) (some g) := hG'.trans ⟨rfl, rfl, rfl, by simp, fun k hk _ => heap_alloc_old u _ hk⟩
              go_wp2
              exact ⟨⟨m - 1, _, s ++ [97 + UInt8.ofNat kk], by congr 1; omega, congrArg Value.string (sv_add s [97 + UInt8.ofNat kk]), by simp; omega, hsA, hZA, hGA⟩, by simp [intOf]; omega⟩
            · have hm0 : m = 0 := by omega
              subst hm0
              have zf := fun j => hZ.frozen j
              have z0 := hZ.cellAt 0 rfl
              have z1 := hZ.cellAt 1 rfl
              have z2 := hZ.cellAt 2 rfl
              go_wp2
              have hg3 := put3_grown wr (gz + 1) (.bool false) (.int .i64 0) (.string ⟨s.toArray⟩)
              have hsf := hs.grown hg3 (fun k e => by injection e with e; omega)
              have hGf := grown_side hG hg3 (by omega)
              exact bodyPost_ret (v := .agg #[.bool false, .int .i64 0, .string ⟨s.toArray⟩]) (by simp [results, Try.results30, go_sem, z0, z1, z2]) rfl ⟨⟨false, 0, ⟨s.toArray⟩⟩, ok_bytes (by omega), rfl, ⟨_, hsf⟩, hGf⟩
        · have q1 : ((k8 : Int) == 1) = false := by simp only [beq_eq_false_iff_ne]; omega
          have c0 := hC.cellAt 0 rfl
          have c1 := hC.cellAt 1 rfl
          have c2 := hC.cellAt 2 rfl
          have c3 := hC.cellAt 3 rfl
          have zf := fun j => hZ.frozen j
          have z0 := hZ.cellAt 0 rfl
          have z1 := hZ.cellAt 1 rfl
          have z2 := hZ.cellAt 2 rfl
          go_wp2_with fail
          clear c0 c1 c2 c3 zf z0 z1 z2
          refine (next_any g A n c _ 4 _ hs (by omega) (by omega)).mono ?_; rintro e u ⟨kb, hkb, rfl, hs', hg'⟩
          have hC' := hC.grownB hg' (by omega)
          have hZ' := hZ.grownB hg' (by omega)
          have hG' := hG.trans hg'
          clear hs hC hZ hG hg'
          have hs := hs'
          have hC := hC'
          have hZ := hZ'
          have hG := hG'
          clear hs' hC' hZ' hG'
          go_wp2_with fail
          go_loopw [6, 7] (fun sx kx wr => ∃ (m j : Nat) (s : List UInt8), kx = .int .i64 (m : Int) ∧ sx = Sv s ∧ s.length + m ≤ 4 ∧ Src wr g A n c j ∧ Blk wr (gz + 1) 23 [.bool false, .int .i64 0, .string ⟨#[]⟩] ∧ w.grownBy wr (some g)) (fun _ kx _ => (intOf kx).toNat)
          case atStart => exact ⟨kb, _, [], rfl, rfl, by simp; omega, hs, hZ, hG⟩
          case round =>
            clear hs hC hZ hG
            obtain ⟨m, j, s, rfl, rfl, hl, hs, hZ, hG⟩ := hrel
            by_cases hm : 0 < m
            · go_wp2_with fail
              refine (next_any g A n c _ 3 _ hs (by omega) (by omega)).mono ?_; rintro e u ⟨kk, hkk, rfl, hs', hg'⟩
              have hZ' := hZ.grownB hg' (by omega)
              have hG' := hG.trans hg'
              have hbs := byte_str bytesZ Try.underlying5 Try.underlying9 (97 + kk) (by omega) u
              have hw := sadd (P := Try.prog) (a := s) (b := [UInt8.ofNat (97 + kk)]) (by simp; omega)
              have hcast : (((97 + kk : Nat) : Nat) : Int) = 97 + (kk : Int) := by omega
              rw [hcast] at hbs
              have hsA := hs'.below ((Below.refl u.heap.size u).alloc (Nat.le_refl _) (.cells #[.int .u8 (97 + (kk : Int))] 5))
              have hZA := hZ'.alloc (.cells #[.int .u8 (97 + (kk : Int))] 5)
              have hGA : w.grownBy (u.alloc (.cells #[.int .u8 (97 + (kk : Int))] 5)) (some g) := hG'.trans ⟨rfl, rfl, rfl, by simp, fun k hk _ => heap_alloc_old u _ hk⟩
              go_wp2
              exact ⟨⟨m - 1, _, s ++ [97 + UInt8.ofNat kk], by congr 1; omega, congrArg Value.string (sv_add s [97 + UInt8.ofNat kk]), by simp; omega, hsA, hZA, hGA⟩, by simp [intOf]; omega⟩
            · have hm0 : m = 0 := by omega
              subst hm0
              have zf := fun j => hZ.frozen j
              have z0 := hZ.cellAt 0 rfl
              have z1 := hZ.cellAt 1 rfl
              have z2 := hZ.cellAt 2 rfl
              go_wp2
              have hg3 := put3_grown wr (gz + 1) (.bool false) (.int .i64 0) (.string ⟨s.toArray⟩)
              have hsf := hs.grown hg3 (fun k e => by injection e with e; omega)
              have hGf := grown_side hG hg3 (by omega)
              exact bodyPost_ret (v := .agg #[.bool false, .int .i64 0, .string ⟨s.toArray⟩]) (by simp [results, Try.results30, go_sem, z0, z1, z2]) rfl ⟨⟨false, 0, ⟨s.toArray⟩⟩, ok_bytes (by omega), rfl, ⟨_, hsf⟩, hGf⟩

end Go.Proofs.Ytnichmblekbccaa
