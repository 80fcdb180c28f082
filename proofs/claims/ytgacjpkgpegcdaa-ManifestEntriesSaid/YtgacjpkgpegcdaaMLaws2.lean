/-
  Laws of layer 19: ManifestBounds.
-/
import Derived.Test.YtgacjpkgpegcdaaMRecA
namespace Go.Proofs.Ytgacjpkgpegcdaa
open Go.RowKit

theorem RW.of_nil {w0 w : World} {gx : Nat} {cs : List Value} (hb : Below w0.heap.size w0 w) (hc : Blk w gx 31 cs) (h2 : w0.heap.size ≤ gx) : RW w0 w gx w.heap.size cs (.slice none 0 0) [] (.slice none 0 0) [] :=
  ⟨hc, World.ownsRow_nil _ _ _ _, World.ownsRow_nil _ _ _ _, (fun k h => by simp [Value.ownBlock] at h), hb, h2, hc.lt, Nat.le_refl _⟩
def zerosN (n : Nat) : ByteArray := ⟨(List.replicate n (0 : UInt8)).toArray⟩
theorem zerosN_size (n : Nat) : (zerosN n).size = n := by
  show (List.replicate n (0 : UInt8)).toArray.size = n
  simp
theorem infoU8m : (Try.prog.info? 5).map (fun i => (i.zero, i.size, i.bytes)) = some (some (.int .u8 0), 1, 1) := by kernel_rfl
theorem bts : SlTy Try.prog 43 5 (.int .u8 0) 1 1 := ⟨Try.underlying43, info_parts infoU8m⟩
/-- 'make([]byte, n)', and 'string(b)' of it. -/
theorem mk_zero (n : Nat) (hn : n ≤ 1000000) (w : World) : (Instr.makeSlice 43 (.int .i64 (n : Int)) (.int .i64 (n : Int))).run Try.prog w = .ok (.slice (some ⟨w.heap.size, 0, none⟩) n n) (w.alloc (.cells (Array.replicate n (.int .u8 0)) 5)) := run_make1 bts rfl n (by omega) (by omega) w
theorem cv_zero (n : Nat) (wa : World) : (convert 43 9 (.slice (some ⟨wa.heap.size, 0, none⟩) n n)).run Try.prog (wa.alloc (.cells (Array.replicate n (.int .u8 0)) 5)) = .ok (.string (zerosN n)) (wa.alloc (.cells (Array.replicate n (.int .u8 0)) 5)) := by
  have hZ := Blk.new' wa 5 (Array.replicate n (.int .u8 0))
  have h := run_convert_bytes_back (P := Try.prog) (wa.alloc (.cells (Array.replicate n (.int .u8 0)) 5)) 43 9 5 ⟨wa.heap.size, 0, none⟩ n (List.replicate n 0) Try.underlying43 Try.underlying5 Try.underlying9 (fun j hj => by
    have e0 : (⟨wa.heap.size, 0, none⟩ : Addr).add j = ⟨wa.heap.size, j, none⟩ := by unfold Addr.add; split <;> simp_all
    rw [e0, hZ.cell]
    simp at hj
    simp [hj])
  rw [List.length_replicate] at h
  exact h
def zeros64 : ByteArray := zerosN 64
def bigK : Rk := ⟨⟨false, -9223372036854775808, zeros64⟩, 1099511627776⟩
def bigE (i : Nat) : En := ⟨2147483548 + (i : Int), 1024, 1024, bigK, bigK, 2147483647⟩
def bigs (n : Nat) : List En := (List.range n).map bigE
def bigN (n : Nat) : List Int := (List.range n).map fun (i : Nat) => 2147483548 + (i : Int)
theorem bigs_succ (n : Nat) : bigs (n + 1) = bigs n ++ [bigE n] := by unfold bigs; rw [List.range_succ, List.map_append]; rfl
theorem bigN_succ (n : Nat) : bigN (n + 1) = bigN n ++ [2147483548 + (n : Int)] := by unfold bigN; rw [List.range_succ, List.map_append]; rfl
theorem bigs_len (n : Nat) : (bigs n).length = n := by simp [bigs]
theorem bigN_len (n : Nat) : (bigN n).length = n := by simp [bigN]
theorem bigK_ok : rankB bigK = true := by
  refine rank_iff.2 ⟨?_, by decide, by decide⟩
  unfold plainB bigK
  simp
  exact Nat.le_of_eq (zerosN_size 64)
theorem bigE_ok {i : Nat} (h : i < 100) : entB (bigE i) = true :=
  ent_iff.2 ⟨⟨by simp only [bigE]; omega, by simp only [bigE]; omega⟩, by simp only [bigE]; omega, by simp only [bigE]; omega, bigK_ok, bigK_ok, by simp only [bigE]; omega⟩
theorem big_chk {x y : Nat} (hx : x ≤ 20) (hy : y ≤ 30) : chkR ⟨2, 2147483647, 1099511627777, 2147483647, bigs x, bigN y⟩ = 0 := by
  refine chk_ok (.inr rfl) ⟨by dsimp only; omega, by dsimp only; omega, by dsimp only; omega, by dsimp only; omega, rfl⟩ (by simp only [bigs_len]; omega) (by simp only [bigN_len]; omega) (fun i hi => ?_) (fun h => by simp at h) (fun i hi => ?_)
  · simp only [bigs_len] at hi
    refine ⟨bigE i, by simp [bigs, hi], bigE_ok (by omega), fun p hp h => ?_⟩
    simp [bigs, show i - 1 < x from by omega] at h
    subst h
    simp only [bigE]
    omega
  · simp only [bigN_len] at hi
    refine ⟨2147483548 + (i : Int), by simp [bigN, hi], obj_iff.2 ⟨by omega, by omega⟩, fun p hp h => ?_⟩
    simp [bigN, show i - 1 < y from by omega] at h
    omega
theorem big_keys (x : Nat) (a b c d : Int) (l : List Int) : keysOk ⟨a, b, c, d, bigs x, l⟩ := fun e he => by
  simp only [bigs, List.mem_map] at he
  obtain ⟨i, _, rfl⟩ := he
  exact ⟨by unfold I64; simp only [bigE, bigK]; omega, by unfold I64; simp only [bigE, bigK]; omega⟩
theorem enc_bound {r : Rc} (hk : keysOk r) (h : chkR r = 0) : ((encR r).length : Int) ≤ bndV r.add.length r.rem.length := by
  have h1 := bodyP_len hk h
  have h2 := chk_zero h
  rw [encR_len]
  unfold bndV
  rw [if_neg (by omega)]
  omega
set_option maxRecDepth 100000 in
set_option maxHeartbeats 2000000 in
theorem walk_ManifestBounds (n m : Int) (w : World) (_ : (Lit.int .i64 n).wf = true) (_ : (Lit.int .i64 m).wf = true) : Calls Try.prog 10 #[.int .i64 n, .int .i64 m] w fun e w' => e = .returned (.bool true) ∧ Below w.heap.size w w' := by
  obtain ⟨x, hx, hx2⟩ : ∃ x, pickN n 20 = x ∧ x < 20 := ⟨_, rfl, pickN_lt n (by omega)⟩
  obtain ⟨y, hy, hy2⟩ : ∃ y, pickN m 30 = y ∧ y < 30 := ⟨_, rfl, pickN_lt m (by omega)⟩
  have hp1 := Lib.hid (pick_any n 20 w (by omega) (by omega))
  have hp2 := Lib.hid (fun w => pick_any m 30 w (by omega) (by omega))
  rw [hx] at hp1
  rw [hy] at hp2
  clear hx hy
  go_enter Try.func10, Try.ntmps10
  go_wp2_with fail
  refine hp1.out.mono ?_; rintro _ w1 ⟨rfl, rfl⟩
  go_wp2_with fail
  refine (hp2.out _).mono ?_; rintro _ w2 ⟨rfl, rfl⟩
  have hR := Blk.new' w 31 #[.int .i64 2, .int .i64 2147483647, .int .i64 1099511627777, .int .i64 2147483647, .slice none 0 0, .slice none 0 0]
  have hb := (Below.refl w.heap.size w).alloc (Nat.le_refl _) (.cells #[.int .i64 2, .int .i64 2147483647, .int .i64 1099511627777, .int .i64 2147483647, .slice none 0 0, .slice none 0 0] 31)
  go_upto_region 3 with fail
  generalize w.alloc (.cells #[.int .i64 2, .int .i64 2147483647, .int .i64 1099511627777, .int .i64 2147483647, .slice none 0 0, .slice none 0 0] 31) = wa at *
  have hmk : (Instr.makeSlice 43 (.int .i64 64) (.int .i64 64)).run Try.prog wa = .ok (.slice (some ⟨wa.heap.size, 0, none⟩) 64 64) (wa.alloc (.cells (Array.replicate 64 (.int .u8 0)) 5)) := mk_zero 64 (by omega) wa
  have hcv : (convert 43 9 (.slice (some ⟨wa.heap.size, 0, none⟩) 64 64)).run Try.prog (wa.alloc (.cells (Array.replicate 64 (.int .u8 0)) 5)) = .ok (.string zeros64) (wa.alloc (.cells (Array.replicate 64 (.int .u8 0)) 5)) := cv_zero 64 wa
  have hb2 := (Below.refl wa.heap.size wa).alloc (Nat.le_refl _) (.cells (Array.replicate 64 (.int .u8 0)) 5)
  have hsz2 : (wa.alloc (.cells (Array.replicate 64 (.int .u8 0)) 5)).heap.size = wa.heap.size + 1 := by simp
  generalize wa.alloc (.cells (Array.replicate 64 (.int .u8 0)) 5) = wz at *
  have hK := Blk.new' wz 38 #[.bool false, .int .i64 (-9223372036854775808), .string zeros64, .int .i64 1099511627776]
  have hb3 := bt hb2 ((Below.refl wz.heap.size wz).alloc (Nat.le_refl _) (.cells #[.bool false, .int .i64 (-9223372036854775808), .string zeros64, .int .i64 1099511627776] 38))
  go_upto_region 4 with fail
  rw [hsz2] at hK
  have hW := RW.of_nil (bt hb hb3) (hR.call hb3) (Nat.le_refl _)
  have hlz : wa.heap.size + 1 < (wz.alloc (.cells #[.bool false, .int .i64 (-9223372036854775808), .string zeros64, .int .i64 1099511627776] 38)).heap.size := by simp; omega
  have hga := hb.size
  have hgr := hR.lt
  clear hR hb hb2 hb3 hmk hcv hsz2 hp1 hp2
  generalize wz.alloc (.cells #[.bool false, .int .i64 (-9223372036854775808), .string zeros64, .int .i64 1099511627776] 38) = wk at *
  have hgk : w.heap.size ≠ wa.heap.size + 1 := by omega
  clear hga hgr
  generalize wa.heap.size + 1 = gk at *
  generalize wk.heap.size = B at *
  generalize hgx : w.heap.size = gx at *
  have HGX := Lib.hid hgx
  clear hgx
  go_wp2_with fail
  go_loopw [9] (fun a wr => ∃ (i : Nat) (v : Value), a = .int .i64 (i : Int) ∧ i ≤ x ∧ RW w wr gx B [.int .i64 2, .int .i64 2147483647, .int .i64 1099511627777, .int .i64 2147483647, v, .slice none 0 0] v (bigs i) (.slice none 0 0) [] ∧ Blk wr gk 38 [.bool false, .int .i64 (-9223372036854775808), .string zeros64, .int .i64 1099511627776]) (fun a _ => x - (intOf a).toNat)
  case atStart => exact ⟨0, _, rfl, by omega, hW, hK⟩
  case round =>
    clear hW hK
    obtain ⟨i, v, rfl, hi, hW, hK⟩ := hrel
    obtain ⟨A, c, hv, hc⟩ := own_form hW.add
    rw [bigs_len] at hv hc
    subst hv
    have r4 := hW.rc.cellAt 4 rfl
    have rf := hW.rc.frozen
    by_cases hix : i < x
    · have hw1 : IntKind.i64.wrap (2147483548 + (i : Int)) = 2147483548 + (i : Int) := IntWalk.i64_in _ (by omega)
      have k0 := hK.cellAt 0 rfl
      have k1 := hK.cellAt 1 rfl
      have k2 := hK.cellAt 2 rfl
      have k3 := hK.cellAt 3 rfl
      have hlo := hW.low (k := gk) hlz
      go_wp2_with (at_builtin; refine hW.one (bigE i) (by rw [bigs_len]; omega) (ds := #[.int .i64 (2147483548 + (i : Int)), .int .i64 1024, .int .i64 1024, .bool false, .int .i64 (-9223372036854775808), .string zeros64, .int .i64 1099511627776, .bool false, .int .i64 (-9223372036854775808), .string zeros64, .int .i64 1099511627776, .int .i64 2147483647]) rfl ?_ rfl _ _ rfl rfl rfl)
      intro v' w' hN hgb _
      rw [← bigs_succ] at hN
      have hK2 := hK.grownBy hgb (fun e => hlo.1 e.symm)
      obtain ⟨A', c', hv, hc'⟩ := own_form hN.add
      rw [bigs_len] at hv hc'
      subst hv
      clear r4 rf k0 k1 k2 k3 hW hK
      have r4 := hN.rc.cellAt 4 rfl
      have rf := hN.rc.frozen
      have hS : RW w (w'.setCell ⟨gx, 4, none⟩ (.slice A' (i + 1) c')) gx B [.int .i64 2, .int .i64 2147483647, .int .i64 1099511627777, .int .i64 2147483647, .slice A' (i + 1) c', .slice none 0 0] (.slice A' (i + 1) c') (bigs (i + 1)) (.slice none 0 0) [] := hN.set 4 _
      have hK3 := hK2.grownB (grown_set w' gx 4 (.slice A' (i + 1) c')) (Ne.symm hgk)
      go_wp2
      go_roundw
      case rel => exact ⟨i + 1, _, by go_num, by omega, hS, hK3⟩
      case measure => simp [intOf]; omega
    · have hix2 : i = x := by omega
      subst hix2
      clear hlz hgk hK r4 rf
      go_wp2_with fail
      go_loopw [10] (fun a wr => ∃ (j : Nat) (v2 : Value), a = .int .i64 (j : Int) ∧ j ≤ y ∧ RW w wr gx B [.int .i64 2, .int .i64 2147483647, .int .i64 1099511627777, .int .i64 2147483647, .slice A i c, v2] (.slice A i c) (bigs i) v2 (bigN j)) (fun a _ => y - (intOf a).toNat)
      case atStart => exact ⟨0, _, rfl, by omega, hW⟩
      case round =>
        clear hW
        obtain ⟨j, v2, rfl, hj, hW⟩ := hrel
        obtain ⟨A2, c2, hv, hc2⟩ := own_form hW.rem
        rw [bigN_len] at hv hc2
        subst hv
        have r5 := hW.rc.cellAt 5 rfl
        have rf := hW.rc.frozen
        by_cases hjy : j < y
        · have hw1 : IntKind.i64.wrap (2147483548 + (j : Int)) = 2147483548 + (j : Int) := IntWalk.i64_in _ (by omega)
          go_wp2_with (at_builtin; refine hW.oneR (2147483548 + (j : Int)) (by rw [bigN_len]; omega) ?_ rfl _ _ rfl rfl rfl)
          intro v' w' hN _ _
          rw [← bigN_succ] at hN
          obtain ⟨A', c', hv, hc'⟩ := own_form hN.rem
          rw [bigN_len] at hv hc'
          subst hv
          clear r5 rf hW
          have r5 := hN.rc.cellAt 5 rfl
          have rf := hN.rc.frozen
          have hS : RW w (w'.setCell ⟨gx, 5, none⟩ (.slice A' (j + 1) c')) gx B [.int .i64 2, .int .i64 2147483647, .int .i64 1099511627777, .int .i64 2147483647, .slice A i c, .slice A' (j + 1) c'] (.slice A i c) (bigs i) (.slice A' (j + 1) c') (bigN (j + 1)) := hN.set 5 _
          go_wp2
          go_roundw
          case rel => exact ⟨j + 1, _, by go_num, by omega, hS⟩
          case measure => simp [intOf]; omega
        · have hjy2 : j = y := by omega
          subst hjy2
          clear r5
          have hrc := hW.rcat (kd := 2) (ve := 2147483647) (ns := 1099511627777) (ni := 2147483647) (by rw [bigs_len]; omega) (by rw [bigN_len]; omega)
          have hE0 := big_chk (x := i) (y := j) (by omega) (by omega)
          have hEV : encV ⟨2, 2147483647, 1099511627777, 2147483647, bigs i, bigN j⟩ = encR ⟨2, 2147483647, 1099511627777, 2147483647, bigs i, bigN j⟩ := if_pos hE0
          have hEB := enc_bound (big_keys i 2 2147483647 1099511627777 2147483647 (bigN j)) hE0
          have HC := Lib.hid (encode_any ⟨2, 2147483647, 1099511627777, 2147483647, bigs i, bigN j⟩ A i c A2 j c2 wr hrc (big_keys i 2 2147483647 1099511627777 2147483647 (bigN j)))
          rw [hE0, hEV] at HC
          dsimp only at hEB
          rw [bigs_len, bigN_len] at hEB
          dsimp only [Kv] at HC
          generalize encR ⟨2, 2147483647, 1099511627777, 2147483647, bigs i, bigN j⟩ = E at *
          clear hE0 hEV hrc
          have r0 := hW.rc.cellAt 0 rfl
          have r1 := hW.rc.cellAt 1 rfl
          have r2 := hW.rc.cellAt 2 rfl
          have r3 := hW.rc.cellAt 3 rfl
          have r4 := hW.rc.cellAt 4 rfl
          have r5 := hW.rc.cellAt 5 rfl
          have hbw := hW.bel
          go_wp2_with fail
          refine HC.out.mono ?_; rintro _ w7 ⟨rfl, hb7⟩
          clear r0 r1 r2 r3 r4 r5 rf hW HC
          go_wp2_with fail
          refine (awake_any _).mono ?_; rintro _ w8 ⟨rfl, hb8⟩
          go_wp2_with fail
          refine (bound_any (i : Int) (j : Int) _).mono ?_; rintro _ w9 ⟨rfl, rfl⟩
          have hdl : decide ((E.length : Int) ≤ bndV (i : Int) (j : Int)) = true := decide_eq_true hEB
          go_wp2
          go_ret
          exact ⟨rfl, bt hbw (bt hb7 hb8)⟩

end Go.Proofs.Ytgacjpkgpegcdaa
