/-
  law19.base, law19.awake, law19.scans, manifest.Bound and the reference's Bound.
-/
import Derived.Test.YtgacjpkgpegcdaaMScanG
import Derived.Test.YtgacjpkgpegcdaaMScanW
import Derived.Test.YtgacjpkgpegcdaaMSame
import Derived.Test.YtgacjpkgpegcdaaMEncR
namespace Go.Proofs.Ytgacjpkgpegcdaa
open Go.RowKit

theorem scanR_len {t : List UInt8} {l : List Rc} {n : Nat} (h : ScanR t l n) : l.length * 8 ≤ n := by
  induction h with
  | stop _ => simp
  | more h _ ih =>
    have := (stands_len h).2
    rw [List.length_cons]
    omega
def baseR : Rc := ⟨1, 0, 0, 1, [], []⟩
theorem keys_base : keysOk baseR := fun e h => by simp [baseR] at h
theorem chk_base : chkR baseR = 0 := chk_ok (.inl rfl) ⟨by decide, by decide, by decide, by decide, by decide⟩ (by decide) (by decide) (fun i h => absurd h (Nat.not_lt_zero _)) (fun _ => rfl) (fun i h => absurd h (Nat.not_lt_zero _))
theorem enc_base : (encR baseR).length = 14 := by
  rw [encR_len]
  have h0 : putL 0 = [0] := putL_lt (by decide)
  have h1 : putL 1 = [1] := putL_lt (by decide)
  simp [bodyP, baseR, numP, h0, h1]
theorem rcat_base (w : World) : RcAt w baseR none 0 0 none 0 0 := ⟨.inl rfl, .inl rfl, rfl, rfl, Nat.le_refl _, Nat.le_refl _, by decide, by decide⟩
set_option maxRecDepth 100000 in
set_option maxHeartbeats 1000000 in
theorem base_any (w : World) : Calls Try.prog 13 #[] w fun e w' => e = .returned (Kv baseR none 0 0 none 0 0) ∧ Below w.heap.size w w' := by
  have hR := Blk.new w 31 zeroRcC
  have hb : Below w.heap.size w (w.alloc (.cells zeroRcC.toArray 31)) := (Below.refl _ _).alloc (Nat.le_refl _) _
  go_enter Try.func13, Try.ntmps13
  go_upto_region 1 with fail
  change Below w.heap.size w (w.alloc (.cells #[.int .i64 0, .int .i64 0, .int .i64 0, .int .i64 0, .slice none 0 0, .slice none 0 0] 31)) at hb
  change Blk (w.alloc (.cells #[.int .i64 0, .int .i64 0, .int .i64 0, .int .i64 0, .slice none 0 0, .slice none 0 0] 31)) w.heap.size 31 zeroRcC at hR
  generalize w.alloc (.cells #[.int .i64 0, .int .i64 0, .int .i64 0, .int .i64 0, .slice none 0 0, .slice none 0 0] 31) = wa at *
  have r0 := hR.cellAt 0 rfl
  have r1 := hR.cellAt 1 rfl
  have r2 := hR.cellAt 2 rfl
  have r3 := hR.cellAt 3 rfl
  have r4 := hR.cellAt 4 rfl
  have r5 := hR.cellAt 5 rfl
  have rf := hR.frozen
  go_wp2
  have hg := grown6 wa w.heap.size (.int .i64 1) (.int .i64 0) (.int .i64 0) (.int .i64 1) (.slice none 0 0) (.slice none 0 0)
  exact bodyPost_ret (v := .agg #[.int .i64 1, .int .i64 0, .int .i64 0, .int .i64 1, .slice none 0 0, .slice none 0 0]) (by simp [results, Try.results13, go_sem, r0, r1, r2, r3, r4, r5]) rfl ⟨rfl, hb.grown hg hb.size (fun j e => by injection e; omega)⟩
/-- The bytes of one record with one byte behind it. -/
theorem scan_base {s : ByteArray} {l : List Rc} {n : Nat} (hs : s.data.toList = encR baseR ++ [120]) (h : ScanR s.data.toList l n) : l = [baseR] ∧ n = 14 := by
  have h2 : ScanR s.data.toList [baseR] ((encR baseR).length + 0) := .more ⟨chk_base, keys_base, by rw [hs]; exact List.prefix_append _ _⟩ (.stop (no_short (by rw [hs, List.drop_left]; decide)))
  rw [enc_base] at h2
  exact h.one h2
set_option maxRecDepth 100000 in
set_option maxHeartbeats 1000000 in
theorem scans_any (s : ByteArray) (w : World) (hsz : s.size ≤ 1000000000000) : Calls Try.prog 20 #[.string s] w fun e w' => e = .returned (.bool true) ∧ Below w.heap.size w w' := by
  go_enter Try.func20, Try.ntmps20
  go_wp2_with fail
  refine (scan_any s _ hsz).mono ?_; rintro _ w1 ⟨A, c, n, xs, rfl, hc, hn, hR, hok, hS, hb1⟩
  have HR := Lib.hid hR
  have HO := Lib.hid hok
  have HS := Lib.hid hS
  clear hR hok hS
  go_wp2_with fail
  refine (rscan_any s _ hsz).mono ?_; rintro _ w2 ⟨B, d, m, ys, rfl, hd, hm, hR2, hok2, hS2, hb2⟩
  obtain ⟨e1, e2⟩ := HS.out.one hS2
  have hlen : ys.length = xs.length := by have := congrArg List.length e1; simpa using this.symm
  rw [hlen]
  subst e2
  have hl8 := scanR_len HS.out
  rw [List.length_map] at hl8
  have HC := Lib.hid (same_recs A B xs.length c d xs ys w2 (HR.out.call hb2) hR2 e1 (fun x hx => (HO.out x hx).1) rfl)
  clear e1 hR2 hok2 hS2
  go_wp2_with fail
  refine (HC.out (by omega)).mono ?_; rintro _ w3 ⟨rfl, hb3⟩
  go_wp2
  go_ret
  exact ⟨rfl, bt (bt hb1 hb2) hb3⟩
theorem recsAt_one {w : World} {r : Rc} {A A2 : Option Addr} {n c n2 c2 : Nat} (h : RcAt w r A n c A2 n2 c2) : RecsAt (w.alloc (.cells #[.int .i64 r.kind, .int .i64 r.version, .int .i64 r.nextSeq, .int .i64 r.nextId, .slice A n c, .slice A2 n2 c2] 31)) (some ⟨w.heap.size, 0, none⟩) [⟨r, .slice A n c, .slice A2 n2 c2⟩] := by
  have h2 := h.call ((Below.refl _ _).alloc (Nat.le_refl w.heap.size) (.cells #[.int .i64 r.kind, .int .i64 r.version, .int .i64 r.nextSeq, .int .i64 r.nextId, .slice A n c, .slice A2 n2 c2] 31))
  refine ⟨.inr ⟨_, rfl, by simp, fun j u hj => ?_⟩, fun x hx => ?_⟩
  · have e0 : (⟨w.heap.size, 0, none⟩ : Addr).add j = ⟨w.heap.size, j, none⟩ := by unfold Addr.add; split <;> simp_all
    rw [e0, World.cell?_alloc_mark]
    simpa [recC] using hj
  · rw [List.mem_singleton.1 hx]
    have l1 := h.ln; have l2 := h.ln2
    subst l1; subst l2
    exact ⟨A, c, A2, c2, rfl, h.lc, rfl, h.lc2, h2.add, h2.rem⟩
theorem app_str {E : List UInt8} {b : ByteArray} : (⟨E.toArray⟩ : ByteArray) ++ b = ⟨(E ++ b.data.toList).toArray⟩ := by
  apply ByteArray.ext
  rw [ByteArray.data_append]
  apply Array.toList_inj.1
  simp
set_option maxRecDepth 100000 in
set_option maxHeartbeats 1000000 in
theorem awake_any (w : World) : Calls Try.prog 15 #[] w fun e w' => e = .returned (.bool true) ∧ Below w.heap.size w w' := by
  have hE0 : encV baseR = encR baseR := if_pos chk_base
  have hEE : ∃ E, encR baseR = E := ⟨_, rfl⟩
  obtain ⟨E, hEE⟩ := hEE
  have HL : Hid (E.length = 14) := by
    show _ = _
    rw [← hEE]; exact enc_base
  have HE := Lib.hid hEE
  rw [hEE] at hE0
  clear hEE
  go_enter Try.func15, Try.ntmps15
  go_wp2_with fail
  refine (base_any _).mono ?_; rintro _ w1 ⟨rfl, hb1⟩
  have HR0 := Lib.hid (rencode_any baseR none 0 0 none 0 0 w1 (rcat_base _) keys_base)
  rw [chk_base, hE0] at HR0
  clear hE0
  go_wp2_with fail
  refine HR0.out.mono ?_; rintro _ w2 ⟨rfl, hb2⟩
  have hl14 : E.length = 14 := HL.out
  have hsz : (⟨E.toArray⟩ ++ ⟨#[120]⟩ : ByteArray).size ≤ 1000000000000 := by rw [ByteArray.size_append]; show E.toArray.size + 1 ≤ _; simp; omega
  go_wp2_with fail
  refine (scan_any _ _ hsz).mono ?_; rintro _ w3 ⟨A, c, n, xs, rfl, hc, hn, hR, hok, hS, hb3⟩
  obtain ⟨e1, rfl⟩ := scan_base (by rw [app_str, HE.out]) hS
  have hx1 : xs.length = 1 := by have := congrArg List.length e1; simpa using this
  rw [hx1] at hc ⊢
  have HR := Lib.hid hR
  have HO := Lib.hid hok
  have HX1 := Lib.hid hx1
  have HE1 := Lib.hid e1
  clear hR hok hS hx1 e1
  go_wp2_with fail
  refine (base_any _).mono ?_; rintro _ w4 ⟨rfl, hb4⟩
  go_wp2_with fail
  refine (same_recs A _ 1 c 1 xs _ _ ((HR.out.call hb4).call ((Below.refl _ _).alloc (Nat.le_refl _) _)) (recsAt_one (rcat_base w4)) (by rw [HE1.out]; rfl) (fun x hx => (HO.out x hx).1) HX1.out (by omega)).mono ?_; rintro _ w5 ⟨rfl, hb5⟩
  go_wp2
  go_ret
  exact ⟨rfl, bt (bt (bt (bt hb1 hb2) hb3) hb4) (bt ((Below.refl _ _).alloc (Nat.le_refl _) _) hb5)⟩

def bndV (x y : Int) : Int := if x < 0 ∨ 256 < x ∨ y < 0 ∨ 256 < y then 0 else 40 + 192 * x + 5 * y
theorem ret_i {a b : Int} (h : a = b) : Ending.returned (.int .i64 a) = .returned (.int .i64 b) := by rw [h]
set_option maxRecDepth 100000 in
theorem bound_any (x y : Int) (w : World) : Calls Try.prog 28 #[.int .i64 x, .int .i64 y] w fun e w' => e = .returned (.int .i64 (bndV x y)) ∧ w = w' := by
  by_cases h1 : x < 0
  · have d1 : decide (x < 0) = true := decide_eq_true h1
    have HB := Lib.hid (show (0 : Int) = bndV x y from (if_pos (by omega)).symm)
    go_enter Try.func28, Try.ntmps28
    go_wp2
    go_ret
    exact ⟨ret_i HB.out, rfl⟩
  · have d1 : decide (x < 0) = false := decide_eq_false h1
    by_cases h2 : 256 < x
    · have d2 : decide (256 < x) = true := decide_eq_true h2
      have HB := Lib.hid (show (0 : Int) = bndV x y from (if_pos (by omega)).symm)
      go_enter Try.func28, Try.ntmps28
      go_wp2
      go_ret
      exact ⟨ret_i HB.out, rfl⟩
    · have d2 : decide (256 < x) = false := decide_eq_false h2
      by_cases h3 : y < 0
      · have d3 : decide (y < 0) = true := decide_eq_true h3
        have HB := Lib.hid (show (0 : Int) = bndV x y from (if_pos (by omega)).symm)
        go_enter Try.func28, Try.ntmps28
        go_wp2
        go_ret
        exact ⟨ret_i HB.out, rfl⟩
      · have d3 : decide (y < 0) = false := decide_eq_false h3
        by_cases h4 : 256 < y
        · have d4 : decide (256 < y) = true := decide_eq_true h4
          have HB := Lib.hid (show (0 : Int) = bndV x y from (if_pos (by omega)).symm)
          go_enter Try.func28, Try.ntmps28
          go_wp2
          go_ret
          exact ⟨ret_i HB.out, rfl⟩
        · have d4 : decide (256 < y) = false := decide_eq_false h4
          have HB := Lib.hid (show 40 + 192 * x + 5 * y = bndV x y from (if_neg (by omega)).symm)
          have w1 : IntKind.i64.wrap (192 * x) = 192 * x := IntWalk.i64_in _ (by omega)
          have w2 : IntKind.i64.wrap (40 + 192 * x) = 40 + 192 * x := IntWalk.i64_in _ (by omega)
          have w3 : IntKind.i64.wrap (5 * y) = 5 * y := IntWalk.i64_in _ (by omega)
          have w4 : IntKind.i64.wrap (40 + 192 * x + 5 * y) = 40 + 192 * x + 5 * y := IntWalk.i64_in _ (by omega)
          go_enter Try.func28, Try.ntmps28
          go_wp2
          go_ret
          exact ⟨ret_i HB.out, rfl⟩
set_option maxRecDepth 100000 in
theorem rbound_any (x y : Int) (w : World) : Calls Try.prog 29 #[.int .i64 x, .int .i64 y] w fun e w' => e = .returned (.int .i64 (bndV x y)) ∧ w = w' := by
  by_cases h1 : inB x 0 256 = true
  · by_cases h2 : inB y 0 256 = true
    · have k1 := h1
      have k2 := h2
      unfold inB at k1 k2
      simp at k1 k2
      have HB := Lib.hid (show 40 + 192 * x + 5 * y = bndV x y from (if_neg (by omega)).symm)
      have w1 : IntKind.i64.wrap (192 * x) = 192 * x := IntWalk.i64_in _ (by omega)
      have w2 : IntKind.i64.wrap (40 + 192 * x) = 40 + 192 * x := IntWalk.i64_in _ (by omega)
      have w3 : IntKind.i64.wrap (5 * y) = 5 * y := IntWalk.i64_in _ (by omega)
      have w4 : IntKind.i64.wrap (40 + 192 * x + 5 * y) = 40 + 192 * x + 5 * y := IntWalk.i64_in _ (by omega)
      go_enter Try.func29, Try.ntmps29
      go_wp2_with fail
      refine (rin_any x 0 256 _).mono ?_; rintro _ _ ⟨rfl, rfl⟩
      go_wp2_with fail
      refine (rin_any y 0 256 _).mono ?_; rintro _ _ ⟨rfl, rfl⟩
      go_wp2
      go_ret
      exact ⟨ret_i HB.out, rfl⟩
    · have h2 : inB y 0 256 = false := by simpa using h2
      have k2 := h2
      unfold inB at k2
      simp at k2
      have HB := Lib.hid (show (0 : Int) = bndV x y from (if_pos (by omega)).symm)
      clear k2
      go_enter Try.func29, Try.ntmps29
      go_wp2_with fail
      refine (rin_any x 0 256 _).mono ?_; rintro _ _ ⟨rfl, rfl⟩
      go_wp2_with fail
      refine (rin_any y 0 256 _).mono ?_; rintro _ _ ⟨rfl, rfl⟩
      go_wp2
      go_ret
      exact ⟨ret_i HB.out, rfl⟩
  · have h1 : inB x 0 256 = false := by simpa using h1
    have k1 := h1
    unfold inB at k1
    simp at k1
    have HB := Lib.hid (show (0 : Int) = bndV x y from (if_pos (by omega)).symm)
    clear k1
    go_enter Try.func29, Try.ntmps29
    go_wp2_with fail
    refine (rin_any x 0 256 _).mono ?_; rintro _ _ ⟨rfl, rfl⟩
    go_wp2
    go_ret
    exact ⟨ret_i HB.out, rfl⟩

end Go.Proofs.Ytgacjpkgpegcdaa
