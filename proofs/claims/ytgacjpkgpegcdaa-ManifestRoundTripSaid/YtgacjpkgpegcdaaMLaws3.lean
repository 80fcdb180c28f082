/-
  Laws of layer 19: ManifestRoundTrip.
-/
import Derived.Test.YtgacjpkgpegcdaaMRecM
import Derived.Test.YtgacjpkgpegcdaaMLaws2
namespace Go.Proofs.Ytgacjpkgpegcdaa
open Go.RowKit

theorem scan_one {s : ByteArray} {r : Rc} {l : List Rc} {n : Nat} (hs : s.data.toList = encR r) (hc : chkR r = 0) (hk : keysOk r) (h : ScanR s.data.toList l n) : l = [r] ∧ n = (encR r).length := by
  have h2 : ScanR s.data.toList [r] ((encR r).length + 0) := .more ⟨hc, hk, by rw [hs]; exact List.prefix_refl _⟩ (.stop (no_short (by rw [hs, List.drop_length]; decide)))
  exact h.one h2
set_option maxRecDepth 100000 in
set_option maxHeartbeats 4000000 in
theorem walk_ManifestRoundTrip (A1 : Option Addr) (n1 c1 : Nat) (zs1 : List Int) (A2 : Option Addr) (n2 c2 : Nat) (zs2 : List Int) (how : Int) (w : World) (hr1 : Rd w w.heap.size A1 (zs1.map Iv)) (hn1 : zs1.length = n1) (hz1 : ∀ z ∈ zs1, (Lit.int .i64 z).wf = true) (_ : n1 ≤ c1) (hb1 : n1 * 8 ≤ 140737488351232) (hr2 : Rd w w.heap.size A2 (zs2.map Iv)) (hn2 : zs2.length = n2) (hz2 : ∀ z ∈ zs2, (Lit.int .i64 z).wf = true) (_ : n2 ≤ c2) (hb2 : n2 * 8 ≤ 140737488351232) (_ : (Lit.int .i64 how).wf = true) :
    Calls Try.prog 9 #[.slice A1 n1 c1, .slice A2 n2 c2, .int .i64 how] w fun e w' => e = .returned (.bool true) ∧ Below w.heap.size w w' := by
  have hp2 := pickN_lt how (show 0 < 2 by omega)
  have HP := Lib.hid (pick_any how 2 w (by omega) (by omega))
  generalize pickN how 2 = p at *
  have HRL := Lib.hid (recordL_any A1 n1 c1 zs1 A2 n2 c2 zs2 ((p : Int) + 12) 0 w hr1 hn1 (wf_i64s hz1) (by omega) hr2 hn2 (wf_i64s hz2) (by omega) (by unfold I64; omega) (by unfold I64; omega))
  have hw1 : IntKind.i64.wrap ((p : Int) + 12) = (p : Int) + 12 := IntWalk.i64_in _ (by omega)
  clear hr1 hn1 hz1 hb1 hr2 hn2 hz2 hb2
  go_enter Try.func9, Try.ntmps9
  go_wp2_with fail
  refine HP.out.mono ?_; rintro _ _ ⟨rfl, rfl⟩
  go_wp2_with fail
  refine HRL.out.mono ?_; rintro _ w1 ⟨⟨kd, ve, ns, ni, add, rem⟩, A, q, c, A', q', c', rfl, hRC, hkeys, hq, hq', hb1⟩
  have HK := Lib.hid hkeys
  dsimp only [Kv]
  clear hkeys HP HRL hw1 hp2
  have hB := Blk.new' w1 31 #[.int .i64 kd, .int .i64 ve, .int .i64 ns, .int .i64 ni, .slice A q c, .slice A' q' c']
  have hba := (Below.refl w1.heap.size w1).alloc (Nat.le_refl _) (.cells #[.int .i64 kd, .int .i64 ve, .int .i64 ns, .int .i64 ni, .slice A q c, .slice A' q' c'] 31)
  have hR2 := hRC.call hba
  have hb2 := bt hb1 hba
  go_upto_region 2 with fail
  clear hRC hb1 hba
  generalize w1.alloc (.cells #[.int .i64 kd, .int .i64 ve, .int .i64 ns, .int .i64 ni, .slice A q c, .slice A' q' c'] 31) = w2 at *
  generalize w1.heap.size = gr at *
  have HCK := Lib.hid (rcheck_any ⟨kd, ve, ns, ni, add, rem⟩ A q c A' q' c' w2 hR2)
  dsimp only [Kv] at HCK
  have r0 := hB.cellAt 0 rfl
  have r1 := hB.cellAt 1 rfl
  have r2 := hB.cellAt 2 rfl
  have r3 := hB.cellAt 3 rfl
  have r4 := hB.cellAt 4 rfl
  have r5 := hB.cellAt 5 rfl
  by_cases hc : chkR ⟨kd, ve, ns, ni, add, rem⟩ = 0
  · have hEV : encV ⟨kd, ve, ns, ni, add, rem⟩ = encR ⟨kd, ve, ns, ni, add, rem⟩ := if_pos hc
    rw [hc] at HCK
    have HCH := Lib.hid hc
    go_wp2_with fail
    refine HCK.out.mono ?_; rintro _ w3 ⟨rfl, hb3⟩
    have HEN := Lib.hid (encode_any ⟨kd, ve, ns, ni, add, rem⟩ A q c A' q' c' w3 (hR2.call hb3) HK.out)
    have HBD := Lib.hid (enc_bound HK.out hc)
    have hl8 := bodyP_len HK.out hc
    have hl9 := encR_len ⟨kd, ve, ns, ni, add, rem⟩
    have hl1 := hR2.ln
    have hl2 := hR2.ln2
    dsimp only [Kv] at HEN HBD hl8 hl9 hl1 hl2
    rw [hc, hEV] at HEN
    rw [hl1, hl2] at HBD hl8
    have hS1 : ∀ s : ByteArray, s.data.toList = encR ⟨kd, ve, ns, ni, add, rem⟩ → ∀ l n, ScanR s.data.toList l n → l = [⟨kd, ve, ns, ni, add, rem⟩] ∧ n = (encR ⟨kd, ve, ns, ni, add, rem⟩).length := fun s hs l n h => scan_one hs hc HK.out h
    generalize encR ⟨kd, ve, ns, ni, add, rem⟩ = E at *
    have hlE : E.length ≤ 100000 := by omega
    clear hl8 hl9 hl1 hl2 hEV hc HCK r0 r1 r2 r3 r4 r5
    have HS1 := Lib.hid hS1
    clear hS1
    have hB3 := hB.call hb3
    have hR3 := hR2.call hb3
    have hb4 := bt hb2 hb3
    clear hB hR2 hb2 hb3
    have r0 := hB3.cellAt 0 rfl
    have r1 := hB3.cellAt 1 rfl
    have r2 := hB3.cellAt 2 rfl
    have r3 := hB3.cellAt 3 rfl
    have r4 := hB3.cellAt 4 rfl
    have r5 := hB3.cellAt 5 rfl
    go_wp2_with fail
    refine HEN.out.mono ?_; rintro _ w4 ⟨rfl, hb5⟩
    have hB4 := hB3.call hb5
    have hR4 := hR3.call hb5
    have hb6 := bt hb4 hb5
    clear hB3 hR3 hb4 hb5 r0 r1 r2 r3 r4 r5 HEN
    go_wp2_with fail
    refine (scan_any ⟨E.toArray⟩ _ (by show E.toArray.size ≤ _; simp; omega)).mono ?_; rintro _ w5 ⟨B, d, n, xs, rfl, hd, hn, hRA, hok, hS, hb7⟩
    obtain ⟨e1, rfl⟩ := HS1.out _ rfl _ _ hS
    have hx1 : xs.length = 1 := by have := congrArg List.length e1; simpa using this
    rw [hx1] at hd ⊢
    have HRA := Lib.hid hRA
    have HOK := Lib.hid hok
    have HE1 := Lib.hid e1
    have HX1 := Lib.hid hx1
    clear hRA hok hS e1 hx1 HS1
    go_wp2_with fail
    refine (awake_any _).mono ?_; rintro _ w6 ⟨rfl, hb8⟩
    have hB6 := (hB4.call hb7).call hb8
    have hR6 := (hR4.call hb7).call hb8
    have hb9 := bt (bt hb6 hb7) hb8
    clear hB4 hR4 hb6
    have r0 := hB6.cellAt 0 rfl
    have r1 := hB6.cellAt 1 rfl
    have r2 := hB6.cellAt 2 rfl
    have r3 := hB6.cellAt 3 rfl
    have r4 := hB6.cellAt 4 rfl
    have r5 := hB6.cellAt 5 rfl
    go_wp2_with fail
    refine (same_recs B _ 1 d 1 xs _ _ ((HRA.out.call hb8).call ((Below.refl _ _).alloc (Nat.le_refl _) _)) (recsAt_one hR6) (by rw [HE1.out]; rfl) (fun x hx => (HOK.out x hx).1) HX1.out (by omega)).mono ?_; rintro _ w7 ⟨rfl, hb10⟩
    clear r0 r1 r2 r3 r4 r5
    have hba := (Below.refl w6.heap.size w6).alloc (Nat.le_refl _) (.cells #[.int .i64 kd, .int .i64 ve, .int .i64 ns, .int .i64 ni, .slice A q c, .slice A' q' c'] 31)
    have hB7 := (hB6.call hba).call hb10
    have hb11 := bt (bt hb9 hba) hb10
    have r0 := hB7.cellAt 0 rfl
    have r1 := hB7.cellAt 1 rfl
    have r2 := hB7.cellAt 2 rfl
    have r3 := hB7.cellAt 3 rfl
    have r4 := hB7.cellAt 4 rfl
    have r5 := hB7.cellAt 5 rfl
    go_wp2_with fail
    refine (bound_any (q : Int) (q' : Int) _).mono ?_; rintro _ w8 ⟨rfl, rfl⟩
    have hdl : decide ((E.length : Int) ≤ bndV (q : Int) (q' : Int)) = true := decide_eq_true HBD.out
    go_wp2
    go_ret
    exact ⟨rfl, hb11⟩
  · have hne : (chkR ⟨kd, ve, ns, ni, add, rem⟩ != 0) = true := by simpa using hc
    generalize chkR ⟨kd, ve, ns, ni, add, rem⟩ = ch at *
    go_wp2_with fail
    refine HCK.out.mono ?_; rintro _ w3 ⟨rfl, hb3⟩
    go_wp2_with fail
    refine (awake_any _).mono ?_; rintro _ w4 ⟨rfl, hb4⟩
    go_wp2
    go_ret
    exact ⟨rfl, bt (bt hb2 hb3) hb4⟩

end Go.Proofs.Ytgacjpkgpegcdaa
