/-
  Laws of layer 19: ManifestChecks.
-/
import Derived.Test.YtgacjpkgpegcdaaMRecM
import Derived.Test.YtgacjpkgpegcdaaMFrame
namespace Go.Proofs.Ytgacjpkgpegcdaa
open Go.RowKit

set_option maxRecDepth 100000 in
set_option maxHeartbeats 4000000 in
theorem walk_ManifestChecks (e : En) (r : Rc) (A : Option Addr) (n c : Nat) (A' : Option Addr) (n' c' : Nat) (L1 : Option Addr) (n1 c1 : Nat) (zs1 : List Int) (L2 : Option Addr) (n2 c2 : Nat) (zs2 : List Int) (how v : Int) (w : World) (hok : RcOk w r A n c A' n' c')
    (hr1 : Rd w w.heap.size L1 (zs1.map Iv)) (hn1 : zs1.length = n1) (hz1 : ∀ z ∈ zs1, (Lit.int .i64 z).wf = true) (_ : n1 ≤ c1) (hb1 : n1 * 8 ≤ 140737488351232) (hr2 : Rd w w.heap.size L2 (zs2.map Iv)) (hn2 : zs2.length = n2) (hz2 : ∀ z ∈ zs2, (Lit.int .i64 z).wf = true) (_ : n2 ≤ c2) (hb2 : n2 * 8 ≤ 140737488351232) (hhow : (Lit.int .i64 how).wf = true) (hv : (Lit.int .i64 v).wf = true) :
    Calls Try.prog 8 #[Ev e, Kv r A n c A' n' c', .slice L1 n1 c1, .slice L2 n2 c2, .int .i64 how, .int .i64 v] w fun x w' => x = .returned (.bool true) ∧ Below w.heap.size w w' := by
  have HEN := Lib.hid (entry_any e)
  have HRE := Lib.hid (rentry_any e)
  obtain ⟨id, rows, live, ⟨⟨ln, li, lz⟩, lq⟩, ⟨⟨hn, hi, hz⟩, hq⟩, del⟩ := e
  obtain ⟨kd, ve, ns, ni, add, rem⟩ := r
  dsimp only [Ev, Kv] at HEN HRE ⊢
  have hB1 := (Below.refl w.heap.size w).alloc (Nat.le_refl _) (.cells #[.int .i64 id, .int .i64 rows, .int .i64 live, .bool ln, .int .i64 li, .string lz, .int .i64 lq, .bool hn, .int .i64 hi, .string hz, .int .i64 hq, .int .i64 del] 40)
  have hE1 := Blk.new' w 40 #[.int .i64 id, .int .i64 rows, .int .i64 live, .bool ln, .int .i64 li, .string lz, .int .i64 lq, .bool hn, .int .i64 hi, .string hz, .int .i64 hq, .int .i64 del]
  have hs1 : (w.alloc (.cells #[.int .i64 id, .int .i64 rows, .int .i64 live, .bool ln, .int .i64 li, .string lz, .int .i64 lq, .bool hn, .int .i64 hi, .string hz, .int .i64 hq, .int .i64 del] 40)).heap.size = w.heap.size + 1 := by simp
  have HRL := Lib.hid (fun (w1 : World) (hb : Below w.heap.size w w1) => recordL_any L1 n1 c1 zs1 L2 n2 c2 zs2 how v w1 (hr1.call hb) hn1 (wf_i64s hz1) (by omega) (hr2.call hb) hn2 (wf_i64s hz2) (by omega) (wf_i64 hhow) (wf_i64 hv))
  clear hr1 hn1 hz1 hb1 hr2 hn2 hz2 hb2 hhow hv
  go_enter Try.func8, Try.ntmps8
  go_upto_region 1 with fail
  generalize w.alloc (.cells #[.int .i64 id, .int .i64 rows, .int .i64 live, .bool ln, .int .i64 li, .string lz, .int .i64 lq, .bool hn, .int .i64 hi, .string hz, .int .i64 hq, .int .i64 del] 40) = wa at *
  have hB2 := bt hB1 ((Below.refl wa.heap.size wa).alloc (Nat.le_refl _) (.cells #[.int .i64 kd, .int .i64 ve, .int .i64 ns, .int .i64 ni, .slice A n c, .slice A' n' c'] 31))
  have hE2 := hE1.alloc (.cells #[.int .i64 kd, .int .i64 ve, .int .i64 ns, .int .i64 ni, .slice A n c, .slice A' n' c'] 31)
  have hK2 := Blk.new' wa 31 #[.int .i64 kd, .int .i64 ve, .int .i64 ns, .int .i64 ni, .slice A n c, .slice A' n' c']
  rw [hs1] at hK2
  clear hE1
  generalize wa.alloc (.cells #[.int .i64 kd, .int .i64 ve, .int .i64 ns, .int .i64 ni, .slice A n c, .slice A' n' c'] 31) = wb at *
  clear hB1 hs1
  have hR2 := hok.at_.call hB2
  have HKY := Lib.hid hok.keys
  clear hok
  go_wp2_with fail
  refine (HRL.out _ hB2).mono ?_; rintro _ wc ⟨⟨kd2, ve2, ns2, ni2, add2, rem2⟩, B, q, d, B', q', d', rfl, hRC, hkeys, _, _, hb3⟩
  have HKZ := Lib.hid hkeys
  clear hkeys HRL
  dsimp only [Kv]
  have hba := (Below.refl wc.heap.size wc).alloc (Nat.le_refl _) (.cells #[.int .i64 kd2, .int .i64 ve2, .int .i64 ns2, .int .i64 ni2, .slice B q d, .slice B' q' d'] 31)
  have hM3 := Blk.new' wc 31 #[.int .i64 kd2, .int .i64 ve2, .int .i64 ns2, .int .i64 ni2, .slice B q d, .slice B' q' d']
  have hE3 := (hE2.call hb3).call hba
  have hK3 := (hK2.call hb3).call hba
  have hRC3 := hRC.call hba
  have hR3 := (hR2.call hb3).call hba
  have hB3 := bt (bt hB2 hb3) hba
  go_upto_region 2 with fail
  clear hE2 hK2 hRC hR2 hB2 hb3 hba
  generalize wc.alloc (.cells #[.int .i64 kd2, .int .i64 ve2, .int .i64 ns2, .int .i64 ni2, .slice B q d, .slice B' q' d'] 31) = wd at *
  generalize wc.heap.size = g2 at *
  have HA1 := Lib.hid (fun (w1 : World) (h : RcAt w1 ⟨kd, ve, ns, ni, add, rem⟩ A n c A' n' c') => encode_any ⟨kd, ve, ns, ni, add, rem⟩ A n c A' n' c' w1 h HKY.out)
  have HA2 := Lib.hid (fun (w1 : World) (h : RcAt w1 ⟨kd, ve, ns, ni, add, rem⟩ A n c A' n' c') => rencode_any ⟨kd, ve, ns, ni, add, rem⟩ A n c A' n' c' w1 h HKY.out)
  have HA3 := Lib.hid (fun (w1 : World) (h : RcAt w1 ⟨kd2, ve2, ns2, ni2, add2, rem2⟩ B q d B' q' d') => encode_any ⟨kd2, ve2, ns2, ni2, add2, rem2⟩ B q d B' q' d' w1 h HKZ.out)
  have HA4 := Lib.hid (fun (w1 : World) (h : RcAt w1 ⟨kd2, ve2, ns2, ni2, add2, rem2⟩ B q d B' q' d') => rencode_any ⟨kd2, ve2, ns2, ni2, add2, rem2⟩ B q d B' q' d' w1 h HKZ.out)
  have HC1 := Lib.hid (fun (w1 : World) (h : RcAt w1 ⟨kd, ve, ns, ni, add, rem⟩ A n c A' n' c') => check_any ⟨kd, ve, ns, ni, add, rem⟩ A n c A' n' c' w1 h)
  have HD1 := Lib.hid (fun (w1 : World) (h : RcAt w1 ⟨kd, ve, ns, ni, add, rem⟩ A n c A' n' c') => rcheck_any ⟨kd, ve, ns, ni, add, rem⟩ A n c A' n' c' w1 h)
  have HC2 := Lib.hid (fun (w1 : World) (h : RcAt w1 ⟨kd2, ve2, ns2, ni2, add2, rem2⟩ B q d B' q' d') => check_any ⟨kd2, ve2, ns2, ni2, add2, rem2⟩ B q d B' q' d' w1 h)
  have HD2 := Lib.hid (fun (w1 : World) (h : RcAt w1 ⟨kd2, ve2, ns2, ni2, add2, rem2⟩ B q d B' q' d') => rcheck_any ⟨kd2, ve2, ns2, ni2, add2, rem2⟩ B q d B' q' d' w1 h)
  dsimp only [Kv] at HA1 HA2 HA3 HA4 HC1 HD1 HC2 HD2
  generalize encV ⟨kd, ve, ns, ni, add, rem⟩ = E1 at *
  generalize chkR ⟨kd, ve, ns, ni, add, rem⟩ = ch1 at *
  generalize encV ⟨kd2, ve2, ns2, ni2, add2, rem2⟩ = E2 at *
  generalize chkR ⟨kd2, ve2, ns2, ni2, add2, rem2⟩ = ch2 at *
  have k0 := hK3.cellAt 0 rfl
  have k1 := hK3.cellAt 1 rfl
  have k2 := hK3.cellAt 2 rfl
  have k3 := hK3.cellAt 3 rfl
  have k4 := hK3.cellAt 4 rfl
  have k5 := hK3.cellAt 5 rfl
  have q0 := hM3.cellAt 0 rfl
  have q1 := hM3.cellAt 1 rfl
  have q2 := hM3.cellAt 2 rfl
  have q3 := hM3.cellAt 3 rfl
  have q4 := hM3.cellAt 4 rfl
  have q5 := hM3.cellAt 5 rfl
  go_wp2_with fail
  refine (HA1.out _ hR3).mono ?_; rintro _ we ⟨rfl, hb4⟩
  clear k0 k1 k2 k3 k4 k5 q0 q1 q2 q3 q4 q5
  replace hE3 := hE3.call hb4
  replace hK3 := hK3.call hb4
  replace hM3 := hM3.call hb4
  replace hR3 := hR3.call hb4
  replace hRC3 := hRC3.call hb4
  replace hB3 := bt hB3 hb4
  clear hb4
  have k0 := hK3.cellAt 0 rfl
  have k1 := hK3.cellAt 1 rfl
  have k2 := hK3.cellAt 2 rfl
  have k3 := hK3.cellAt 3 rfl
  have k4 := hK3.cellAt 4 rfl
  have k5 := hK3.cellAt 5 rfl
  have q0 := hM3.cellAt 0 rfl
  have q1 := hM3.cellAt 1 rfl
  have q2 := hM3.cellAt 2 rfl
  have q3 := hM3.cellAt 3 rfl
  have q4 := hM3.cellAt 4 rfl
  have q5 := hM3.cellAt 5 rfl
  go_wp2_with fail
  refine (HA2.out _ hR3).mono ?_; rintro _ we ⟨rfl, hb4⟩
  clear k0 k1 k2 k3 k4 k5 q0 q1 q2 q3 q4 q5
  replace hE3 := hE3.call hb4
  replace hK3 := hK3.call hb4
  replace hM3 := hM3.call hb4
  replace hR3 := hR3.call hb4
  replace hRC3 := hRC3.call hb4
  replace hB3 := bt hB3 hb4
  clear hb4
  have k0 := hK3.cellAt 0 rfl
  have k1 := hK3.cellAt 1 rfl
  have k2 := hK3.cellAt 2 rfl
  have k3 := hK3.cellAt 3 rfl
  have k4 := hK3.cellAt 4 rfl
  have k5 := hK3.cellAt 5 rfl
  have q0 := hM3.cellAt 0 rfl
  have q1 := hM3.cellAt 1 rfl
  have q2 := hM3.cellAt 2 rfl
  have q3 := hM3.cellAt 3 rfl
  have q4 := hM3.cellAt 4 rfl
  have q5 := hM3.cellAt 5 rfl
  go_wp2_with fail
  refine (HA3.out _ hRC3).mono ?_; rintro _ we ⟨rfl, hb4⟩
  clear k0 k1 k2 k3 k4 k5 q0 q1 q2 q3 q4 q5
  replace hE3 := hE3.call hb4
  replace hK3 := hK3.call hb4
  replace hM3 := hM3.call hb4
  replace hR3 := hR3.call hb4
  replace hRC3 := hRC3.call hb4
  replace hB3 := bt hB3 hb4
  clear hb4
  have k0 := hK3.cellAt 0 rfl
  have k1 := hK3.cellAt 1 rfl
  have k2 := hK3.cellAt 2 rfl
  have k3 := hK3.cellAt 3 rfl
  have k4 := hK3.cellAt 4 rfl
  have k5 := hK3.cellAt 5 rfl
  have q0 := hM3.cellAt 0 rfl
  have q1 := hM3.cellAt 1 rfl
  have q2 := hM3.cellAt 2 rfl
  have q3 := hM3.cellAt 3 rfl
  have q4 := hM3.cellAt 4 rfl
  have q5 := hM3.cellAt 5 rfl
  go_wp2_with fail
  refine (HA4.out _ hRC3).mono ?_; rintro _ we ⟨rfl, hb4⟩
  clear k0 k1 k2 k3 k4 k5 q0 q1 q2 q3 q4 q5
  replace hE3 := hE3.call hb4
  replace hK3 := hK3.call hb4
  replace hM3 := hM3.call hb4
  replace hR3 := hR3.call hb4
  replace hRC3 := hRC3.call hb4
  replace hB3 := bt hB3 hb4
  clear hb4
  clear HA1 HA2 HA3 HA4
  go_wp2_with fail
  refine (pick_any how 259 _ (by omega) (by omega)).mono ?_; rintro _ _ ⟨rfl, rfl⟩
  have hpx := pickN_lt how (show 0 < 259 by omega)
  generalize pickN how 259 = px at *
  have hwx : IntKind.i64.wrap ((px : Int) - 1) = (px : Int) - 1 := IntWalk.i64_in _ (by omega)
  go_wp2_with fail
  refine (pick_any v 259 _ (by omega) (by omega)).mono ?_; rintro _ _ ⟨rfl, rfl⟩
  have hpy := pickN_lt v (show 0 < 259 by omega)
  generalize pickN v 259 = py at *
  have hwy : IntKind.i64.wrap ((py : Int) - 1) = (py : Int) - 1 := IntWalk.i64_in _ (by omega)
  go_upto_region 7 with fail
  clear hwx hwy hpx hpy HKY HKZ
  refine wp_region_L (fun _ w' => Blk w' w.heap.size 40 [.int .i64 id, .int .i64 rows, .int .i64 live, .bool ln, .int .i64 li, .string lz, .int .i64 lq, .bool hn, .int .i64 hi, .string hz, .int .i64 hq, .int .i64 del] ∧ Blk w' (w.heap.size + 1) 31 [.int .i64 kd, .int .i64 ve, .int .i64 ns, .int .i64 ni, .slice A n c, .slice A' n' c'] ∧ Blk w' g2 31 [.int .i64 kd2, .int .i64 ve2, .int .i64 ns2, .int .i64 ni2, .slice B q d, .slice B' q' d']) (by kernel_rfl) ?_
  have hbd := Below.drew (Below.refl we.heap.size we)
  have hBel := bt hB3 hbd
  have HS : Hid (Blk we.drew w.heap.size 40 [.int .i64 id, .int .i64 rows, .int .i64 live, .bool ln, .int .i64 li, .string lz, .int .i64 lq, .bool hn, .int .i64 hi, .string hz, .int .i64 hq, .int .i64 del] ∧ Blk we.drew (w.heap.size + 1) 31 [.int .i64 kd, .int .i64 ve, .int .i64 ns, .int .i64 ni, .slice A n c, .slice A' n' c'] ∧ Blk we.drew g2 31 [.int .i64 kd2, .int .i64 ve2, .int .i64 ns2, .int .i64 ni2, .slice B q d, .slice B' q' d']) := ⟨hE3.call hbd, hK3.call hbd, hM3.call hbd⟩
  have HR : Hid (RcAt we.drew ⟨kd, ve, ns, ni, add, rem⟩ A n c A' n' c' ∧ RcAt we.drew ⟨kd2, ve2, ns2, ni2, add2, rem2⟩ B q d B' q' d') := ⟨hR3.call hbd, hRC3.call hbd⟩
  clear hE3 hK3 hM3 hR3 hRC3 hB3 hbd
  generalize we.drew = wy at *
  refine wpAnyL_one (i := 0) (by decide +kernel) ?_
  refine wpOp_go (o := _) rfl (fun K hK => ?_)
  go_simp
  go_at_call 15
  refine (awake_any _).mono ?_; rintro _ wy ⟨rfl, hbq⟩
  replace hBel := bt hBel hbq
  replace HS : Hid (Blk wy w.heap.size 40 [.int .i64 id, .int .i64 rows, .int .i64 live, .bool ln, .int .i64 li, .string lz, .int .i64 lq, .bool hn, .int .i64 hi, .string hz, .int .i64 hq, .int .i64 del] ∧ Blk wy (w.heap.size + 1) 31 [.int .i64 kd, .int .i64 ve, .int .i64 ns, .int .i64 ni, .slice A n c, .slice A' n' c'] ∧ Blk wy g2 31 [.int .i64 kd2, .int .i64 ve2, .int .i64 ns2, .int .i64 ni2, .slice B q d, .slice B' q' d']) := ⟨HS.out.1.call hbq, HS.out.2.1.call hbq, HS.out.2.2.call hbq⟩
  replace HR : Hid (RcAt wy ⟨kd, ve, ns, ni, add, rem⟩ A n c A' n' c' ∧ RcAt wy ⟨kd2, ve2, ns2, ni2, add2, rem2⟩ B q d B' q' d') := ⟨HR.out.1.call hbq, HR.out.2.call hbq⟩
  refine hK _ _ ⟨HS.out, ?_⟩
  clear hK K hbq
  refine wpAnyL_takeD (fun _ => True) (i := 1) (v := (.bool true)) (some 56) rfl rfl (by kernel_rfl) (by kernel_rfl) (by kernel_rfl) (fun _ _ _ h => h) (fun _ _ _ _ _ _ => trivial) (fun _ _ _ => Iff.rfl) trivial (Or.inl ⟨by rfl, fun w' hw' => by go_simp⟩) HS.out ?_
  simp only [Act.put, List.setIfInBounds_toArray, List.set_cons_zero, List.set_cons_succ]
  refine wpAnyL_takeD (fun _ => True) (i := 2) (v := (.agg #[.int .i64 id, .int .i64 rows, .int .i64 live, .bool ln, .int .i64 li, .string lz, .int .i64 lq, .bool hn, .int .i64 hi, .string hz, .int .i64 hq, .int .i64 del])) (some 57) rfl rfl (by kernel_rfl) (by kernel_rfl) (by kernel_rfl) (fun _ _ _ h => h) (fun _ _ _ _ _ _ => trivial) (fun _ _ _ => Iff.rfl) trivial (Or.inl ⟨by rfl, fun w' hw' => by obtain ⟨l, _, hl⟩ := hw'; obtain ⟨he, h1, h2⟩ := hl; have e0 := he.cellAt 0 rfl; have e1 := he.cellAt 1 rfl; have e2 := he.cellAt 2 rfl; have e3 := he.cellAt 3 rfl; have e4 := he.cellAt 4 rfl; have e5 := he.cellAt 5 rfl; have e6 := he.cellAt 6 rfl; have e7 := he.cellAt 7 rfl; have e8 := he.cellAt 8 rfl; have e9 := he.cellAt 9 rfl; have e10 := he.cellAt 10 rfl; have e11 := he.cellAt 11 rfl; have k0 := h1.cellAt 0 rfl; have k1 := h1.cellAt 1 rfl; have k2 := h1.cellAt 2 rfl; have k3 := h1.cellAt 3 rfl; have k4 := h1.cellAt 4 rfl; have k5 := h1.cellAt 5 rfl; have q0 := h2.cellAt 0 rfl; have q1 := h2.cellAt 1 rfl; have q2 := h2.cellAt 2 rfl; have q3 := h2.cellAt 3 rfl; have q4 := h2.cellAt 4 rfl; have q5 := h2.cellAt 5 rfl; go_simp⟩) HS.out ?_
  simp only [Act.put, List.setIfInBounds_toArray, List.set_cons_zero, List.set_cons_succ]
  refine wpAnyL_takeD (fun _ => True) (i := 4) (v := (.agg #[.int .i64 id, .int .i64 rows, .int .i64 live, .bool ln, .int .i64 li, .string lz, .int .i64 lq, .bool hn, .int .i64 hi, .string hz, .int .i64 hq, .int .i64 del])) (some 59) rfl rfl (by kernel_rfl) (by kernel_rfl) (by kernel_rfl) (fun _ _ _ h => h) (fun _ _ _ _ _ _ => trivial) (fun _ _ _ => Iff.rfl) trivial (Or.inl ⟨by rfl, fun w' hw' => by obtain ⟨l, _, hl⟩ := hw'; obtain ⟨he, h1, h2⟩ := hl; have e0 := he.cellAt 0 rfl; have e1 := he.cellAt 1 rfl; have e2 := he.cellAt 2 rfl; have e3 := he.cellAt 3 rfl; have e4 := he.cellAt 4 rfl; have e5 := he.cellAt 5 rfl; have e6 := he.cellAt 6 rfl; have e7 := he.cellAt 7 rfl; have e8 := he.cellAt 8 rfl; have e9 := he.cellAt 9 rfl; have e10 := he.cellAt 10 rfl; have e11 := he.cellAt 11 rfl; have k0 := h1.cellAt 0 rfl; have k1 := h1.cellAt 1 rfl; have k2 := h1.cellAt 2 rfl; have k3 := h1.cellAt 3 rfl; have k4 := h1.cellAt 4 rfl; have k5 := h1.cellAt 5 rfl; have q0 := h2.cellAt 0 rfl; have q1 := h2.cellAt 1 rfl; have q2 := h2.cellAt 2 rfl; have q3 := h2.cellAt 3 rfl; have q4 := h2.cellAt 4 rfl; have q5 := h2.cellAt 5 rfl; go_simp⟩) HS.out ?_
  simp only [Act.put, List.setIfInBounds_toArray, List.set_cons_zero, List.set_cons_succ]
  refine wpAnyL_one (i := 3) (by decide +kernel) ?_
  refine wpOp_go (o := _) rfl (fun K hK => ?_)
  go_simp
  go_at_call 17
  refine (HEN.out _).mono ?_; rintro _ wy ⟨rfl, hbq⟩
  replace hBel := bt hBel hbq
  replace HS : Hid (Blk wy w.heap.size 40 [.int .i64 id, .int .i64 rows, .int .i64 live, .bool ln, .int .i64 li, .string lz, .int .i64 lq, .bool hn, .int .i64 hi, .string hz, .int .i64 hq, .int .i64 del] ∧ Blk wy (w.heap.size + 1) 31 [.int .i64 kd, .int .i64 ve, .int .i64 ns, .int .i64 ni, .slice A n c, .slice A' n' c'] ∧ Blk wy g2 31 [.int .i64 kd2, .int .i64 ve2, .int .i64 ns2, .int .i64 ni2, .slice B q d, .slice B' q' d']) := ⟨HS.out.1.call hbq, HS.out.2.1.call hbq, HS.out.2.2.call hbq⟩
  replace HR : Hid (RcAt wy ⟨kd, ve, ns, ni, add, rem⟩ A n c A' n' c' ∧ RcAt wy ⟨kd2, ve2, ns2, ni2, add2, rem2⟩ B q d B' q' d') := ⟨HR.out.1.call hbq, HR.out.2.call hbq⟩
  refine hK _ _ ⟨HS.out, ?_⟩
  clear hK K hbq
  refine wpAnyL_one (i := 5) (by decide +kernel) ?_
  refine wpOp_go (o := _) rfl (fun K hK => ?_)
  go_simp
  go_at_call 18
  refine (HRE.out _).mono ?_; rintro _ wy ⟨rfl, hbq⟩
  replace hBel := bt hBel hbq
  replace HS : Hid (Blk wy w.heap.size 40 [.int .i64 id, .int .i64 rows, .int .i64 live, .bool ln, .int .i64 li, .string lz, .int .i64 lq, .bool hn, .int .i64 hi, .string hz, .int .i64 hq, .int .i64 del] ∧ Blk wy (w.heap.size + 1) 31 [.int .i64 kd, .int .i64 ve, .int .i64 ns, .int .i64 ni, .slice A n c, .slice A' n' c'] ∧ Blk wy g2 31 [.int .i64 kd2, .int .i64 ve2, .int .i64 ns2, .int .i64 ni2, .slice B q d, .slice B' q' d']) := ⟨HS.out.1.call hbq, HS.out.2.1.call hbq, HS.out.2.2.call hbq⟩
  replace HR : Hid (RcAt wy ⟨kd, ve, ns, ni, add, rem⟩ A n c A' n' c' ∧ RcAt wy ⟨kd2, ve2, ns2, ni2, add2, rem2⟩ B q d B' q' d') := ⟨HR.out.1.call hbq, HR.out.2.call hbq⟩
  refine hK _ _ ⟨HS.out, ?_⟩
  clear hK K hbq
  refine wpAnyL_takeD (fun _ => True) (i := 6) (v := (.bool true)) (some 61) rfl rfl (by kernel_rfl) (by kernel_rfl) (by kernel_rfl) (fun _ _ _ h => h) (fun _ _ _ _ _ _ => trivial) (fun _ _ _ => Iff.rfl) trivial (Or.inl ⟨by rfl, fun w' hw' => by go_simp⟩) HS.out ?_
  simp only [Act.put, List.setIfInBounds_toArray, List.set_cons_zero, List.set_cons_succ]
  refine wpAnyL_takeD (fun _ => True) (i := 7) (v := (.bool true)) (some 62) rfl rfl (by kernel_rfl) (by kernel_rfl) (by kernel_rfl) (fun _ _ _ h => h) (fun _ _ _ _ _ _ => trivial) (fun _ _ _ => Iff.rfl) trivial (Or.inl ⟨by rfl, fun w' hw' => by go_simp⟩) HS.out ?_
  simp only [Act.put, List.setIfInBounds_toArray, List.set_cons_zero, List.set_cons_succ]
  refine wpAnyL_takeD (fun _ => True) (i := 8) (v := (.bool true)) (some 63) rfl rfl (by kernel_rfl) (by kernel_rfl) (by kernel_rfl) (fun _ _ _ h => h) (fun _ _ _ _ _ _ => trivial) (fun _ _ _ => Iff.rfl) trivial (Or.inl ⟨by rfl, fun w' hw' => by go_simp⟩) HS.out ?_
  simp only [Act.put, List.setIfInBounds_toArray, List.set_cons_zero, List.set_cons_succ]
  refine wpAnyL_takeD (fun _ => True) (i := 9) (v := (.agg #[.int .i64 kd, .int .i64 ve, .int .i64 ns, .int .i64 ni, .slice A n c, .slice A' n' c'])) (some 64) rfl rfl (by kernel_rfl) (by kernel_rfl) (by kernel_rfl) (fun _ _ _ h => h) (fun _ _ _ _ _ _ => trivial) (fun _ _ _ => Iff.rfl) trivial (Or.inl ⟨by rfl, fun w' hw' => by obtain ⟨l, _, hl⟩ := hw'; obtain ⟨he, h1, h2⟩ := hl; have e0 := he.cellAt 0 rfl; have e1 := he.cellAt 1 rfl; have e2 := he.cellAt 2 rfl; have e3 := he.cellAt 3 rfl; have e4 := he.cellAt 4 rfl; have e5 := he.cellAt 5 rfl; have e6 := he.cellAt 6 rfl; have e7 := he.cellAt 7 rfl; have e8 := he.cellAt 8 rfl; have e9 := he.cellAt 9 rfl; have e10 := he.cellAt 10 rfl; have e11 := he.cellAt 11 rfl; have k0 := h1.cellAt 0 rfl; have k1 := h1.cellAt 1 rfl; have k2 := h1.cellAt 2 rfl; have k3 := h1.cellAt 3 rfl; have k4 := h1.cellAt 4 rfl; have k5 := h1.cellAt 5 rfl; have q0 := h2.cellAt 0 rfl; have q1 := h2.cellAt 1 rfl; have q2 := h2.cellAt 2 rfl; have q3 := h2.cellAt 3 rfl; have q4 := h2.cellAt 4 rfl; have q5 := h2.cellAt 5 rfl; go_simp⟩) HS.out ?_
  simp only [Act.put, List.setIfInBounds_toArray, List.set_cons_zero, List.set_cons_succ]
  refine wpAnyL_takeD (fun _ => True) (i := 11) (v := (.agg #[.int .i64 kd, .int .i64 ve, .int .i64 ns, .int .i64 ni, .slice A n c, .slice A' n' c'])) (some 66) rfl rfl (by kernel_rfl) (by kernel_rfl) (by kernel_rfl) (fun _ _ _ h => h) (fun _ _ _ _ _ _ => trivial) (fun _ _ _ => Iff.rfl) trivial (Or.inl ⟨by rfl, fun w' hw' => by obtain ⟨l, _, hl⟩ := hw'; obtain ⟨he, h1, h2⟩ := hl; have e0 := he.cellAt 0 rfl; have e1 := he.cellAt 1 rfl; have e2 := he.cellAt 2 rfl; have e3 := he.cellAt 3 rfl; have e4 := he.cellAt 4 rfl; have e5 := he.cellAt 5 rfl; have e6 := he.cellAt 6 rfl; have e7 := he.cellAt 7 rfl; have e8 := he.cellAt 8 rfl; have e9 := he.cellAt 9 rfl; have e10 := he.cellAt 10 rfl; have e11 := he.cellAt 11 rfl; have k0 := h1.cellAt 0 rfl; have k1 := h1.cellAt 1 rfl; have k2 := h1.cellAt 2 rfl; have k3 := h1.cellAt 3 rfl; have k4 := h1.cellAt 4 rfl; have k5 := h1.cellAt 5 rfl; have q0 := h2.cellAt 0 rfl; have q1 := h2.cellAt 1 rfl; have q2 := h2.cellAt 2 rfl; have q3 := h2.cellAt 3 rfl; have q4 := h2.cellAt 4 rfl; have q5 := h2.cellAt 5 rfl; go_simp⟩) HS.out ?_
  simp only [Act.put, List.setIfInBounds_toArray, List.set_cons_zero, List.set_cons_succ]
  refine wpAnyL_one (i := 10) (by decide +kernel) ?_
  refine wpOp_go (o := _) rfl (fun K hK => ?_)
  go_simp
  go_at_call 26
  refine (HC1.out _ HR.out.1).mono ?_; rintro _ wy ⟨rfl, hbq⟩
  replace hBel := bt hBel hbq
  replace HS : Hid (Blk wy w.heap.size 40 [.int .i64 id, .int .i64 rows, .int .i64 live, .bool ln, .int .i64 li, .string lz, .int .i64 lq, .bool hn, .int .i64 hi, .string hz, .int .i64 hq, .int .i64 del] ∧ Blk wy (w.heap.size + 1) 31 [.int .i64 kd, .int .i64 ve, .int .i64 ns, .int .i64 ni, .slice A n c, .slice A' n' c'] ∧ Blk wy g2 31 [.int .i64 kd2, .int .i64 ve2, .int .i64 ns2, .int .i64 ni2, .slice B q d, .slice B' q' d']) := ⟨HS.out.1.call hbq, HS.out.2.1.call hbq, HS.out.2.2.call hbq⟩
  replace HR : Hid (RcAt wy ⟨kd, ve, ns, ni, add, rem⟩ A n c A' n' c' ∧ RcAt wy ⟨kd2, ve2, ns2, ni2, add2, rem2⟩ B q d B' q' d') := ⟨HR.out.1.call hbq, HR.out.2.call hbq⟩
  refine hK _ _ ⟨HS.out, ?_⟩
  clear hK K hbq
  refine wpAnyL_one (i := 12) (by decide +kernel) ?_
  refine wpOp_go (o := _) rfl (fun K hK => ?_)
  go_simp
  go_at_call 27
  refine (HD1.out _ HR.out.1).mono ?_; rintro _ wy ⟨rfl, hbq⟩
  replace hBel := bt hBel hbq
  replace HS : Hid (Blk wy w.heap.size 40 [.int .i64 id, .int .i64 rows, .int .i64 live, .bool ln, .int .i64 li, .string lz, .int .i64 lq, .bool hn, .int .i64 hi, .string hz, .int .i64 hq, .int .i64 del] ∧ Blk wy (w.heap.size + 1) 31 [.int .i64 kd, .int .i64 ve, .int .i64 ns, .int .i64 ni, .slice A n c, .slice A' n' c'] ∧ Blk wy g2 31 [.int .i64 kd2, .int .i64 ve2, .int .i64 ns2, .int .i64 ni2, .slice B q d, .slice B' q' d']) := ⟨HS.out.1.call hbq, HS.out.2.1.call hbq, HS.out.2.2.call hbq⟩
  replace HR : Hid (RcAt wy ⟨kd, ve, ns, ni, add, rem⟩ A n c A' n' c' ∧ RcAt wy ⟨kd2, ve2, ns2, ni2, add2, rem2⟩ B q d B' q' d') := ⟨HR.out.1.call hbq, HR.out.2.call hbq⟩
  refine hK _ _ ⟨HS.out, ?_⟩
  clear hK K hbq
  refine wpAnyL_takeD (fun _ => True) (i := 13) (v := (.bool true)) (some 68) rfl rfl (by kernel_rfl) (by kernel_rfl) (by kernel_rfl) (fun _ _ _ h => h) (fun _ _ _ _ _ _ => trivial) (fun _ _ _ => Iff.rfl) trivial (Or.inl ⟨by rfl, fun w' hw' => by go_simp⟩) HS.out ?_
  simp only [Act.put, List.setIfInBounds_toArray, List.set_cons_zero, List.set_cons_succ]
  refine wpAnyL_takeD (fun _ => True) (i := 14) (v := (.bool true)) (some 69) rfl rfl (by kernel_rfl) (by kernel_rfl) (by kernel_rfl) (fun _ _ _ h => h) (fun _ _ _ _ _ _ => trivial) (fun _ _ _ => Iff.rfl) trivial (Or.inl ⟨by rfl, fun w' hw' => by go_simp⟩) HS.out ?_
  simp only [Act.put, List.setIfInBounds_toArray, List.set_cons_zero, List.set_cons_succ]
  refine wpAnyL_takeD (fun _ => True) (i := 15) (v := (.bool true)) (some 70) rfl rfl (by kernel_rfl) (by kernel_rfl) (by kernel_rfl) (fun _ _ _ h => h) (fun _ _ _ _ _ _ => trivial) (fun _ _ _ => Iff.rfl) trivial (Or.inl ⟨by rfl, fun w' hw' => by go_simp⟩) HS.out ?_
  simp only [Act.put, List.setIfInBounds_toArray, List.set_cons_zero, List.set_cons_succ]
  refine wpAnyL_takeD (fun _ => True) (i := 16) (v := (.agg #[.int .i64 kd2, .int .i64 ve2, .int .i64 ns2, .int .i64 ni2, .slice B q d, .slice B' q' d'])) (some 71) rfl rfl (by kernel_rfl) (by kernel_rfl) (by kernel_rfl) (fun _ _ _ h => h) (fun _ _ _ _ _ _ => trivial) (fun _ _ _ => Iff.rfl) trivial (Or.inl ⟨by rfl, fun w' hw' => by obtain ⟨l, _, hl⟩ := hw'; obtain ⟨he, h1, h2⟩ := hl; have e0 := he.cellAt 0 rfl; have e1 := he.cellAt 1 rfl; have e2 := he.cellAt 2 rfl; have e3 := he.cellAt 3 rfl; have e4 := he.cellAt 4 rfl; have e5 := he.cellAt 5 rfl; have e6 := he.cellAt 6 rfl; have e7 := he.cellAt 7 rfl; have e8 := he.cellAt 8 rfl; have e9 := he.cellAt 9 rfl; have e10 := he.cellAt 10 rfl; have e11 := he.cellAt 11 rfl; have k0 := h1.cellAt 0 rfl; have k1 := h1.cellAt 1 rfl; have k2 := h1.cellAt 2 rfl; have k3 := h1.cellAt 3 rfl; have k4 := h1.cellAt 4 rfl; have k5 := h1.cellAt 5 rfl; have q0 := h2.cellAt 0 rfl; have q1 := h2.cellAt 1 rfl; have q2 := h2.cellAt 2 rfl; have q3 := h2.cellAt 3 rfl; have q4 := h2.cellAt 4 rfl; have q5 := h2.cellAt 5 rfl; go_simp⟩) HS.out ?_
  simp only [Act.put, List.setIfInBounds_toArray, List.set_cons_zero, List.set_cons_succ]
  refine wpAnyL_takeD (fun _ => True) (i := 18) (v := (.agg #[.int .i64 kd2, .int .i64 ve2, .int .i64 ns2, .int .i64 ni2, .slice B q d, .slice B' q' d'])) (some 73) rfl rfl (by kernel_rfl) (by kernel_rfl) (by kernel_rfl) (fun _ _ _ h => h) (fun _ _ _ _ _ _ => trivial) (fun _ _ _ => Iff.rfl) trivial (Or.inl ⟨by rfl, fun w' hw' => by obtain ⟨l, _, hl⟩ := hw'; obtain ⟨he, h1, h2⟩ := hl; have e0 := he.cellAt 0 rfl; have e1 := he.cellAt 1 rfl; have e2 := he.cellAt 2 rfl; have e3 := he.cellAt 3 rfl; have e4 := he.cellAt 4 rfl; have e5 := he.cellAt 5 rfl; have e6 := he.cellAt 6 rfl; have e7 := he.cellAt 7 rfl; have e8 := he.cellAt 8 rfl; have e9 := he.cellAt 9 rfl; have e10 := he.cellAt 10 rfl; have e11 := he.cellAt 11 rfl; have k0 := h1.cellAt 0 rfl; have k1 := h1.cellAt 1 rfl; have k2 := h1.cellAt 2 rfl; have k3 := h1.cellAt 3 rfl; have k4 := h1.cellAt 4 rfl; have k5 := h1.cellAt 5 rfl; have q0 := h2.cellAt 0 rfl; have q1 := h2.cellAt 1 rfl; have q2 := h2.cellAt 2 rfl; have q3 := h2.cellAt 3 rfl; have q4 := h2.cellAt 4 rfl; have q5 := h2.cellAt 5 rfl; go_simp⟩) HS.out ?_
  simp only [Act.put, List.setIfInBounds_toArray, List.set_cons_zero, List.set_cons_succ]
  refine wpAnyL_one (i := 17) (by decide +kernel) ?_
  refine wpOp_go (o := _) rfl (fun K hK => ?_)
  go_simp
  go_at_call 26
  refine (HC2.out _ HR.out.2).mono ?_; rintro _ wy ⟨rfl, hbq⟩
  replace hBel := bt hBel hbq
  replace HS : Hid (Blk wy w.heap.size 40 [.int .i64 id, .int .i64 rows, .int .i64 live, .bool ln, .int .i64 li, .string lz, .int .i64 lq, .bool hn, .int .i64 hi, .string hz, .int .i64 hq, .int .i64 del] ∧ Blk wy (w.heap.size + 1) 31 [.int .i64 kd, .int .i64 ve, .int .i64 ns, .int .i64 ni, .slice A n c, .slice A' n' c'] ∧ Blk wy g2 31 [.int .i64 kd2, .int .i64 ve2, .int .i64 ns2, .int .i64 ni2, .slice B q d, .slice B' q' d']) := ⟨HS.out.1.call hbq, HS.out.2.1.call hbq, HS.out.2.2.call hbq⟩
  replace HR : Hid (RcAt wy ⟨kd, ve, ns, ni, add, rem⟩ A n c A' n' c' ∧ RcAt wy ⟨kd2, ve2, ns2, ni2, add2, rem2⟩ B q d B' q' d') := ⟨HR.out.1.call hbq, HR.out.2.call hbq⟩
  refine hK _ _ ⟨HS.out, ?_⟩
  clear hK K hbq
  refine wpAnyL_one (i := 19) (by decide +kernel) ?_
  refine wpOp_go (o := _) rfl (fun K hK => ?_)
  go_simp
  go_at_call 27
  refine (HD2.out _ HR.out.2).mono ?_; rintro _ wy ⟨rfl, hbq⟩
  replace hBel := bt hBel hbq
  replace HS : Hid (Blk wy w.heap.size 40 [.int .i64 id, .int .i64 rows, .int .i64 live, .bool ln, .int .i64 li, .string lz, .int .i64 lq, .bool hn, .int .i64 hi, .string hz, .int .i64 hq, .int .i64 del] ∧ Blk wy (w.heap.size + 1) 31 [.int .i64 kd, .int .i64 ve, .int .i64 ns, .int .i64 ni, .slice A n c, .slice A' n' c'] ∧ Blk wy g2 31 [.int .i64 kd2, .int .i64 ve2, .int .i64 ns2, .int .i64 ni2, .slice B q d, .slice B' q' d']) := ⟨HS.out.1.call hbq, HS.out.2.1.call hbq, HS.out.2.2.call hbq⟩
  replace HR : Hid (RcAt wy ⟨kd, ve, ns, ni, add, rem⟩ A n c A' n' c' ∧ RcAt wy ⟨kd2, ve2, ns2, ni2, add2, rem2⟩ B q d B' q' d') := ⟨HR.out.1.call hbq, HR.out.2.call hbq⟩
  refine hK _ _ ⟨HS.out, ?_⟩
  clear hK K hbq
  refine wpAnyL_takeD (fun _ => True) (i := 20) (v := (.bool true)) (some 75) rfl rfl (by kernel_rfl) (by kernel_rfl) (by kernel_rfl) (fun _ _ _ h => h) (fun _ _ _ _ _ _ => trivial) (fun _ _ _ => Iff.rfl) trivial (Or.inl ⟨by rfl, fun w' hw' => by go_simp⟩) HS.out ?_
  simp only [Act.put, List.setIfInBounds_toArray, List.set_cons_zero, List.set_cons_succ]
  refine wpAnyL_takeD (fun _ => True) (i := 21) (v := (.bool true)) (some 76) rfl rfl (by kernel_rfl) (by kernel_rfl) (by kernel_rfl) (fun _ _ _ h => h) (fun _ _ _ _ _ _ => trivial) (fun _ _ _ => Iff.rfl) trivial (Or.inl ⟨by rfl, fun w' hw' => by go_simp⟩) HS.out ?_
  simp only [Act.put, List.setIfInBounds_toArray, List.set_cons_zero, List.set_cons_succ]
  refine wpAnyL_takeD (fun _ => True) (i := 22) (v := (.bool true)) (some 77) rfl rfl (by kernel_rfl) (by kernel_rfl) (by kernel_rfl) (fun _ _ _ h => h) (fun _ _ _ _ _ _ => trivial) (fun _ _ _ => Iff.rfl) trivial (Or.inl ⟨by rfl, fun w' hw' => by go_simp⟩) HS.out ?_
  simp only [Act.put, List.setIfInBounds_toArray, List.set_cons_zero, List.set_cons_succ]
  refine wpAnyL_takeD (fun _ => True) (i := 23) (v := (Sv E1)) (some 78) rfl rfl (by kernel_rfl) (by kernel_rfl) (by kernel_rfl) (fun _ _ _ h => h) (fun _ _ _ _ _ _ => trivial) (fun _ _ _ => Iff.rfl) trivial (Or.inl ⟨by rfl, fun w' hw' => by go_simp⟩) HS.out ?_
  simp only [Act.put, List.setIfInBounds_toArray, List.set_cons_zero, List.set_cons_succ]
  refine wpAnyL_takeD (fun _ => True) (i := 24) (v := (Sv E1)) (some 79) rfl rfl (by kernel_rfl) (by kernel_rfl) (by kernel_rfl) (fun _ _ _ h => h) (fun _ _ _ _ _ _ => trivial) (fun _ _ _ => Iff.rfl) trivial (Or.inl ⟨by rfl, fun w' hw' => by go_simp⟩) HS.out ?_
  simp only [Act.put, List.setIfInBounds_toArray, List.set_cons_zero, List.set_cons_succ]
  refine wpAnyL_takeD (fun _ => True) (i := 25) (v := (.bool true)) (some 80) rfl rfl (by kernel_rfl) (by kernel_rfl) (by kernel_rfl) (fun _ _ _ h => h) (fun _ _ _ _ _ _ => trivial) (fun _ _ _ => Iff.rfl) trivial (Or.inl ⟨by rfl, fun w' hw' => by go_simp⟩) HS.out ?_
  simp only [Act.put, List.setIfInBounds_toArray, List.set_cons_zero, List.set_cons_succ]
  refine wpAnyL_takeD (fun _ => True) (i := 26) (v := (.bool true)) (some 81) rfl rfl (by kernel_rfl) (by kernel_rfl) (by kernel_rfl) (fun _ _ _ h => h) (fun _ _ _ _ _ _ => trivial) (fun _ _ _ => Iff.rfl) trivial (Or.inl ⟨by rfl, fun w' hw' => by go_simp⟩) HS.out ?_
  simp only [Act.put, List.setIfInBounds_toArray, List.set_cons_zero, List.set_cons_succ]
  refine wpAnyL_takeD (fun _ => True) (i := 27) (v := (.bool true)) (some 82) rfl rfl (by kernel_rfl) (by kernel_rfl) (by kernel_rfl) (fun _ _ _ h => h) (fun _ _ _ _ _ _ => trivial) (fun _ _ _ => Iff.rfl) trivial (Or.inl ⟨by rfl, fun w' hw' => by go_simp⟩) HS.out ?_
  simp only [Act.put, List.setIfInBounds_toArray, List.set_cons_zero, List.set_cons_succ]
  refine wpAnyL_takeD (fun _ => True) (i := 28) (v := (.int .i64 ch1)) (some 83) rfl rfl (by kernel_rfl) (by kernel_rfl) (by kernel_rfl) (fun _ _ _ h => h) (fun _ _ _ _ _ _ => trivial) (fun _ _ _ => Iff.rfl) trivial (Or.inl ⟨by rfl, fun w' hw' => by go_simp⟩) HS.out ?_
  simp only [Act.put, List.setIfInBounds_toArray, List.set_cons_zero, List.set_cons_succ]
  refine wpAnyL_takeD (fun _ => True) (i := 29) (v := (.int .i64 ch1)) (some 84) rfl rfl (by kernel_rfl) (by kernel_rfl) (by kernel_rfl) (fun _ _ _ h => h) (fun _ _ _ _ _ _ => trivial) (fun _ _ _ => Iff.rfl) trivial (Or.inl ⟨by rfl, fun w' hw' => by go_simp⟩) HS.out ?_
  simp only [Act.put, List.setIfInBounds_toArray, List.set_cons_zero, List.set_cons_succ]
  refine wpAnyL_takeD (fun _ => True) (i := 30) (v := (.bool true)) (some 85) rfl rfl (by kernel_rfl) (by kernel_rfl) (by kernel_rfl) (fun _ _ _ h => h) (fun _ _ _ _ _ _ => trivial) (fun _ _ _ => Iff.rfl) trivial (Or.inl ⟨by rfl, fun w' hw' => by go_simp⟩) HS.out ?_
  simp only [Act.put, List.setIfInBounds_toArray, List.set_cons_zero, List.set_cons_succ]
  refine wpAnyL_takeD (fun _ => True) (i := 31) (v := (.bool true)) (some 86) rfl rfl (by kernel_rfl) (by kernel_rfl) (by kernel_rfl) (fun _ _ _ h => h) (fun _ _ _ _ _ _ => trivial) (fun _ _ _ => Iff.rfl) trivial (Or.inl ⟨by rfl, fun w' hw' => by go_simp⟩) HS.out ?_
  simp only [Act.put, List.setIfInBounds_toArray, List.set_cons_zero, List.set_cons_succ]
  refine wpAnyL_takeD (fun _ => True) (i := 32) (v := (.bool true)) (some 87) rfl rfl (by kernel_rfl) (by kernel_rfl) (by kernel_rfl) (fun _ _ _ h => h) (fun _ _ _ _ _ _ => trivial) (fun _ _ _ => Iff.rfl) trivial (Or.inl ⟨by rfl, fun w' hw' => by go_simp⟩) HS.out ?_
  simp only [Act.put, List.setIfInBounds_toArray, List.set_cons_zero, List.set_cons_succ]
  refine wpAnyL_takeD (fun _ => True) (i := 33) (v := (Sv E2)) (some 88) rfl rfl (by kernel_rfl) (by kernel_rfl) (by kernel_rfl) (fun _ _ _ h => h) (fun _ _ _ _ _ _ => trivial) (fun _ _ _ => Iff.rfl) trivial (Or.inl ⟨by rfl, fun w' hw' => by go_simp⟩) HS.out ?_
  simp only [Act.put, List.setIfInBounds_toArray, List.set_cons_zero, List.set_cons_succ]
  refine wpAnyL_takeD (fun _ => True) (i := 34) (v := (Sv E2)) (some 89) rfl rfl (by kernel_rfl) (by kernel_rfl) (by kernel_rfl) (fun _ _ _ h => h) (fun _ _ _ _ _ _ => trivial) (fun _ _ _ => Iff.rfl) trivial (Or.inl ⟨by rfl, fun w' hw' => by go_simp⟩) HS.out ?_
  simp only [Act.put, List.setIfInBounds_toArray, List.set_cons_zero, List.set_cons_succ]
  refine wpAnyL_takeD (fun _ => True) (i := 35) (v := (.bool true)) (some 90) rfl rfl (by kernel_rfl) (by kernel_rfl) (by kernel_rfl) (fun _ _ _ h => h) (fun _ _ _ _ _ _ => trivial) (fun _ _ _ => Iff.rfl) trivial (Or.inl ⟨by rfl, fun w' hw' => by go_simp⟩) HS.out ?_
  simp only [Act.put, List.setIfInBounds_toArray, List.set_cons_zero, List.set_cons_succ]
  refine wpAnyL_takeD (fun _ => True) (i := 36) (v := (.bool true)) (some 91) rfl rfl (by kernel_rfl) (by kernel_rfl) (by kernel_rfl) (fun _ _ _ h => h) (fun _ _ _ _ _ _ => trivial) (fun _ _ _ => Iff.rfl) trivial (Or.inl ⟨by rfl, fun w' hw' => by go_simp⟩) HS.out ?_
  simp only [Act.put, List.setIfInBounds_toArray, List.set_cons_zero, List.set_cons_succ]
  refine wpAnyL_takeD (fun _ => True) (i := 37) (v := (.bool true)) (some 92) rfl rfl (by kernel_rfl) (by kernel_rfl) (by kernel_rfl) (fun _ _ _ h => h) (fun _ _ _ _ _ _ => trivial) (fun _ _ _ => Iff.rfl) trivial (Or.inl ⟨by rfl, fun w' hw' => by go_simp⟩) HS.out ?_
  simp only [Act.put, List.setIfInBounds_toArray, List.set_cons_zero, List.set_cons_succ]
  refine wpAnyL_takeD (fun _ => True) (i := 38) (v := (.int .i64 ch2)) (some 93) rfl rfl (by kernel_rfl) (by kernel_rfl) (by kernel_rfl) (fun _ _ _ h => h) (fun _ _ _ _ _ _ => trivial) (fun _ _ _ => Iff.rfl) trivial (Or.inl ⟨by rfl, fun w' hw' => by go_simp⟩) HS.out ?_
  simp only [Act.put, List.setIfInBounds_toArray, List.set_cons_zero, List.set_cons_succ]
  refine wpAnyL_takeD (fun _ => True) (i := 39) (v := (.int .i64 ch2)) (some 94) rfl rfl (by kernel_rfl) (by kernel_rfl) (by kernel_rfl) (fun _ _ _ h => h) (fun _ _ _ _ _ _ => trivial) (fun _ _ _ => Iff.rfl) trivial (Or.inl ⟨by rfl, fun w' hw' => by go_simp⟩) HS.out ?_
  simp only [Act.put, List.setIfInBounds_toArray, List.set_cons_zero, List.set_cons_succ]
  refine wpAnyL_takeD (fun _ => True) (i := 40) (v := (.bool true)) (some 95) rfl rfl (by kernel_rfl) (by kernel_rfl) (by kernel_rfl) (fun _ _ _ h => h) (fun _ _ _ _ _ _ => trivial) (fun _ _ _ => Iff.rfl) trivial (Or.inl ⟨by rfl, fun w' hw' => by go_simp⟩) HS.out ?_
  simp only [Act.put, List.setIfInBounds_toArray, List.set_cons_zero, List.set_cons_succ]
  refine wpAnyL_takeD (fun _ => True) (i := 41) (v := (.bool true)) (some 96) rfl rfl (by kernel_rfl) (by kernel_rfl) (by kernel_rfl) (fun _ _ _ h => h) (fun _ _ _ _ _ _ => trivial) (fun _ _ _ => Iff.rfl) trivial (Or.inl ⟨by rfl, fun w' hw' => by go_simp⟩) HS.out ?_
  simp only [Act.put, List.setIfInBounds_toArray, List.set_cons_zero, List.set_cons_succ]
  refine wpAnyL_takeD (fun _ => True) (i := 42) (v := (.bool true)) (some 97) rfl rfl (by kernel_rfl) (by kernel_rfl) (by kernel_rfl) (fun _ _ _ h => h) (fun _ _ _ _ _ _ => trivial) (fun _ _ _ => Iff.rfl) trivial (Or.inl ⟨by rfl, fun w' hw' => by go_simp⟩) HS.out ?_
  simp only [Act.put, List.setIfInBounds_toArray, List.set_cons_zero, List.set_cons_succ]
  refine wpAnyL_takeD (fun _ => True) (i := 43) (v := (.int .i64 ((px : Int) - 1))) (some 98) rfl rfl (by kernel_rfl) (by kernel_rfl) (by kernel_rfl) (fun _ _ _ h => h) (fun _ _ _ _ _ _ => trivial) (fun _ _ _ => Iff.rfl) trivial (Or.inl ⟨by rfl, fun w' hw' => by go_simp⟩) HS.out ?_
  simp only [Act.put, List.setIfInBounds_toArray, List.set_cons_zero, List.set_cons_succ]
  refine wpAnyL_takeD (fun _ => True) (i := 44) (v := (.int .i64 ((py : Int) - 1))) (some 99) rfl rfl (by kernel_rfl) (by kernel_rfl) (by kernel_rfl) (fun _ _ _ h => h) (fun _ _ _ _ _ _ => trivial) (fun _ _ _ => Iff.rfl) trivial (Or.inl ⟨by rfl, fun w' hw' => by go_simp⟩) HS.out ?_
  simp only [Act.put, List.setIfInBounds_toArray, List.set_cons_zero, List.set_cons_succ]
  refine wpAnyL_takeD (fun _ => True) (i := 46) (v := (.int .i64 ((px : Int) - 1))) (some 101) rfl rfl (by kernel_rfl) (by kernel_rfl) (by kernel_rfl) (fun _ _ _ h => h) (fun _ _ _ _ _ _ => trivial) (fun _ _ _ => Iff.rfl) trivial (Or.inl ⟨by rfl, fun w' hw' => by go_simp⟩) HS.out ?_
  simp only [Act.put, List.setIfInBounds_toArray, List.set_cons_zero, List.set_cons_succ]
  refine wpAnyL_takeD (fun _ => True) (i := 47) (v := (.int .i64 ((py : Int) - 1))) (some 102) rfl rfl (by kernel_rfl) (by kernel_rfl) (by kernel_rfl) (fun _ _ _ h => h) (fun _ _ _ _ _ _ => trivial) (fun _ _ _ => Iff.rfl) trivial (Or.inl ⟨by rfl, fun w' hw' => by go_simp⟩) HS.out ?_
  simp only [Act.put, List.setIfInBounds_toArray, List.set_cons_zero, List.set_cons_succ]
  refine wpAnyL_one (i := 45) (by decide +kernel) ?_
  refine wpOp_go (o := _) rfl (fun K hK => ?_)
  go_simp
  go_at_call 28
  refine (bound_any _ _ _).mono ?_; rintro _ wy ⟨rfl, rfl⟩
  refine hK _ _ ⟨HS.out, ?_⟩
  clear hK K
  refine wpAnyL_one (i := 48) (by decide +kernel) ?_
  refine wpOp_go (o := _) rfl (fun K hK => ?_)
  go_simp
  go_at_call 29
  refine (rbound_any _ _ _).mono ?_; rintro _ wy ⟨rfl, rfl⟩
  refine hK _ _ ⟨HS.out, ?_⟩
  clear hK K
  refine wpAnyL_takeD (fun _ => True) (i := 49) (v := (.bool true)) (some 104) rfl rfl (by kernel_rfl) (by kernel_rfl) (by kernel_rfl) (fun _ _ _ h => h) (fun _ _ _ _ _ _ => trivial) (fun _ _ _ => Iff.rfl) trivial (Or.inl ⟨by rfl, fun w' hw' => by go_simp⟩) HS.out ?_
  simp only [Act.put, List.setIfInBounds_toArray, List.set_cons_zero, List.set_cons_succ]
  refine wpAnyL_takeD (fun _ => True) (i := 50) (v := (.bool true)) (some 105) rfl rfl (by kernel_rfl) (by kernel_rfl) (by kernel_rfl) (fun _ _ _ h => h) (fun _ _ _ _ _ _ => trivial) (fun _ _ _ => Iff.rfl) trivial (Or.inl ⟨by rfl, fun w' hw' => by go_simp⟩) HS.out ?_
  simp only [Act.put, List.setIfInBounds_toArray, List.set_cons_zero, List.set_cons_succ]
  refine wpAnyL_takeD (fun _ => True) (i := 51) (v := (.bool true)) (some 106) rfl rfl (by kernel_rfl) (by kernel_rfl) (by kernel_rfl) (fun _ _ _ h => h) (fun _ _ _ _ _ _ => trivial) (fun _ _ _ => Iff.rfl) trivial (Or.inl ⟨by rfl, fun w' hw' => by go_simp⟩) HS.out ?_
  simp only [Act.put, List.setIfInBounds_toArray, List.set_cons_zero, List.set_cons_succ]
  refine wpAnyL_takeD (fun _ => True) (i := 52) (v := (.int .i64 how)) (some 107) rfl rfl (by kernel_rfl) (by kernel_rfl) (by kernel_rfl) (fun _ _ _ h => h) (fun _ _ _ _ _ _ => trivial) (fun _ _ _ => Iff.rfl) trivial (Or.inl ⟨by rfl, fun w' hw' => by go_simp⟩) HS.out ?_
  simp only [Act.put, List.setIfInBounds_toArray, List.set_cons_zero, List.set_cons_succ]
  refine wpAnyL_takeD (fun _ => True) (i := 53) (v := (.int .i64 v)) (some 108) rfl rfl (by kernel_rfl) (by kernel_rfl) (by kernel_rfl) (fun _ _ _ h => h) (fun _ _ _ _ _ _ => trivial) (fun _ _ _ => Iff.rfl) trivial (Or.inl ⟨by rfl, fun w' hw' => by go_simp⟩) HS.out ?_
  simp only [Act.put, List.setIfInBounds_toArray, List.set_cons_zero, List.set_cons_succ]
  refine wpAnyL_takeD (fun _ => True) (i := 55) (v := (.int .i64 how)) (some 110) rfl rfl (by kernel_rfl) (by kernel_rfl) (by kernel_rfl) (fun _ _ _ h => h) (fun _ _ _ _ _ _ => trivial) (fun _ _ _ => Iff.rfl) trivial (Or.inl ⟨by rfl, fun w' hw' => by go_simp⟩) HS.out ?_
  simp only [Act.put, List.setIfInBounds_toArray, List.set_cons_zero, List.set_cons_succ]
  refine wpAnyL_takeD (fun _ => True) (i := 56) (v := (.int .i64 v)) (some 111) rfl rfl (by kernel_rfl) (by kernel_rfl) (by kernel_rfl) (fun _ _ _ h => h) (fun _ _ _ _ _ _ => trivial) (fun _ _ _ => Iff.rfl) trivial (Or.inl ⟨by rfl, fun w' hw' => by go_simp⟩) HS.out ?_
  simp only [Act.put, List.setIfInBounds_toArray, List.set_cons_zero, List.set_cons_succ]
  refine wpAnyL_one (i := 54) (by decide +kernel) ?_
  refine wpOp_go (o := _) rfl (fun K hK => ?_)
  go_simp
  go_at_call 28
  refine (bound_any _ _ _).mono ?_; rintro _ wy ⟨rfl, rfl⟩
  refine hK _ _ ⟨HS.out, ?_⟩
  clear hK K
  refine wpAnyL_one (i := 57) (by decide +kernel) ?_
  refine wpOp_go (o := _) rfl (fun K hK => ?_)
  go_simp
  go_at_call 29
  refine (rbound_any _ _ _).mono ?_; rintro _ wy ⟨rfl, rfl⟩
  refine hK _ _ ⟨HS.out, ?_⟩
  clear hK K
  refine wpAnyL_takeD (fun _ => True) (i := 58) (v := (.bool true)) (some 113) rfl rfl (by kernel_rfl) (by kernel_rfl) (by kernel_rfl) (fun _ _ _ h => h) (fun _ _ _ _ _ _ => trivial) (fun _ _ _ => Iff.rfl) trivial (Or.inl ⟨by rfl, fun w' hw' => by go_simp⟩) HS.out ?_
  simp only [Act.put, List.setIfInBounds_toArray, List.set_cons_zero, List.set_cons_succ]
  refine wpAnyL_takeD (fun _ => True) (i := 59) (v := (.bool true)) (some 114) rfl rfl (by kernel_rfl) (by kernel_rfl) (by kernel_rfl) (fun _ _ _ h => h) (fun _ _ _ _ _ _ => trivial) (fun _ _ _ => Iff.rfl) trivial (Or.inl ⟨by rfl, fun w' hw' => by go_simp⟩) HS.out ?_
  simp only [Act.put, List.setIfInBounds_toArray, List.set_cons_zero, List.set_cons_succ]
  refine wpAnyL_takeD (fun _ => True) (i := 60) (v := (.bool true)) (some 12) rfl rfl (by kernel_rfl) (by kernel_rfl) (by kernel_rfl) (fun _ _ _ h => h) (fun _ _ _ _ _ _ => trivial) (fun _ _ _ => Iff.rfl) trivial (Or.inl ⟨by rfl, fun w' hw' => by go_simp⟩) HS.out ?_
  simp only [Act.put, List.setIfInBounds_toArray, List.set_cons_zero, List.set_cons_succ]
  refine wpAnyL_done (by decide +kernel) ?_ _
  go_wp2
  go_ret
  exact ⟨rfl, hBel⟩

end Go.Proofs.Ytgacjpkgpegcdaa
