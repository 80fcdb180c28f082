/-
  law19.record.
-/
import Derived.Test.YtgacjpkgpegcdaaMRecA
import Derived.Test.YtgacjpkgpegcdaaMRec
namespace Go.Proofs.Ytgacjpkgpegcdaa
open Go.RowKit

theorem tdiv2' {x : Int} (h : -9223372036854775808 ≤ x ∧ x ≤ 9223372036854775807) : -9223372036854775808 ≤ x.tdiv 2 ∧ x.tdiv 2 ≤ 9223372036854775807 := by
  rcases Int.le_total 0 x with h0 | h0
  · rw [Int.tdiv_eq_ediv_of_nonneg h0]; omega
  · have e : x.tdiv 2 = -((-x).tdiv 2) := by rw [Int.neg_tdiv]; omega
    rw [e, Int.tdiv_eq_ediv_of_nonneg (by omega)]; omega
theorem one_ints (l : List Int) : ∀ u ∈ l.map Iv, u.oneCell' = true := by
  intro u hu
  obtain ⟨z, _, rfl⟩ := List.mem_map.1 hu
  rfl
theorem one_ents (l : List En) : ∀ u ∈ l.flatMap entC, u.oneCell' = true := by
  intro u hu
  obtain ⟨e, _, he⟩ := List.mem_flatMap.1 hu
  exact one_en e u he
set_option maxRecDepth 100000 in
set_option maxHeartbeats 12000000 in
theorem recordL_any (A1 : Option Addr) (n1 c1 : Nat) (zs1 : List Int) (A2 : Option Addr) (n2 c2 : Nat) (zs2 : List Int) (how v : Int) (w : World) (hr1 : Rd w w.heap.size A1 (zs1.map Iv)) (hn1 : zs1.length = n1) (hz1 : ∀ z ∈ zs1, I64 z) (hm1 : n1 ≤ 17592186044416) (hr2 : Rd w w.heap.size A2 (zs2.map Iv)) (hn2 : zs2.length = n2) (hz2 : ∀ z ∈ zs2, I64 z) (hm2 : n2 ≤ 17592186044416) (hhow : I64 how) (hv : I64 v) :
    Calls Try.prog 24 #[.slice A1 n1 c1, .slice A2 n2 c2, .int .i64 how, .int .i64 v] w (RecQ w) := by
  have HV := Lib.hid hv
  have hq2 : IntKind.i64.wrap (how.tdiv 2) = how.tdiv 2 := IntWalk.i64_in _ (tdiv2' (by unfold I64 at hhow; exact hhow))
  clear hv hhow
  have hb0 := (Below.refl w.heap.size w).alloc (Nat.le_refl _) (.cells zeroRcC.toArray 31)
  have hR0 := Blk.new w 31 zeroRcC
  have hz0 : (w.alloc (.cells zeroRcC.toArray 31)).heap.size = w.heap.size + 1 := by simp
  have HS := Lib.hid (fun (w1 : World) (hb : Below w.heap.size w w1) => snapshot_any A1 n1 c1 zs1 w1 (hr1.call hb) hn1 hz1 hm1)
  have HR := Lib.hid (fun (ve ns ni : Nat) (E : Option Addr) (q ce : Nat) (es : List En) (w1 : World) (hb : Below w.heap.size w w1) (hE : Rd w1 w1.heap.size E (es.flatMap entC)) (hq : es.length = q) (hge : ∀ e ∈ es, keysI e) (hes : q ≤ 6) (hve : ve < 50) (hns : ns < 12) (hni : ni < 39) => record_any ve ns ni E q ce es A2 n2 c2 zs2 w1 hE hq hge hes hve hns hni (hr2.call hb) hn2 hz2 hm2)
  clear hr1 hn1 hz1 hm1 hr2 hn2 hz2 hm2
  go_enter Try.func24, Try.ntmps24
  go_upto_region 1 with fail
  change Blk (w.alloc (.cells #[.int .i64 0, .int .i64 0, .int .i64 0, .int .i64 0, .slice none 0 0, .slice none 0 0] 31)) w.heap.size 31 zeroRcC at hR0
  change Below w.heap.size w (w.alloc (.cells #[.int .i64 0, .int .i64 0, .int .i64 0, .int .i64 0, .slice none 0 0, .slice none 0 0] 31)) at hb0
  change (w.alloc (.cells #[.int .i64 0, .int .i64 0, .int .i64 0, .int .i64 0, .slice none 0 0, .slice none 0 0] 31)).heap.size = w.heap.size + 1 at hz0
  generalize w.alloc (.cells #[.int .i64 0, .int .i64 0, .int .i64 0, .int .i64 0, .slice none 0 0, .slice none 0 0] 31) = w1 at *
  go_wp2_with fail
  refine (HS.out _ hb0).mono ?_; rintro _ w2 ⟨E, ce, es, ve, ns, ni, rfl, hce, hE, hge, hle, hve, hns, hni, hb2⟩
  have HGE := Lib.hid hge
  clear hge HS
  have hX := Blk.new' w2 99 #[.int .i64 (ve : Int), .int .i64 (ns : Int), .int .i64 (ni : Int), .slice E es.length ce]
  have hba := (Below.refl w2.heap.size w2).alloc (Nat.le_refl _) (.cells #[.int .i64 (ve : Int), .int .i64 (ns : Int), .int .i64 (ni : Int), .slice E es.length ce] 99)
  have hz2 : (w2.alloc (.cells #[.int .i64 (ve : Int), .int .i64 (ns : Int), .int .i64 (ni : Int), .slice E es.length ce] 99)).heap.size = w2.heap.size + 1 := by simp
  have hE3 := hE.call hba
  have hR3 := (hR0.call hb2).call hba
  have hb3 := bt (bt hb0 hb2) hba
  have hs2 := hb2.size
  go_upto_region 2 with fail
  clear hE hR0 hb2 hba
  generalize w2.alloc (.cells #[.int .i64 (ve : Int), .int .i64 (ns : Int), .int .i64 (ni : Int), .slice E es.length ce] 99) = w3 at *
  generalize w2.heap.size = gX at *
  have x0 := hX.cellAt 0 rfl
  have x1 := hX.cellAt 1 rfl
  have x2 := hX.cellAt 2 rfl
  have x3 := hX.cellAt 3 rfl
  go_wp2_with fail
  refine (HR.out ve ns ni E es.length ce es _ hb3 hE3.rd rfl (fun e he => (HGE.out e he).2) hle hve hns hni).mono ?_; rintro _ w4 ⟨⟨kd, ver, nsq, nid, add, rem⟩, A3, c3, A4, c4, rfl, hRI, hkeys, hla, hlr, hb4⟩
  dsimp only at hla hlr hRI
  have HK := Lib.hid hkeys
  clear x0 x1 x2 x3 hkeys HR
  have hY := Blk.new' w4 31 #[.int .i64 kd, .int .i64 ver, .int .i64 nsq, .int .i64 nid, .slice A3 add.length c3, .slice A4 rem.length c4]
  have hbb := (Below.refl w4.heap.size w4).alloc (Nat.le_refl _) (.cells #[.int .i64 kd, .int .i64 ver, .int .i64 nsq, .int .i64 nid, .slice A3 add.length c3, .slice A4 rem.length c4] 31)
  have hz4 : (w4.alloc (.cells #[.int .i64 kd, .int .i64 ver, .int .i64 nsq, .int .i64 nid, .slice A3 add.length c3, .slice A4 rem.length c4] 31)).heap.size = w4.heap.size + 1 := by simp
  have hE5 := (hE3.call hb4).call hbb
  have hX5 := (hX.call hb4).call hbb
  have hR5 := (hR3.call hb4).call hbb
  have hb5 := bt (bt hb3 hb4) hbb
  have hs4 := hb4.size
  have hA5 := hRI.add.call hbb
  have hM5 := hRI.rem.call hbb
  dsimp only [Kv]
  go_upto_region 3 with fail
  generalize w4.alloc (.cells #[.int .i64 kd, .int .i64 ver, .int .i64 nsq, .int .i64 nid, .slice A3 add.length c3, .slice A4 rem.length c4] 31) = w5 at *
  have hL : LS w w5 w4.heap.size w5.heap.size ⟨kd, ver, nsq, nid, add, rem⟩ A3 add.length c3 A4 rem.length c4 :=
    ⟨hR5, hY, RdX.of hA5 (by omega) (.inl (Nat.le_refl _)) (by omega) (Nat.le_refl _), RdX.of hM5 (by omega) (.inl (Nat.le_refl _)) (by omega) (Nat.le_refl _), rfl, rfl, hRI.lc, hRI.lc2, HK.out, by omega, by omega, hb5, by omega, by omega, Nat.le_refl _⟩
  have hEX : RdX w5 w.heap.size w4.heap.size w5.heap.size E (es.flatMap entC) := RdX.of hE5 (by omega) (.inl (by omega)) (by omega) (Nat.le_refl _)
  have hgXr : gX < w4.heap.size := by omega
  clear hRI hb4 hbb hR3 hb3 hE3 hX hY hA5 hM5 hE5 hR5 hb5 HK
  generalize w4.heap.size = gr at *
  go_wp2_with fail
  refine (pick_any how 2 _ (by omega) (by omega)).mono ?_; rintro _ _ ⟨rfl, rfl⟩
  have hp2 := pickN_lt how (show 0 < 2 by omega)
  generalize pickN how 2 = p2 at *
  by_cases hp : p2 = 0
  · subst hp
    have x0 := hX5.cellAt 0 rfl
    have x1 := hX5.cellAt 1 rfl
    have x2 := hX5.cellAt 2 rfl
    have x3 := hX5.cellAt 3 rfl
    have y0 := hL.blk.cellAt 0 rfl
    have y1 := hL.blk.cellAt 1 rfl
    have y2 := hL.blk.cellAt 2 rfl
    have y3 := hL.blk.cellAt 3 rfl
    have y4 := hL.blk.cellAt 4 rfl
    have y5 := hL.blk.cellAt 5 rfl
    have yf := hL.blk.frozen
    have hL2 := hL.base hEX hce (fun e he => (HGE.out e he).2) (by omega) (ve : Int) (ns : Int) (ni : Int)
    go_upto_region 5 with fail
    clear x0 x1 x2 x3 y0 y1 y2 y3 y4 y5 yf hL hX5 hEX
    generalize (((((w5.setCell ⟨gr, 0, none⟩ (.int .i64 1)).setCell ⟨gr, 1, none⟩ (.int .i64 (ve : Int))).setCell ⟨gr, 2, none⟩ (.int .i64 (ns : Int))).setCell ⟨gr, 3, none⟩ (.int .i64 (ni : Int))).setCell ⟨gr, 4, none⟩ (.slice E es.length ce)).setCell ⟨gr, 5, none⟩ (.slice none 0 0) = w6 at *
    obtain ⟨r, A, q, c, A', q', c', hi, hL, hq20, hq21⟩ : ∃ r A q c A' q' c' hi, LS w w6 gr hi r A q c A' q' c' ∧ q ≤ 20 ∧ q' ≤ 20 := ⟨_, _, _, _, _, _, _, _, hL2, by omega, by omega⟩
    clear hL2
    try clear hb0
    try clear hz0
    try clear hce
    try clear hle
    try clear hve
    try clear hns
    try clear hni
    try clear HGE
    try clear hz2
    try clear hz4
    try clear hs2
    try clear hs4
    try clear hgXr
    try clear hla
    try clear hlr
    try clear hp2
    go_wp2_with fail
    refine (pick_any (how.tdiv 2) 10 _ (by omega) (by omega)).mono ?_; rintro _ _ ⟨rfl, rfl⟩
    have hs10 := pickN_lt (how.tdiv 2) (show 0 < 10 by omega)
    generalize pickN (how.tdiv 2) 10 = sw at *
    by_cases hsw : sw = 0
    · subst hsw
      go_wp2_with fail
      refine (pick_any v 4 _ (by omega) (by omega)).mono ?_; rintro _ _ ⟨rfl, rfl⟩
      have hk4 := pickN_lt v (show 0 < 4 by omega)
      generalize pickN v 4 = k4 at *
      have f1 := hL.blk.cellAt 0 rfl
      have ff := hL.blk.frozen
      have hL2 := hL.setN 0 (.int .i64 (k4 : Int)) (r' := ⟨(k4 : Int), r.version, r.nextSeq, r.nextId, r.add, r.rem⟩) rfl rfl rfl
      go_upto_region 18 with fail
      clear f1 ff hL
      generalize w6.setCell ⟨gr, 0, none⟩ (.int .i64 (k4 : Int)) = wz at *
      have hL := hL2
      clear hL2
      have r0 := hL.blk.cellAt 0 rfl
      have r1 := hL.blk.cellAt 1 rfl
      have r2 := hL.blk.cellAt 2 rfl
      have r3 := hL.blk.cellAt 3 rfl
      have r4 := hL.blk.cellAt 4 rfl
      have r5 := hL.blk.cellAt 5 rfl
      have t0 := hL.res.cellAt 0 rfl
      have t1 := hL.res.cellAt 1 rfl
      have t2 := hL.res.cellAt 2 rfl
      have t3 := hL.res.cellAt 3 rfl
      have t4 := hL.res.cellAt 4 rfl
      have t5 := hL.res.cellAt 5 rfl
      have tf := hL.res.frozen
      obtain ⟨hRQ, hRB⟩ := hL.done
      go_wp2
      have z0 := hRB.cellAt 0 rfl
      have z1 := hRB.cellAt 1 rfl
      have z2 := hRB.cellAt 2 rfl
      have z3 := hRB.cellAt 3 rfl
      have z4 := hRB.cellAt 4 rfl
      have z5 := hRB.cellAt 5 rfl
      try dsimp only at z0 z1 z2 z3 z4 z5 hRQ
      exact bodyPost_ret (v := .agg #[.int .i64 (k4 : Int), .int .i64 r.version, .int .i64 r.nextSeq, .int .i64 r.nextId, .slice A q c, .slice A' q' c']) (by simp [results, Try.results24, go_sem, z0, z1, z2, z3, z4, z5]) rfl hRQ
    have hsw0 : decide ((sw : Int) = 0) = false := decide_eq_false (by omega)
    have hne0 := hsw
    clear hsw
    by_cases hsw : sw = 1
    · subst hsw
      have hGB := Blk.new' w6 3 #[.int .i64 (-1), .int .i64 (0), .int .i64 (2147483647), .int .i64 (2147483648)]
      have hLa := hL.alloc (.cells #[.int .i64 (-1), .int .i64 (0), .int .i64 (2147483647), .int .i64 (2147483648)] 3)
      go_wp2_with fail
      refine (pick_any v 4 _ (by omega) (by omega)).mono ?_; rintro _ _ ⟨rfl, rfl⟩
      have hk4 := pickN_lt v (show 0 < 4 by omega)
      generalize pickN v 4 = k4 at *
      obtain ⟨z, hz⟩ := get4 (a := -1) (b := 0) (c := 2147483647) (d := 2147483648) hk4
      generalize w6.alloc (.cells #[.int .i64 (-1), .int .i64 (0), .int .i64 (2147483647), .int .i64 (2147483648)] 3) = wa at *
      generalize w6.heap.size = gb at *
      have fz := hGB.cellAt k4 hz
      have fz2 : wa.cell? ((⟨gb, 0, none⟩ : Addr).add k4) = some (.int .i64 z) := by
        have e0 : (⟨gb, 0, none⟩ : Addr).add k4 = ⟨gb, k4, none⟩ := by unfold Addr.add; split <;> simp_all
        rw [e0]; exact fz
      have f1 := hLa.blk.cellAt 1 rfl
      have ff := hLa.blk.frozen
      have hL2 := hLa.setN 1 (.int .i64 z) (r' := (⟨r.kind, z, r.nextSeq, r.nextId, r.add, r.rem⟩ : Rc)) rfl rfl rfl
      clear hz
      go_upto_region 18 with fail
      clear f1 ff fz fz2 hGB hL hLa
      generalize wa.setCell ⟨gr, 1, none⟩ (.int .i64 z) = wz at *
      have hL := hL2
      clear hL2
      have r0 := hL.blk.cellAt 0 rfl
      have r1 := hL.blk.cellAt 1 rfl
      have r2 := hL.blk.cellAt 2 rfl
      have r3 := hL.blk.cellAt 3 rfl
      have r4 := hL.blk.cellAt 4 rfl
      have r5 := hL.blk.cellAt 5 rfl
      have t0 := hL.res.cellAt 0 rfl
      have t1 := hL.res.cellAt 1 rfl
      have t2 := hL.res.cellAt 2 rfl
      have t3 := hL.res.cellAt 3 rfl
      have t4 := hL.res.cellAt 4 rfl
      have t5 := hL.res.cellAt 5 rfl
      have tf := hL.res.frozen
      obtain ⟨hRQ, hRB⟩ := hL.done
      go_wp2
      have z0 := hRB.cellAt 0 rfl
      have z1 := hRB.cellAt 1 rfl
      have z2 := hRB.cellAt 2 rfl
      have z3 := hRB.cellAt 3 rfl
      have z4 := hRB.cellAt 4 rfl
      have z5 := hRB.cellAt 5 rfl
      try dsimp only at z0 z1 z2 z3 z4 z5 hRQ
      exact bodyPost_ret (v := .agg #[.int .i64 ((⟨r.kind, z, r.nextSeq, r.nextId, r.add, r.rem⟩ : Rc)).kind, .int .i64 ((⟨r.kind, z, r.nextSeq, r.nextId, r.add, r.rem⟩ : Rc)).version, .int .i64 ((⟨r.kind, z, r.nextSeq, r.nextId, r.add, r.rem⟩ : Rc)).nextSeq, .int .i64 ((⟨r.kind, z, r.nextSeq, r.nextId, r.add, r.rem⟩ : Rc)).nextId, .slice A q c, .slice A' q' c']) (by simp [results, Try.results24, go_sem, z0, z1, z2, z3, z4, z5]) rfl hRQ
    have hsw1 : decide ((sw : Int) = 1) = false := decide_eq_false (by omega)
    have hne1 := hsw
    clear hsw
    by_cases hsw : sw = 2
    · subst hsw
      have hGB := Blk.new' w6 2 #[.int .i64 (-1), .int .i64 (0), .int .i64 (1099511627777), .int .i64 (1099511627778)]
      have hLa := hL.alloc (.cells #[.int .i64 (-1), .int .i64 (0), .int .i64 (1099511627777), .int .i64 (1099511627778)] 2)
      go_wp2_with fail
      refine (pick_any v 4 _ (by omega) (by omega)).mono ?_; rintro _ _ ⟨rfl, rfl⟩
      have hk4 := pickN_lt v (show 0 < 4 by omega)
      generalize pickN v 4 = k4 at *
      obtain ⟨z, hz⟩ := get4 (a := -1) (b := 0) (c := 1099511627777) (d := 1099511627778) hk4
      generalize w6.alloc (.cells #[.int .i64 (-1), .int .i64 (0), .int .i64 (1099511627777), .int .i64 (1099511627778)] 2) = wa at *
      generalize w6.heap.size = gb at *
      have fz := hGB.cellAt k4 hz
      have fz2 : wa.cell? ((⟨gb, 0, none⟩ : Addr).add k4) = some (.int .i64 z) := by
        have e0 : (⟨gb, 0, none⟩ : Addr).add k4 = ⟨gb, k4, none⟩ := by unfold Addr.add; split <;> simp_all
        rw [e0]; exact fz
      have f1 := hLa.blk.cellAt 2 rfl
      have ff := hLa.blk.frozen
      have hL2 := hLa.setN 2 (.int .i64 z) (r' := (⟨r.kind, r.version, z, r.nextId, r.add, r.rem⟩ : Rc)) rfl rfl rfl
      clear hz
      go_upto_region 18 with fail
      clear f1 ff fz fz2 hGB hL hLa
      generalize wa.setCell ⟨gr, 2, none⟩ (.int .i64 z) = wz at *
      have hL := hL2
      clear hL2
      have r0 := hL.blk.cellAt 0 rfl
      have r1 := hL.blk.cellAt 1 rfl
      have r2 := hL.blk.cellAt 2 rfl
      have r3 := hL.blk.cellAt 3 rfl
      have r4 := hL.blk.cellAt 4 rfl
      have r5 := hL.blk.cellAt 5 rfl
      have t0 := hL.res.cellAt 0 rfl
      have t1 := hL.res.cellAt 1 rfl
      have t2 := hL.res.cellAt 2 rfl
      have t3 := hL.res.cellAt 3 rfl
      have t4 := hL.res.cellAt 4 rfl
      have t5 := hL.res.cellAt 5 rfl
      have tf := hL.res.frozen
      obtain ⟨hRQ, hRB⟩ := hL.done
      go_wp2
      have z0 := hRB.cellAt 0 rfl
      have z1 := hRB.cellAt 1 rfl
      have z2 := hRB.cellAt 2 rfl
      have z3 := hRB.cellAt 3 rfl
      have z4 := hRB.cellAt 4 rfl
      have z5 := hRB.cellAt 5 rfl
      try dsimp only at z0 z1 z2 z3 z4 z5 hRQ
      exact bodyPost_ret (v := .agg #[.int .i64 ((⟨r.kind, r.version, z, r.nextId, r.add, r.rem⟩ : Rc)).kind, .int .i64 ((⟨r.kind, r.version, z, r.nextId, r.add, r.rem⟩ : Rc)).version, .int .i64 ((⟨r.kind, r.version, z, r.nextId, r.add, r.rem⟩ : Rc)).nextSeq, .int .i64 ((⟨r.kind, r.version, z, r.nextId, r.add, r.rem⟩ : Rc)).nextId, .slice A q c, .slice A' q' c']) (by simp [results, Try.results24, go_sem, z0, z1, z2, z3, z4, z5]) rfl hRQ
    have hsw2 : decide ((sw : Int) = 2) = false := decide_eq_false (by omega)
    have hne2 := hsw
    clear hsw
    by_cases hsw : sw = 3
    · subst hsw
      have hGB := Blk.new' w6 3 #[.int .i64 (0), .int .i64 (1), .int .i64 (2147483647), .int .i64 (2147483648)]
      have hLa := hL.alloc (.cells #[.int .i64 (0), .int .i64 (1), .int .i64 (2147483647), .int .i64 (2147483648)] 3)
      go_wp2_with fail
      refine (pick_any v 4 _ (by omega) (by omega)).mono ?_; rintro _ _ ⟨rfl, rfl⟩
      have hk4 := pickN_lt v (show 0 < 4 by omega)
      generalize pickN v 4 = k4 at *
      obtain ⟨z, hz⟩ := get4 (a := 0) (b := 1) (c := 2147483647) (d := 2147483648) hk4
      generalize w6.alloc (.cells #[.int .i64 (0), .int .i64 (1), .int .i64 (2147483647), .int .i64 (2147483648)] 3) = wa at *
      generalize w6.heap.size = gb at *
      have fz := hGB.cellAt k4 hz
      have fz2 : wa.cell? ((⟨gb, 0, none⟩ : Addr).add k4) = some (.int .i64 z) := by
        have e0 : (⟨gb, 0, none⟩ : Addr).add k4 = ⟨gb, k4, none⟩ := by unfold Addr.add; split <;> simp_all
        rw [e0]; exact fz
      have f1 := hLa.blk.cellAt 3 rfl
      have ff := hLa.blk.frozen
      have hL2 := hLa.setN 3 (.int .i64 z) (r' := (⟨r.kind, r.version, r.nextSeq, z, r.add, r.rem⟩ : Rc)) rfl rfl rfl
      clear hz
      go_upto_region 18 with fail
      clear f1 ff fz fz2 hGB hL hLa
      generalize wa.setCell ⟨gr, 3, none⟩ (.int .i64 z) = wz at *
      have hL := hL2
      clear hL2
      have r0 := hL.blk.cellAt 0 rfl
      have r1 := hL.blk.cellAt 1 rfl
      have r2 := hL.blk.cellAt 2 rfl
      have r3 := hL.blk.cellAt 3 rfl
      have r4 := hL.blk.cellAt 4 rfl
      have r5 := hL.blk.cellAt 5 rfl
      have t0 := hL.res.cellAt 0 rfl
      have t1 := hL.res.cellAt 1 rfl
      have t2 := hL.res.cellAt 2 rfl
      have t3 := hL.res.cellAt 3 rfl
      have t4 := hL.res.cellAt 4 rfl
      have t5 := hL.res.cellAt 5 rfl
      have tf := hL.res.frozen
      obtain ⟨hRQ, hRB⟩ := hL.done
      go_wp2
      have z0 := hRB.cellAt 0 rfl
      have z1 := hRB.cellAt 1 rfl
      have z2 := hRB.cellAt 2 rfl
      have z3 := hRB.cellAt 3 rfl
      have z4 := hRB.cellAt 4 rfl
      have z5 := hRB.cellAt 5 rfl
      try dsimp only at z0 z1 z2 z3 z4 z5 hRQ
      exact bodyPost_ret (v := .agg #[.int .i64 ((⟨r.kind, r.version, r.nextSeq, z, r.add, r.rem⟩ : Rc)).kind, .int .i64 ((⟨r.kind, r.version, r.nextSeq, z, r.add, r.rem⟩ : Rc)).version, .int .i64 ((⟨r.kind, r.version, r.nextSeq, z, r.add, r.rem⟩ : Rc)).nextSeq, .int .i64 ((⟨r.kind, r.version, r.nextSeq, z, r.add, r.rem⟩ : Rc)).nextId, .slice A q c, .slice A' q' c']) (by simp [results, Try.results24, go_sem, z0, z1, z2, z3, z4, z5]) rfl hRQ
    have hsw3 : decide ((sw : Int) = 3) = false := decide_eq_false (by omega)
    have hne3 := hsw
    clear hsw
    by_cases hsw : sw = 4
    · subst hsw
      have f5 := hL.blk.cellAt 5 rfl
      have hp2 := hL.p2
      have hl2 := hL.ln2
      have hs2 := hL.s2
      go_wp2_with (at_builtin; refine append_rd (v := .slice none 0 0) (n := 0) (xs := []) (World.ownsRow_nil _ w6.heap.size 3 1) (Nat.le_refl _) mints rfl (by decide) hL.rem.rd (by rw [List.length_map, hl2, Nat.mul_one]) (one_ints _) (by unfold maxLen; omega) (by omega) ?_ rfl _ _ rfl rfl rfl)
      intro v1 wp ho1 hg1
      have hL1 := hL.grown hg1 (fun k e => by simp [Value.ownBlock] at e)
      have hBs := hg1.size
      obtain ⟨A5, c5, hv1, hc5⟩ := own_form ho1
      subst hv1
      clear f5 hL hg1
      go_wp2_with fail
      refine (pick_any v 40 _ (by omega) (by omega)).mono ?_; rintro _ _ ⟨rfl, rfl⟩
      have hk4 := pickN_lt v (show 0 < 40 by omega)
      generalize pickN v 40 = k4 at *
      have hw4 : IntKind.i64.wrap ((k4 : Int) - 1) = (k4 : Int) - 1 := IntWalk.i64_in _ (by omega)
      have hN := Blk.new' wp 3 #[.int .i64 ((k4 : Int) - 1)]
      have hba := (Below.refl wp.heap.size wp).alloc (Nat.le_refl _) (.cells #[.int .i64 ((k4 : Int) - 1)] 3)
      have hL2 := hL1.call hba
      have ho2 := DS.call.kept_below ho1 hba
      have hBs2 := hba.size
      go_wp2_with (at_builtin; refine append_rd ho2 (by omega) mints rfl (by decide) hN.rd rfl (by intro u hu; simp at hu; subst hu; rfl) (by unfold maxLen; omega) (by omega) ?_ rfl _ _ rfl rfl rfl)
      intro v2 wq ho3 hg2
      have hL3 := hL2.grown hg2 (fun k e => by have := (ho2.lt k e).1; omega)
      obtain ⟨A6, c6, hv2, hc6⟩ := own_form ho3
      subst hv2
      clear hL1 hL2 hN hba ho1 ho2 hg2
      have f5 := hL3.blk.cellAt 5 rfl
      have ff := hL3.blk.frozen
      have hL4 := hL3.setR (ys := r.rem ++ [(k4 : Int) - 1]) (by simpa using ho3) (by omega) (by omega)
      go_upto_region 18 with fail
      clear f5 ff ho3 hL3
      generalize wq.setCell ⟨gr, 5, none⟩ (.slice A6 (q' + 1) c6) = wz at *
      have hL := hL4
      clear hL4
      have r0 := hL.blk.cellAt 0 rfl
      have r1 := hL.blk.cellAt 1 rfl
      have r2 := hL.blk.cellAt 2 rfl
      have r3 := hL.blk.cellAt 3 rfl
      have r4 := hL.blk.cellAt 4 rfl
      have r5 := hL.blk.cellAt 5 rfl
      have t0 := hL.res.cellAt 0 rfl
      have t1 := hL.res.cellAt 1 rfl
      have t2 := hL.res.cellAt 2 rfl
      have t3 := hL.res.cellAt 3 rfl
      have t4 := hL.res.cellAt 4 rfl
      have t5 := hL.res.cellAt 5 rfl
      have tf := hL.res.frozen
      obtain ⟨hRQ, hRB⟩ := hL.done
      go_wp2
      have z0 := hRB.cellAt 0 rfl
      have z1 := hRB.cellAt 1 rfl
      have z2 := hRB.cellAt 2 rfl
      have z3 := hRB.cellAt 3 rfl
      have z4 := hRB.cellAt 4 rfl
      have z5 := hRB.cellAt 5 rfl
      try dsimp only at z0 z1 z2 z3 z4 z5 hRQ
      exact bodyPost_ret (v := .agg #[.int .i64 r.kind, .int .i64 r.version, .int .i64 r.nextSeq, .int .i64 r.nextId, .slice A q c, .slice A6 (q' + 1) c6]) (by simp [results, Try.results24, go_sem, z0, z1, z2, z3, z4, z5]) rfl hRQ
    have hsw4 : decide ((sw : Int) = 4) = false := decide_eq_false (by omega)
    have hne4 := hsw
    clear hsw
    by_cases hsw : sw = 5
    · subst hsw
      have f4 := hL.blk.cellAt 4 rfl
      have hp2 := hL.p2
      have hl1 := hL.ln
      have hs1 := hL.s1
      go_wp2_with (at_builtin; refine append_rd (v := .slice none 0 0) (n := 0) (xs := []) (World.ownsRow_nil _ w6.heap.size 40 12) (Nat.le_refl _) ments rfl (by decide) hL.add.rd (by rw [flat_len (k := 12) (fun _ => rfl), hl1]) (one_ents _) (by unfold maxLen; omega) (by omega) ?_ rfl _ _ rfl rfl rfl)
      intro v1 wp ho1 hg1
      have hL1 := hL.grown hg1 (fun k e => by simp [Value.ownBlock] at e)
      have hBs := hg1.size
      obtain ⟨A5, c5, hv1, hc5⟩ := own_form ho1
      subst hv1
      clear f4 hL hg1
      have hN := Blk.new' wp 3 #[.int .i64 v, .int .i64 (wrap64 (v.tdiv 3)), .int .i64 (wrap64 (v.tdiv 5)), .int .i64 (wrap64 (v.tdiv 7))]
      have hba := (Below.refl wp.heap.size wp).alloc (Nat.le_refl _) (.cells #[.int .i64 v, .int .i64 (wrap64 (v.tdiv 3)), .int .i64 (wrap64 (v.tdiv 5)), .int .i64 (wrap64 (v.tdiv 7))] 3)
      have hEN := Lib.hid (entries_any (some ⟨wp.heap.size, 0, none⟩) 4 4 1 [v, wrap64 (v.tdiv 3), wrap64 (v.tdiv 5), wrap64 (v.tdiv 7)] _ hN.rd rfl (by
        intro z hz
        simp only [List.mem_cons, List.not_mem_nil, or_false] at hz
        rcases hz with rfl | rfl | rfl | rfl
        · exact HV.out
        · exact I64_wrap64' _
        · exact I64_wrap64' _
        · exact I64_wrap64' _) (by omega) (by omega))
      go_wp2_with fail
      refine hEN.out.mono ?_; rintro _ wr2 ⟨vE, es3, rfl, hoE, hgE, hlE, hbE⟩
      obtain ⟨A7, c7, rfl, hc7⟩ := own_form hoE
      have hb2 := bt hba hbE
      have hL2 := hL1.call hb2
      have ho2 := DS.call.kept_below ho1 hb2
      have hBs2 := hb2.size
      have hrE := Rd.of_own hoE
      have HGE2 := Lib.hid hgE
      clear hgE hoE hbE hba hEN hN
      go_wp2_with (at_builtin; refine append_rd ho2 (by omega) ments rfl (by decide) hrE (by rw [flat_len (k := 12) (fun _ => rfl)]) (one_ents _) (by unfold maxLen; omega) (by omega) ?_ rfl _ _ rfl rfl rfl)
      intro v2 wq ho3 hg2
      have hL3 := hL2.grown hg2 (fun k e => by have := (ho2.lt k e).1; omega)
      obtain ⟨A6, c6, hv2, hc6⟩ := own_form ho3
      subst hv2
      have hkk := hL3.keys
      clear hL1 hL2 ho1 ho2 hg2 hrE
      have f4 := hL3.blk.cellAt 4 rfl
      have ff := hL3.blk.frozen
      have hL4 := hL3.setA (xs := r.add ++ es3) (by rw [List.flatMap_append]; simpa using ho3) (by rw [List.length_append, hl1]) (fun e he => by
        rcases List.mem_append.1 he with h | h
        · exact hkk e h
        · exact (HGE2.out e h).2) (by omega) (by omega)
      go_upto_region 18 with fail
      clear f4 ff ho3 hL3 hkk
      generalize wq.setCell ⟨gr, 4, none⟩ (.slice A6 (q + es3.length) c6) = wz at *
      have hL := hL4
      clear hL4
      have r0 := hL.blk.cellAt 0 rfl
      have r1 := hL.blk.cellAt 1 rfl
      have r2 := hL.blk.cellAt 2 rfl
      have r3 := hL.blk.cellAt 3 rfl
      have r4 := hL.blk.cellAt 4 rfl
      have r5 := hL.blk.cellAt 5 rfl
      have t0 := hL.res.cellAt 0 rfl
      have t1 := hL.res.cellAt 1 rfl
      have t2 := hL.res.cellAt 2 rfl
      have t3 := hL.res.cellAt 3 rfl
      have t4 := hL.res.cellAt 4 rfl
      have t5 := hL.res.cellAt 5 rfl
      have tf := hL.res.frozen
      obtain ⟨hRQ, hRB⟩ := hL.done
      go_wp2
      have z0 := hRB.cellAt 0 rfl
      have z1 := hRB.cellAt 1 rfl
      have z2 := hRB.cellAt 2 rfl
      have z3 := hRB.cellAt 3 rfl
      have z4 := hRB.cellAt 4 rfl
      have z5 := hRB.cellAt 5 rfl
      try dsimp only at z0 z1 z2 z3 z4 z5 hRQ
      exact bodyPost_ret (v := .agg #[.int .i64 r.kind, .int .i64 r.version, .int .i64 r.nextSeq, .int .i64 r.nextId, .slice A6 (q + es3.length) c6, .slice A' q' c']) (by simp [results, Try.results24, go_sem, z0, z1, z2, z3, z4, z5]) rfl hRQ
    have hsw5 : decide ((sw : Int) = 5) = false := decide_eq_false (by omega)
    go_upto_region 18 with fail
    have r0 := hL.blk.cellAt 0 rfl
    have r1 := hL.blk.cellAt 1 rfl
    have r2 := hL.blk.cellAt 2 rfl
    have r3 := hL.blk.cellAt 3 rfl
    have r4 := hL.blk.cellAt 4 rfl
    have r5 := hL.blk.cellAt 5 rfl
    have t0 := hL.res.cellAt 0 rfl
    have t1 := hL.res.cellAt 1 rfl
    have t2 := hL.res.cellAt 2 rfl
    have t3 := hL.res.cellAt 3 rfl
    have t4 := hL.res.cellAt 4 rfl
    have t5 := hL.res.cellAt 5 rfl
    have tf := hL.res.frozen
    obtain ⟨hRQ, hRB⟩ := hL.done
    go_wp2
    have z0 := hRB.cellAt 0 rfl
    have z1 := hRB.cellAt 1 rfl
    have z2 := hRB.cellAt 2 rfl
    have z3 := hRB.cellAt 3 rfl
    have z4 := hRB.cellAt 4 rfl
    have z5 := hRB.cellAt 5 rfl
    try dsimp only at z0 z1 z2 z3 z4 z5 hRQ
    exact bodyPost_ret (v := .agg #[.int .i64 r.kind, .int .i64 r.version, .int .i64 r.nextSeq, .int .i64 r.nextId, .slice A q c, .slice A' q' c']) (by simp [results, Try.results24, go_sem, z0, z1, z2, z3, z4, z5]) rfl hRQ
  · have hp' : decide ((p2 : Int) = 0) = false := decide_eq_false (by omega)
    go_upto_region 5 with fail
    clear hX5 hEX
    have hL2 := hL
    clear hL
    obtain ⟨r, A, q, c, A', q', c', hi, hL, hq20, hq21⟩ : ∃ r A q c A' q' c' hi, LS w w5 gr hi r A q c A' q' c' ∧ q ≤ 20 ∧ q' ≤ 20 := ⟨_, _, _, _, _, _, _, _, hL2, hla, hlr⟩
    clear hL2
    try clear hb0
    try clear hz0
    try clear hce
    try clear hle
    try clear hve
    try clear hns
    try clear hni
    try clear HGE
    try clear hz2
    try clear hz4
    try clear hs2
    try clear hs4
    try clear hgXr
    try clear hla
    try clear hlr
    try clear hp2
    go_wp2_with fail
    refine (pick_any (how.tdiv 2) 10 _ (by omega) (by omega)).mono ?_; rintro _ _ ⟨rfl, rfl⟩
    have hs10 := pickN_lt (how.tdiv 2) (show 0 < 10 by omega)
    generalize pickN (how.tdiv 2) 10 = sw at *
    by_cases hsw : sw = 0
    · subst hsw
      go_wp2_with fail
      refine (pick_any v 4 _ (by omega) (by omega)).mono ?_; rintro _ _ ⟨rfl, rfl⟩
      have hk4 := pickN_lt v (show 0 < 4 by omega)
      generalize pickN v 4 = k4 at *
      have f1 := hL.blk.cellAt 0 rfl
      have ff := hL.blk.frozen
      have hL2 := hL.setN 0 (.int .i64 (k4 : Int)) (r' := ⟨(k4 : Int), r.version, r.nextSeq, r.nextId, r.add, r.rem⟩) rfl rfl rfl
      go_upto_region 18 with fail
      clear f1 ff hL
      generalize w5.setCell ⟨gr, 0, none⟩ (.int .i64 (k4 : Int)) = wz at *
      have hL := hL2
      clear hL2
      have r0 := hL.blk.cellAt 0 rfl
      have r1 := hL.blk.cellAt 1 rfl
      have r2 := hL.blk.cellAt 2 rfl
      have r3 := hL.blk.cellAt 3 rfl
      have r4 := hL.blk.cellAt 4 rfl
      have r5 := hL.blk.cellAt 5 rfl
      have t0 := hL.res.cellAt 0 rfl
      have t1 := hL.res.cellAt 1 rfl
      have t2 := hL.res.cellAt 2 rfl
      have t3 := hL.res.cellAt 3 rfl
      have t4 := hL.res.cellAt 4 rfl
      have t5 := hL.res.cellAt 5 rfl
      have tf := hL.res.frozen
      obtain ⟨hRQ, hRB⟩ := hL.done
      go_wp2
      have z0 := hRB.cellAt 0 rfl
      have z1 := hRB.cellAt 1 rfl
      have z2 := hRB.cellAt 2 rfl
      have z3 := hRB.cellAt 3 rfl
      have z4 := hRB.cellAt 4 rfl
      have z5 := hRB.cellAt 5 rfl
      try dsimp only at z0 z1 z2 z3 z4 z5 hRQ
      exact bodyPost_ret (v := .agg #[.int .i64 (k4 : Int), .int .i64 r.version, .int .i64 r.nextSeq, .int .i64 r.nextId, .slice A q c, .slice A' q' c']) (by simp [results, Try.results24, go_sem, z0, z1, z2, z3, z4, z5]) rfl hRQ
    have hsw0 : decide ((sw : Int) = 0) = false := decide_eq_false (by omega)
    have hne0 := hsw
    clear hsw
    by_cases hsw : sw = 1
    · subst hsw
      have hGB := Blk.new' w5 3 #[.int .i64 (-1), .int .i64 (0), .int .i64 (2147483647), .int .i64 (2147483648)]
      have hLa := hL.alloc (.cells #[.int .i64 (-1), .int .i64 (0), .int .i64 (2147483647), .int .i64 (2147483648)] 3)
      go_wp2_with fail
      refine (pick_any v 4 _ (by omega) (by omega)).mono ?_; rintro _ _ ⟨rfl, rfl⟩
      have hk4 := pickN_lt v (show 0 < 4 by omega)
      generalize pickN v 4 = k4 at *
      obtain ⟨z, hz⟩ := get4 (a := -1) (b := 0) (c := 2147483647) (d := 2147483648) hk4
      generalize w5.alloc (.cells #[.int .i64 (-1), .int .i64 (0), .int .i64 (2147483647), .int .i64 (2147483648)] 3) = wa at *
      generalize w5.heap.size = gb at *
      have fz := hGB.cellAt k4 hz
      have fz2 : wa.cell? ((⟨gb, 0, none⟩ : Addr).add k4) = some (.int .i64 z) := by
        have e0 : (⟨gb, 0, none⟩ : Addr).add k4 = ⟨gb, k4, none⟩ := by unfold Addr.add; split <;> simp_all
        rw [e0]; exact fz
      have f1 := hLa.blk.cellAt 1 rfl
      have ff := hLa.blk.frozen
      have hL2 := hLa.setN 1 (.int .i64 z) (r' := (⟨r.kind, z, r.nextSeq, r.nextId, r.add, r.rem⟩ : Rc)) rfl rfl rfl
      clear hz
      go_upto_region 18 with fail
      clear f1 ff fz fz2 hGB hL hLa
      generalize wa.setCell ⟨gr, 1, none⟩ (.int .i64 z) = wz at *
      have hL := hL2
      clear hL2
      have r0 := hL.blk.cellAt 0 rfl
      have r1 := hL.blk.cellAt 1 rfl
      have r2 := hL.blk.cellAt 2 rfl
      have r3 := hL.blk.cellAt 3 rfl
      have r4 := hL.blk.cellAt 4 rfl
      have r5 := hL.blk.cellAt 5 rfl
      have t0 := hL.res.cellAt 0 rfl
      have t1 := hL.res.cellAt 1 rfl
      have t2 := hL.res.cellAt 2 rfl
      have t3 := hL.res.cellAt 3 rfl
      have t4 := hL.res.cellAt 4 rfl
      have t5 := hL.res.cellAt 5 rfl
      have tf := hL.res.frozen
      obtain ⟨hRQ, hRB⟩ := hL.done
      go_wp2
      have z0 := hRB.cellAt 0 rfl
      have z1 := hRB.cellAt 1 rfl
      have z2 := hRB.cellAt 2 rfl
      have z3 := hRB.cellAt 3 rfl
      have z4 := hRB.cellAt 4 rfl
      have z5 := hRB.cellAt 5 rfl
      try dsimp only at z0 z1 z2 z3 z4 z5 hRQ
      exact bodyPost_ret (v := .agg #[.int .i64 ((⟨r.kind, z, r.nextSeq, r.nextId, r.add, r.rem⟩ : Rc)).kind, .int .i64 ((⟨r.kind, z, r.nextSeq, r.nextId, r.add, r.rem⟩ : Rc)).version, .int .i64 ((⟨r.kind, z, r.nextSeq, r.nextId, r.add, r.rem⟩ : Rc)).nextSeq, .int .i64 ((⟨r.kind, z, r.nextSeq, r.nextId, r.add, r.rem⟩ : Rc)).nextId, .slice A q c, .slice A' q' c']) (by simp [results, Try.results24, go_sem, z0, z1, z2, z3, z4, z5]) rfl hRQ
    have hsw1 : decide ((sw : Int) = 1) = false := decide_eq_false (by omega)
    have hne1 := hsw
    clear hsw
    by_cases hsw : sw = 2
    · subst hsw
      have hGB := Blk.new' w5 2 #[.int .i64 (-1), .int .i64 (0), .int .i64 (1099511627777), .int .i64 (1099511627778)]
      have hLa := hL.alloc (.cells #[.int .i64 (-1), .int .i64 (0), .int .i64 (1099511627777), .int .i64 (1099511627778)] 2)
      go_wp2_with fail
      refine (pick_any v 4 _ (by omega) (by omega)).mono ?_; rintro _ _ ⟨rfl, rfl⟩
      have hk4 := pickN_lt v (show 0 < 4 by omega)
      generalize pickN v 4 = k4 at *
      obtain ⟨z, hz⟩ := get4 (a := -1) (b := 0) (c := 1099511627777) (d := 1099511627778) hk4
      generalize w5.alloc (.cells #[.int .i64 (-1), .int .i64 (0), .int .i64 (1099511627777), .int .i64 (1099511627778)] 2) = wa at *
      generalize w5.heap.size = gb at *
      have fz := hGB.cellAt k4 hz
      have fz2 : wa.cell? ((⟨gb, 0, none⟩ : Addr).add k4) = some (.int .i64 z) := by
        have e0 : (⟨gb, 0, none⟩ : Addr).add k4 = ⟨gb, k4, none⟩ := by unfold Addr.add; split <;> simp_all
        rw [e0]; exact fz
      have f1 := hLa.blk.cellAt 2 rfl
      have ff := hLa.blk.frozen
      have hL2 := hLa.setN 2 (.int .i64 z) (r' := (⟨r.kind, r.version, z, r.nextId, r.add, r.rem⟩ : Rc)) rfl rfl rfl
      clear hz
      go_upto_region 18 with fail
      clear f1 ff fz fz2 hGB hL hLa
      generalize wa.setCell ⟨gr, 2, none⟩ (.int .i64 z) = wz at *
      have hL := hL2
      clear hL2
      have r0 := hL.blk.cellAt 0 rfl
      have r1 := hL.blk.cellAt 1 rfl
      have r2 := hL.blk.cellAt 2 rfl
      have r3 := hL.blk.cellAt 3 rfl
      have r4 := hL.blk.cellAt 4 rfl
      have r5 := hL.blk.cellAt 5 rfl
      have t0 := hL.res.cellAt 0 rfl
      have t1 := hL.res.cellAt 1 rfl
      have t2 := hL.res.cellAt 2 rfl
      have t3 := hL.res.cellAt 3 rfl
      have t4 := hL.res.cellAt 4 rfl
      have t5 := hL.res.cellAt 5 rfl
      have tf := hL.res.frozen
      obtain ⟨hRQ, hRB⟩ := hL.done
      go_wp2
      have z0 := hRB.cellAt 0 rfl
      have z1 := hRB.cellAt 1 rfl
      have z2 := hRB.cellAt 2 rfl
      have z3 := hRB.cellAt 3 rfl
      have z4 := hRB.cellAt 4 rfl
      have z5 := hRB.cellAt 5 rfl
      try dsimp only at z0 z1 z2 z3 z4 z5 hRQ
      exact bodyPost_ret (v := .agg #[.int .i64 ((⟨r.kind, r.version, z, r.nextId, r.add, r.rem⟩ : Rc)).kind, .int .i64 ((⟨r.kind, r.version, z, r.nextId, r.add, r.rem⟩ : Rc)).version, .int .i64 ((⟨r.kind, r.version, z, r.nextId, r.add, r.rem⟩ : Rc)).nextSeq, .int .i64 ((⟨r.kind, r.version, z, r.nextId, r.add, r.rem⟩ : Rc)).nextId, .slice A q c, .slice A' q' c']) (by simp [results, Try.results24, go_sem, z0, z1, z2, z3, z4, z5]) rfl hRQ
    have hsw2 : decide ((sw : Int) = 2) = false := decide_eq_false (by omega)
    have hne2 := hsw
    clear hsw
    by_cases hsw : sw = 3
    · subst hsw
      have hGB := Blk.new' w5 3 #[.int .i64 (0), .int .i64 (1), .int .i64 (2147483647), .int .i64 (2147483648)]
      have hLa := hL.alloc (.cells #[.int .i64 (0), .int .i64 (1), .int .i64 (2147483647), .int .i64 (2147483648)] 3)
      go_wp2_with fail
      refine (pick_any v 4 _ (by omega) (by omega)).mono ?_; rintro _ _ ⟨rfl, rfl⟩
      have hk4 := pickN_lt v (show 0 < 4 by omega)
      generalize pickN v 4 = k4 at *
      obtain ⟨z, hz⟩ := get4 (a := 0) (b := 1) (c := 2147483647) (d := 2147483648) hk4
      generalize w5.alloc (.cells #[.int .i64 (0), .int .i64 (1), .int .i64 (2147483647), .int .i64 (2147483648)] 3) = wa at *
      generalize w5.heap.size = gb at *
      have fz := hGB.cellAt k4 hz
      have fz2 : wa.cell? ((⟨gb, 0, none⟩ : Addr).add k4) = some (.int .i64 z) := by
        have e0 : (⟨gb, 0, none⟩ : Addr).add k4 = ⟨gb, k4, none⟩ := by unfold Addr.add; split <;> simp_all
        rw [e0]; exact fz
      have f1 := hLa.blk.cellAt 3 rfl
      have ff := hLa.blk.frozen
      have hL2 := hLa.setN 3 (.int .i64 z) (r' := (⟨r.kind, r.version, r.nextSeq, z, r.add, r.rem⟩ : Rc)) rfl rfl rfl
      clear hz
      go_upto_region 18 with fail
      clear f1 ff fz fz2 hGB hL hLa
      generalize wa.setCell ⟨gr, 3, none⟩ (.int .i64 z) = wz at *
      have hL := hL2
      clear hL2
      have r0 := hL.blk.cellAt 0 rfl
      have r1 := hL.blk.cellAt 1 rfl
      have r2 := hL.blk.cellAt 2 rfl
      have r3 := hL.blk.cellAt 3 rfl
      have r4 := hL.blk.cellAt 4 rfl
      have r5 := hL.blk.cellAt 5 rfl
      have t0 := hL.res.cellAt 0 rfl
      have t1 := hL.res.cellAt 1 rfl
      have t2 := hL.res.cellAt 2 rfl
      have t3 := hL.res.cellAt 3 rfl
      have t4 := hL.res.cellAt 4 rfl
      have t5 := hL.res.cellAt 5 rfl
      have tf := hL.res.frozen
      obtain ⟨hRQ, hRB⟩ := hL.done
      go_wp2
      have z0 := hRB.cellAt 0 rfl
      have z1 := hRB.cellAt 1 rfl
      have z2 := hRB.cellAt 2 rfl
      have z3 := hRB.cellAt 3 rfl
      have z4 := hRB.cellAt 4 rfl
      have z5 := hRB.cellAt 5 rfl
      try dsimp only at z0 z1 z2 z3 z4 z5 hRQ
      exact bodyPost_ret (v := .agg #[.int .i64 ((⟨r.kind, r.version, r.nextSeq, z, r.add, r.rem⟩ : Rc)).kind, .int .i64 ((⟨r.kind, r.version, r.nextSeq, z, r.add, r.rem⟩ : Rc)).version, .int .i64 ((⟨r.kind, r.version, r.nextSeq, z, r.add, r.rem⟩ : Rc)).nextSeq, .int .i64 ((⟨r.kind, r.version, r.nextSeq, z, r.add, r.rem⟩ : Rc)).nextId, .slice A q c, .slice A' q' c']) (by simp [results, Try.results24, go_sem, z0, z1, z2, z3, z4, z5]) rfl hRQ
    have hsw3 : decide ((sw : Int) = 3) = false := decide_eq_false (by omega)
    have hne3 := hsw
    clear hsw
    by_cases hsw : sw = 4
    · subst hsw
      have f5 := hL.blk.cellAt 5 rfl
      have hp2 := hL.p2
      have hl2 := hL.ln2
      have hs2 := hL.s2
      go_wp2_with (at_builtin; refine append_rd (v := .slice none 0 0) (n := 0) (xs := []) (World.ownsRow_nil _ w5.heap.size 3 1) (Nat.le_refl _) mints rfl (by decide) hL.rem.rd (by rw [List.length_map, hl2, Nat.mul_one]) (one_ints _) (by unfold maxLen; omega) (by omega) ?_ rfl _ _ rfl rfl rfl)
      intro v1 wp ho1 hg1
      have hL1 := hL.grown hg1 (fun k e => by simp [Value.ownBlock] at e)
      have hBs := hg1.size
      obtain ⟨A5, c5, hv1, hc5⟩ := own_form ho1
      subst hv1
      clear f5 hL hg1
      go_wp2_with fail
      refine (pick_any v 40 _ (by omega) (by omega)).mono ?_; rintro _ _ ⟨rfl, rfl⟩
      have hk4 := pickN_lt v (show 0 < 40 by omega)
      generalize pickN v 40 = k4 at *
      have hw4 : IntKind.i64.wrap ((k4 : Int) - 1) = (k4 : Int) - 1 := IntWalk.i64_in _ (by omega)
      have hN := Blk.new' wp 3 #[.int .i64 ((k4 : Int) - 1)]
      have hba := (Below.refl wp.heap.size wp).alloc (Nat.le_refl _) (.cells #[.int .i64 ((k4 : Int) - 1)] 3)
      have hL2 := hL1.call hba
      have ho2 := DS.call.kept_below ho1 hba
      have hBs2 := hba.size
      go_wp2_with (at_builtin; refine append_rd ho2 (by omega) mints rfl (by decide) hN.rd rfl (by intro u hu; simp at hu; subst hu; rfl) (by unfold maxLen; omega) (by omega) ?_ rfl _ _ rfl rfl rfl)
      intro v2 wq ho3 hg2
      have hL3 := hL2.grown hg2 (fun k e => by have := (ho2.lt k e).1; omega)
      obtain ⟨A6, c6, hv2, hc6⟩ := own_form ho3
      subst hv2
      clear hL1 hL2 hN hba ho1 ho2 hg2
      have f5 := hL3.blk.cellAt 5 rfl
      have ff := hL3.blk.frozen
      have hL4 := hL3.setR (ys := r.rem ++ [(k4 : Int) - 1]) (by simpa using ho3) (by omega) (by omega)
      go_upto_region 18 with fail
      clear f5 ff ho3 hL3
      generalize wq.setCell ⟨gr, 5, none⟩ (.slice A6 (q' + 1) c6) = wz at *
      have hL := hL4
      clear hL4
      have r0 := hL.blk.cellAt 0 rfl
      have r1 := hL.blk.cellAt 1 rfl
      have r2 := hL.blk.cellAt 2 rfl
      have r3 := hL.blk.cellAt 3 rfl
      have r4 := hL.blk.cellAt 4 rfl
      have r5 := hL.blk.cellAt 5 rfl
      have t0 := hL.res.cellAt 0 rfl
      have t1 := hL.res.cellAt 1 rfl
      have t2 := hL.res.cellAt 2 rfl
      have t3 := hL.res.cellAt 3 rfl
      have t4 := hL.res.cellAt 4 rfl
      have t5 := hL.res.cellAt 5 rfl
      have tf := hL.res.frozen
      obtain ⟨hRQ, hRB⟩ := hL.done
      go_wp2
      have z0 := hRB.cellAt 0 rfl
      have z1 := hRB.cellAt 1 rfl
      have z2 := hRB.cellAt 2 rfl
      have z3 := hRB.cellAt 3 rfl
      have z4 := hRB.cellAt 4 rfl
      have z5 := hRB.cellAt 5 rfl
      try dsimp only at z0 z1 z2 z3 z4 z5 hRQ
      exact bodyPost_ret (v := .agg #[.int .i64 r.kind, .int .i64 r.version, .int .i64 r.nextSeq, .int .i64 r.nextId, .slice A q c, .slice A6 (q' + 1) c6]) (by simp [results, Try.results24, go_sem, z0, z1, z2, z3, z4, z5]) rfl hRQ
    have hsw4 : decide ((sw : Int) = 4) = false := decide_eq_false (by omega)
    have hne4 := hsw
    clear hsw
    by_cases hsw : sw = 5
    · subst hsw
      have f4 := hL.blk.cellAt 4 rfl
      have hp2 := hL.p2
      have hl1 := hL.ln
      have hs1 := hL.s1
      go_wp2_with (at_builtin; refine append_rd (v := .slice none 0 0) (n := 0) (xs := []) (World.ownsRow_nil _ w5.heap.size 40 12) (Nat.le_refl _) ments rfl (by decide) hL.add.rd (by rw [flat_len (k := 12) (fun _ => rfl), hl1]) (one_ents _) (by unfold maxLen; omega) (by omega) ?_ rfl _ _ rfl rfl rfl)
      intro v1 wp ho1 hg1
      have hL1 := hL.grown hg1 (fun k e => by simp [Value.ownBlock] at e)
      have hBs := hg1.size
      obtain ⟨A5, c5, hv1, hc5⟩ := own_form ho1
      subst hv1
      clear f4 hL hg1
      have hN := Blk.new' wp 3 #[.int .i64 v, .int .i64 (wrap64 (v.tdiv 3)), .int .i64 (wrap64 (v.tdiv 5)), .int .i64 (wrap64 (v.tdiv 7))]
      have hba := (Below.refl wp.heap.size wp).alloc (Nat.le_refl _) (.cells #[.int .i64 v, .int .i64 (wrap64 (v.tdiv 3)), .int .i64 (wrap64 (v.tdiv 5)), .int .i64 (wrap64 (v.tdiv 7))] 3)
      have hEN := Lib.hid (entries_any (some ⟨wp.heap.size, 0, none⟩) 4 4 1 [v, wrap64 (v.tdiv 3), wrap64 (v.tdiv 5), wrap64 (v.tdiv 7)] _ hN.rd rfl (by
        intro z hz
        simp only [List.mem_cons, List.not_mem_nil, or_false] at hz
        rcases hz with rfl | rfl | rfl | rfl
        · exact HV.out
        · exact I64_wrap64' _
        · exact I64_wrap64' _
        · exact I64_wrap64' _) (by omega) (by omega))
      go_wp2_with fail
      refine hEN.out.mono ?_; rintro _ wr2 ⟨vE, es3, rfl, hoE, hgE, hlE, hbE⟩
      obtain ⟨A7, c7, rfl, hc7⟩ := own_form hoE
      have hb2 := bt hba hbE
      have hL2 := hL1.call hb2
      have ho2 := DS.call.kept_below ho1 hb2
      have hBs2 := hb2.size
      have hrE := Rd.of_own hoE
      have HGE2 := Lib.hid hgE
      clear hgE hoE hbE hba hEN hN
      go_wp2_with (at_builtin; refine append_rd ho2 (by omega) ments rfl (by decide) hrE (by rw [flat_len (k := 12) (fun _ => rfl)]) (one_ents _) (by unfold maxLen; omega) (by omega) ?_ rfl _ _ rfl rfl rfl)
      intro v2 wq ho3 hg2
      have hL3 := hL2.grown hg2 (fun k e => by have := (ho2.lt k e).1; omega)
      obtain ⟨A6, c6, hv2, hc6⟩ := own_form ho3
      subst hv2
      have hkk := hL3.keys
      clear hL1 hL2 ho1 ho2 hg2 hrE
      have f4 := hL3.blk.cellAt 4 rfl
      have ff := hL3.blk.frozen
      have hL4 := hL3.setA (xs := r.add ++ es3) (by rw [List.flatMap_append]; simpa using ho3) (by rw [List.length_append, hl1]) (fun e he => by
        rcases List.mem_append.1 he with h | h
        · exact hkk e h
        · exact (HGE2.out e h).2) (by omega) (by omega)
      go_upto_region 18 with fail
      clear f4 ff ho3 hL3 hkk
      generalize wq.setCell ⟨gr, 4, none⟩ (.slice A6 (q + es3.length) c6) = wz at *
      have hL := hL4
      clear hL4
      have r0 := hL.blk.cellAt 0 rfl
      have r1 := hL.blk.cellAt 1 rfl
      have r2 := hL.blk.cellAt 2 rfl
      have r3 := hL.blk.cellAt 3 rfl
      have r4 := hL.blk.cellAt 4 rfl
      have r5 := hL.blk.cellAt 5 rfl
      have t0 := hL.res.cellAt 0 rfl
      have t1 := hL.res.cellAt 1 rfl
      have t2 := hL.res.cellAt 2 rfl
      have t3 := hL.res.cellAt 3 rfl
      have t4 := hL.res.cellAt 4 rfl
      have t5 := hL.res.cellAt 5 rfl
      have tf := hL.res.frozen
      obtain ⟨hRQ, hRB⟩ := hL.done
      go_wp2
      have z0 := hRB.cellAt 0 rfl
      have z1 := hRB.cellAt 1 rfl
      have z2 := hRB.cellAt 2 rfl
      have z3 := hRB.cellAt 3 rfl
      have z4 := hRB.cellAt 4 rfl
      have z5 := hRB.cellAt 5 rfl
      try dsimp only at z0 z1 z2 z3 z4 z5 hRQ
      exact bodyPost_ret (v := .agg #[.int .i64 r.kind, .int .i64 r.version, .int .i64 r.nextSeq, .int .i64 r.nextId, .slice A6 (q + es3.length) c6, .slice A' q' c']) (by simp [results, Try.results24, go_sem, z0, z1, z2, z3, z4, z5]) rfl hRQ
    have hsw5 : decide ((sw : Int) = 5) = false := decide_eq_false (by omega)
    go_upto_region 18 with fail
    have r0 := hL.blk.cellAt 0 rfl
    have r1 := hL.blk.cellAt 1 rfl
    have r2 := hL.blk.cellAt 2 rfl
    have r3 := hL.blk.cellAt 3 rfl
    have r4 := hL.blk.cellAt 4 rfl
    have r5 := hL.blk.cellAt 5 rfl
    have t0 := hL.res.cellAt 0 rfl
    have t1 := hL.res.cellAt 1 rfl
    have t2 := hL.res.cellAt 2 rfl
    have t3 := hL.res.cellAt 3 rfl
    have t4 := hL.res.cellAt 4 rfl
    have t5 := hL.res.cellAt 5 rfl
    have tf := hL.res.frozen
    obtain ⟨hRQ, hRB⟩ := hL.done
    go_wp2
    have z0 := hRB.cellAt 0 rfl
    have z1 := hRB.cellAt 1 rfl
    have z2 := hRB.cellAt 2 rfl
    have z3 := hRB.cellAt 3 rfl
    have z4 := hRB.cellAt 4 rfl
    have z5 := hRB.cellAt 5 rfl
    try dsimp only at z0 z1 z2 z3 z4 z5 hRQ
    exact bodyPost_ret (v := .agg #[.int .i64 r.kind, .int .i64 r.version, .int .i64 r.nextSeq, .int .i64 r.nextId, .slice A q c, .slice A' q' c']) (by simp [results, Try.results24, go_sem, z0, z1, z2, z3, z4, z5]) rfl hRQ

end Go.Proofs.Ytgacjpkgpegcdaa
