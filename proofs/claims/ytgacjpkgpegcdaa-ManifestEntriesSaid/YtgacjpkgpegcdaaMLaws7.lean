/-
  Laws of layer 19: ManifestEntries.
-/
import Derived.Test.YtgacjpkgpegcdaaMRecM
import Derived.Test.YtgacjpkgpegcdaaMLaws2
namespace Go.Proofs.Ytgacjpkgpegcdaa
open Go.RowKit

theorem Rd.ent0 {w : World} {B : Nat} {ad : Addr} {e : En} (h : Rd w B (some ad) (entC e)) : ad.block < B ∧ w.cell? ad = some (.int .i64 e.id) ∧ w.cell? ⟨ad.block, ad.off + 1, none⟩ = some (.int .i64 e.rows) ∧ w.cell? ⟨ad.block, ad.off + 2, none⟩ = some (.int .i64 e.live) ∧ w.cell? ⟨ad.block, ad.off + 3, none⟩ = some (.bool e.lo.key.null) ∧ w.cell? ⟨ad.block, ad.off + 4, none⟩ = some (.int .i64 e.lo.key.n) ∧ w.cell? ⟨ad.block, ad.off + 5, none⟩ = some (.string e.lo.key.s) ∧ w.cell? ⟨ad.block, ad.off + 6, none⟩ = some (.int .i64 e.lo.seq) ∧ w.cell? ⟨ad.block, ad.off + 7, none⟩ = some (.bool e.hi.key.null) ∧ w.cell? ⟨ad.block, ad.off + 8, none⟩ = some (.int .i64 e.hi.key.n) ∧ w.cell? ⟨ad.block, ad.off + 9, none⟩ = some (.string e.hi.key.s) ∧ w.cell? ⟨ad.block, ad.off + 10, none⟩ = some (.int .i64 e.hi.seq) ∧ w.cell? ⟨ad.block, ad.off + 11, none⟩ = some (.int .i64 e.del) := by
  obtain ⟨_, ea, hb, d0, d1, d2, d3, d4, d5, d6, d7, d8, d9, d10, d11⟩ := (show Rd w B (some ad) ([e].flatMap entC) by simpa using h).ent (i := 0) (e := e) rfl
  cases ea
  have z : ad.add (0 * 12) = ad := by simp [Addr.add]
  rw [z] at d0 d1 d2 d3 d4 d5 d6 d7 d8 d9 d10 d11
  exact ⟨hb, d0, d1, d2, d3, d4, d5, d6, d7, d8, d9, d10, d11⟩
/-- The law at work: the first entry as it came, the changed one at gv. -/
structure ES (w wx : World) (gv : Nat) (ad : Addr) (e0 e : En) : Prop where
  x0 : Rd wx gv (some ad) (entC e0)
  blk : Blk wx gv 40 (entC e)
  bel : Below w.heap.size w wx
  p : w.heap.size ≤ gv
theorem ES.call {w wx w' : World} {gv : Nat} {ad : Addr} {e0 e : En} (h : ES w wx gv ad e0 e) (hb : Below wx.heap.size wx w') : ES w w' gv ad e0 e :=
  ⟨h.x0.below (hb.mono (Nat.le_of_lt h.blk.lt)), h.blk.call hb, bt h.bel hb, h.p⟩
theorem ES.alloc {w wx : World} {gv : Nat} {ad : Addr} {e0 e : En} (h : ES w wx gv ad e0 e) (o : Obj) : ES w (wx.alloc o) gv ad e0 e := h.call ((Below.refl _ _).alloc (Nat.le_refl _) o)
theorem ES.set {w wx : World} {gv : Nat} {ad : Addr} {e0 e e' : En} (h : ES w wx gv ad e0 e) (j : Nat) (u : Value) (hcs : (entC e).set j u = entC e') : ES w (wx.setCell ⟨gv, j, none⟩ u) gv ad e0 e' := by
  have hg := grown_set wx gv j u
  have hb := h.blk.set_ j u
  rw [hcs] at hb
  exact ⟨h.x0.grown (Nat.le_of_lt h.blk.lt) hg (fun k e => by injection e; omega), hb, h.bel.grown hg h.bel.size (fun j e => by have := h.p; injection e; omega), h.p⟩
theorem ES.set3 {w wx : World} {gv : Nat} {ad : Addr} {e0 e e' : En} (h : ES w wx gv ad e0 e) (j j1 j2 : Nat) (u u1 u2 : Value) (hcs : (((entC e).set j u).set j1 u1).set j2 u2 = entC e') : ES w (((wx.setCell ⟨gv, j, none⟩ u).setCell ⟨gv, j1, none⟩ u1).setCell ⟨gv, j2, none⟩ u2) gv ad e0 e' := by
  have hg := Lib.grownBy_setB (Lib.grownBy_setB (Lib.grownBy_setCell wx gv j u) j1 u1) j2 u2
  have hb := ((h.blk.set_ j u).set_ j1 u1).set_ j2 u2
  rw [hcs] at hb
  exact ⟨h.x0.grown (Nat.le_of_lt h.blk.lt) hg (fun k e => by injection e; omega), hb, h.bel.grown hg h.bel.size (fun j e => by have := h.p; injection e; omega), h.p⟩
set_option maxRecDepth 100000 in
set_option maxHeartbeats 4000000 in
theorem walk_ManifestEntries (A : Option Addr) (n c : Nat) (zs : List Int) (how v : Int) (s : ByteArray) (w : World) (hr : Rd w w.heap.size A (zs.map Iv)) (hn : zs.length = n) (hz : ∀ z ∈ zs, (Lit.int .i64 z).wf = true) (_ : n ≤ c) (hb : n * 8 ≤ 140737488351232) (_ : (Lit.int .i64 how).wf = true) (hv : (Lit.int .i64 v).wf = true) (_ : s.size ≤ 140737488351232) :
    Calls Try.prog 4 #[.slice A n c, .int .i64 how, .int .i64 v, .string s] w fun e w' => e = .returned (.bool true) ∧ Below w.heap.size w w' := by
  have HZ := Lib.hid (wf_i64s hz)
  have HN := Lib.hid hn
  have hq2 : IntKind.i64.wrap (v.tdiv 2) = v.tdiv 2 := IntWalk.i64_in _ (tdiv2' (by have := wf_i64 hv; unfold I64 at this; exact this))
  clear hz hv hn
  have hO := Blk.new' w 3 #[.int .i64 1]
  have hba := (Below.refl w.heap.size w).alloc (Nat.le_refl _) (.cells #[.int .i64 1] 3)
  have hr2 := hr.call hba
  have hown := hO.own (base := w.heap.size) (n := 1) rfl (Nat.le_refl _) (by decide)
  have hsz := hba.size
  clear hr
  go_enter Try.func4, Try.ntmps4
  go_wp2_with (at_builtin; refine append_rd (v := .slice (some ⟨w.heap.size, 0, none⟩) 1 1) (n := 1) (xs := [.int .i64 1]) hown (by omega) mints rfl (by decide) hr2 (by rw [List.length_map, HN.out, Nat.mul_one]) (one_ints _) (by unfold maxLen; omega) (by omega) ?_ rfl _ _ rfl rfl rfl)
  intro v1 w1 ho1 hg1
  have hb1 : Below w.heap.size w w1 := hba.grown hg1 hba.size (fun k e => by simp [Value.ownBlock] at e; omega)
  obtain ⟨A1, c1, rfl, hc1⟩ := own_form ho1
  have HEN := Lib.hid (entries_any A1 (1 + n) c1 1 (1 :: zs) w1 (Rd.of_own (by simpa using ho1)) (by simp [HN.out]; omega) (by
    intro z hz
    rcases List.mem_cons.1 hz with rfl | h
    · unfold I64; omega
    · exact HZ.out z h) (by omega) (by omega))
  clear ho1 hg1 hown hO hba hr2
  go_wp2_with fail
  refine HEN.out.mono ?_; rintro _ w2 ⟨vE, es, rfl, ho, hge, hle, hb2⟩
  obtain ⟨B, cB, rfl, hcB⟩ := own_form ho
  have hE := Rd.of_own ho
  have hb3 := bt hb1 hb2
  clear hb1 hb2 ho HEN
  cases es with
  | nil =>
    rw [List.length_nil]
    go_wp2_with fail
    refine (awake_any _).mono ?_; rintro _ w3 ⟨rfl, hb4⟩
    go_wp2
    go_ret
    exact ⟨rfl, bt hb3 hb4⟩
  | cons e es2 =>
    have hg0 := hge e (by simp)
    have hes : es2 = [] := by simpa using hle
    subst hes
    obtain ⟨ad, rfl, _⟩ := hE.ent (i := 0) (e := e) rfl
    obtain ⟨hadl, d0, d1, d2, d3, d4, d5, d6, d7, d8, d9, d10, d11⟩ := (show Rd w2 w2.heap.size (some ad) (entC e) by simpa using hE).ent0
    have HB0 := Lib.hid hg0.1
    have hY := Blk.new' w2 40 #[.int .i64 e.id, .int .i64 e.rows, .int .i64 e.live, .bool e.lo.key.null, .int .i64 e.lo.key.n, .string e.lo.key.s, .int .i64 e.lo.seq, .bool e.hi.key.null, .int .i64 e.hi.key.n, .string e.hi.key.s, .int .i64 e.hi.seq, .int .i64 e.del]
    have hbe := (Below.refl w2.heap.size w2).alloc (Nat.le_refl _) (.cells #[.int .i64 e.id, .int .i64 e.rows, .int .i64 e.live, .bool e.lo.key.null, .int .i64 e.lo.key.n, .string e.lo.key.s, .int .i64 e.lo.seq, .bool e.hi.key.null, .int .i64 e.hi.key.n, .string e.hi.key.s, .int .i64 e.hi.seq, .int .i64 e.del] 40)
    have hX : Rd w2 w2.heap.size (some ad) (entC e) := by simpa using hE
    have hES : ES w (w2.alloc (.cells #[.int .i64 e.id, .int .i64 e.rows, .int .i64 e.live, .bool e.lo.key.null, .int .i64 e.lo.key.n, .string e.lo.key.s, .int .i64 e.lo.seq, .bool e.hi.key.null, .int .i64 e.hi.key.n, .string e.hi.key.s, .int .i64 e.hi.seq, .int .i64 e.del] 40)) w2.heap.size ad e e := ⟨hX.below hbe, hY, bt hb3 hbe, hb3.size⟩
    clear hge hle hg0 hE hY hbe hX hb3
    rw [show [e].length = 1 from rfl]
    go_upto_region 5 with fail
    clear d0 d1 d2 d3 d4 d5 d6 d7 d8 d9 d10 d11
    generalize w2.alloc (.cells #[.int .i64 e.id, .int .i64 e.rows, .int .i64 e.live, .bool e.lo.key.null, .int .i64 e.lo.key.n, .string e.lo.key.s, .int .i64 e.lo.seq, .bool e.hi.key.null, .int .i64 e.hi.key.n, .string e.hi.key.s, .int .i64 e.hi.seq, .int .i64 e.del] 40) = w3 at *
    generalize w2.heap.size = gv at *
    go_wp2_with fail
    refine (pick_any how 8 _ (by omega) (by omega)).mono ?_; rintro _ _ ⟨rfl, rfl⟩
    have hs10 := pickN_lt how (show 0 < 8 by omega)
    generalize pickN how 8 = sw at *
    by_cases hsw : sw = 0
    · subst hsw
      have hGB := Blk.new' w3 3 #[.int .i64 (-1), .int .i64 0, .int .i64 1, .int .i64 2147483647, .int .i64 2147483648]
      have hLa := hES.alloc (.cells #[.int .i64 (-1), .int .i64 0, .int .i64 1, .int .i64 2147483647, .int .i64 2147483648] 3)
      go_wp2_with fail
      refine (pick_any v 5 _ (by omega) (by omega)).mono ?_; rintro _ _ ⟨rfl, rfl⟩
      have hk4 := pickN_lt v (show 0 < 5 by omega)
      generalize pickN v 5 = k4 at *
      obtain ⟨z, hz⟩ : ∃ z : Int, ([Value.int .i64 (-1), .int .i64 0, .int .i64 1, .int .i64 2147483647, .int .i64 2147483648] : List Value)[k4]? = some (.int .i64 z) := by
        have : k4 = 0 ∨ k4 = 1 ∨ k4 = 2 ∨ k4 = 3 ∨ k4 = 4 := by omega
        rcases this with rfl | rfl | rfl | rfl | rfl <;> exact ⟨_, rfl⟩
      generalize w3.alloc (.cells #[.int .i64 (-1), .int .i64 0, .int .i64 1, .int .i64 2147483647, .int .i64 2147483648] 3) = wa at *
      generalize w3.heap.size = gb at *
      have fz := hGB.cellAt k4 hz
      have fz2 : wa.cell? ((⟨gb, 0, none⟩ : Addr).add k4) = some (.int .i64 z) := by
        have e0 : (⟨gb, 0, none⟩ : Addr).add k4 = ⟨gb, k4, none⟩ := by unfold Addr.add; split <;> simp_all
        rw [e0]; exact fz
      have f1 := hLa.blk.cellAt 0 rfl
      have ff := hLa.blk.frozen
      have hES2 : ES w (wa.setCell ⟨gv, 0, none⟩ (.int .i64 z)) gv ad e ({ e with id := z }) := hLa.set 0 _ rfl
      clear hz
      go_upto_region 23 with fail
      clear f1 ff fz fz2 hGB hES hLa
      generalize wa.setCell ⟨gv, 0, none⟩ (.int .i64 z) = wz at *
      obtain ⟨e', hES⟩ : ∃ e', ES w wz gv ad e e' := ⟨_, hES2⟩
      clear hES2
      refine wp_region_L (fun _ w' => Rd w' gv (some ad) (entC e) ∧ Blk w' gv 40 (entC e')) (by kernel_rfl) ?_
      replace hES := hES.call (Below.drew (Below.refl wz.heap.size wz))
      have HS : Hid (Rd wz.drew gv (some ad) (entC e) ∧ Blk wz.drew gv 40 (entC e')) := ⟨hES.x0, hES.blk⟩
      generalize wz.drew = wy at *
      refine wpAnyL_one (i := 0) (by decide +kernel) ?_
      refine wpOp_go (o := _) rfl (fun K hK => ?_)
      go_simp
      go_at_call 15
      refine (awake_any _).mono ?_; rintro _ wy ⟨rfl, hbq⟩
      replace hES := hES.call hbq
      replace HS : Hid (Rd wy gv (some ad) (entC e) ∧ Blk wy gv 40 (entC e')) := ⟨hES.x0, hES.blk⟩
      refine hK _ _ ⟨HS.out, ?_⟩
      clear hK K hbq
      refine wpAnyL_takeD (fun _ => True) (i := 1) (v := (.bool true)) (some 93) rfl rfl (by kernel_rfl) (by kernel_rfl) (by kernel_rfl) (fun _ _ _ h => h) (fun _ _ _ _ _ _ => trivial) (fun _ _ _ => Iff.rfl) trivial (Or.inl ⟨by rfl, fun w' hw' => by go_simp⟩) HS.out ?_
      simp only [Act.put, List.setIfInBounds_toArray, List.set_cons_zero, List.set_cons_succ]
      refine wpAnyL_takeD (fun _ => True) (i := 2) (v := (.slice (some ad) 1 cB)) (some 94) rfl rfl (by kernel_rfl) (by kernel_rfl) (by kernel_rfl) (fun _ _ _ h => h) (fun _ _ _ _ _ _ => trivial) (fun _ _ _ => Iff.rfl) trivial (Or.inl ⟨by rfl, fun w' hw' => by go_simp⟩) HS.out ?_
      simp only [Act.put, List.setIfInBounds_toArray, List.set_cons_zero, List.set_cons_succ]
      refine wpAnyL_takeD (fun _ => True) (i := 3) (v := (.pointer (some ad))) (some 95) rfl rfl (by kernel_rfl) (by kernel_rfl) (by kernel_rfl) (fun _ _ _ h => h) (fun _ _ _ _ _ _ => trivial) (fun _ _ _ => Iff.rfl) trivial (Or.inl ⟨by rfl, fun w' hw' => by go_simp⟩) HS.out ?_
      simp only [Act.put, List.setIfInBounds_toArray, List.set_cons_zero, List.set_cons_succ]
      refine wpAnyL_takeD (fun _ => True) (i := 4) (v := (.agg #[.int .i64 e.id, .int .i64 e.rows, .int .i64 e.live, .bool e.lo.key.null, .int .i64 e.lo.key.n, .string e.lo.key.s, .int .i64 e.lo.seq, .bool e.hi.key.null, .int .i64 e.hi.key.n, .string e.hi.key.s, .int .i64 e.hi.seq, .int .i64 e.del])) (some 96) rfl rfl (by kernel_rfl) (by kernel_rfl) (by kernel_rfl) (fun _ _ _ h => h) (fun _ _ _ _ _ _ => trivial) (fun _ _ _ => Iff.rfl) trivial (Or.inl ⟨by rfl, fun w' hw' => by obtain ⟨l, _, hl⟩ := hw'; obtain ⟨hx, hy⟩ := hl; obtain ⟨_, d0, d1, d2, d3, d4, d5, d6, d7, d8, d9, d10, d11⟩ := hx.ent0; have y0 := hy.cellAt 0 rfl; have y1 := hy.cellAt 1 rfl; have y2 := hy.cellAt 2 rfl; have y3 := hy.cellAt 3 rfl; have y4 := hy.cellAt 4 rfl; have y5 := hy.cellAt 5 rfl; have y6 := hy.cellAt 6 rfl; have y7 := hy.cellAt 7 rfl; have y8 := hy.cellAt 8 rfl; have y9 := hy.cellAt 9 rfl; have y10 := hy.cellAt 10 rfl; have y11 := hy.cellAt 11 rfl; go_simp⟩) HS.out ?_
      simp only [Act.put, List.setIfInBounds_toArray, List.set_cons_zero, List.set_cons_succ]
      refine wpAnyL_one (i := 5) (by decide +kernel) ?_
      refine wpOp_go (o := _) rfl (fun K hK => ?_)
      go_simp
      go_at_call 17
      refine (entry_any e _).mono ?_; rintro _ wy ⟨rfl, hbq⟩
      replace hES := hES.call hbq
      replace HS : Hid (Rd wy gv (some ad) (entC e) ∧ Blk wy gv 40 (entC e')) := ⟨hES.x0, hES.blk⟩
      refine hK _ _ ⟨HS.out, ?_⟩
      clear hK K hbq
      rw [HB0.out]
      refine wpAnyL_takeD (fun _ => True) (i := 6) (v := (.bool true)) (some 98) rfl rfl (by kernel_rfl) (by kernel_rfl) (by kernel_rfl) (fun _ _ _ h => h) (fun _ _ _ _ _ _ => trivial) (fun _ _ _ => Iff.rfl) trivial (Or.inl ⟨by rfl, fun w' hw' => by go_simp⟩) HS.out ?_
      simp only [Act.put, List.setIfInBounds_toArray, List.set_cons_zero, List.set_cons_succ]
      refine wpAnyL_takeD (fun _ => True) (i := 7) (v := (.bool true)) (some 99) rfl rfl (by kernel_rfl) (by kernel_rfl) (by kernel_rfl) (fun _ _ _ h => h) (fun _ _ _ _ _ _ => trivial) (fun _ _ _ => Iff.rfl) trivial (Or.inl ⟨by rfl, fun w' hw' => by go_simp⟩) HS.out ?_
      simp only [Act.put, List.setIfInBounds_toArray, List.set_cons_zero, List.set_cons_succ]
      refine wpAnyL_takeD (fun _ => True) (i := 8) (v := (.agg #[.int .i64 e'.id, .int .i64 e'.rows, .int .i64 e'.live, .bool e'.lo.key.null, .int .i64 e'.lo.key.n, .string e'.lo.key.s, .int .i64 e'.lo.seq, .bool e'.hi.key.null, .int .i64 e'.hi.key.n, .string e'.hi.key.s, .int .i64 e'.hi.seq, .int .i64 e'.del])) (some 100) rfl rfl (by kernel_rfl) (by kernel_rfl) (by kernel_rfl) (fun _ _ _ h => h) (fun _ _ _ _ _ _ => trivial) (fun _ _ _ => Iff.rfl) trivial (Or.inl ⟨by rfl, fun w' hw' => by obtain ⟨l, _, hl⟩ := hw'; obtain ⟨hx, hy⟩ := hl; obtain ⟨_, d0, d1, d2, d3, d4, d5, d6, d7, d8, d9, d10, d11⟩ := hx.ent0; have y0 := hy.cellAt 0 rfl; have y1 := hy.cellAt 1 rfl; have y2 := hy.cellAt 2 rfl; have y3 := hy.cellAt 3 rfl; have y4 := hy.cellAt 4 rfl; have y5 := hy.cellAt 5 rfl; have y6 := hy.cellAt 6 rfl; have y7 := hy.cellAt 7 rfl; have y8 := hy.cellAt 8 rfl; have y9 := hy.cellAt 9 rfl; have y10 := hy.cellAt 10 rfl; have y11 := hy.cellAt 11 rfl; go_simp⟩) HS.out ?_
      simp only [Act.put, List.setIfInBounds_toArray, List.set_cons_zero, List.set_cons_succ]
      refine wpAnyL_takeD (fun _ => True) (i := 10) (v := (.agg #[.int .i64 e'.id, .int .i64 e'.rows, .int .i64 e'.live, .bool e'.lo.key.null, .int .i64 e'.lo.key.n, .string e'.lo.key.s, .int .i64 e'.lo.seq, .bool e'.hi.key.null, .int .i64 e'.hi.key.n, .string e'.hi.key.s, .int .i64 e'.hi.seq, .int .i64 e'.del])) (some 102) rfl rfl (by kernel_rfl) (by kernel_rfl) (by kernel_rfl) (fun _ _ _ h => h) (fun _ _ _ _ _ _ => trivial) (fun _ _ _ => Iff.rfl) trivial (Or.inl ⟨by rfl, fun w' hw' => by obtain ⟨l, _, hl⟩ := hw'; obtain ⟨hx, hy⟩ := hl; obtain ⟨_, d0, d1, d2, d3, d4, d5, d6, d7, d8, d9, d10, d11⟩ := hx.ent0; have y0 := hy.cellAt 0 rfl; have y1 := hy.cellAt 1 rfl; have y2 := hy.cellAt 2 rfl; have y3 := hy.cellAt 3 rfl; have y4 := hy.cellAt 4 rfl; have y5 := hy.cellAt 5 rfl; have y6 := hy.cellAt 6 rfl; have y7 := hy.cellAt 7 rfl; have y8 := hy.cellAt 8 rfl; have y9 := hy.cellAt 9 rfl; have y10 := hy.cellAt 10 rfl; have y11 := hy.cellAt 11 rfl; go_simp⟩) HS.out ?_
      simp only [Act.put, List.setIfInBounds_toArray, List.set_cons_zero, List.set_cons_succ]
      refine wpAnyL_one (i := 9) (by decide +kernel) ?_
      refine wpOp_go (o := _) rfl (fun K hK => ?_)
      go_simp
      go_at_call 17
      refine (entry_any e' _).mono ?_; rintro _ wy ⟨rfl, hbq⟩
      replace hES := hES.call hbq
      replace HS : Hid (Rd wy gv (some ad) (entC e) ∧ Blk wy gv 40 (entC e')) := ⟨hES.x0, hES.blk⟩
      refine hK _ _ ⟨HS.out, ?_⟩
      clear hK K hbq
      refine wpAnyL_one (i := 11) (by decide +kernel) ?_
      refine wpOp_go (o := _) rfl (fun K hK => ?_)
      go_simp
      go_at_call 18
      refine (rentry_any e' _).mono ?_; rintro _ wy ⟨rfl, hbq⟩
      replace hES := hES.call hbq
      replace HS : Hid (Rd wy gv (some ad) (entC e) ∧ Blk wy gv 40 (entC e')) := ⟨hES.x0, hES.blk⟩
      refine hK _ _ ⟨HS.out, ?_⟩
      clear hK K hbq
      refine wpAnyL_takeD (fun _ => True) (i := 12) (v := (.bool true)) (some 104) rfl rfl (by kernel_rfl) (by kernel_rfl) (by kernel_rfl) (fun _ _ _ h => h) (fun _ _ _ _ _ _ => trivial) (fun _ _ _ => Iff.rfl) trivial (Or.inl ⟨by rfl, fun w' hw' => by go_simp⟩) HS.out ?_
      simp only [Act.put, List.setIfInBounds_toArray, List.set_cons_zero, List.set_cons_succ]
      refine wpAnyL_takeD (fun _ => True) (i := 13) (v := (.bool true)) (some 105) rfl rfl (by kernel_rfl) (by kernel_rfl) (by kernel_rfl) (fun _ _ _ h => h) (fun _ _ _ _ _ _ => trivial) (fun _ _ _ => Iff.rfl) trivial (Or.inl ⟨by rfl, fun w' hw' => by go_simp⟩) HS.out ?_
      simp only [Act.put, List.setIfInBounds_toArray, List.set_cons_zero, List.set_cons_succ]
      refine wpAnyL_takeD (fun _ => True) (i := 14) (v := (.bool true)) (some 8) rfl rfl (by kernel_rfl) (by kernel_rfl) (by kernel_rfl) (fun _ _ _ h => h) (fun _ _ _ _ _ _ => trivial) (fun _ _ _ => Iff.rfl) trivial (Or.inl ⟨by rfl, fun w' hw' => by go_simp⟩) HS.out ?_
      simp only [Act.put, List.setIfInBounds_toArray, List.set_cons_zero, List.set_cons_succ]
      refine wpAnyL_done (by decide +kernel) ?_ _
      go_wp2
      go_ret
      exact ⟨rfl, hES.bel⟩
    have hsw0 : decide ((sw : Int) = 0) = false := decide_eq_false (by omega)
    have hne0 := hsw
    clear hsw
    by_cases hsw : sw = 1
    · subst hsw
      have hGB := Blk.new' w3 3 #[.int .i64 (0), .int .i64 (1), .int .i64 (1024), .int .i64 (1025)]
      have hLa := hES.alloc (.cells #[.int .i64 (0), .int .i64 (1), .int .i64 (1024), .int .i64 (1025)] 3)
      go_wp2_with fail
      refine (pick_any v 4 _ (by omega) (by omega)).mono ?_; rintro _ _ ⟨rfl, rfl⟩
      have hk4 := pickN_lt v (show 0 < 4 by omega)
      generalize pickN v 4 = k4 at *
      obtain ⟨z, hz⟩ := get4 (a := 0) (b := 1) (c := 1024) (d := 1025) hk4
      generalize w3.alloc (.cells #[.int .i64 (0), .int .i64 (1), .int .i64 (1024), .int .i64 (1025)] 3) = wa at *
      generalize w3.heap.size = gb at *
      have fz := hGB.cellAt k4 hz
      have fz2 : wa.cell? ((⟨gb, 0, none⟩ : Addr).add k4) = some (.int .i64 z) := by
        have e0 : (⟨gb, 0, none⟩ : Addr).add k4 = ⟨gb, k4, none⟩ := by unfold Addr.add; split <;> simp_all
        rw [e0]; exact fz
      have f1 := hLa.blk.cellAt 1 rfl
      have ff := hLa.blk.frozen
      have hES2 : ES w (wa.setCell ⟨gv, 1, none⟩ (.int .i64 z)) gv ad e ({ e with rows := z }) := hLa.set 1 _ rfl
      clear hz
      go_upto_region 23 with fail
      clear f1 ff fz fz2 hGB hES hLa
      generalize wa.setCell ⟨gv, 1, none⟩ (.int .i64 z) = wz at *
      obtain ⟨e', hES⟩ : ∃ e', ES w wz gv ad e e' := ⟨_, hES2⟩
      clear hES2
      refine wp_region_L (fun _ w' => Rd w' gv (some ad) (entC e) ∧ Blk w' gv 40 (entC e')) (by kernel_rfl) ?_
      replace hES := hES.call (Below.drew (Below.refl wz.heap.size wz))
      have HS : Hid (Rd wz.drew gv (some ad) (entC e) ∧ Blk wz.drew gv 40 (entC e')) := ⟨hES.x0, hES.blk⟩
      generalize wz.drew = wy at *
      refine wpAnyL_one (i := 0) (by decide +kernel) ?_
      refine wpOp_go (o := _) rfl (fun K hK => ?_)
      go_simp
      go_at_call 15
      refine (awake_any _).mono ?_; rintro _ wy ⟨rfl, hbq⟩
      replace hES := hES.call hbq
      replace HS : Hid (Rd wy gv (some ad) (entC e) ∧ Blk wy gv 40 (entC e')) := ⟨hES.x0, hES.blk⟩
      refine hK _ _ ⟨HS.out, ?_⟩
      clear hK K hbq
      refine wpAnyL_takeD (fun _ => True) (i := 1) (v := (.bool true)) (some 93) rfl rfl (by kernel_rfl) (by kernel_rfl) (by kernel_rfl) (fun _ _ _ h => h) (fun _ _ _ _ _ _ => trivial) (fun _ _ _ => Iff.rfl) trivial (Or.inl ⟨by rfl, fun w' hw' => by go_simp⟩) HS.out ?_
      simp only [Act.put, List.setIfInBounds_toArray, List.set_cons_zero, List.set_cons_succ]
      refine wpAnyL_takeD (fun _ => True) (i := 2) (v := (.slice (some ad) 1 cB)) (some 94) rfl rfl (by kernel_rfl) (by kernel_rfl) (by kernel_rfl) (fun _ _ _ h => h) (fun _ _ _ _ _ _ => trivial) (fun _ _ _ => Iff.rfl) trivial (Or.inl ⟨by rfl, fun w' hw' => by go_simp⟩) HS.out ?_
      simp only [Act.put, List.setIfInBounds_toArray, List.set_cons_zero, List.set_cons_succ]
      refine wpAnyL_takeD (fun _ => True) (i := 3) (v := (.pointer (some ad))) (some 95) rfl rfl (by kernel_rfl) (by kernel_rfl) (by kernel_rfl) (fun _ _ _ h => h) (fun _ _ _ _ _ _ => trivial) (fun _ _ _ => Iff.rfl) trivial (Or.inl ⟨by rfl, fun w' hw' => by go_simp⟩) HS.out ?_
      simp only [Act.put, List.setIfInBounds_toArray, List.set_cons_zero, List.set_cons_succ]
      refine wpAnyL_takeD (fun _ => True) (i := 4) (v := (.agg #[.int .i64 e.id, .int .i64 e.rows, .int .i64 e.live, .bool e.lo.key.null, .int .i64 e.lo.key.n, .string e.lo.key.s, .int .i64 e.lo.seq, .bool e.hi.key.null, .int .i64 e.hi.key.n, .string e.hi.key.s, .int .i64 e.hi.seq, .int .i64 e.del])) (some 96) rfl rfl (by kernel_rfl) (by kernel_rfl) (by kernel_rfl) (fun _ _ _ h => h) (fun _ _ _ _ _ _ => trivial) (fun _ _ _ => Iff.rfl) trivial (Or.inl ⟨by rfl, fun w' hw' => by obtain ⟨l, _, hl⟩ := hw'; obtain ⟨hx, hy⟩ := hl; obtain ⟨_, d0, d1, d2, d3, d4, d5, d6, d7, d8, d9, d10, d11⟩ := hx.ent0; have y0 := hy.cellAt 0 rfl; have y1 := hy.cellAt 1 rfl; have y2 := hy.cellAt 2 rfl; have y3 := hy.cellAt 3 rfl; have y4 := hy.cellAt 4 rfl; have y5 := hy.cellAt 5 rfl; have y6 := hy.cellAt 6 rfl; have y7 := hy.cellAt 7 rfl; have y8 := hy.cellAt 8 rfl; have y9 := hy.cellAt 9 rfl; have y10 := hy.cellAt 10 rfl; have y11 := hy.cellAt 11 rfl; go_simp⟩) HS.out ?_
      simp only [Act.put, List.setIfInBounds_toArray, List.set_cons_zero, List.set_cons_succ]
      refine wpAnyL_one (i := 5) (by decide +kernel) ?_
      refine wpOp_go (o := _) rfl (fun K hK => ?_)
      go_simp
      go_at_call 17
      refine (entry_any e _).mono ?_; rintro _ wy ⟨rfl, hbq⟩
      replace hES := hES.call hbq
      replace HS : Hid (Rd wy gv (some ad) (entC e) ∧ Blk wy gv 40 (entC e')) := ⟨hES.x0, hES.blk⟩
      refine hK _ _ ⟨HS.out, ?_⟩
      clear hK K hbq
      rw [HB0.out]
      refine wpAnyL_takeD (fun _ => True) (i := 6) (v := (.bool true)) (some 98) rfl rfl (by kernel_rfl) (by kernel_rfl) (by kernel_rfl) (fun _ _ _ h => h) (fun _ _ _ _ _ _ => trivial) (fun _ _ _ => Iff.rfl) trivial (Or.inl ⟨by rfl, fun w' hw' => by go_simp⟩) HS.out ?_
      simp only [Act.put, List.setIfInBounds_toArray, List.set_cons_zero, List.set_cons_succ]
      refine wpAnyL_takeD (fun _ => True) (i := 7) (v := (.bool true)) (some 99) rfl rfl (by kernel_rfl) (by kernel_rfl) (by kernel_rfl) (fun _ _ _ h => h) (fun _ _ _ _ _ _ => trivial) (fun _ _ _ => Iff.rfl) trivial (Or.inl ⟨by rfl, fun w' hw' => by go_simp⟩) HS.out ?_
      simp only [Act.put, List.setIfInBounds_toArray, List.set_cons_zero, List.set_cons_succ]
      refine wpAnyL_takeD (fun _ => True) (i := 8) (v := (.agg #[.int .i64 e'.id, .int .i64 e'.rows, .int .i64 e'.live, .bool e'.lo.key.null, .int .i64 e'.lo.key.n, .string e'.lo.key.s, .int .i64 e'.lo.seq, .bool e'.hi.key.null, .int .i64 e'.hi.key.n, .string e'.hi.key.s, .int .i64 e'.hi.seq, .int .i64 e'.del])) (some 100) rfl rfl (by kernel_rfl) (by kernel_rfl) (by kernel_rfl) (fun _ _ _ h => h) (fun _ _ _ _ _ _ => trivial) (fun _ _ _ => Iff.rfl) trivial (Or.inl ⟨by rfl, fun w' hw' => by obtain ⟨l, _, hl⟩ := hw'; obtain ⟨hx, hy⟩ := hl; obtain ⟨_, d0, d1, d2, d3, d4, d5, d6, d7, d8, d9, d10, d11⟩ := hx.ent0; have y0 := hy.cellAt 0 rfl; have y1 := hy.cellAt 1 rfl; have y2 := hy.cellAt 2 rfl; have y3 := hy.cellAt 3 rfl; have y4 := hy.cellAt 4 rfl; have y5 := hy.cellAt 5 rfl; have y6 := hy.cellAt 6 rfl; have y7 := hy.cellAt 7 rfl; have y8 := hy.cellAt 8 rfl; have y9 := hy.cellAt 9 rfl; have y10 := hy.cellAt 10 rfl; have y11 := hy.cellAt 11 rfl; go_simp⟩) HS.out ?_
      simp only [Act.put, List.setIfInBounds_toArray, List.set_cons_zero, List.set_cons_succ]
      refine wpAnyL_takeD (fun _ => True) (i := 10) (v := (.agg #[.int .i64 e'.id, .int .i64 e'.rows, .int .i64 e'.live, .bool e'.lo.key.null, .int .i64 e'.lo.key.n, .string e'.lo.key.s, .int .i64 e'.lo.seq, .bool e'.hi.key.null, .int .i64 e'.hi.key.n, .string e'.hi.key.s, .int .i64 e'.hi.seq, .int .i64 e'.del])) (some 102) rfl rfl (by kernel_rfl) (by kernel_rfl) (by kernel_rfl) (fun _ _ _ h => h) (fun _ _ _ _ _ _ => trivial) (fun _ _ _ => Iff.rfl) trivial (Or.inl ⟨by rfl, fun w' hw' => by obtain ⟨l, _, hl⟩ := hw'; obtain ⟨hx, hy⟩ := hl; obtain ⟨_, d0, d1, d2, d3, d4, d5, d6, d7, d8, d9, d10, d11⟩ := hx.ent0; have y0 := hy.cellAt 0 rfl; have y1 := hy.cellAt 1 rfl; have y2 := hy.cellAt 2 rfl; have y3 := hy.cellAt 3 rfl; have y4 := hy.cellAt 4 rfl; have y5 := hy.cellAt 5 rfl; have y6 := hy.cellAt 6 rfl; have y7 := hy.cellAt 7 rfl; have y8 := hy.cellAt 8 rfl; have y9 := hy.cellAt 9 rfl; have y10 := hy.cellAt 10 rfl; have y11 := hy.cellAt 11 rfl; go_simp⟩) HS.out ?_
      simp only [Act.put, List.setIfInBounds_toArray, List.set_cons_zero, List.set_cons_succ]
      refine wpAnyL_one (i := 9) (by decide +kernel) ?_
      refine wpOp_go (o := _) rfl (fun K hK => ?_)
      go_simp
      go_at_call 17
      refine (entry_any e' _).mono ?_; rintro _ wy ⟨rfl, hbq⟩
      replace hES := hES.call hbq
      replace HS : Hid (Rd wy gv (some ad) (entC e) ∧ Blk wy gv 40 (entC e')) := ⟨hES.x0, hES.blk⟩
      refine hK _ _ ⟨HS.out, ?_⟩
      clear hK K hbq
      refine wpAnyL_one (i := 11) (by decide +kernel) ?_
      refine wpOp_go (o := _) rfl (fun K hK => ?_)
      go_simp
      go_at_call 18
      refine (rentry_any e' _).mono ?_; rintro _ wy ⟨rfl, hbq⟩
      replace hES := hES.call hbq
      replace HS : Hid (Rd wy gv (some ad) (entC e) ∧ Blk wy gv 40 (entC e')) := ⟨hES.x0, hES.blk⟩
      refine hK _ _ ⟨HS.out, ?_⟩
      clear hK K hbq
      refine wpAnyL_takeD (fun _ => True) (i := 12) (v := (.bool true)) (some 104) rfl rfl (by kernel_rfl) (by kernel_rfl) (by kernel_rfl) (fun _ _ _ h => h) (fun _ _ _ _ _ _ => trivial) (fun _ _ _ => Iff.rfl) trivial (Or.inl ⟨by rfl, fun w' hw' => by go_simp⟩) HS.out ?_
      simp only [Act.put, List.setIfInBounds_toArray, List.set_cons_zero, List.set_cons_succ]
      refine wpAnyL_takeD (fun _ => True) (i := 13) (v := (.bool true)) (some 105) rfl rfl (by kernel_rfl) (by kernel_rfl) (by kernel_rfl) (fun _ _ _ h => h) (fun _ _ _ _ _ _ => trivial) (fun _ _ _ => Iff.rfl) trivial (Or.inl ⟨by rfl, fun w' hw' => by go_simp⟩) HS.out ?_
      simp only [Act.put, List.setIfInBounds_toArray, List.set_cons_zero, List.set_cons_succ]
      refine wpAnyL_takeD (fun _ => True) (i := 14) (v := (.bool true)) (some 8) rfl rfl (by kernel_rfl) (by kernel_rfl) (by kernel_rfl) (fun _ _ _ h => h) (fun _ _ _ _ _ _ => trivial) (fun _ _ _ => Iff.rfl) trivial (Or.inl ⟨by rfl, fun w' hw' => by go_simp⟩) HS.out ?_
      simp only [Act.put, List.setIfInBounds_toArray, List.set_cons_zero, List.set_cons_succ]
      refine wpAnyL_done (by decide +kernel) ?_ _
      go_wp2
      go_ret
      exact ⟨rfl, hES.bel⟩
    have hsw1 : decide ((sw : Int) = 1) = false := decide_eq_false (by omega)
    have hne1 := hsw
    clear hsw
    by_cases hsw : sw = 2
    · subst hsw
      go_wp2_with fail
      refine (pick_any v 12 _ (by omega) (by omega)).mono ?_; rintro _ _ ⟨rfl, rfl⟩
      have hk4 := pickN_lt v (show 0 < 12 by omega)
      generalize pickN v 12 = k4 at *
      have hw1 : IntKind.i64.wrap ((k4 : Int) - 1) = (k4 : Int) - 1 := IntWalk.i64_in _ (by omega)
      have f1 := hES.blk.cellAt 2 rfl
      have ff := hES.blk.frozen
      have hES2 : ES w (w3.setCell ⟨gv, 2, none⟩ (.int .i64 ((k4 : Int) - 1))) gv ad e { e with live := (k4 : Int) - 1 } := hES.set 2 _ rfl
      go_upto_region 23 with fail
      clear f1 ff hES
      generalize w3.setCell ⟨gv, 2, none⟩ (.int .i64 ((k4 : Int) - 1)) = wz at *
      obtain ⟨e', hES⟩ : ∃ e', ES w wz gv ad e e' := ⟨_, hES2⟩
      clear hES2
      refine wp_region_L (fun _ w' => Rd w' gv (some ad) (entC e) ∧ Blk w' gv 40 (entC e')) (by kernel_rfl) ?_
      replace hES := hES.call (Below.drew (Below.refl wz.heap.size wz))
      have HS : Hid (Rd wz.drew gv (some ad) (entC e) ∧ Blk wz.drew gv 40 (entC e')) := ⟨hES.x0, hES.blk⟩
      generalize wz.drew = wy at *
      refine wpAnyL_one (i := 0) (by decide +kernel) ?_
      refine wpOp_go (o := _) rfl (fun K hK => ?_)
      go_simp
      go_at_call 15
      refine (awake_any _).mono ?_; rintro _ wy ⟨rfl, hbq⟩
      replace hES := hES.call hbq
      replace HS : Hid (Rd wy gv (some ad) (entC e) ∧ Blk wy gv 40 (entC e')) := ⟨hES.x0, hES.blk⟩
      refine hK _ _ ⟨HS.out, ?_⟩
      clear hK K hbq
      refine wpAnyL_takeD (fun _ => True) (i := 1) (v := (.bool true)) (some 93) rfl rfl (by kernel_rfl) (by kernel_rfl) (by kernel_rfl) (fun _ _ _ h => h) (fun _ _ _ _ _ _ => trivial) (fun _ _ _ => Iff.rfl) trivial (Or.inl ⟨by rfl, fun w' hw' => by go_simp⟩) HS.out ?_
      simp only [Act.put, List.setIfInBounds_toArray, List.set_cons_zero, List.set_cons_succ]
      refine wpAnyL_takeD (fun _ => True) (i := 2) (v := (.slice (some ad) 1 cB)) (some 94) rfl rfl (by kernel_rfl) (by kernel_rfl) (by kernel_rfl) (fun _ _ _ h => h) (fun _ _ _ _ _ _ => trivial) (fun _ _ _ => Iff.rfl) trivial (Or.inl ⟨by rfl, fun w' hw' => by go_simp⟩) HS.out ?_
      simp only [Act.put, List.setIfInBounds_toArray, List.set_cons_zero, List.set_cons_succ]
      refine wpAnyL_takeD (fun _ => True) (i := 3) (v := (.pointer (some ad))) (some 95) rfl rfl (by kernel_rfl) (by kernel_rfl) (by kernel_rfl) (fun _ _ _ h => h) (fun _ _ _ _ _ _ => trivial) (fun _ _ _ => Iff.rfl) trivial (Or.inl ⟨by rfl, fun w' hw' => by go_simp⟩) HS.out ?_
      simp only [Act.put, List.setIfInBounds_toArray, List.set_cons_zero, List.set_cons_succ]
      refine wpAnyL_takeD (fun _ => True) (i := 4) (v := (.agg #[.int .i64 e.id, .int .i64 e.rows, .int .i64 e.live, .bool e.lo.key.null, .int .i64 e.lo.key.n, .string e.lo.key.s, .int .i64 e.lo.seq, .bool e.hi.key.null, .int .i64 e.hi.key.n, .string e.hi.key.s, .int .i64 e.hi.seq, .int .i64 e.del])) (some 96) rfl rfl (by kernel_rfl) (by kernel_rfl) (by kernel_rfl) (fun _ _ _ h => h) (fun _ _ _ _ _ _ => trivial) (fun _ _ _ => Iff.rfl) trivial (Or.inl ⟨by rfl, fun w' hw' => by obtain ⟨l, _, hl⟩ := hw'; obtain ⟨hx, hy⟩ := hl; obtain ⟨_, d0, d1, d2, d3, d4, d5, d6, d7, d8, d9, d10, d11⟩ := hx.ent0; have y0 := hy.cellAt 0 rfl; have y1 := hy.cellAt 1 rfl; have y2 := hy.cellAt 2 rfl; have y3 := hy.cellAt 3 rfl; have y4 := hy.cellAt 4 rfl; have y5 := hy.cellAt 5 rfl; have y6 := hy.cellAt 6 rfl; have y7 := hy.cellAt 7 rfl; have y8 := hy.cellAt 8 rfl; have y9 := hy.cellAt 9 rfl; have y10 := hy.cellAt 10 rfl; have y11 := hy.cellAt 11 rfl; go_simp⟩) HS.out ?_
      simp only [Act.put, List.setIfInBounds_toArray, List.set_cons_zero, List.set_cons_succ]
      refine wpAnyL_one (i := 5) (by decide +kernel) ?_
      refine wpOp_go (o := _) rfl (fun K hK => ?_)
      go_simp
      go_at_call 17
      refine (entry_any e _).mono ?_; rintro _ wy ⟨rfl, hbq⟩
      replace hES := hES.call hbq
      replace HS : Hid (Rd wy gv (some ad) (entC e) ∧ Blk wy gv 40 (entC e')) := ⟨hES.x0, hES.blk⟩
      refine hK _ _ ⟨HS.out, ?_⟩
      clear hK K hbq
      rw [HB0.out]
      refine wpAnyL_takeD (fun _ => True) (i := 6) (v := (.bool true)) (some 98) rfl rfl (by kernel_rfl) (by kernel_rfl) (by kernel_rfl) (fun _ _ _ h => h) (fun _ _ _ _ _ _ => trivial) (fun _ _ _ => Iff.rfl) trivial (Or.inl ⟨by rfl, fun w' hw' => by go_simp⟩) HS.out ?_
      simp only [Act.put, List.setIfInBounds_toArray, List.set_cons_zero, List.set_cons_succ]
      refine wpAnyL_takeD (fun _ => True) (i := 7) (v := (.bool true)) (some 99) rfl rfl (by kernel_rfl) (by kernel_rfl) (by kernel_rfl) (fun _ _ _ h => h) (fun _ _ _ _ _ _ => trivial) (fun _ _ _ => Iff.rfl) trivial (Or.inl ⟨by rfl, fun w' hw' => by go_simp⟩) HS.out ?_
      simp only [Act.put, List.setIfInBounds_toArray, List.set_cons_zero, List.set_cons_succ]
      refine wpAnyL_takeD (fun _ => True) (i := 8) (v := (.agg #[.int .i64 e'.id, .int .i64 e'.rows, .int .i64 e'.live, .bool e'.lo.key.null, .int .i64 e'.lo.key.n, .string e'.lo.key.s, .int .i64 e'.lo.seq, .bool e'.hi.key.null, .int .i64 e'.hi.key.n, .string e'.hi.key.s, .int .i64 e'.hi.seq, .int .i64 e'.del])) (some 100) rfl rfl (by kernel_rfl) (by kernel_rfl) (by kernel_rfl) (fun _ _ _ h => h) (fun _ _ _ _ _ _ => trivial) (fun _ _ _ => Iff.rfl) trivial (Or.inl ⟨by rfl, fun w' hw' => by obtain ⟨l, _, hl⟩ := hw'; obtain ⟨hx, hy⟩ := hl; obtain ⟨_, d0, d1, d2, d3, d4, d5, d6, d7, d8, d9, d10, d11⟩ := hx.ent0; have y0 := hy.cellAt 0 rfl; have y1 := hy.cellAt 1 rfl; have y2 := hy.cellAt 2 rfl; have y3 := hy.cellAt 3 rfl; have y4 := hy.cellAt 4 rfl; have y5 := hy.cellAt 5 rfl; have y6 := hy.cellAt 6 rfl; have y7 := hy.cellAt 7 rfl; have y8 := hy.cellAt 8 rfl; have y9 := hy.cellAt 9 rfl; have y10 := hy.cellAt 10 rfl; have y11 := hy.cellAt 11 rfl; go_simp⟩) HS.out ?_
      simp only [Act.put, List.setIfInBounds_toArray, List.set_cons_zero, List.set_cons_succ]
      refine wpAnyL_takeD (fun _ => True) (i := 10) (v := (.agg #[.int .i64 e'.id, .int .i64 e'.rows, .int .i64 e'.live, .bool e'.lo.key.null, .int .i64 e'.lo.key.n, .string e'.lo.key.s, .int .i64 e'.lo.seq, .bool e'.hi.key.null, .int .i64 e'.hi.key.n, .string e'.hi.key.s, .int .i64 e'.hi.seq, .int .i64 e'.del])) (some 102) rfl rfl (by kernel_rfl) (by kernel_rfl) (by kernel_rfl) (fun _ _ _ h => h) (fun _ _ _ _ _ _ => trivial) (fun _ _ _ => Iff.rfl) trivial (Or.inl ⟨by rfl, fun w' hw' => by obtain ⟨l, _, hl⟩ := hw'; obtain ⟨hx, hy⟩ := hl; obtain ⟨_, d0, d1, d2, d3, d4, d5, d6, d7, d8, d9, d10, d11⟩ := hx.ent0; have y0 := hy.cellAt 0 rfl; have y1 := hy.cellAt 1 rfl; have y2 := hy.cellAt 2 rfl; have y3 := hy.cellAt 3 rfl; have y4 := hy.cellAt 4 rfl; have y5 := hy.cellAt 5 rfl; have y6 := hy.cellAt 6 rfl; have y7 := hy.cellAt 7 rfl; have y8 := hy.cellAt 8 rfl; have y9 := hy.cellAt 9 rfl; have y10 := hy.cellAt 10 rfl; have y11 := hy.cellAt 11 rfl; go_simp⟩) HS.out ?_
      simp only [Act.put, List.setIfInBounds_toArray, List.set_cons_zero, List.set_cons_succ]
      refine wpAnyL_one (i := 9) (by decide +kernel) ?_
      refine wpOp_go (o := _) rfl (fun K hK => ?_)
      go_simp
      go_at_call 17
      refine (entry_any e' _).mono ?_; rintro _ wy ⟨rfl, hbq⟩
      replace hES := hES.call hbq
      replace HS : Hid (Rd wy gv (some ad) (entC e) ∧ Blk wy gv 40 (entC e')) := ⟨hES.x0, hES.blk⟩
      refine hK _ _ ⟨HS.out, ?_⟩
      clear hK K hbq
      refine wpAnyL_one (i := 11) (by decide +kernel) ?_
      refine wpOp_go (o := _) rfl (fun K hK => ?_)
      go_simp
      go_at_call 18
      refine (rentry_any e' _).mono ?_; rintro _ wy ⟨rfl, hbq⟩
      replace hES := hES.call hbq
      replace HS : Hid (Rd wy gv (some ad) (entC e) ∧ Blk wy gv 40 (entC e')) := ⟨hES.x0, hES.blk⟩
      refine hK _ _ ⟨HS.out, ?_⟩
      clear hK K hbq
      refine wpAnyL_takeD (fun _ => True) (i := 12) (v := (.bool true)) (some 104) rfl rfl (by kernel_rfl) (by kernel_rfl) (by kernel_rfl) (fun _ _ _ h => h) (fun _ _ _ _ _ _ => trivial) (fun _ _ _ => Iff.rfl) trivial (Or.inl ⟨by rfl, fun w' hw' => by go_simp⟩) HS.out ?_
      simp only [Act.put, List.setIfInBounds_toArray, List.set_cons_zero, List.set_cons_succ]
      refine wpAnyL_takeD (fun _ => True) (i := 13) (v := (.bool true)) (some 105) rfl rfl (by kernel_rfl) (by kernel_rfl) (by kernel_rfl) (fun _ _ _ h => h) (fun _ _ _ _ _ _ => trivial) (fun _ _ _ => Iff.rfl) trivial (Or.inl ⟨by rfl, fun w' hw' => by go_simp⟩) HS.out ?_
      simp only [Act.put, List.setIfInBounds_toArray, List.set_cons_zero, List.set_cons_succ]
      refine wpAnyL_takeD (fun _ => True) (i := 14) (v := (.bool true)) (some 8) rfl rfl (by kernel_rfl) (by kernel_rfl) (by kernel_rfl) (fun _ _ _ h => h) (fun _ _ _ _ _ _ => trivial) (fun _ _ _ => Iff.rfl) trivial (Or.inl ⟨by rfl, fun w' hw' => by go_simp⟩) HS.out ?_
      simp only [Act.put, List.setIfInBounds_toArray, List.set_cons_zero, List.set_cons_succ]
      refine wpAnyL_done (by decide +kernel) ?_ _
      go_wp2
      go_ret
      exact ⟨rfl, hES.bel⟩
    have hsw2 : decide ((sw : Int) = 2) = false := decide_eq_false (by omega)
    have hne2 := hsw
    clear hsw
    by_cases hsw : sw = 3
    · subst hsw
      go_wp2_with fail
      refine (pick_any v 2 _ (by omega) (by omega)).mono ?_; rintro _ _ ⟨rfl, rfl⟩
      have hk4 := pickN_lt v (show 0 < 2 by omega)
      generalize pickN v 2 = k4 at *
      go_wp2_with fail
      refine (pick_any (v.tdiv 2) 2 _ (by omega) (by omega)).mono ?_; rintro _ _ ⟨rfl, rfl⟩
      generalize pickN (v.tdiv 2) 2 = k5 at *
      have f3 := hES.blk.cellAt 3 rfl
      have f4 := hES.blk.cellAt 4 rfl
      have f5 := hES.blk.cellAt 5 rfl
      have ff := hES.blk.frozen
      have hES2 : ES w (((w3.setCell ⟨gv, 3, none⟩ (.bool ((k4 : Int) == 0))).setCell ⟨gv, 4, none⟩ (.int .i64 (k5 : Int))).setCell ⟨gv, 5, none⟩ (.string s)) gv ad e { e with lo := { e.lo with key := ⟨(k4 : Int) == 0, (k5 : Int), s⟩ } } := hES.set3 3 4 5 _ _ _ rfl
      go_upto_region 23 with fail
      clear f3 f4 f5 ff hES
      generalize ((w3.setCell ⟨gv, 3, none⟩ (.bool ((k4 : Int) == 0))).setCell ⟨gv, 4, none⟩ (.int .i64 (k5 : Int))).setCell ⟨gv, 5, none⟩ (.string s) = wz at *
      obtain ⟨e', hES⟩ : ∃ e', ES w wz gv ad e e' := ⟨_, hES2⟩
      clear hES2
      refine wp_region_L (fun _ w' => Rd w' gv (some ad) (entC e) ∧ Blk w' gv 40 (entC e')) (by kernel_rfl) ?_
      replace hES := hES.call (Below.drew (Below.refl wz.heap.size wz))
      have HS : Hid (Rd wz.drew gv (some ad) (entC e) ∧ Blk wz.drew gv 40 (entC e')) := ⟨hES.x0, hES.blk⟩
      generalize wz.drew = wy at *
      refine wpAnyL_one (i := 0) (by decide +kernel) ?_
      refine wpOp_go (o := _) rfl (fun K hK => ?_)
      go_simp
      go_at_call 15
      refine (awake_any _).mono ?_; rintro _ wy ⟨rfl, hbq⟩
      replace hES := hES.call hbq
      replace HS : Hid (Rd wy gv (some ad) (entC e) ∧ Blk wy gv 40 (entC e')) := ⟨hES.x0, hES.blk⟩
      refine hK _ _ ⟨HS.out, ?_⟩
      clear hK K hbq
      refine wpAnyL_takeD (fun _ => True) (i := 1) (v := (.bool true)) (some 93) rfl rfl (by kernel_rfl) (by kernel_rfl) (by kernel_rfl) (fun _ _ _ h => h) (fun _ _ _ _ _ _ => trivial) (fun _ _ _ => Iff.rfl) trivial (Or.inl ⟨by rfl, fun w' hw' => by go_simp⟩) HS.out ?_
      simp only [Act.put, List.setIfInBounds_toArray, List.set_cons_zero, List.set_cons_succ]
      refine wpAnyL_takeD (fun _ => True) (i := 2) (v := (.slice (some ad) 1 cB)) (some 94) rfl rfl (by kernel_rfl) (by kernel_rfl) (by kernel_rfl) (fun _ _ _ h => h) (fun _ _ _ _ _ _ => trivial) (fun _ _ _ => Iff.rfl) trivial (Or.inl ⟨by rfl, fun w' hw' => by go_simp⟩) HS.out ?_
      simp only [Act.put, List.setIfInBounds_toArray, List.set_cons_zero, List.set_cons_succ]
      refine wpAnyL_takeD (fun _ => True) (i := 3) (v := (.pointer (some ad))) (some 95) rfl rfl (by kernel_rfl) (by kernel_rfl) (by kernel_rfl) (fun _ _ _ h => h) (fun _ _ _ _ _ _ => trivial) (fun _ _ _ => Iff.rfl) trivial (Or.inl ⟨by rfl, fun w' hw' => by go_simp⟩) HS.out ?_
      simp only [Act.put, List.setIfInBounds_toArray, List.set_cons_zero, List.set_cons_succ]
      refine wpAnyL_takeD (fun _ => True) (i := 4) (v := (.agg #[.int .i64 e.id, .int .i64 e.rows, .int .i64 e.live, .bool e.lo.key.null, .int .i64 e.lo.key.n, .string e.lo.key.s, .int .i64 e.lo.seq, .bool e.hi.key.null, .int .i64 e.hi.key.n, .string e.hi.key.s, .int .i64 e.hi.seq, .int .i64 e.del])) (some 96) rfl rfl (by kernel_rfl) (by kernel_rfl) (by kernel_rfl) (fun _ _ _ h => h) (fun _ _ _ _ _ _ => trivial) (fun _ _ _ => Iff.rfl) trivial (Or.inl ⟨by rfl, fun w' hw' => by obtain ⟨l, _, hl⟩ := hw'; obtain ⟨hx, hy⟩ := hl; obtain ⟨_, d0, d1, d2, d3, d4, d5, d6, d7, d8, d9, d10, d11⟩ := hx.ent0; have y0 := hy.cellAt 0 rfl; have y1 := hy.cellAt 1 rfl; have y2 := hy.cellAt 2 rfl; have y3 := hy.cellAt 3 rfl; have y4 := hy.cellAt 4 rfl; have y5 := hy.cellAt 5 rfl; have y6 := hy.cellAt 6 rfl; have y7 := hy.cellAt 7 rfl; have y8 := hy.cellAt 8 rfl; have y9 := hy.cellAt 9 rfl; have y10 := hy.cellAt 10 rfl; have y11 := hy.cellAt 11 rfl; go_simp⟩) HS.out ?_
      simp only [Act.put, List.setIfInBounds_toArray, List.set_cons_zero, List.set_cons_succ]
      refine wpAnyL_one (i := 5) (by decide +kernel) ?_
      refine wpOp_go (o := _) rfl (fun K hK => ?_)
      go_simp
      go_at_call 17
      refine (entry_any e _).mono ?_; rintro _ wy ⟨rfl, hbq⟩
      replace hES := hES.call hbq
      replace HS : Hid (Rd wy gv (some ad) (entC e) ∧ Blk wy gv 40 (entC e')) := ⟨hES.x0, hES.blk⟩
      refine hK _ _ ⟨HS.out, ?_⟩
      clear hK K hbq
      rw [HB0.out]
      refine wpAnyL_takeD (fun _ => True) (i := 6) (v := (.bool true)) (some 98) rfl rfl (by kernel_rfl) (by kernel_rfl) (by kernel_rfl) (fun _ _ _ h => h) (fun _ _ _ _ _ _ => trivial) (fun _ _ _ => Iff.rfl) trivial (Or.inl ⟨by rfl, fun w' hw' => by go_simp⟩) HS.out ?_
      simp only [Act.put, List.setIfInBounds_toArray, List.set_cons_zero, List.set_cons_succ]
      refine wpAnyL_takeD (fun _ => True) (i := 7) (v := (.bool true)) (some 99) rfl rfl (by kernel_rfl) (by kernel_rfl) (by kernel_rfl) (fun _ _ _ h => h) (fun _ _ _ _ _ _ => trivial) (fun _ _ _ => Iff.rfl) trivial (Or.inl ⟨by rfl, fun w' hw' => by go_simp⟩) HS.out ?_
      simp only [Act.put, List.setIfInBounds_toArray, List.set_cons_zero, List.set_cons_succ]
      refine wpAnyL_takeD (fun _ => True) (i := 8) (v := (.agg #[.int .i64 e'.id, .int .i64 e'.rows, .int .i64 e'.live, .bool e'.lo.key.null, .int .i64 e'.lo.key.n, .string e'.lo.key.s, .int .i64 e'.lo.seq, .bool e'.hi.key.null, .int .i64 e'.hi.key.n, .string e'.hi.key.s, .int .i64 e'.hi.seq, .int .i64 e'.del])) (some 100) rfl rfl (by kernel_rfl) (by kernel_rfl) (by kernel_rfl) (fun _ _ _ h => h) (fun _ _ _ _ _ _ => trivial) (fun _ _ _ => Iff.rfl) trivial (Or.inl ⟨by rfl, fun w' hw' => by obtain ⟨l, _, hl⟩ := hw'; obtain ⟨hx, hy⟩ := hl; obtain ⟨_, d0, d1, d2, d3, d4, d5, d6, d7, d8, d9, d10, d11⟩ := hx.ent0; have y0 := hy.cellAt 0 rfl; have y1 := hy.cellAt 1 rfl; have y2 := hy.cellAt 2 rfl; have y3 := hy.cellAt 3 rfl; have y4 := hy.cellAt 4 rfl; have y5 := hy.cellAt 5 rfl; have y6 := hy.cellAt 6 rfl; have y7 := hy.cellAt 7 rfl; have y8 := hy.cellAt 8 rfl; have y9 := hy.cellAt 9 rfl; have y10 := hy.cellAt 10 rfl; have y11 := hy.cellAt 11 rfl; go_simp⟩) HS.out ?_
      simp only [Act.put, List.setIfInBounds_toArray, List.set_cons_zero, List.set_cons_succ]
      refine wpAnyL_takeD (fun _ => True) (i := 10) (v := (.agg #[.int .i64 e'.id, .int .i64 e'.rows, .int .i64 e'.live, .bool e'.lo.key.null, .int .i64 e'.lo.key.n, .string e'.lo.key.s, .int .i64 e'.lo.seq, .bool e'.hi.key.null, .int .i64 e'.hi.key.n, .string e'.hi.key.s, .int .i64 e'.hi.seq, .int .i64 e'.del])) (some 102) rfl rfl (by kernel_rfl) (by kernel_rfl) (by kernel_rfl) (fun _ _ _ h => h) (fun _ _ _ _ _ _ => trivial) (fun _ _ _ => Iff.rfl) trivial (Or.inl ⟨by rfl, fun w' hw' => by obtain ⟨l, _, hl⟩ := hw'; obtain ⟨hx, hy⟩ := hl; obtain ⟨_, d0, d1, d2, d3, d4, d5, d6, d7, d8, d9, d10, d11⟩ := hx.ent0; have y0 := hy.cellAt 0 rfl; have y1 := hy.cellAt 1 rfl; have y2 := hy.cellAt 2 rfl; have y3 := hy.cellAt 3 rfl; have y4 := hy.cellAt 4 rfl; have y5 := hy.cellAt 5 rfl; have y6 := hy.cellAt 6 rfl; have y7 := hy.cellAt 7 rfl; have y8 := hy.cellAt 8 rfl; have y9 := hy.cellAt 9 rfl; have y10 := hy.cellAt 10 rfl; have y11 := hy.cellAt 11 rfl; go_simp⟩) HS.out ?_
      simp only [Act.put, List.setIfInBounds_toArray, List.set_cons_zero, List.set_cons_succ]
      refine wpAnyL_one (i := 9) (by decide +kernel) ?_
      refine wpOp_go (o := _) rfl (fun K hK => ?_)
      go_simp
      go_at_call 17
      refine (entry_any e' _).mono ?_; rintro _ wy ⟨rfl, hbq⟩
      replace hES := hES.call hbq
      replace HS : Hid (Rd wy gv (some ad) (entC e) ∧ Blk wy gv 40 (entC e')) := ⟨hES.x0, hES.blk⟩
      refine hK _ _ ⟨HS.out, ?_⟩
      clear hK K hbq
      refine wpAnyL_one (i := 11) (by decide +kernel) ?_
      refine wpOp_go (o := _) rfl (fun K hK => ?_)
      go_simp
      go_at_call 18
      refine (rentry_any e' _).mono ?_; rintro _ wy ⟨rfl, hbq⟩
      replace hES := hES.call hbq
      replace HS : Hid (Rd wy gv (some ad) (entC e) ∧ Blk wy gv 40 (entC e')) := ⟨hES.x0, hES.blk⟩
      refine hK _ _ ⟨HS.out, ?_⟩
      clear hK K hbq
      refine wpAnyL_takeD (fun _ => True) (i := 12) (v := (.bool true)) (some 104) rfl rfl (by kernel_rfl) (by kernel_rfl) (by kernel_rfl) (fun _ _ _ h => h) (fun _ _ _ _ _ _ => trivial) (fun _ _ _ => Iff.rfl) trivial (Or.inl ⟨by rfl, fun w' hw' => by go_simp⟩) HS.out ?_
      simp only [Act.put, List.setIfInBounds_toArray, List.set_cons_zero, List.set_cons_succ]
      refine wpAnyL_takeD (fun _ => True) (i := 13) (v := (.bool true)) (some 105) rfl rfl (by kernel_rfl) (by kernel_rfl) (by kernel_rfl) (fun _ _ _ h => h) (fun _ _ _ _ _ _ => trivial) (fun _ _ _ => Iff.rfl) trivial (Or.inl ⟨by rfl, fun w' hw' => by go_simp⟩) HS.out ?_
      simp only [Act.put, List.setIfInBounds_toArray, List.set_cons_zero, List.set_cons_succ]
      refine wpAnyL_takeD (fun _ => True) (i := 14) (v := (.bool true)) (some 8) rfl rfl (by kernel_rfl) (by kernel_rfl) (by kernel_rfl) (fun _ _ _ h => h) (fun _ _ _ _ _ _ => trivial) (fun _ _ _ => Iff.rfl) trivial (Or.inl ⟨by rfl, fun w' hw' => by go_simp⟩) HS.out ?_
      simp only [Act.put, List.setIfInBounds_toArray, List.set_cons_zero, List.set_cons_succ]
      refine wpAnyL_done (by decide +kernel) ?_ _
      go_wp2
      go_ret
      exact ⟨rfl, hES.bel⟩
    have hsw3 : decide ((sw : Int) = 3) = false := decide_eq_false (by omega)
    have hne3 := hsw
    clear hsw
    by_cases hsw : sw = 4
    · subst hsw
      have f3 := hES.blk.cellAt 7 rfl
      have f4 := hES.blk.cellAt 8 rfl
      have f5 := hES.blk.cellAt 9 rfl
      have ff := hES.blk.frozen
      have hES2 : ES w (((w3.setCell ⟨gv, 7, none⟩ (.bool true)).setCell ⟨gv, 8, none⟩ (.int .i64 0)).setCell ⟨gv, 9, none⟩ (.string ⟨#[]⟩)) gv ad e { e with hi := { e.hi with key := ⟨true, 0, ⟨#[]⟩⟩ } } := hES.set3 7 8 9 _ _ _ rfl
      go_upto_region 23 with fail
      clear f3 f4 f5 ff hES
      generalize ((w3.setCell ⟨gv, 7, none⟩ (.bool true)).setCell ⟨gv, 8, none⟩ (.int .i64 0)).setCell ⟨gv, 9, none⟩ (.string ⟨#[]⟩) = wz at *
      obtain ⟨e', hES⟩ : ∃ e', ES w wz gv ad e e' := ⟨_, hES2⟩
      clear hES2
      refine wp_region_L (fun _ w' => Rd w' gv (some ad) (entC e) ∧ Blk w' gv 40 (entC e')) (by kernel_rfl) ?_
      replace hES := hES.call (Below.drew (Below.refl wz.heap.size wz))
      have HS : Hid (Rd wz.drew gv (some ad) (entC e) ∧ Blk wz.drew gv 40 (entC e')) := ⟨hES.x0, hES.blk⟩
      generalize wz.drew = wy at *
      refine wpAnyL_one (i := 0) (by decide +kernel) ?_
      refine wpOp_go (o := _) rfl (fun K hK => ?_)
      go_simp
      go_at_call 15
      refine (awake_any _).mono ?_; rintro _ wy ⟨rfl, hbq⟩
      replace hES := hES.call hbq
      replace HS : Hid (Rd wy gv (some ad) (entC e) ∧ Blk wy gv 40 (entC e')) := ⟨hES.x0, hES.blk⟩
      refine hK _ _ ⟨HS.out, ?_⟩
      clear hK K hbq
      refine wpAnyL_takeD (fun _ => True) (i := 1) (v := (.bool true)) (some 93) rfl rfl (by kernel_rfl) (by kernel_rfl) (by kernel_rfl) (fun _ _ _ h => h) (fun _ _ _ _ _ _ => trivial) (fun _ _ _ => Iff.rfl) trivial (Or.inl ⟨by rfl, fun w' hw' => by go_simp⟩) HS.out ?_
      simp only [Act.put, List.setIfInBounds_toArray, List.set_cons_zero, List.set_cons_succ]
      refine wpAnyL_takeD (fun _ => True) (i := 2) (v := (.slice (some ad) 1 cB)) (some 94) rfl rfl (by kernel_rfl) (by kernel_rfl) (by kernel_rfl) (fun _ _ _ h => h) (fun _ _ _ _ _ _ => trivial) (fun _ _ _ => Iff.rfl) trivial (Or.inl ⟨by rfl, fun w' hw' => by go_simp⟩) HS.out ?_
      simp only [Act.put, List.setIfInBounds_toArray, List.set_cons_zero, List.set_cons_succ]
      refine wpAnyL_takeD (fun _ => True) (i := 3) (v := (.pointer (some ad))) (some 95) rfl rfl (by kernel_rfl) (by kernel_rfl) (by kernel_rfl) (fun _ _ _ h => h) (fun _ _ _ _ _ _ => trivial) (fun _ _ _ => Iff.rfl) trivial (Or.inl ⟨by rfl, fun w' hw' => by go_simp⟩) HS.out ?_
      simp only [Act.put, List.setIfInBounds_toArray, List.set_cons_zero, List.set_cons_succ]
      refine wpAnyL_takeD (fun _ => True) (i := 4) (v := (.agg #[.int .i64 e.id, .int .i64 e.rows, .int .i64 e.live, .bool e.lo.key.null, .int .i64 e.lo.key.n, .string e.lo.key.s, .int .i64 e.lo.seq, .bool e.hi.key.null, .int .i64 e.hi.key.n, .string e.hi.key.s, .int .i64 e.hi.seq, .int .i64 e.del])) (some 96) rfl rfl (by kernel_rfl) (by kernel_rfl) (by kernel_rfl) (fun _ _ _ h => h) (fun _ _ _ _ _ _ => trivial) (fun _ _ _ => Iff.rfl) trivial (Or.inl ⟨by rfl, fun w' hw' => by obtain ⟨l, _, hl⟩ := hw'; obtain ⟨hx, hy⟩ := hl; obtain ⟨_, d0, d1, d2, d3, d4, d5, d6, d7, d8, d9, d10, d11⟩ := hx.ent0; have y0 := hy.cellAt 0 rfl; have y1 := hy.cellAt 1 rfl; have y2 := hy.cellAt 2 rfl; have y3 := hy.cellAt 3 rfl; have y4 := hy.cellAt 4 rfl; have y5 := hy.cellAt 5 rfl; have y6 := hy.cellAt 6 rfl; have y7 := hy.cellAt 7 rfl; have y8 := hy.cellAt 8 rfl; have y9 := hy.cellAt 9 rfl; have y10 := hy.cellAt 10 rfl; have y11 := hy.cellAt 11 rfl; go_simp⟩) HS.out ?_
      simp only [Act.put, List.setIfInBounds_toArray, List.set_cons_zero, List.set_cons_succ]
      refine wpAnyL_one (i := 5) (by decide +kernel) ?_
      refine wpOp_go (o := _) rfl (fun K hK => ?_)
      go_simp
      go_at_call 17
      refine (entry_any e _).mono ?_; rintro _ wy ⟨rfl, hbq⟩
      replace hES := hES.call hbq
      replace HS : Hid (Rd wy gv (some ad) (entC e) ∧ Blk wy gv 40 (entC e')) := ⟨hES.x0, hES.blk⟩
      refine hK _ _ ⟨HS.out, ?_⟩
      clear hK K hbq
      rw [HB0.out]
      refine wpAnyL_takeD (fun _ => True) (i := 6) (v := (.bool true)) (some 98) rfl rfl (by kernel_rfl) (by kernel_rfl) (by kernel_rfl) (fun _ _ _ h => h) (fun _ _ _ _ _ _ => trivial) (fun _ _ _ => Iff.rfl) trivial (Or.inl ⟨by rfl, fun w' hw' => by go_simp⟩) HS.out ?_
      simp only [Act.put, List.setIfInBounds_toArray, List.set_cons_zero, List.set_cons_succ]
      refine wpAnyL_takeD (fun _ => True) (i := 7) (v := (.bool true)) (some 99) rfl rfl (by kernel_rfl) (by kernel_rfl) (by kernel_rfl) (fun _ _ _ h => h) (fun _ _ _ _ _ _ => trivial) (fun _ _ _ => Iff.rfl) trivial (Or.inl ⟨by rfl, fun w' hw' => by go_simp⟩) HS.out ?_
      simp only [Act.put, List.setIfInBounds_toArray, List.set_cons_zero, List.set_cons_succ]
      refine wpAnyL_takeD (fun _ => True) (i := 8) (v := (.agg #[.int .i64 e'.id, .int .i64 e'.rows, .int .i64 e'.live, .bool e'.lo.key.null, .int .i64 e'.lo.key.n, .string e'.lo.key.s, .int .i64 e'.lo.seq, .bool e'.hi.key.null, .int .i64 e'.hi.key.n, .string e'.hi.key.s, .int .i64 e'.hi.seq, .int .i64 e'.del])) (some 100) rfl rfl (by kernel_rfl) (by kernel_rfl) (by kernel_rfl) (fun _ _ _ h => h) (fun _ _ _ _ _ _ => trivial) (fun _ _ _ => Iff.rfl) trivial (Or.inl ⟨by rfl, fun w' hw' => by obtain ⟨l, _, hl⟩ := hw'; obtain ⟨hx, hy⟩ := hl; obtain ⟨_, d0, d1, d2, d3, d4, d5, d6, d7, d8, d9, d10, d11⟩ := hx.ent0; have y0 := hy.cellAt 0 rfl; have y1 := hy.cellAt 1 rfl; have y2 := hy.cellAt 2 rfl; have y3 := hy.cellAt 3 rfl; have y4 := hy.cellAt 4 rfl; have y5 := hy.cellAt 5 rfl; have y6 := hy.cellAt 6 rfl; have y7 := hy.cellAt 7 rfl; have y8 := hy.cellAt 8 rfl; have y9 := hy.cellAt 9 rfl; have y10 := hy.cellAt 10 rfl; have y11 := hy.cellAt 11 rfl; go_simp⟩) HS.out ?_
      simp only [Act.put, List.setIfInBounds_toArray, List.set_cons_zero, List.set_cons_succ]
      refine wpAnyL_takeD (fun _ => True) (i := 10) (v := (.agg #[.int .i64 e'.id, .int .i64 e'.rows, .int .i64 e'.live, .bool e'.lo.key.null, .int .i64 e'.lo.key.n, .string e'.lo.key.s, .int .i64 e'.lo.seq, .bool e'.hi.key.null, .int .i64 e'.hi.key.n, .string e'.hi.key.s, .int .i64 e'.hi.seq, .int .i64 e'.del])) (some 102) rfl rfl (by kernel_rfl) (by kernel_rfl) (by kernel_rfl) (fun _ _ _ h => h) (fun _ _ _ _ _ _ => trivial) (fun _ _ _ => Iff.rfl) trivial (Or.inl ⟨by rfl, fun w' hw' => by obtain ⟨l, _, hl⟩ := hw'; obtain ⟨hx, hy⟩ := hl; obtain ⟨_, d0, d1, d2, d3, d4, d5, d6, d7, d8, d9, d10, d11⟩ := hx.ent0; have y0 := hy.cellAt 0 rfl; have y1 := hy.cellAt 1 rfl; have y2 := hy.cellAt 2 rfl; have y3 := hy.cellAt 3 rfl; have y4 := hy.cellAt 4 rfl; have y5 := hy.cellAt 5 rfl; have y6 := hy.cellAt 6 rfl; have y7 := hy.cellAt 7 rfl; have y8 := hy.cellAt 8 rfl; have y9 := hy.cellAt 9 rfl; have y10 := hy.cellAt 10 rfl; have y11 := hy.cellAt 11 rfl; go_simp⟩) HS.out ?_
      simp only [Act.put, List.setIfInBounds_toArray, List.set_cons_zero, List.set_cons_succ]
      refine wpAnyL_one (i := 9) (by decide +kernel) ?_
      refine wpOp_go (o := _) rfl (fun K hK => ?_)
      go_simp
      go_at_call 17
      refine (entry_any e' _).mono ?_; rintro _ wy ⟨rfl, hbq⟩
      replace hES := hES.call hbq
      replace HS : Hid (Rd wy gv (some ad) (entC e) ∧ Blk wy gv 40 (entC e')) := ⟨hES.x0, hES.blk⟩
      refine hK _ _ ⟨HS.out, ?_⟩
      clear hK K hbq
      refine wpAnyL_one (i := 11) (by decide +kernel) ?_
      refine wpOp_go (o := _) rfl (fun K hK => ?_)
      go_simp
      go_at_call 18
      refine (rentry_any e' _).mono ?_; rintro _ wy ⟨rfl, hbq⟩
      replace hES := hES.call hbq
      replace HS : Hid (Rd wy gv (some ad) (entC e) ∧ Blk wy gv 40 (entC e')) := ⟨hES.x0, hES.blk⟩
      refine hK _ _ ⟨HS.out, ?_⟩
      clear hK K hbq
      refine wpAnyL_takeD (fun _ => True) (i := 12) (v := (.bool true)) (some 104) rfl rfl (by kernel_rfl) (by kernel_rfl) (by kernel_rfl) (fun _ _ _ h => h) (fun _ _ _ _ _ _ => trivial) (fun _ _ _ => Iff.rfl) trivial (Or.inl ⟨by rfl, fun w' hw' => by go_simp⟩) HS.out ?_
      simp only [Act.put, List.setIfInBounds_toArray, List.set_cons_zero, List.set_cons_succ]
      refine wpAnyL_takeD (fun _ => True) (i := 13) (v := (.bool true)) (some 105) rfl rfl (by kernel_rfl) (by kernel_rfl) (by kernel_rfl) (fun _ _ _ h => h) (fun _ _ _ _ _ _ => trivial) (fun _ _ _ => Iff.rfl) trivial (Or.inl ⟨by rfl, fun w' hw' => by go_simp⟩) HS.out ?_
      simp only [Act.put, List.setIfInBounds_toArray, List.set_cons_zero, List.set_cons_succ]
      refine wpAnyL_takeD (fun _ => True) (i := 14) (v := (.bool true)) (some 8) rfl rfl (by kernel_rfl) (by kernel_rfl) (by kernel_rfl) (fun _ _ _ h => h) (fun _ _ _ _ _ _ => trivial) (fun _ _ _ => Iff.rfl) trivial (Or.inl ⟨by rfl, fun w' hw' => by go_simp⟩) HS.out ?_
      simp only [Act.put, List.setIfInBounds_toArray, List.set_cons_zero, List.set_cons_succ]
      refine wpAnyL_done (by decide +kernel) ?_ _
      go_wp2
      go_ret
      exact ⟨rfl, hES.bel⟩
    have hsw4 : decide ((sw : Int) = 4) = false := decide_eq_false (by omega)
    have hne4 := hsw
    clear hsw
    by_cases hsw : sw = 5
    · subst hsw
      have hGB := Blk.new' w3 2 #[.int .i64 (-1), .int .i64 (0), .int .i64 (1099511627776), .int .i64 (1099511627777)]
      have hLa := hES.alloc (.cells #[.int .i64 (-1), .int .i64 (0), .int .i64 (1099511627776), .int .i64 (1099511627777)] 2)
      go_wp2_with fail
      refine (pick_any v 4 _ (by omega) (by omega)).mono ?_; rintro _ _ ⟨rfl, rfl⟩
      have hk4 := pickN_lt v (show 0 < 4 by omega)
      generalize pickN v 4 = k4 at *
      obtain ⟨z, hz⟩ := get4 (a := -1) (b := 0) (c := 1099511627776) (d := 1099511627777) hk4
      generalize w3.alloc (.cells #[.int .i64 (-1), .int .i64 (0), .int .i64 (1099511627776), .int .i64 (1099511627777)] 2) = wa at *
      generalize w3.heap.size = gb at *
      have fz := hGB.cellAt k4 hz
      have fz2 : wa.cell? ((⟨gb, 0, none⟩ : Addr).add k4) = some (.int .i64 z) := by
        have e0 : (⟨gb, 0, none⟩ : Addr).add k4 = ⟨gb, k4, none⟩ := by unfold Addr.add; split <;> simp_all
        rw [e0]; exact fz
      have f1 := hLa.blk.cellAt 6 rfl
      have ff := hLa.blk.frozen
      have hES2 : ES w (wa.setCell ⟨gv, 6, none⟩ (.int .i64 z)) gv ad e ({ e with lo := { e.lo with seq := z } }) := hLa.set 6 _ rfl
      clear hz
      go_upto_region 23 with fail
      clear f1 ff fz fz2 hGB hES hLa
      generalize wa.setCell ⟨gv, 6, none⟩ (.int .i64 z) = wz at *
      obtain ⟨e', hES⟩ : ∃ e', ES w wz gv ad e e' := ⟨_, hES2⟩
      clear hES2
      refine wp_region_L (fun _ w' => Rd w' gv (some ad) (entC e) ∧ Blk w' gv 40 (entC e')) (by kernel_rfl) ?_
      replace hES := hES.call (Below.drew (Below.refl wz.heap.size wz))
      have HS : Hid (Rd wz.drew gv (some ad) (entC e) ∧ Blk wz.drew gv 40 (entC e')) := ⟨hES.x0, hES.blk⟩
      generalize wz.drew = wy at *
      refine wpAnyL_one (i := 0) (by decide +kernel) ?_
      refine wpOp_go (o := _) rfl (fun K hK => ?_)
      go_simp
      go_at_call 15
      refine (awake_any _).mono ?_; rintro _ wy ⟨rfl, hbq⟩
      replace hES := hES.call hbq
      replace HS : Hid (Rd wy gv (some ad) (entC e) ∧ Blk wy gv 40 (entC e')) := ⟨hES.x0, hES.blk⟩
      refine hK _ _ ⟨HS.out, ?_⟩
      clear hK K hbq
      refine wpAnyL_takeD (fun _ => True) (i := 1) (v := (.bool true)) (some 93) rfl rfl (by kernel_rfl) (by kernel_rfl) (by kernel_rfl) (fun _ _ _ h => h) (fun _ _ _ _ _ _ => trivial) (fun _ _ _ => Iff.rfl) trivial (Or.inl ⟨by rfl, fun w' hw' => by go_simp⟩) HS.out ?_
      simp only [Act.put, List.setIfInBounds_toArray, List.set_cons_zero, List.set_cons_succ]
      refine wpAnyL_takeD (fun _ => True) (i := 2) (v := (.slice (some ad) 1 cB)) (some 94) rfl rfl (by kernel_rfl) (by kernel_rfl) (by kernel_rfl) (fun _ _ _ h => h) (fun _ _ _ _ _ _ => trivial) (fun _ _ _ => Iff.rfl) trivial (Or.inl ⟨by rfl, fun w' hw' => by go_simp⟩) HS.out ?_
      simp only [Act.put, List.setIfInBounds_toArray, List.set_cons_zero, List.set_cons_succ]
      refine wpAnyL_takeD (fun _ => True) (i := 3) (v := (.pointer (some ad))) (some 95) rfl rfl (by kernel_rfl) (by kernel_rfl) (by kernel_rfl) (fun _ _ _ h => h) (fun _ _ _ _ _ _ => trivial) (fun _ _ _ => Iff.rfl) trivial (Or.inl ⟨by rfl, fun w' hw' => by go_simp⟩) HS.out ?_
      simp only [Act.put, List.setIfInBounds_toArray, List.set_cons_zero, List.set_cons_succ]
      refine wpAnyL_takeD (fun _ => True) (i := 4) (v := (.agg #[.int .i64 e.id, .int .i64 e.rows, .int .i64 e.live, .bool e.lo.key.null, .int .i64 e.lo.key.n, .string e.lo.key.s, .int .i64 e.lo.seq, .bool e.hi.key.null, .int .i64 e.hi.key.n, .string e.hi.key.s, .int .i64 e.hi.seq, .int .i64 e.del])) (some 96) rfl rfl (by kernel_rfl) (by kernel_rfl) (by kernel_rfl) (fun _ _ _ h => h) (fun _ _ _ _ _ _ => trivial) (fun _ _ _ => Iff.rfl) trivial (Or.inl ⟨by rfl, fun w' hw' => by obtain ⟨l, _, hl⟩ := hw'; obtain ⟨hx, hy⟩ := hl; obtain ⟨_, d0, d1, d2, d3, d4, d5, d6, d7, d8, d9, d10, d11⟩ := hx.ent0; have y0 := hy.cellAt 0 rfl; have y1 := hy.cellAt 1 rfl; have y2 := hy.cellAt 2 rfl; have y3 := hy.cellAt 3 rfl; have y4 := hy.cellAt 4 rfl; have y5 := hy.cellAt 5 rfl; have y6 := hy.cellAt 6 rfl; have y7 := hy.cellAt 7 rfl; have y8 := hy.cellAt 8 rfl; have y9 := hy.cellAt 9 rfl; have y10 := hy.cellAt 10 rfl; have y11 := hy.cellAt 11 rfl; go_simp⟩) HS.out ?_
      simp only [Act.put, List.setIfInBounds_toArray, List.set_cons_zero, List.set_cons_succ]
      refine wpAnyL_one (i := 5) (by decide +kernel) ?_
      refine wpOp_go (o := _) rfl (fun K hK => ?_)
      go_simp
      go_at_call 17
      refine (entry_any e _).mono ?_; rintro _ wy ⟨rfl, hbq⟩
      replace hES := hES.call hbq
      replace HS : Hid (Rd wy gv (some ad) (entC e) ∧ Blk wy gv 40 (entC e')) := ⟨hES.x0, hES.blk⟩
      refine hK _ _ ⟨HS.out, ?_⟩
      clear hK K hbq
      rw [HB0.out]
      refine wpAnyL_takeD (fun _ => True) (i := 6) (v := (.bool true)) (some 98) rfl rfl (by kernel_rfl) (by kernel_rfl) (by kernel_rfl) (fun _ _ _ h => h) (fun _ _ _ _ _ _ => trivial) (fun _ _ _ => Iff.rfl) trivial (Or.inl ⟨by rfl, fun w' hw' => by go_simp⟩) HS.out ?_
      simp only [Act.put, List.setIfInBounds_toArray, List.set_cons_zero, List.set_cons_succ]
      refine wpAnyL_takeD (fun _ => True) (i := 7) (v := (.bool true)) (some 99) rfl rfl (by kernel_rfl) (by kernel_rfl) (by kernel_rfl) (fun _ _ _ h => h) (fun _ _ _ _ _ _ => trivial) (fun _ _ _ => Iff.rfl) trivial (Or.inl ⟨by rfl, fun w' hw' => by go_simp⟩) HS.out ?_
      simp only [Act.put, List.setIfInBounds_toArray, List.set_cons_zero, List.set_cons_succ]
      refine wpAnyL_takeD (fun _ => True) (i := 8) (v := (.agg #[.int .i64 e'.id, .int .i64 e'.rows, .int .i64 e'.live, .bool e'.lo.key.null, .int .i64 e'.lo.key.n, .string e'.lo.key.s, .int .i64 e'.lo.seq, .bool e'.hi.key.null, .int .i64 e'.hi.key.n, .string e'.hi.key.s, .int .i64 e'.hi.seq, .int .i64 e'.del])) (some 100) rfl rfl (by kernel_rfl) (by kernel_rfl) (by kernel_rfl) (fun _ _ _ h => h) (fun _ _ _ _ _ _ => trivial) (fun _ _ _ => Iff.rfl) trivial (Or.inl ⟨by rfl, fun w' hw' => by obtain ⟨l, _, hl⟩ := hw'; obtain ⟨hx, hy⟩ := hl; obtain ⟨_, d0, d1, d2, d3, d4, d5, d6, d7, d8, d9, d10, d11⟩ := hx.ent0; have y0 := hy.cellAt 0 rfl; have y1 := hy.cellAt 1 rfl; have y2 := hy.cellAt 2 rfl; have y3 := hy.cellAt 3 rfl; have y4 := hy.cellAt 4 rfl; have y5 := hy.cellAt 5 rfl; have y6 := hy.cellAt 6 rfl; have y7 := hy.cellAt 7 rfl; have y8 := hy.cellAt 8 rfl; have y9 := hy.cellAt 9 rfl; have y10 := hy.cellAt 10 rfl; have y11 := hy.cellAt 11 rfl; go_simp⟩) HS.out ?_
      simp only [Act.put, List.setIfInBounds_toArray, List.set_cons_zero, List.set_cons_succ]
      refine wpAnyL_takeD (fun _ => True) (i := 10) (v := (.agg #[.int .i64 e'.id, .int .i64 e'.rows, .int .i64 e'.live, .bool e'.lo.key.null, .int .i64 e'.lo.key.n, .string e'.lo.key.s, .int .i64 e'.lo.seq, .bool e'.hi.key.null, .int .i64 e'.hi.key.n, .string e'.hi.key.s, .int .i64 e'.hi.seq, .int .i64 e'.del])) (some 102) rfl rfl (by kernel_rfl) (by kernel_rfl) (by kernel_rfl) (fun _ _ _ h => h) (fun _ _ _ _ _ _ => trivial) (fun _ _ _ => Iff.rfl) trivial (Or.inl ⟨by rfl, fun w' hw' => by obtain ⟨l, _, hl⟩ := hw'; obtain ⟨hx, hy⟩ := hl; obtain ⟨_, d0, d1, d2, d3, d4, d5, d6, d7, d8, d9, d10, d11⟩ := hx.ent0; have y0 := hy.cellAt 0 rfl; have y1 := hy.cellAt 1 rfl; have y2 := hy.cellAt 2 rfl; have y3 := hy.cellAt 3 rfl; have y4 := hy.cellAt 4 rfl; have y5 := hy.cellAt 5 rfl; have y6 := hy.cellAt 6 rfl; have y7 := hy.cellAt 7 rfl; have y8 := hy.cellAt 8 rfl; have y9 := hy.cellAt 9 rfl; have y10 := hy.cellAt 10 rfl; have y11 := hy.cellAt 11 rfl; go_simp⟩) HS.out ?_
      simp only [Act.put, List.setIfInBounds_toArray, List.set_cons_zero, List.set_cons_succ]
      refine wpAnyL_one (i := 9) (by decide +kernel) ?_
      refine wpOp_go (o := _) rfl (fun K hK => ?_)
      go_simp
      go_at_call 17
      refine (entry_any e' _).mono ?_; rintro _ wy ⟨rfl, hbq⟩
      replace hES := hES.call hbq
      replace HS : Hid (Rd wy gv (some ad) (entC e) ∧ Blk wy gv 40 (entC e')) := ⟨hES.x0, hES.blk⟩
      refine hK _ _ ⟨HS.out, ?_⟩
      clear hK K hbq
      refine wpAnyL_one (i := 11) (by decide +kernel) ?_
      refine wpOp_go (o := _) rfl (fun K hK => ?_)
      go_simp
      go_at_call 18
      refine (rentry_any e' _).mono ?_; rintro _ wy ⟨rfl, hbq⟩
      replace hES := hES.call hbq
      replace HS : Hid (Rd wy gv (some ad) (entC e) ∧ Blk wy gv 40 (entC e')) := ⟨hES.x0, hES.blk⟩
      refine hK _ _ ⟨HS.out, ?_⟩
      clear hK K hbq
      refine wpAnyL_takeD (fun _ => True) (i := 12) (v := (.bool true)) (some 104) rfl rfl (by kernel_rfl) (by kernel_rfl) (by kernel_rfl) (fun _ _ _ h => h) (fun _ _ _ _ _ _ => trivial) (fun _ _ _ => Iff.rfl) trivial (Or.inl ⟨by rfl, fun w' hw' => by go_simp⟩) HS.out ?_
      simp only [Act.put, List.setIfInBounds_toArray, List.set_cons_zero, List.set_cons_succ]
      refine wpAnyL_takeD (fun _ => True) (i := 13) (v := (.bool true)) (some 105) rfl rfl (by kernel_rfl) (by kernel_rfl) (by kernel_rfl) (fun _ _ _ h => h) (fun _ _ _ _ _ _ => trivial) (fun _ _ _ => Iff.rfl) trivial (Or.inl ⟨by rfl, fun w' hw' => by go_simp⟩) HS.out ?_
      simp only [Act.put, List.setIfInBounds_toArray, List.set_cons_zero, List.set_cons_succ]
      refine wpAnyL_takeD (fun _ => True) (i := 14) (v := (.bool true)) (some 8) rfl rfl (by kernel_rfl) (by kernel_rfl) (by kernel_rfl) (fun _ _ _ h => h) (fun _ _ _ _ _ _ => trivial) (fun _ _ _ => Iff.rfl) trivial (Or.inl ⟨by rfl, fun w' hw' => by go_simp⟩) HS.out ?_
      simp only [Act.put, List.setIfInBounds_toArray, List.set_cons_zero, List.set_cons_succ]
      refine wpAnyL_done (by decide +kernel) ?_ _
      go_wp2
      go_ret
      exact ⟨rfl, hES.bel⟩
    have hsw5 : decide ((sw : Int) = 5) = false := decide_eq_false (by omega)
    have hne5 := hsw
    clear hsw
    by_cases hsw : sw = 6
    · subst hsw
      have hGB := Blk.new' w3 3 #[.int .i64 (-1), .int .i64 (0), .int .i64 (2147483647), .int .i64 (2147483648)]
      have hLa := hES.alloc (.cells #[.int .i64 (-1), .int .i64 (0), .int .i64 (2147483647), .int .i64 (2147483648)] 3)
      go_wp2_with fail
      refine (pick_any v 4 _ (by omega) (by omega)).mono ?_; rintro _ _ ⟨rfl, rfl⟩
      have hk4 := pickN_lt v (show 0 < 4 by omega)
      generalize pickN v 4 = k4 at *
      obtain ⟨z, hz⟩ := get4 (a := -1) (b := 0) (c := 2147483647) (d := 2147483648) hk4
      generalize w3.alloc (.cells #[.int .i64 (-1), .int .i64 (0), .int .i64 (2147483647), .int .i64 (2147483648)] 3) = wa at *
      generalize w3.heap.size = gb at *
      have fz := hGB.cellAt k4 hz
      have fz2 : wa.cell? ((⟨gb, 0, none⟩ : Addr).add k4) = some (.int .i64 z) := by
        have e0 : (⟨gb, 0, none⟩ : Addr).add k4 = ⟨gb, k4, none⟩ := by unfold Addr.add; split <;> simp_all
        rw [e0]; exact fz
      have f1 := hLa.blk.cellAt 11 rfl
      have ff := hLa.blk.frozen
      have hES2 : ES w (wa.setCell ⟨gv, 11, none⟩ (.int .i64 z)) gv ad e ({ e with del := z }) := hLa.set 11 _ rfl
      clear hz
      go_upto_region 23 with fail
      clear f1 ff fz fz2 hGB hES hLa
      generalize wa.setCell ⟨gv, 11, none⟩ (.int .i64 z) = wz at *
      obtain ⟨e', hES⟩ : ∃ e', ES w wz gv ad e e' := ⟨_, hES2⟩
      clear hES2
      refine wp_region_L (fun _ w' => Rd w' gv (some ad) (entC e) ∧ Blk w' gv 40 (entC e')) (by kernel_rfl) ?_
      replace hES := hES.call (Below.drew (Below.refl wz.heap.size wz))
      have HS : Hid (Rd wz.drew gv (some ad) (entC e) ∧ Blk wz.drew gv 40 (entC e')) := ⟨hES.x0, hES.blk⟩
      generalize wz.drew = wy at *
      refine wpAnyL_one (i := 0) (by decide +kernel) ?_
      refine wpOp_go (o := _) rfl (fun K hK => ?_)
      go_simp
      go_at_call 15
      refine (awake_any _).mono ?_; rintro _ wy ⟨rfl, hbq⟩
      replace hES := hES.call hbq
      replace HS : Hid (Rd wy gv (some ad) (entC e) ∧ Blk wy gv 40 (entC e')) := ⟨hES.x0, hES.blk⟩
      refine hK _ _ ⟨HS.out, ?_⟩
      clear hK K hbq
      refine wpAnyL_takeD (fun _ => True) (i := 1) (v := (.bool true)) (some 93) rfl rfl (by kernel_rfl) (by kernel_rfl) (by kernel_rfl) (fun _ _ _ h => h) (fun _ _ _ _ _ _ => trivial) (fun _ _ _ => Iff.rfl) trivial (Or.inl ⟨by rfl, fun w' hw' => by go_simp⟩) HS.out ?_
      simp only [Act.put, List.setIfInBounds_toArray, List.set_cons_zero, List.set_cons_succ]
      refine wpAnyL_takeD (fun _ => True) (i := 2) (v := (.slice (some ad) 1 cB)) (some 94) rfl rfl (by kernel_rfl) (by kernel_rfl) (by kernel_rfl) (fun _ _ _ h => h) (fun _ _ _ _ _ _ => trivial) (fun _ _ _ => Iff.rfl) trivial (Or.inl ⟨by rfl, fun w' hw' => by go_simp⟩) HS.out ?_
      simp only [Act.put, List.setIfInBounds_toArray, List.set_cons_zero, List.set_cons_succ]
      refine wpAnyL_takeD (fun _ => True) (i := 3) (v := (.pointer (some ad))) (some 95) rfl rfl (by kernel_rfl) (by kernel_rfl) (by kernel_rfl) (fun _ _ _ h => h) (fun _ _ _ _ _ _ => trivial) (fun _ _ _ => Iff.rfl) trivial (Or.inl ⟨by rfl, fun w' hw' => by go_simp⟩) HS.out ?_
      simp only [Act.put, List.setIfInBounds_toArray, List.set_cons_zero, List.set_cons_succ]
      refine wpAnyL_takeD (fun _ => True) (i := 4) (v := (.agg #[.int .i64 e.id, .int .i64 e.rows, .int .i64 e.live, .bool e.lo.key.null, .int .i64 e.lo.key.n, .string e.lo.key.s, .int .i64 e.lo.seq, .bool e.hi.key.null, .int .i64 e.hi.key.n, .string e.hi.key.s, .int .i64 e.hi.seq, .int .i64 e.del])) (some 96) rfl rfl (by kernel_rfl) (by kernel_rfl) (by kernel_rfl) (fun _ _ _ h => h) (fun _ _ _ _ _ _ => trivial) (fun _ _ _ => Iff.rfl) trivial (Or.inl ⟨by rfl, fun w' hw' => by obtain ⟨l, _, hl⟩ := hw'; obtain ⟨hx, hy⟩ := hl; obtain ⟨_, d0, d1, d2, d3, d4, d5, d6, d7, d8, d9, d10, d11⟩ := hx.ent0; have y0 := hy.cellAt 0 rfl; have y1 := hy.cellAt 1 rfl; have y2 := hy.cellAt 2 rfl; have y3 := hy.cellAt 3 rfl; have y4 := hy.cellAt 4 rfl; have y5 := hy.cellAt 5 rfl; have y6 := hy.cellAt 6 rfl; have y7 := hy.cellAt 7 rfl; have y8 := hy.cellAt 8 rfl; have y9 := hy.cellAt 9 rfl; have y10 := hy.cellAt 10 rfl; have y11 := hy.cellAt 11 rfl; go_simp⟩) HS.out ?_
      simp only [Act.put, List.setIfInBounds_toArray, List.set_cons_zero, List.set_cons_succ]
      refine wpAnyL_one (i := 5) (by decide +kernel) ?_
      refine wpOp_go (o := _) rfl (fun K hK => ?_)
      go_simp
      go_at_call 17
      refine (entry_any e _).mono ?_; rintro _ wy ⟨rfl, hbq⟩
      replace hES := hES.call hbq
      replace HS : Hid (Rd wy gv (some ad) (entC e) ∧ Blk wy gv 40 (entC e')) := ⟨hES.x0, hES.blk⟩
      refine hK _ _ ⟨HS.out, ?_⟩
      clear hK K hbq
      rw [HB0.out]
      refine wpAnyL_takeD (fun _ => True) (i := 6) (v := (.bool true)) (some 98) rfl rfl (by kernel_rfl) (by kernel_rfl) (by kernel_rfl) (fun _ _ _ h => h) (fun _ _ _ _ _ _ => trivial) (fun _ _ _ => Iff.rfl) trivial (Or.inl ⟨by rfl, fun w' hw' => by go_simp⟩) HS.out ?_
      simp only [Act.put, List.setIfInBounds_toArray, List.set_cons_zero, List.set_cons_succ]
      refine wpAnyL_takeD (fun _ => True) (i := 7) (v := (.bool true)) (some 99) rfl rfl (by kernel_rfl) (by kernel_rfl) (by kernel_rfl) (fun _ _ _ h => h) (fun _ _ _ _ _ _ => trivial) (fun _ _ _ => Iff.rfl) trivial (Or.inl ⟨by rfl, fun w' hw' => by go_simp⟩) HS.out ?_
      simp only [Act.put, List.setIfInBounds_toArray, List.set_cons_zero, List.set_cons_succ]
      refine wpAnyL_takeD (fun _ => True) (i := 8) (v := (.agg #[.int .i64 e'.id, .int .i64 e'.rows, .int .i64 e'.live, .bool e'.lo.key.null, .int .i64 e'.lo.key.n, .string e'.lo.key.s, .int .i64 e'.lo.seq, .bool e'.hi.key.null, .int .i64 e'.hi.key.n, .string e'.hi.key.s, .int .i64 e'.hi.seq, .int .i64 e'.del])) (some 100) rfl rfl (by kernel_rfl) (by kernel_rfl) (by kernel_rfl) (fun _ _ _ h => h) (fun _ _ _ _ _ _ => trivial) (fun _ _ _ => Iff.rfl) trivial (Or.inl ⟨by rfl, fun w' hw' => by obtain ⟨l, _, hl⟩ := hw'; obtain ⟨hx, hy⟩ := hl; obtain ⟨_, d0, d1, d2, d3, d4, d5, d6, d7, d8, d9, d10, d11⟩ := hx.ent0; have y0 := hy.cellAt 0 rfl; have y1 := hy.cellAt 1 rfl; have y2 := hy.cellAt 2 rfl; have y3 := hy.cellAt 3 rfl; have y4 := hy.cellAt 4 rfl; have y5 := hy.cellAt 5 rfl; have y6 := hy.cellAt 6 rfl; have y7 := hy.cellAt 7 rfl; have y8 := hy.cellAt 8 rfl; have y9 := hy.cellAt 9 rfl; have y10 := hy.cellAt 10 rfl; have y11 := hy.cellAt 11 rfl; go_simp⟩) HS.out ?_
      simp only [Act.put, List.setIfInBounds_toArray, List.set_cons_zero, List.set_cons_succ]
      refine wpAnyL_takeD (fun _ => True) (i := 10) (v := (.agg #[.int .i64 e'.id, .int .i64 e'.rows, .int .i64 e'.live, .bool e'.lo.key.null, .int .i64 e'.lo.key.n, .string e'.lo.key.s, .int .i64 e'.lo.seq, .bool e'.hi.key.null, .int .i64 e'.hi.key.n, .string e'.hi.key.s, .int .i64 e'.hi.seq, .int .i64 e'.del])) (some 102) rfl rfl (by kernel_rfl) (by kernel_rfl) (by kernel_rfl) (fun _ _ _ h => h) (fun _ _ _ _ _ _ => trivial) (fun _ _ _ => Iff.rfl) trivial (Or.inl ⟨by rfl, fun w' hw' => by obtain ⟨l, _, hl⟩ := hw'; obtain ⟨hx, hy⟩ := hl; obtain ⟨_, d0, d1, d2, d3, d4, d5, d6, d7, d8, d9, d10, d11⟩ := hx.ent0; have y0 := hy.cellAt 0 rfl; have y1 := hy.cellAt 1 rfl; have y2 := hy.cellAt 2 rfl; have y3 := hy.cellAt 3 rfl; have y4 := hy.cellAt 4 rfl; have y5 := hy.cellAt 5 rfl; have y6 := hy.cellAt 6 rfl; have y7 := hy.cellAt 7 rfl; have y8 := hy.cellAt 8 rfl; have y9 := hy.cellAt 9 rfl; have y10 := hy.cellAt 10 rfl; have y11 := hy.cellAt 11 rfl; go_simp⟩) HS.out ?_
      simp only [Act.put, List.setIfInBounds_toArray, List.set_cons_zero, List.set_cons_succ]
      refine wpAnyL_one (i := 9) (by decide +kernel) ?_
      refine wpOp_go (o := _) rfl (fun K hK => ?_)
      go_simp
      go_at_call 17
      refine (entry_any e' _).mono ?_; rintro _ wy ⟨rfl, hbq⟩
      replace hES := hES.call hbq
      replace HS : Hid (Rd wy gv (some ad) (entC e) ∧ Blk wy gv 40 (entC e')) := ⟨hES.x0, hES.blk⟩
      refine hK _ _ ⟨HS.out, ?_⟩
      clear hK K hbq
      refine wpAnyL_one (i := 11) (by decide +kernel) ?_
      refine wpOp_go (o := _) rfl (fun K hK => ?_)
      go_simp
      go_at_call 18
      refine (rentry_any e' _).mono ?_; rintro _ wy ⟨rfl, hbq⟩
      replace hES := hES.call hbq
      replace HS : Hid (Rd wy gv (some ad) (entC e) ∧ Blk wy gv 40 (entC e')) := ⟨hES.x0, hES.blk⟩
      refine hK _ _ ⟨HS.out, ?_⟩
      clear hK K hbq
      refine wpAnyL_takeD (fun _ => True) (i := 12) (v := (.bool true)) (some 104) rfl rfl (by kernel_rfl) (by kernel_rfl) (by kernel_rfl) (fun _ _ _ h => h) (fun _ _ _ _ _ _ => trivial) (fun _ _ _ => Iff.rfl) trivial (Or.inl ⟨by rfl, fun w' hw' => by go_simp⟩) HS.out ?_
      simp only [Act.put, List.setIfInBounds_toArray, List.set_cons_zero, List.set_cons_succ]
      refine wpAnyL_takeD (fun _ => True) (i := 13) (v := (.bool true)) (some 105) rfl rfl (by kernel_rfl) (by kernel_rfl) (by kernel_rfl) (fun _ _ _ h => h) (fun _ _ _ _ _ _ => trivial) (fun _ _ _ => Iff.rfl) trivial (Or.inl ⟨by rfl, fun w' hw' => by go_simp⟩) HS.out ?_
      simp only [Act.put, List.setIfInBounds_toArray, List.set_cons_zero, List.set_cons_succ]
      refine wpAnyL_takeD (fun _ => True) (i := 14) (v := (.bool true)) (some 8) rfl rfl (by kernel_rfl) (by kernel_rfl) (by kernel_rfl) (fun _ _ _ h => h) (fun _ _ _ _ _ _ => trivial) (fun _ _ _ => Iff.rfl) trivial (Or.inl ⟨by rfl, fun w' hw' => by go_simp⟩) HS.out ?_
      simp only [Act.put, List.setIfInBounds_toArray, List.set_cons_zero, List.set_cons_succ]
      refine wpAnyL_done (by decide +kernel) ?_ _
      go_wp2
      go_ret
      exact ⟨rfl, hES.bel⟩
    have hsw6 : decide ((sw : Int) = 6) = false := decide_eq_false (by omega)
    have hne6 := hsw
    clear hsw
    have hsw : sw = 7 := by omega
    subst hsw
    go_wp2_with fail
    refine (pick_any v 2 _ (by omega) (by omega)).mono ?_; rintro _ _ ⟨rfl, rfl⟩
    have hk4 := pickN_lt v (show 0 < 2 by omega)
    generalize pickN v 2 = k4 at *
    obtain ⟨q, hq⟩ : ∃ q, 64 + k4 = q := ⟨_, rfl⟩
    have hw1 : IntKind.i64.wrap (64 + (k4 : Int)) = (q : Int) := by rw [IntWalk.i64_in _ (by omega)]; omega
    have hq6 : q ≤ 1000000 := by omega
    have hmk := mk_zero q hq6 w3
    have hcv := cv_zero q w3
    have hLa := hES.alloc (.cells (Array.replicate q (.int .u8 0)) 5)
    clear hq hES
    generalize w3.alloc (.cells (Array.replicate q (.int .u8 0)) 5) = wa at *
    have f3 := hLa.blk.cellAt 7 rfl
    have f4 := hLa.blk.cellAt 8 rfl
    have f5 := hLa.blk.cellAt 9 rfl
    have ff := hLa.blk.frozen
    have hES2 : ES w (((wa.setCell ⟨gv, 7, none⟩ (.bool false)).setCell ⟨gv, 8, none⟩ (.int .i64 0)).setCell ⟨gv, 9, none⟩ (.string (zerosN q))) gv ad e { e with hi := { e.hi with key := ⟨false, 0, zerosN q⟩ } } := hLa.set3 7 8 9 _ _ _ rfl
    go_upto_region 23 with fail
    clear f3 f4 f5 ff hLa hmk hcv
    generalize ((wa.setCell ⟨gv, 7, none⟩ (.bool false)).setCell ⟨gv, 8, none⟩ (.int .i64 0)).setCell ⟨gv, 9, none⟩ (.string (zerosN q)) = wz at *
    obtain ⟨e', hES⟩ : ∃ e', ES w wz gv ad e e' := ⟨_, hES2⟩
    clear hES2
    refine wp_region_L (fun _ w' => Rd w' gv (some ad) (entC e) ∧ Blk w' gv 40 (entC e')) (by kernel_rfl) ?_
    replace hES := hES.call (Below.drew (Below.refl wz.heap.size wz))
    have HS : Hid (Rd wz.drew gv (some ad) (entC e) ∧ Blk wz.drew gv 40 (entC e')) := ⟨hES.x0, hES.blk⟩
    generalize wz.drew = wy at *
    refine wpAnyL_one (i := 0) (by decide +kernel) ?_
    refine wpOp_go (o := _) rfl (fun K hK => ?_)
    go_simp
    go_at_call 15
    refine (awake_any _).mono ?_; rintro _ wy ⟨rfl, hbq⟩
    replace hES := hES.call hbq
    replace HS : Hid (Rd wy gv (some ad) (entC e) ∧ Blk wy gv 40 (entC e')) := ⟨hES.x0, hES.blk⟩
    refine hK _ _ ⟨HS.out, ?_⟩
    clear hK K hbq
    refine wpAnyL_takeD (fun _ => True) (i := 1) (v := (.bool true)) (some 93) rfl rfl (by kernel_rfl) (by kernel_rfl) (by kernel_rfl) (fun _ _ _ h => h) (fun _ _ _ _ _ _ => trivial) (fun _ _ _ => Iff.rfl) trivial (Or.inl ⟨by rfl, fun w' hw' => by go_simp⟩) HS.out ?_
    simp only [Act.put, List.setIfInBounds_toArray, List.set_cons_zero, List.set_cons_succ]
    refine wpAnyL_takeD (fun _ => True) (i := 2) (v := (.slice (some ad) 1 cB)) (some 94) rfl rfl (by kernel_rfl) (by kernel_rfl) (by kernel_rfl) (fun _ _ _ h => h) (fun _ _ _ _ _ _ => trivial) (fun _ _ _ => Iff.rfl) trivial (Or.inl ⟨by rfl, fun w' hw' => by go_simp⟩) HS.out ?_
    simp only [Act.put, List.setIfInBounds_toArray, List.set_cons_zero, List.set_cons_succ]
    refine wpAnyL_takeD (fun _ => True) (i := 3) (v := (.pointer (some ad))) (some 95) rfl rfl (by kernel_rfl) (by kernel_rfl) (by kernel_rfl) (fun _ _ _ h => h) (fun _ _ _ _ _ _ => trivial) (fun _ _ _ => Iff.rfl) trivial (Or.inl ⟨by rfl, fun w' hw' => by go_simp⟩) HS.out ?_
    simp only [Act.put, List.setIfInBounds_toArray, List.set_cons_zero, List.set_cons_succ]
    refine wpAnyL_takeD (fun _ => True) (i := 4) (v := (.agg #[.int .i64 e.id, .int .i64 e.rows, .int .i64 e.live, .bool e.lo.key.null, .int .i64 e.lo.key.n, .string e.lo.key.s, .int .i64 e.lo.seq, .bool e.hi.key.null, .int .i64 e.hi.key.n, .string e.hi.key.s, .int .i64 e.hi.seq, .int .i64 e.del])) (some 96) rfl rfl (by kernel_rfl) (by kernel_rfl) (by kernel_rfl) (fun _ _ _ h => h) (fun _ _ _ _ _ _ => trivial) (fun _ _ _ => Iff.rfl) trivial (Or.inl ⟨by rfl, fun w' hw' => by obtain ⟨l, _, hl⟩ := hw'; obtain ⟨hx, hy⟩ := hl; obtain ⟨_, d0, d1, d2, d3, d4, d5, d6, d7, d8, d9, d10, d11⟩ := hx.ent0; have y0 := hy.cellAt 0 rfl; have y1 := hy.cellAt 1 rfl; have y2 := hy.cellAt 2 rfl; have y3 := hy.cellAt 3 rfl; have y4 := hy.cellAt 4 rfl; have y5 := hy.cellAt 5 rfl; have y6 := hy.cellAt 6 rfl; have y7 := hy.cellAt 7 rfl; have y8 := hy.cellAt 8 rfl; have y9 := hy.cellAt 9 rfl; have y10 := hy.cellAt 10 rfl; have y11 := hy.cellAt 11 rfl; go_simp⟩) HS.out ?_
    simp only [Act.put, List.setIfInBounds_toArray, List.set_cons_zero, List.set_cons_succ]
    refine wpAnyL_one (i := 5) (by decide +kernel) ?_
    refine wpOp_go (o := _) rfl (fun K hK => ?_)
    go_simp
    go_at_call 17
    refine (entry_any e _).mono ?_; rintro _ wy ⟨rfl, hbq⟩
    replace hES := hES.call hbq
    replace HS : Hid (Rd wy gv (some ad) (entC e) ∧ Blk wy gv 40 (entC e')) := ⟨hES.x0, hES.blk⟩
    refine hK _ _ ⟨HS.out, ?_⟩
    clear hK K hbq
    rw [HB0.out]
    refine wpAnyL_takeD (fun _ => True) (i := 6) (v := (.bool true)) (some 98) rfl rfl (by kernel_rfl) (by kernel_rfl) (by kernel_rfl) (fun _ _ _ h => h) (fun _ _ _ _ _ _ => trivial) (fun _ _ _ => Iff.rfl) trivial (Or.inl ⟨by rfl, fun w' hw' => by go_simp⟩) HS.out ?_
    simp only [Act.put, List.setIfInBounds_toArray, List.set_cons_zero, List.set_cons_succ]
    refine wpAnyL_takeD (fun _ => True) (i := 7) (v := (.bool true)) (some 99) rfl rfl (by kernel_rfl) (by kernel_rfl) (by kernel_rfl) (fun _ _ _ h => h) (fun _ _ _ _ _ _ => trivial) (fun _ _ _ => Iff.rfl) trivial (Or.inl ⟨by rfl, fun w' hw' => by go_simp⟩) HS.out ?_
    simp only [Act.put, List.setIfInBounds_toArray, List.set_cons_zero, List.set_cons_succ]
    refine wpAnyL_takeD (fun _ => True) (i := 8) (v := (.agg #[.int .i64 e'.id, .int .i64 e'.rows, .int .i64 e'.live, .bool e'.lo.key.null, .int .i64 e'.lo.key.n, .string e'.lo.key.s, .int .i64 e'.lo.seq, .bool e'.hi.key.null, .int .i64 e'.hi.key.n, .string e'.hi.key.s, .int .i64 e'.hi.seq, .int .i64 e'.del])) (some 100) rfl rfl (by kernel_rfl) (by kernel_rfl) (by kernel_rfl) (fun _ _ _ h => h) (fun _ _ _ _ _ _ => trivial) (fun _ _ _ => Iff.rfl) trivial (Or.inl ⟨by rfl, fun w' hw' => by obtain ⟨l, _, hl⟩ := hw'; obtain ⟨hx, hy⟩ := hl; obtain ⟨_, d0, d1, d2, d3, d4, d5, d6, d7, d8, d9, d10, d11⟩ := hx.ent0; have y0 := hy.cellAt 0 rfl; have y1 := hy.cellAt 1 rfl; have y2 := hy.cellAt 2 rfl; have y3 := hy.cellAt 3 rfl; have y4 := hy.cellAt 4 rfl; have y5 := hy.cellAt 5 rfl; have y6 := hy.cellAt 6 rfl; have y7 := hy.cellAt 7 rfl; have y8 := hy.cellAt 8 rfl; have y9 := hy.cellAt 9 rfl; have y10 := hy.cellAt 10 rfl; have y11 := hy.cellAt 11 rfl; go_simp⟩) HS.out ?_
    simp only [Act.put, List.setIfInBounds_toArray, List.set_cons_zero, List.set_cons_succ]
    refine wpAnyL_takeD (fun _ => True) (i := 10) (v := (.agg #[.int .i64 e'.id, .int .i64 e'.rows, .int .i64 e'.live, .bool e'.lo.key.null, .int .i64 e'.lo.key.n, .string e'.lo.key.s, .int .i64 e'.lo.seq, .bool e'.hi.key.null, .int .i64 e'.hi.key.n, .string e'.hi.key.s, .int .i64 e'.hi.seq, .int .i64 e'.del])) (some 102) rfl rfl (by kernel_rfl) (by kernel_rfl) (by kernel_rfl) (fun _ _ _ h => h) (fun _ _ _ _ _ _ => trivial) (fun _ _ _ => Iff.rfl) trivial (Or.inl ⟨by rfl, fun w' hw' => by obtain ⟨l, _, hl⟩ := hw'; obtain ⟨hx, hy⟩ := hl; obtain ⟨_, d0, d1, d2, d3, d4, d5, d6, d7, d8, d9, d10, d11⟩ := hx.ent0; have y0 := hy.cellAt 0 rfl; have y1 := hy.cellAt 1 rfl; have y2 := hy.cellAt 2 rfl; have y3 := hy.cellAt 3 rfl; have y4 := hy.cellAt 4 rfl; have y5 := hy.cellAt 5 rfl; have y6 := hy.cellAt 6 rfl; have y7 := hy.cellAt 7 rfl; have y8 := hy.cellAt 8 rfl; have y9 := hy.cellAt 9 rfl; have y10 := hy.cellAt 10 rfl; have y11 := hy.cellAt 11 rfl; go_simp⟩) HS.out ?_
    simp only [Act.put, List.setIfInBounds_toArray, List.set_cons_zero, List.set_cons_succ]
    refine wpAnyL_one (i := 9) (by decide +kernel) ?_
    refine wpOp_go (o := _) rfl (fun K hK => ?_)
    go_simp
    go_at_call 17
    refine (entry_any e' _).mono ?_; rintro _ wy ⟨rfl, hbq⟩
    replace hES := hES.call hbq
    replace HS : Hid (Rd wy gv (some ad) (entC e) ∧ Blk wy gv 40 (entC e')) := ⟨hES.x0, hES.blk⟩
    refine hK _ _ ⟨HS.out, ?_⟩
    clear hK K hbq
    refine wpAnyL_one (i := 11) (by decide +kernel) ?_
    refine wpOp_go (o := _) rfl (fun K hK => ?_)
    go_simp
    go_at_call 18
    refine (rentry_any e' _).mono ?_; rintro _ wy ⟨rfl, hbq⟩
    replace hES := hES.call hbq
    replace HS : Hid (Rd wy gv (some ad) (entC e) ∧ Blk wy gv 40 (entC e')) := ⟨hES.x0, hES.blk⟩
    refine hK _ _ ⟨HS.out, ?_⟩
    clear hK K hbq
    refine wpAnyL_takeD (fun _ => True) (i := 12) (v := (.bool true)) (some 104) rfl rfl (by kernel_rfl) (by kernel_rfl) (by kernel_rfl) (fun _ _ _ h => h) (fun _ _ _ _ _ _ => trivial) (fun _ _ _ => Iff.rfl) trivial (Or.inl ⟨by rfl, fun w' hw' => by go_simp⟩) HS.out ?_
    simp only [Act.put, List.setIfInBounds_toArray, List.set_cons_zero, List.set_cons_succ]
    refine wpAnyL_takeD (fun _ => True) (i := 13) (v := (.bool true)) (some 105) rfl rfl (by kernel_rfl) (by kernel_rfl) (by kernel_rfl) (fun _ _ _ h => h) (fun _ _ _ _ _ _ => trivial) (fun _ _ _ => Iff.rfl) trivial (Or.inl ⟨by rfl, fun w' hw' => by go_simp⟩) HS.out ?_
    simp only [Act.put, List.setIfInBounds_toArray, List.set_cons_zero, List.set_cons_succ]
    refine wpAnyL_takeD (fun _ => True) (i := 14) (v := (.bool true)) (some 8) rfl rfl (by kernel_rfl) (by kernel_rfl) (by kernel_rfl) (fun _ _ _ h => h) (fun _ _ _ _ _ _ => trivial) (fun _ _ _ => Iff.rfl) trivial (Or.inl ⟨by rfl, fun w' hw' => by go_simp⟩) HS.out ?_
    simp only [Act.put, List.setIfInBounds_toArray, List.set_cons_zero, List.set_cons_succ]
    refine wpAnyL_done (by decide +kernel) ?_ _
    go_wp2
    go_ret
    exact ⟨rfl, hES.bel⟩

end Go.Proofs.Ytgacjpkgpegcdaa
