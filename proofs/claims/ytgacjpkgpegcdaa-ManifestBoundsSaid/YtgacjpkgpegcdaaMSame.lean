/-
  keep.Same at lists of numbers and of entries, keep.SameRecord and keep.SameRecords, at equal lists.
-/
import Derived.Test.YtgacjpkgpegcdaaMScan
import Derived.Test.YtgacjpkgpegcdaaMChk2
namespace Go.Proofs.Ytgacjpkgpegcdaa
open Go.RowKit

set_option maxRecDepth 100000 in
set_option maxHeartbeats 400000 in
theorem same_int (A B : Option Addr) (n c d : Nat) (zs : List Int) (w : World) (hA : Rd w w.heap.size A (zs.map Iv)) (hB : Rd w w.heap.size B (zs.map Iv)) (hn : zs.length = n) (hm : n ≤ 1000000000000) :
    Calls Try.prog 78 #[.slice A n c, .slice B n d] w fun e w' => e = .returned (.bool true) ∧ ∃ q, w.drewN q = w' := by
  have HN := Lib.hid hn
  clear hn
  go_enter Try.func78, Try.ntmps78
  go_wp2
  go_loopw [13] (fun a wr => ∃ k q : Nat, a = .int .i64 (k : Int) ∧ k ≤ n ∧ wr = w.drewN q) (fun a _ => n - (intOf a).toNat)
  case atStart => exact ⟨0, 0, rfl, by omega, rfl⟩
  case round =>
    obtain ⟨k, q, rfl, hk, rfl⟩ := hrel
    by_cases hlt : k < n
    · obtain ⟨z, hz⟩ : ∃ z, zs[k]? = some z := ⟨_, List.getElem?_eq_getElem (by rw [HN.out]; exact hlt)⟩
      obtain ⟨ad, rfl, _, hc⟩ := hA.at_ (j := k) (u := Iv z) (by rw [List.getElem?_map, hz]; rfl)
      obtain ⟨bd, rfl, _, hc'⟩ := hB.at_ (j := k) (u := Iv z) (by rw [List.getElem?_map, hz]; rfl)
      clear hz
      go_wp2
      go_quiet (fail)
      go_wp2
      go_roundw
      case rel => exact ⟨k + 1, _, by go_num, by omega, rfl⟩
      case measure => simp [intOf]; omega
    · go_wp2
      go_ret
      exact ⟨rfl, q, rfl⟩
set_option maxRecDepth 100000 in
set_option maxHeartbeats 1000000 in
theorem same_ent (A B : Option Addr) (n c d : Nat) (L : List En) (w : World) (hA : Rd w w.heap.size A (L.flatMap entC)) (hB : Rd w w.heap.size B (L.flatMap entC)) (hn : L.length = n) (hm : n ≤ 1000000000000) :
    Calls Try.prog 77 #[.slice A n c, .slice B n d] w fun e w' => e = .returned (.bool true) ∧ ∃ q, w.drewN q = w' := by
  have HN := Lib.hid hn
  clear hn
  go_enter Try.func77, Try.ntmps77
  go_wp2
  go_loopw [13] (fun a wr => ∃ k q : Nat, a = .int .i64 (k : Int) ∧ k ≤ n ∧ wr = w.drewN q) (fun a _ => n - (intOf a).toNat)
  case atStart => exact ⟨0, 0, rfl, by omega, rfl⟩
  case round =>
    obtain ⟨k, q, rfl, hk, rfl⟩ := hrel
    by_cases hlt : k < n
    · obtain ⟨z, hz⟩ : ∃ z, L[k]? = some z := ⟨_, List.getElem?_eq_getElem (by rw [HN.out]; exact hlt)⟩
      obtain ⟨ad, rfl, _, c0, c1, c2, c3, c4, c5, c6, c7, c8, c9, c10, c11⟩ := hA.ent hz
      obtain ⟨bd, rfl, _, d0, d1, d2, d3, d4, d5, d6, d7, d8, d9, d10, d11⟩ := hB.ent hz
      clear hz
      go_wp2
      go_quiet (fail)
      go_wp2
      go_roundw
      case rel => exact ⟨k + 1, _, by go_num, by omega, rfl⟩
      case measure => simp [intOf]; omega
    · go_wp2
      go_ret
      exact ⟨rfl, q, rfl⟩
set_option maxRecDepth 100000 in
set_option maxHeartbeats 1000000 in
theorem same_rec (r : Rc) (A : Option Addr) (n c : Nat) (A2 : Option Addr) (n2 c2 : Nat) (B : Option Addr) (d : Nat) (B2 : Option Addr) (d2 : Nat) (w : World) (h1 : RcAt w r A n c A2 n2 c2) (h2 : RcAt w r B n d B2 n2 d2) (hs2 : n2 ≤ 1000000000000) :
    Calls Try.prog 56 #[Kv r A n c A2 n2 c2, Kv r B n d B2 n2 d2] w fun e w' => e = .returned (.bool true) ∧ Below w.heap.size w w' := by
  have hsm := h1.sm
  obtain ⟨kd, ve, ns, ni, add, rem⟩ := r
  dsimp only [Kv]
  have hb1 : Below w.heap.size w (w.alloc (.cells #[.int .i64 kd, .int .i64 ve, .int .i64 ns, .int .i64 ni, .slice A n c, .slice A2 n2 c2] 31)) := (Below.refl _ _).alloc (Nat.le_refl _) _
  have hR1 := Blk.new' w 31 #[.int .i64 kd, .int .i64 ve, .int .i64 ns, .int .i64 ni, .slice A n c, .slice A2 n2 c2]
  go_enter Try.func56, Try.ntmps56
  go_upto_region 1 with fail
  have hR2 := Blk.new' (w.alloc (.cells #[.int .i64 kd, .int .i64 ve, .int .i64 ns, .int .i64 ni, .slice A n c, .slice A2 n2 c2] 31)) 31 #[.int .i64 kd, .int .i64 ve, .int .i64 ns, .int .i64 ni, .slice B n d, .slice B2 n2 d2]
  have hsz1 : (w.alloc (.cells #[.int .i64 kd, .int .i64 ve, .int .i64 ns, .int .i64 ni, .slice A n c, .slice A2 n2 c2] 31)).heap.size = w.heap.size + 1 := by simp
  rw [hsz1] at hR2
  have hb2 := hb1.alloc (by rw [hsz1]; omega) (.cells #[.int .i64 kd, .int .i64 ve, .int .i64 ns, .int .i64 ni, .slice B n d, .slice B2 n2 d2] 31)
  replace hR1 := hR1.alloc (.cells #[.int .i64 kd, .int .i64 ve, .int .i64 ns, .int .i64 ni, .slice B n d, .slice B2 n2 d2] 31)
  clear hsz1 hb1
  generalize (w.alloc (.cells #[.int .i64 kd, .int .i64 ve, .int .i64 ns, .int .i64 ni, .slice A n c, .slice A2 n2 c2] 31)).alloc (.cells #[.int .i64 kd, .int .i64 ve, .int .i64 ns, .int .i64 ni, .slice B n d, .slice B2 n2 d2] 31) = w1 at *
  have a0 := hR1.cellAt 0 rfl
  have a1 := hR1.cellAt 1 rfl
  have a2 := hR1.cellAt 2 rfl
  have a3 := hR1.cellAt 3 rfl
  have a4 := hR1.cellAt 4 rfl
  have a5 := hR1.cellAt 5 rfl
  have b0 := hR2.cellAt 0 rfl
  have b1 := hR2.cellAt 1 rfl
  have b2 := hR2.cellAt 2 rfl
  have b3 := hR2.cellAt 3 rfl
  have b4 := hR2.cellAt 4 rfl
  have b5 := hR2.cellAt 5 rfl
  have HA := Lib.hid (same_ent A B n c d add w1 (h1.call hb2).add (h2.call hb2).add h1.ln hsm)
  go_wp2_with fail
  refine HA.out.mono ?_; rintro _ w2 ⟨rfl, q, rfl⟩
  have a4' : (w1.drewN q).cell? _ = _ := a4
  have a5' : (w1.drewN q).cell? _ = _ := a5
  have b5' : (w1.drewN q).cell? _ = _ := b5
  have hb3 : Below w.heap.size w (w1.drewN q) := hb2.trans ⟨rfl, rfl, rfl, Nat.le_refl _, fun _ _ => rfl⟩
  have HC := Lib.hid (same_int A2 B2 n2 c2 d2 rem (w1.drewN q) (h1.call hb3).rem (h2.call hb3).rem h1.ln2 hs2)
  go_wp2_with fail
  refine HC.out.mono ?_; rintro _ w3 ⟨rfl, q3, rfl⟩
  go_wp2
  go_ret
  exact ⟨rfl, hb3.trans ⟨rfl, rfl, rfl, Nat.le_refl _, fun _ _ => rfl⟩⟩
def RecAt6 (w : World) (ad : Addr) (x : RV) : Prop :=
  w.cell? ad = some (.int .i64 x.r.kind) ∧ w.cell? ⟨ad.block, ad.off + 1, none⟩ = some (.int .i64 x.r.version) ∧ w.cell? ⟨ad.block, ad.off + 2, none⟩ = some (.int .i64 x.r.nextSeq) ∧ w.cell? ⟨ad.block, ad.off + 3, none⟩ = some (.int .i64 x.r.nextId) ∧ w.cell? ⟨ad.block, ad.off + 4, none⟩ = some x.v ∧ w.cell? ⟨ad.block, ad.off + 5, none⟩ = some x.v2
theorem RecAt6.call {w w' : World} {ad : Addr} {x : RV} (h : RecAt6 w ad x) (hl : ad.block < w.heap.size) (hb : Below w.heap.size w w') : RecAt6 w' ad x := by
  obtain ⟨h0, h1, h2, h3, h4, h5⟩ := h
  have k : ∀ a : Addr, a.block = ad.block → w'.cell? a = w.cell? a := fun a e => hb.cell (by rw [e]; exact hl)
  exact ⟨(k ad rfl).trans h0, (k ⟨ad.block, ad.off + 1, none⟩ rfl).trans h1, (k ⟨ad.block, ad.off + 2, none⟩ rfl).trans h2, (k ⟨ad.block, ad.off + 3, none⟩ rfl).trans h3, (k ⟨ad.block, ad.off + 4, none⟩ rfl).trans h4, (k ⟨ad.block, ad.off + 5, none⟩ rfl).trans h5⟩
theorem Rd.rec {w : World} {B : Nat} {A : Option Addr} {L : List RV} (h : Rd w B A (L.flatMap recC)) {i : Nat} {x : RV} (hi : L[i]? = some x) : ∃ ad, A = some ad ∧ ad.block < B ∧ RecAt6 w (ad.add (i * 6)) x := by
  have g := fun j hj => flat_get (f := recC) (k := 6) (fun _ => rfl) L i j x hi hj
  obtain ⟨ad, rfl, hb, c0⟩ := h.at_ (j := i * 6) (u := .int .i64 x.r.kind) (by have := g 0 (by omega); rw [Nat.add_zero] at this; rw [this]; rfl)
  have k : ∀ j u, j < 6 → j ≠ 0 → (recC x)[j]? = some u → w.cell? ⟨(ad.add (i * 6)).block, (ad.add (i * 6)).off + j, none⟩ = some u := fun j u h1 h2 h3 => by
    obtain ⟨_, e1, _, c⟩ := h.at_ (j := i * 6 + j) (u := u) (by rw [g j h1]; exact h3)
    cases e1
    rw [add_off _ _ _ h2] at c
    exact c
  exact ⟨ad, rfl, hb, c0, k 1 _ (by omega) (by omega) rfl, k 2 _ (by omega) (by omega) rfl, k 3 _ (by omega) (by omega) rfl, k 4 _ (by omega) (by omega) rfl, k 5 _ (by omega) (by omega) rfl⟩
set_option maxRecDepth 100000 in
set_option maxHeartbeats 1000000 in
theorem same_recs (A B : Option Addr) (n c d : Nat) (xs ys : List RV) (w : World) (hA : RecsAt w A xs) (hB : RecsAt w B ys) (he : xs.map RV.r = ys.map RV.r) (hk : ∀ x ∈ xs, chkR x.r = 0) (hn : xs.length = n) (hm : n ≤ 1000000000000) :
    Calls Try.prog 23 #[.slice A n c, .slice B n d] w fun e w' => e = .returned (.bool true) ∧ Below w.heap.size w w' := by
  have HN := Lib.hid hn
  clear hn
  have HK := Lib.hid hk
  clear hk
  have HE := Lib.hid he
  clear he
  go_enter Try.func23, Try.ntmps23
  go_wp2
  go_loopw [13] (fun a wr => ∃ k : Nat, a = .int .i64 (k : Int) ∧ k ≤ n ∧ Hid (Below w.heap.size w wr)) (fun a _ => n - (intOf a).toNat)
  case atStart => exact ⟨0, rfl, by omega, Below.refl _ _⟩
  case round =>
    obtain ⟨k, rfl, hk, hb⟩ := hrel
    by_cases hlt : k < n
    · obtain ⟨x, hx⟩ : ∃ x, xs[k]? = some x := ⟨_, List.getElem?_eq_getElem (by rw [HN.out]; exact hlt)⟩
      obtain ⟨y, hy⟩ : ∃ y, ys[k]? = some y := ⟨_, List.getElem?_eq_getElem (by have := congrArg List.length HE.out; rw [List.length_map, List.length_map, HN.out] at this; omega)⟩
      have hxy : x.r = y.r := by
        have := congrArg (fun l => l[k]?) HE.out
        simpa [hx, hy] using this
      have hA1 := hA.call hb.out
      have hB1 := hB.call hb.out
      obtain ⟨ad, rfl, la, cx⟩ := hA1.1.rec hx
      obtain ⟨bd, rfl, lb, cy⟩ := hB1.1.rec hy
      have hzx := chk_zero (HK.out x (List.mem_of_getElem? hx))
      obtain ⟨X1, p1, X2, p2, ex1, lx1, ex2, lx2, rx1, rx2⟩ := hA1.2 x (List.mem_of_getElem? hx)
      obtain ⟨Y1, q1, Y2, q2, ey1, ly1, ey2, ly2, ry1, ry2⟩ := hB1.2 y (List.mem_of_getElem? hy)
      obtain ⟨xr, xv, xv2⟩ := x
      obtain ⟨yr, yv, yv2⟩ := y
      dsimp only at hxy ex1 ex2 ey1 ey2 lx1 lx2 ly1 ly2 rx1 rx2 ry1 ry2 hzx
      subst hxy
      subst ex1
      subst ex2
      subst ey1
      subst ey2
      have hcall := Lib.hid (fun w2 (hb2 : Below wr.heap.size wr w2) => same_rec xr X1 xr.add.length p1 X2 xr.rem.length p2 Y1 q1 Y2 q2 w2 (RcAt.call ⟨rx1, rx2, rfl, rfl, lx1, lx2, by omega, by omega⟩ hb2) (RcAt.call ⟨ry1, ry2, rfl, rfl, ly1, ly2, by omega, by omega⟩ hb2) (by omega))
      clear hx hy hzx rx1 rx2 ry1 ry2
      go_upto_region 6 with fail
      refine wp_region_L (fun _ w' => Below wr.heap.size wr w' ∧ RecAt6 w' (ad.add (k * 6)) ⟨xr, .slice X1 xr.add.length p1, .slice X2 xr.rem.length p2⟩ ∧ RecAt6 w' (bd.add (k * 6)) ⟨xr, .slice Y1 xr.add.length q1, .slice Y2 xr.rem.length q2⟩) (by kernel_rfl) ?_
      have HS : Hid (Below wr.heap.size wr wr.drew ∧ RecAt6 wr.drew (ad.add (k * 6)) ⟨xr, .slice X1 xr.add.length p1, .slice X2 xr.rem.length p2⟩ ∧ RecAt6 wr.drew (bd.add (k * 6)) ⟨xr, .slice Y1 xr.add.length q1, .slice Y2 xr.rem.length q2⟩) := ⟨Below.drew (Below.refl _ _), cx, cy⟩
      clear cx cy
      generalize wr.drew = wy at *
      refine wpAnyL_takeD (fun _ => True) (i := 0) (v := (.slice (some ad) n c)) (some 16) rfl rfl (by kernel_rfl) (by kernel_rfl) (by kernel_rfl) (fun _ _ _ h => h) (fun _ _ _ _ _ _ => trivial) (fun _ _ _ => Iff.rfl) trivial (Or.inl ⟨by rfl, fun w' hw' => by obtain ⟨l, _, hl⟩ := hw'; obtain ⟨_, ⟨x0, x1, x2, x3, x4, x5⟩, ⟨y0, y1, y2, y3, y4, y5⟩⟩ := hl; go_simp⟩) HS.out ?_
      simp only [Act.put, List.setIfInBounds_toArray, List.set_cons_zero, List.set_cons_succ]
      refine wpAnyL_takeD (fun _ => True) (i := 1) (v := (.int .i64 (k : Int))) (some 17) rfl rfl (by kernel_rfl) (by kernel_rfl) (by kernel_rfl) (fun _ _ _ h => h) (fun _ _ _ _ _ _ => trivial) (fun _ _ _ => Iff.rfl) trivial (Or.inl ⟨by rfl, fun w' hw' => by obtain ⟨l, _, hl⟩ := hw'; obtain ⟨_, ⟨x0, x1, x2, x3, x4, x5⟩, ⟨y0, y1, y2, y3, y4, y5⟩⟩ := hl; go_simp⟩) HS.out ?_
      simp only [Act.put, List.setIfInBounds_toArray, List.set_cons_zero, List.set_cons_succ]
      refine wpAnyL_takeD (fun _ => True) (i := 4) (v := (.slice (some bd) n d)) (some 20) rfl rfl (by kernel_rfl) (by kernel_rfl) (by kernel_rfl) (fun _ _ _ h => h) (fun _ _ _ _ _ _ => trivial) (fun _ _ _ => Iff.rfl) trivial (Or.inl ⟨by rfl, fun w' hw' => by obtain ⟨l, _, hl⟩ := hw'; obtain ⟨_, ⟨x0, x1, x2, x3, x4, x5⟩, ⟨y0, y1, y2, y3, y4, y5⟩⟩ := hl; go_simp⟩) HS.out ?_
      simp only [Act.put, List.setIfInBounds_toArray, List.set_cons_zero, List.set_cons_succ]
      refine wpAnyL_takeD (fun _ => True) (i := 5) (v := (.int .i64 (k : Int))) (some 21) rfl rfl (by kernel_rfl) (by kernel_rfl) (by kernel_rfl) (fun _ _ _ h => h) (fun _ _ _ _ _ _ => trivial) (fun _ _ _ => Iff.rfl) trivial (Or.inl ⟨by rfl, fun w' hw' => by obtain ⟨l, _, hl⟩ := hw'; obtain ⟨_, ⟨x0, x1, x2, x3, x4, x5⟩, ⟨y0, y1, y2, y3, y4, y5⟩⟩ := hl; go_simp⟩) HS.out ?_
      simp only [Act.put, List.setIfInBounds_toArray, List.set_cons_zero, List.set_cons_succ]
      refine wpAnyL_takeD (fun _ => True) (i := 2) (v := (.pointer (some (ad.add (k * 6))))) (some 18) rfl rfl (by kernel_rfl) (by kernel_rfl) (by kernel_rfl) (fun _ _ _ h => h) (fun _ _ _ _ _ _ => trivial) (fun _ _ _ => Iff.rfl) trivial (Or.inl ⟨by rfl, fun w' hw' => by obtain ⟨l, _, hl⟩ := hw'; obtain ⟨_, ⟨x0, x1, x2, x3, x4, x5⟩, ⟨y0, y1, y2, y3, y4, y5⟩⟩ := hl; go_simp⟩) HS.out ?_
      simp only [Act.put, List.setIfInBounds_toArray, List.set_cons_zero, List.set_cons_succ]
      refine wpAnyL_takeD (fun _ => True) (i := 6) (v := (.pointer (some (bd.add (k * 6))))) (some 22) rfl rfl (by kernel_rfl) (by kernel_rfl) (by kernel_rfl) (fun _ _ _ h => h) (fun _ _ _ _ _ _ => trivial) (fun _ _ _ => Iff.rfl) trivial (Or.inl ⟨by rfl, fun w' hw' => by obtain ⟨l, _, hl⟩ := hw'; obtain ⟨_, ⟨x0, x1, x2, x3, x4, x5⟩, ⟨y0, y1, y2, y3, y4, y5⟩⟩ := hl; go_simp⟩) HS.out ?_
      simp only [Act.put, List.setIfInBounds_toArray, List.set_cons_zero, List.set_cons_succ]
      refine wpAnyL_takeD (fun _ => True) (i := 3) (v := (.agg #[.int .i64 xr.kind, .int .i64 xr.version, .int .i64 xr.nextSeq, .int .i64 xr.nextId, .slice X1 xr.add.length p1, .slice X2 xr.rem.length p2])) (some 19) rfl rfl (by kernel_rfl) (by kernel_rfl) (by kernel_rfl) (fun _ _ _ h => h) (fun _ _ _ _ _ _ => trivial) (fun _ _ _ => Iff.rfl) trivial (Or.inl ⟨by rfl, fun w' hw' => by obtain ⟨l, _, hl⟩ := hw'; obtain ⟨_, ⟨x0, x1, x2, x3, x4, x5⟩, ⟨y0, y1, y2, y3, y4, y5⟩⟩ := hl; go_simp⟩) HS.out ?_
      simp only [Act.put, List.setIfInBounds_toArray, List.set_cons_zero, List.set_cons_succ]
      refine wpAnyL_takeD (fun _ => True) (i := 7) (v := (.agg #[.int .i64 xr.kind, .int .i64 xr.version, .int .i64 xr.nextSeq, .int .i64 xr.nextId, .slice Y1 xr.add.length q1, .slice Y2 xr.rem.length q2])) (some 23) rfl rfl (by kernel_rfl) (by kernel_rfl) (by kernel_rfl) (fun _ _ _ h => h) (fun _ _ _ _ _ _ => trivial) (fun _ _ _ => Iff.rfl) trivial (Or.inl ⟨by rfl, fun w' hw' => by obtain ⟨l, _, hl⟩ := hw'; obtain ⟨_, ⟨x0, x1, x2, x3, x4, x5⟩, ⟨y0, y1, y2, y3, y4, y5⟩⟩ := hl; go_simp⟩) HS.out ?_
      simp only [Act.put, List.setIfInBounds_toArray, List.set_cons_zero, List.set_cons_succ]
      refine wpAnyL_one (i := 8) (by decide +kernel) ?_
      refine wpOp_go (o := _) rfl (fun K hK => ?_)
      go_simp
      go_at_call 56
      refine (hcall.out _ HS.out.1).mono ?_; rintro _ w2 ⟨rfl, hb2⟩
      have HS2 : Hid (Below wr.heap.size wr w2 ∧ RecAt6 w2 (ad.add (k * 6)) ⟨xr, .slice X1 xr.add.length p1, .slice X2 xr.rem.length p2⟩ ∧ RecAt6 w2 (bd.add (k * 6)) ⟨xr, .slice Y1 xr.add.length q1, .slice Y2 xr.rem.length q2⟩) := ⟨bt HS.out.1 hb2, HS.out.2.1.call (by rw [block_of_add]; exact Nat.lt_of_lt_of_le la HS.out.1.size) hb2, HS.out.2.2.call (by rw [block_of_add]; exact Nat.lt_of_lt_of_le lb HS.out.1.size) hb2⟩
      refine hK _ _ ⟨HS2.out, ?_⟩
      clear hK K hb2 HS
      replace HS := HS2
      refine wpAnyL_takeD (fun _ => True) (i := 9) (v := (.bool false)) (some 25) rfl rfl (by kernel_rfl) (by kernel_rfl) (by kernel_rfl) (fun _ _ _ h => h) (fun _ _ _ _ _ _ => trivial) (fun _ _ _ => Iff.rfl) trivial (Or.inl ⟨by rfl, fun w' hw' => by obtain ⟨l, _, hl⟩ := hw'; obtain ⟨_, ⟨x0, x1, x2, x3, x4, x5⟩, ⟨y0, y1, y2, y3, y4, y5⟩⟩ := hl; go_simp⟩) HS.out ?_
      simp only [Act.put, List.setIfInBounds_toArray, List.set_cons_zero, List.set_cons_succ]
      refine wpAnyL_done (by decide +kernel) ?_ _
      have hb3 := bt hb.out HS.out.1
      go_wp2
      go_roundw
      case rel => exact ⟨k + 1, by go_num, by omega, hb3⟩
      case measure => simp [intOf]; omega
    · go_wp2
      go_ret
      exact ⟨rfl, hb.out⟩

end Go.Proofs.Ytgacjpkgpegcdaa
