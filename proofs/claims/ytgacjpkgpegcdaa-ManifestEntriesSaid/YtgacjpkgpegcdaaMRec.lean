/-
  keep.Record.
-/
import Derived.Test.YtgacjpkgpegcdaaMRecA
namespace Go.Proofs.Ytgacjpkgpegcdaa
open Go.RowKit

set_option maxRecDepth 100000 in
set_option maxHeartbeats 4000000 in
theorem record_any (ve ns ni : Nat) (E : Option Addr) (q ce : Nat) (es : List En) (A : Option Addr) (n c : Nat) (zs : List Int) (w : World) (hE : Rd w w.heap.size E (es.flatMap entC)) (hq : es.length = q) (hge : ∀ e ∈ es, keysI e) (hes : q ≤ 6) (hve : ve < 50) (hns : ns < 12) (hni : ni < 39)
    (hr : Rd w w.heap.size A (zs.map Iv)) (hn : zs.length = n) (hz : ∀ z ∈ zs, I64 z) (hm : n ≤ 17592186044416) :
    Calls Try.prog 58 #[.agg #[.int .i64 (ve : Int), .int .i64 (ns : Int), .int .i64 (ni : Int), .slice E q ce], .slice A n c] w (RecP 20 w) := by
  have HGE := Lib.hid hge
  have HQ := Lib.hid hq
  have hb0 := (Below.refl w.heap.size w).alloc (Nat.le_refl _) (.cells #[.int .i64 (ve : Int), .int .i64 (ns : Int), .int .i64 (ni : Int), .slice E q ce] 99)
  have hB0 := Blk.new' w 99 #[.int .i64 (ve : Int), .int .i64 (ns : Int), .int .i64 (ni : Int), .slice E q ce]
  have hz0 : (w.alloc (.cells #[.int .i64 (ve : Int), .int .i64 (ns : Int), .int .i64 (ni : Int), .slice E q ce] 99)).heap.size = w.heap.size + 1 := by simp
  have hHS := Lib.hid (fun (w1 : World) (hb : Below w.heap.size w w1) => Src.new (c := c) (hr.call hb) hn hz hm)
  clear hge hr hn hz hq
  go_enter Try.func58, Try.ntmps58
  go_upto_region 1 with fail
  generalize w.alloc (.cells #[.int .i64 (ve : Int), .int .i64 (ns : Int), .int .i64 (ni : Int), .slice E q ce] 99) = wa at *
  have hR0 := Blk.new' wa 31 #[.int .i64 0, .int .i64 0, .int .i64 0, .int .i64 0, .slice none 0 0, .slice none 0 0]
  rw [hz0] at hR0
  have hb1 := bt hb0 ((Below.refl wa.heap.size wa).alloc (Nat.le_refl _) (.cells #[.int .i64 0, .int .i64 0, .int .i64 0, .int .i64 0, .slice none 0 0, .slice none 0 0] 31))
  have hB1 := hB0.alloc (.cells #[.int .i64 0, .int .i64 0, .int .i64 0, .int .i64 0, .slice none 0 0, .slice none 0 0] 31)
  have hz1 : (wa.alloc (.cells #[.int .i64 0, .int .i64 0, .int .i64 0, .int .i64 0, .slice none 0 0, .slice none 0 0] 31)).heap.size = w.heap.size + 2 := by simp [hz0]
  clear hb0 hB0
  generalize wa.alloc (.cells #[.int .i64 0, .int .i64 0, .int .i64 0, .int .i64 0, .slice none 0 0, .slice none 0 0] 31) = wb at *
  have hs0 := hHS.out _ hb1
  have hb2 := bt hb1 ((Below.refl wb.heap.size wb).alloc (Nat.le_refl _) (.cells #[.slice A n c, .int .i64 0] 113))
  have hD : R0 w (wb.alloc (.cells #[.slice A n c, .int .i64 0] 113)) wb.heap.size A n c [.int .i64 (ve : Int), .int .i64 (ns : Int), .int .i64 (ni : Int), .slice E q ce] := ⟨⟨0, hs0⟩, hB1.alloc _, hR0.alloc _, hb2, by omega⟩
  clear hs0 hb1 hb2 hB1 hR0 hz0 hHS
  go_wp2_with fail
  refine (from_any A n c wb).mono ?_; rintro e w' ⟨rfl, rfl⟩
  generalize wb.alloc (.cells #[.slice A n c, .int .i64 0] 113) = wc at *
  generalize wb.heap.size = g at *
  clear hz1
  have hw1 : IntKind.i64.wrap ((ve : Int) + 1) = (ve : Int) + 1 := IntWalk.i64_in _ (by omega)
  go_upto_region 2 with fail
  go_cut [6] (fun y wy => ∃ gx B p1 p2 ni2, y = .pointer (some ⟨gx, 0, none⟩) ∧ p1 ≤ 100 ∧ 0 ≤ p1 ∧ ni2 ≤ 50 ∧ RS w wy g gx B A n c [.int .i64 (ve : Int), .int .i64 (ns : Int), .int .i64 (ni : Int), .slice E q ce] [.int .i64 2, .int .i64 p1, .int .i64 p2, .int .i64 ((ni2 : Nat) : Int), .slice none 0 0, .slice none 0 0] (.slice none 0 0) [] (.slice none 0 0) [])
  case first =>
    refine wp_region_L (fun _ w' => Blk w' w.heap.size 99 [.int .i64 (ve : Int), .int .i64 (ns : Int), .int .i64 (ni : Int), .slice E q ce]) (by kernel_rfl) ?_
    replace hD := hD.drew
    generalize wc.drew = wy at *
    refine wpAnyL_takeD (fun _ => True) (i := 0) (v := (.pointer (some ⟨w.heap.size, 0, none⟩))) (some 14) rfl rfl (by kernel_rfl) (by kernel_rfl) (by kernel_rfl) (fun _ _ _ h => h) (fun _ _ _ _ _ _ => trivial) (fun _ _ _ => Iff.rfl) trivial (Or.inl ⟨by rfl, fun w' hw' => by obtain ⟨l, _, hl⟩ := hw'; have k0 := hl.cellAt 0 rfl; have k1 := hl.cellAt 1 rfl; have k2 := hl.cellAt 2 rfl; go_simp⟩) hD.box ?_
    simp only [Act.put, List.setIfInBounds_toArray, List.set_cons_zero, List.set_cons_succ]
    refine wpAnyL_takeD (fun _ => True) (i := 1) (v := (.int .i64 (ve : Int))) (some 15) rfl rfl (by kernel_rfl) (by kernel_rfl) (by kernel_rfl) (fun _ _ _ h => h) (fun _ _ _ _ _ _ => trivial) (fun _ _ _ => Iff.rfl) trivial (Or.inl ⟨by rfl, fun w' hw' => by obtain ⟨l, _, hl⟩ := hw'; have k0 := hl.cellAt 0 rfl; have k1 := hl.cellAt 1 rfl; have k2 := hl.cellAt 2 rfl; go_simp⟩) hD.box ?_
    simp only [Act.put, List.setIfInBounds_toArray, List.set_cons_zero, List.set_cons_succ]
    refine wpAnyL_takeD (fun _ => True) (i := 2) (v := (.int .i64 ((ve : Int) + 1))) (some 16) rfl rfl (by kernel_rfl) (by kernel_rfl) (by kernel_rfl) (fun _ _ _ h => h) (fun _ _ _ _ _ _ => trivial) (fun _ _ _ => Iff.rfl) trivial (Or.inl ⟨by rfl, fun w' hw' => by obtain ⟨l, _, hl⟩ := hw'; have k0 := hl.cellAt 0 rfl; have k1 := hl.cellAt 1 rfl; have k2 := hl.cellAt 2 rfl; go_simp⟩) hD.box ?_
    simp only [Act.put, List.setIfInBounds_toArray, List.set_cons_zero, List.set_cons_succ]
    refine wpAnyL_takeD (fun _ => True) (i := 3) (v := (.pointer (some ⟨w.heap.size, 1, none⟩))) (some 17) rfl rfl (by kernel_rfl) (by kernel_rfl) (by kernel_rfl) (fun _ _ _ h => h) (fun _ _ _ _ _ _ => trivial) (fun _ _ _ => Iff.rfl) trivial (Or.inl ⟨by rfl, fun w' hw' => by obtain ⟨l, _, hl⟩ := hw'; have k0 := hl.cellAt 0 rfl; have k1 := hl.cellAt 1 rfl; have k2 := hl.cellAt 2 rfl; go_simp⟩) hD.box ?_
    simp only [Act.put, List.setIfInBounds_toArray, List.set_cons_zero, List.set_cons_succ]
    refine wpAnyL_takeD (fun _ => True) (i := 4) (v := (.int .i64 (ns : Int))) (some 18) rfl rfl (by kernel_rfl) (by kernel_rfl) (by kernel_rfl) (fun _ _ _ h => h) (fun _ _ _ _ _ _ => trivial) (fun _ _ _ => Iff.rfl) trivial (Or.inl ⟨by rfl, fun w' hw' => by obtain ⟨l, _, hl⟩ := hw'; have k0 := hl.cellAt 0 rfl; have k1 := hl.cellAt 1 rfl; have k2 := hl.cellAt 2 rfl; go_simp⟩) hD.box ?_
    simp only [Act.put, List.setIfInBounds_toArray, List.set_cons_zero, List.set_cons_succ]
    refine wpAnyL_takeD (fun _ => True) (i := 5) (v := (.pointer (some ⟨g, 0, none⟩))) (some 19) rfl rfl (by kernel_rfl) (by kernel_rfl) (by kernel_rfl) (fun _ _ _ h => h) (fun _ _ _ _ _ _ => trivial) (fun _ _ _ => Iff.rfl) trivial (Or.inl ⟨by rfl, fun w' hw' => by obtain ⟨l, _, hl⟩ := hw'; have k0 := hl.cellAt 0 rfl; have k1 := hl.cellAt 1 rfl; have k2 := hl.cellAt 2 rfl; go_simp⟩) hD.box ?_
    simp only [Act.put, List.setIfInBounds_toArray, List.set_cons_zero, List.set_cons_succ]
    refine wpAnyL_takeD (fun _ => True) (i := 8) (v := (.pointer (some ⟨w.heap.size, 2, none⟩))) (some 22) rfl rfl (by kernel_rfl) (by kernel_rfl) (by kernel_rfl) (fun _ _ _ h => h) (fun _ _ _ _ _ _ => trivial) (fun _ _ _ => Iff.rfl) trivial (Or.inl ⟨by rfl, fun w' hw' => by obtain ⟨l, _, hl⟩ := hw'; have k0 := hl.cellAt 0 rfl; have k1 := hl.cellAt 1 rfl; have k2 := hl.cellAt 2 rfl; go_simp⟩) hD.box ?_
    simp only [Act.put, List.setIfInBounds_toArray, List.set_cons_zero, List.set_cons_succ]
    refine wpAnyL_takeD (fun _ => True) (i := 9) (v := (.int .i64 (ni : Int))) (some 23) rfl rfl (by kernel_rfl) (by kernel_rfl) (by kernel_rfl) (fun _ _ _ h => h) (fun _ _ _ _ _ _ => trivial) (fun _ _ _ => Iff.rfl) trivial (Or.inl ⟨by rfl, fun w' hw' => by obtain ⟨l, _, hl⟩ := hw'; have k0 := hl.cellAt 0 rfl; have k1 := hl.cellAt 1 rfl; have k2 := hl.cellAt 2 rfl; go_simp⟩) hD.box ?_
    simp only [Act.put, List.setIfInBounds_toArray, List.set_cons_zero, List.set_cons_succ]
    refine wpAnyL_takeD (fun _ => True) (i := 10) (v := (.pointer (some ⟨g, 0, none⟩))) (some 24) rfl rfl (by kernel_rfl) (by kernel_rfl) (by kernel_rfl) (fun _ _ _ h => h) (fun _ _ _ _ _ _ => trivial) (fun _ _ _ => Iff.rfl) trivial (Or.inl ⟨by rfl, fun w' hw' => by obtain ⟨l, _, hl⟩ := hw'; have k0 := hl.cellAt 0 rfl; have k1 := hl.cellAt 1 rfl; have k2 := hl.cellAt 2 rfl; go_simp⟩) hD.box ?_
    simp only [Act.put, List.setIfInBounds_toArray, List.set_cons_zero, List.set_cons_succ]
    refine wpAnyL_lst (rs := [6, 14]) (by decide +kernel) ⟨by simp, ?_⟩
    simp only [List.forall_mem_cons, List.not_mem_nil, false_implies, implies_true, and_true]
    refine ⟨?_, ?_⟩
    · refine wpOp_go (o := _) rfl (fun K hK => ?_)
      go_simp
      go_at_call 46
      obtain ⟨iq, hsq⟩ := hD.src
      refine (next_any g A n c iq 4 _ hsq (by omega) (by omega)).mono ?_; rintro _ wy ⟨a1, ha1, rfl, hs, hg⟩
      replace hD := hD.take ⟨_, hs⟩ hg
      try replace hX := hX.grownB hg (by omega)
      refine hK _ _ ⟨hD.box, ?_⟩
      clear hK K hs hg hsq
      have hw2 : IntKind.i64.wrap ((ns : Int) + (a1 : Int)) = (ns : Int) + (a1 : Int) := IntWalk.i64_in _ (by omega)
      refine wpAnyL_takeD (fun _ => True) (i := 7) (v := (.int .i64 ((ns : Int) + (a1 : Int)))) (some 21) rfl rfl (by kernel_rfl) (by kernel_rfl) (by kernel_rfl) (fun _ _ _ h => h) (fun _ _ _ _ _ _ => trivial) (fun _ _ _ => Iff.rfl) trivial (Or.inl ⟨by rfl, fun w' hw' => by obtain ⟨l, _, hl⟩ := hw'; have k0 := hl.cellAt 0 rfl; have k1 := hl.cellAt 1 rfl; have k2 := hl.cellAt 2 rfl; go_simp⟩) hD.box ?_
      simp only [Act.put, List.setIfInBounds_toArray, List.set_cons_zero, List.set_cons_succ]
      refine wpAnyL_lst (rs := [11, 14]) (by decide +kernel) ⟨by simp, ?_⟩
      simp only [List.forall_mem_cons, List.not_mem_nil, false_implies, implies_true, and_true]
      refine ⟨?_, ?_⟩
      · refine wpOp_go (o := _) rfl (fun K hK => ?_)
        go_simp
        go_at_call 46
        obtain ⟨iq, hsq⟩ := hD.src
        refine (next_any g A n c iq 5 _ hsq (by omega) (by omega)).mono ?_; rintro _ wy ⟨a2, ha2, rfl, hs, hg⟩
        replace hD := hD.take ⟨_, hs⟩ hg
        try replace hX := hX.grownB hg (by omega)
        refine hK _ _ ⟨hD.box, ?_⟩
        clear hK K hs hg hsq
        have hw3 : IntKind.i64.wrap ((ni : Int) + (a2 : Int)) = (ni : Int) + (a2 : Int) := IntWalk.i64_in _ (by omega)
        refine wpAnyL_takeD (fun _ => True) (i := 12) (v := (.int .i64 ((ni : Int) + (a2 : Int)))) (some 26) rfl rfl (by kernel_rfl) (by kernel_rfl) (by kernel_rfl) (fun _ _ _ h => h) (fun _ _ _ _ _ _ => trivial) (fun _ _ _ => Iff.rfl) trivial (Or.inl ⟨by rfl, fun w' hw' => by obtain ⟨l, _, hl⟩ := hw'; have k0 := hl.cellAt 0 rfl; have k1 := hl.cellAt 1 rfl; have k2 := hl.cellAt 2 rfl; go_simp⟩) hD.box ?_
        simp only [Act.put, List.setIfInBounds_toArray, List.set_cons_zero, List.set_cons_succ]
        refine wpAnyL_takeD (fun _ => True) (i := 13) (v := (.agg #[.int .i64 2, .int .i64 ((ve : Int) + 1), .int .i64 ((ns : Int) + (a1 : Int)), .int .i64 ((ni : Int) + (a2 : Int)), .slice none 0 0, .slice none 0 0])) (some 27) rfl rfl (by kernel_rfl) (by kernel_rfl) (by kernel_rfl) (fun _ _ _ h => h) (fun _ _ _ _ _ _ => trivial) (fun _ _ _ => Iff.rfl) trivial (Or.inl ⟨by rfl, fun w' hw' => by obtain ⟨l, _, hl⟩ := hw'; have k0 := hl.cellAt 0 rfl; have k1 := hl.cellAt 1 rfl; have k2 := hl.cellAt 2 rfl; go_simp⟩) hD.box ?_
        simp only [Act.put, List.setIfInBounds_toArray, List.set_cons_zero, List.set_cons_succ]
        refine wpAnyL_one (i := 14) (by decide +kernel) ?_
        refine wpOp_go (o := _) rfl (fun K hK => ?_)
        go_simp
        obtain ⟨hD2, hX, hgx⟩ := hD.new #[.int .i64 0, .int .i64 0, .int .i64 0, .int .i64 0, .slice none 0 0, .slice none 0 0]
        refine hK _ _ ⟨hD2.box, ?_⟩
        clear hK K hD
        have hD := hD2
        clear hD2
        generalize wy.heap.size = gx at *
        generalize wy.alloc (.cells #[.int .i64 0, .int .i64 0, .int .i64 0, .int .i64 0, .slice none 0 0, .slice none 0 0] 31) = wz at *
        have x0 := hX.cellAt 0 rfl
        have x1 := hX.cellAt 1 rfl
        have x2 := hX.cellAt 2 rfl
        have x3 := hX.cellAt 3 rfl
        have x4 := hX.cellAt 4 rfl
        have x5 := hX.cellAt 5 rfl
        have xf := hX.frozen
        refine wpAnyL_one (i := 15) (by decide +kernel) ?_
        refine wpOp_go (o := _) rfl (fun K hK => ?_)
        go_simp
        have hS := hD.begin hX hgx (.int .i64 2) (.int .i64 ((ve : Int) + 1)) (.int .i64 ((ns : Int) + (a1 : Int))) (.int .i64 ((ni : Int) + (a2 : Int)))
        refine hK _ _ ⟨hS.box, ?_⟩
        clear hK K x0 x1 x2 x3 x4 x5 xf
        refine wpAnyL_done (by decide +kernel) ?_ _
        go_wp2_with fail
        go_meet
        exact ⟨_, _, (ve : Int) + 1, (ns : Int) + (a1 : Int), ni + a2, rfl, by omega, by omega, by omega, hS⟩
      · refine wpOp_go (o := _) rfl (fun K hK => ?_)
        go_simp
        obtain ⟨hD2, hX, hgx⟩ := hD.new #[.int .i64 0, .int .i64 0, .int .i64 0, .int .i64 0, .slice none 0 0, .slice none 0 0]
        refine hK _ _ ⟨hD2.box, ?_⟩
        clear hK K hD
        have hD := hD2
        clear hD2
        generalize wy.heap.size = gx at *
        generalize wy.alloc (.cells #[.int .i64 0, .int .i64 0, .int .i64 0, .int .i64 0, .slice none 0 0, .slice none 0 0] 31) = wz at *
        refine wpAnyL_one (i := 11) (by decide +kernel) ?_
        refine wpOp_go (o := _) rfl (fun K hK => ?_)
        go_simp
        go_at_call 46
        obtain ⟨iq, hsq⟩ := hD.src
        refine (next_any g A n c iq 5 _ hsq (by omega) (by omega)).mono ?_; rintro _ wy ⟨a2, ha2, rfl, hs, hg⟩
        replace hD := hD.take ⟨_, hs⟩ hg
        try replace hX := hX.grownB hg (by omega)
        refine hK _ _ ⟨hD.box, ?_⟩
        clear hK K hs hg hsq
        have hw3 : IntKind.i64.wrap ((ni : Int) + (a2 : Int)) = (ni : Int) + (a2 : Int) := IntWalk.i64_in _ (by omega)
        refine wpAnyL_takeD (fun _ => True) (i := 12) (v := (.int .i64 ((ni : Int) + (a2 : Int)))) (some 26) rfl rfl (by kernel_rfl) (by kernel_rfl) (by kernel_rfl) (fun _ _ _ h => h) (fun _ _ _ _ _ _ => trivial) (fun _ _ _ => Iff.rfl) trivial (Or.inl ⟨by rfl, fun w' hw' => by obtain ⟨l, _, hl⟩ := hw'; have k0 := hl.cellAt 0 rfl; have k1 := hl.cellAt 1 rfl; have k2 := hl.cellAt 2 rfl; go_simp⟩) hD.box ?_
        simp only [Act.put, List.setIfInBounds_toArray, List.set_cons_zero, List.set_cons_succ]
        refine wpAnyL_takeD (fun _ => True) (i := 13) (v := (.agg #[.int .i64 2, .int .i64 ((ve : Int) + 1), .int .i64 ((ns : Int) + (a1 : Int)), .int .i64 ((ni : Int) + (a2 : Int)), .slice none 0 0, .slice none 0 0])) (some 27) rfl rfl (by kernel_rfl) (by kernel_rfl) (by kernel_rfl) (fun _ _ _ h => h) (fun _ _ _ _ _ _ => trivial) (fun _ _ _ => Iff.rfl) trivial (Or.inl ⟨by rfl, fun w' hw' => by obtain ⟨l, _, hl⟩ := hw'; have k0 := hl.cellAt 0 rfl; have k1 := hl.cellAt 1 rfl; have k2 := hl.cellAt 2 rfl; go_simp⟩) hD.box ?_
        simp only [Act.put, List.setIfInBounds_toArray, List.set_cons_zero, List.set_cons_succ]
        have x0 := hX.cellAt 0 rfl
        have x1 := hX.cellAt 1 rfl
        have x2 := hX.cellAt 2 rfl
        have x3 := hX.cellAt 3 rfl
        have x4 := hX.cellAt 4 rfl
        have x5 := hX.cellAt 5 rfl
        have xf := hX.frozen
        refine wpAnyL_one (i := 15) (by decide +kernel) ?_
        refine wpOp_go (o := _) rfl (fun K hK => ?_)
        go_simp
        have hS := hD.begin hX hgx (.int .i64 2) (.int .i64 ((ve : Int) + 1)) (.int .i64 ((ns : Int) + (a1 : Int))) (.int .i64 ((ni : Int) + (a2 : Int)))
        refine hK _ _ ⟨hS.box, ?_⟩
        clear hK K x0 x1 x2 x3 x4 x5 xf
        refine wpAnyL_done (by decide +kernel) ?_ _
        go_wp2_with fail
        go_meet
        exact ⟨_, _, (ve : Int) + 1, (ns : Int) + (a1 : Int), ni + a2, rfl, by omega, by omega, by omega, hS⟩
    · refine wpOp_go (o := _) rfl (fun K hK => ?_)
      go_simp
      obtain ⟨hD2, hX, hgx⟩ := hD.new #[.int .i64 0, .int .i64 0, .int .i64 0, .int .i64 0, .slice none 0 0, .slice none 0 0]
      refine hK _ _ ⟨hD2.box, ?_⟩
      clear hK K hD
      have hD := hD2
      clear hD2
      generalize wy.heap.size = gx at *
      generalize wy.alloc (.cells #[.int .i64 0, .int .i64 0, .int .i64 0, .int .i64 0, .slice none 0 0, .slice none 0 0] 31) = wz at *
      refine wpAnyL_one (i := 6) (by decide +kernel) ?_
      refine wpOp_go (o := _) rfl (fun K hK => ?_)
      go_simp
      go_at_call 46
      obtain ⟨iq, hsq⟩ := hD.src
      refine (next_any g A n c iq 4 _ hsq (by omega) (by omega)).mono ?_; rintro _ wy ⟨a1, ha1, rfl, hs, hg⟩
      replace hD := hD.take ⟨_, hs⟩ hg
      try replace hX := hX.grownB hg (by omega)
      refine hK _ _ ⟨hD.box, ?_⟩
      clear hK K hs hg hsq
      have hw2 : IntKind.i64.wrap ((ns : Int) + (a1 : Int)) = (ns : Int) + (a1 : Int) := IntWalk.i64_in _ (by omega)
      refine wpAnyL_takeD (fun _ => True) (i := 7) (v := (.int .i64 ((ns : Int) + (a1 : Int)))) (some 21) rfl rfl (by kernel_rfl) (by kernel_rfl) (by kernel_rfl) (fun _ _ _ h => h) (fun _ _ _ _ _ _ => trivial) (fun _ _ _ => Iff.rfl) trivial (Or.inl ⟨by rfl, fun w' hw' => by obtain ⟨l, _, hl⟩ := hw'; have k0 := hl.cellAt 0 rfl; have k1 := hl.cellAt 1 rfl; have k2 := hl.cellAt 2 rfl; go_simp⟩) hD.box ?_
      simp only [Act.put, List.setIfInBounds_toArray, List.set_cons_zero, List.set_cons_succ]
      refine wpAnyL_one (i := 11) (by decide +kernel) ?_
      refine wpOp_go (o := _) rfl (fun K hK => ?_)
      go_simp
      go_at_call 46
      obtain ⟨iq, hsq⟩ := hD.src
      refine (next_any g A n c iq 5 _ hsq (by omega) (by omega)).mono ?_; rintro _ wy ⟨a2, ha2, rfl, hs, hg⟩
      replace hD := hD.take ⟨_, hs⟩ hg
      try replace hX := hX.grownB hg (by omega)
      refine hK _ _ ⟨hD.box, ?_⟩
      clear hK K hs hg hsq
      have hw3 : IntKind.i64.wrap ((ni : Int) + (a2 : Int)) = (ni : Int) + (a2 : Int) := IntWalk.i64_in _ (by omega)
      refine wpAnyL_takeD (fun _ => True) (i := 12) (v := (.int .i64 ((ni : Int) + (a2 : Int)))) (some 26) rfl rfl (by kernel_rfl) (by kernel_rfl) (by kernel_rfl) (fun _ _ _ h => h) (fun _ _ _ _ _ _ => trivial) (fun _ _ _ => Iff.rfl) trivial (Or.inl ⟨by rfl, fun w' hw' => by obtain ⟨l, _, hl⟩ := hw'; have k0 := hl.cellAt 0 rfl; have k1 := hl.cellAt 1 rfl; have k2 := hl.cellAt 2 rfl; go_simp⟩) hD.box ?_
      simp only [Act.put, List.setIfInBounds_toArray, List.set_cons_zero, List.set_cons_succ]
      refine wpAnyL_takeD (fun _ => True) (i := 13) (v := (.agg #[.int .i64 2, .int .i64 ((ve : Int) + 1), .int .i64 ((ns : Int) + (a1 : Int)), .int .i64 ((ni : Int) + (a2 : Int)), .slice none 0 0, .slice none 0 0])) (some 27) rfl rfl (by kernel_rfl) (by kernel_rfl) (by kernel_rfl) (fun _ _ _ h => h) (fun _ _ _ _ _ _ => trivial) (fun _ _ _ => Iff.rfl) trivial (Or.inl ⟨by rfl, fun w' hw' => by obtain ⟨l, _, hl⟩ := hw'; have k0 := hl.cellAt 0 rfl; have k1 := hl.cellAt 1 rfl; have k2 := hl.cellAt 2 rfl; go_simp⟩) hD.box ?_
      simp only [Act.put, List.setIfInBounds_toArray, List.set_cons_zero, List.set_cons_succ]
      have x0 := hX.cellAt 0 rfl
      have x1 := hX.cellAt 1 rfl
      have x2 := hX.cellAt 2 rfl
      have x3 := hX.cellAt 3 rfl
      have x4 := hX.cellAt 4 rfl
      have x5 := hX.cellAt 5 rfl
      have xf := hX.frozen
      refine wpAnyL_one (i := 15) (by decide +kernel) ?_
      refine wpOp_go (o := _) rfl (fun K hK => ?_)
      go_simp
      have hS := hD.begin hX hgx (.int .i64 2) (.int .i64 ((ve : Int) + 1)) (.int .i64 ((ns : Int) + (a1 : Int))) (.int .i64 ((ni : Int) + (a2 : Int)))
      refine hK _ _ ⟨hS.box, ?_⟩
      clear hK K x0 x1 x2 x3 x4 x5 xf
      refine wpAnyL_done (by decide +kernel) ?_ _
      go_wp2_with fail
      go_meet
      exact ⟨_, _, (ve : Int) + 1, (ns : Int) + (a1 : Int), ni + a2, rfl, by omega, by omega, by omega, hS⟩
  case rest =>
    clear hD
    obtain ⟨gx, B, p1, p2, ni2, rfl, hp1, hp0, hni2, hS⟩ := hcut
    have b3 := hS.box.cellAt 3 rfl
    have hRB := Lib.hid (fun (wr : World) (h : Below w.heap.size w wr) => hE.below h)
    have HB2 := Lib.hid (fun (wr : World) (h : Blk wr w.heap.size 99 [.int .i64 (ve : Int), .int .i64 (ns : Int), .int .i64 (ni : Int), .slice E q ce]) => h.cellAt 2 rfl)
    clear hE hw1
    generalize [Value.int .i64 (ve : Int), .int .i64 (ns : Int), .int .i64 (ni : Int), .slice E q ce] = sc at hS HB2
    go_wp2_with fail
    go_loopw [31] (fun a wr => ∃ (k : Nat) (v v2 : Value) (xs : List En) (ys : List Int), a = .int .i64 (k : Int) ∧ k ≤ q ∧ xs.length ≤ k ∧ ys.length ≤ k ∧ Hid (∀ e ∈ xs, keysI e) ∧ RS w wr g gx B A n c sc [.int .i64 2, .int .i64 p1, .int .i64 p2, .int .i64 (ni2 : Int), v, v2] v xs v2 ys) (fun a _ => q - (intOf a).toNat)
    case atStart => exact ⟨0, _, _, [], [], rfl, by omega, by simp, by simp, (fun e h => by cases h), hS⟩
    case round =>
      clear hS b3
      obtain ⟨k, v, v2, xs, ys, rfl, hk, hxl, hyl, HKX, hS⟩ := hrel
      obtain ⟨A1, c1, hv, hc1⟩ := own_form hS.rw.add
      obtain ⟨A2, c2, hv2, hc2⟩ := own_form hS.rw.rem
      obtain ⟨q1, hq1⟩ : ∃ q1, xs.length = q1 := ⟨_, rfl⟩
      obtain ⟨q2, hq2⟩ : ∃ q2, ys.length = q2 := ⟨_, rfl⟩
      rw [hq1] at hv hc1 hxl
      rw [hq2] at hv2 hc2 hyl
      have HQ1 := Lib.hid (And.intro hq1 hq2)
      subst hv
      subst hv2
      clear hq1 hq2
      by_cases hkq : k < q
      · obtain ⟨e, he⟩ : ∃ e, es[k]? = some e := ⟨_, List.getElem?_eq_getElem (by rw [HQ.out]; exact hkq)⟩
        have HKE := Lib.hid (HGE.out e (List.mem_of_getElem? he))
        obtain ⟨ad, rfl, _, d0, d1, d2, d3, d4, d5, d6, d7, d8, d9, d10, d11⟩ := (hRB.out _ hS.rw.bel).ent he
        clear he
        obtain ⟨id, rows, live, ⟨⟨ln, li, lz⟩, lq⟩, ⟨⟨hn, hi, hz⟩, hq⟩, del⟩ := e
        dsimp only at d0 d1 d2 d3 d4 d5 d6 d7 d8 d9 d10 d11
        have hV := Blk.new' wr 40 #[.int .i64 id, .int .i64 rows, .int .i64 live, .bool ln, .int .i64 li, .string lz, .int .i64 lq, .bool hn, .int .i64 hi, .string hz, .int .i64 hq, .int .i64 del]
        have hfr := hS.rw.fresh (Nat.le_refl _)
        have hBg := hS.rw.o4
        have hBx := hS.rw.o3
        have hgx := hS.p1
        have hS2 := hS.alloc (.cells #[.int .i64 id, .int .i64 rows, .int .i64 live, .bool ln, .int .i64 li, .string lz, .int .i64 lq, .bool hn, .int .i64 hi, .string hz, .int .i64 hq, .int .i64 del] 40)
        go_upto_region 6 with fail
        clear d0 d1 d2 d3 d4 d5 d6 d7 d8 d9 d10 d11 hS
        generalize wr.alloc (.cells #[.int .i64 id, .int .i64 rows, .int .i64 live, .bool ln, .int .i64 li, .string lz, .int .i64 lq, .bool hn, .int .i64 hi, .string hz, .int .i64 hq, .int .i64 del] 40) = wd at *
        generalize wr.heap.size = ge at *
        obtain ⟨iq, hsq⟩ := hS2.src
        go_wp2_with fail
        refine (next_any g A n c iq 3 _ hsq (by omega) (by omega)).mono ?_; rintro _ wf ⟨k3, hk3, rfl, hs, hg⟩
        have hS3 := hS2.take ⟨_, hs⟩ hg
        have hV3 := hV.grownB hg (by omega)
        clear hs hg hsq hS2 hV
        by_cases hk0 : k3 = 0
        · subst hk0
          have r5 := hS3.rw.rc.cellAt 5 rfl
          have e0 := hV3.cellAt 0 rfl
          go_wp2_with (at_builtin; refine hS3.rw.oneR id (by rw [HQ1.out.2]; omega) ?_ rfl _ _ rfl rfl rfl)
          intro v' w4 hN hgb hoth
          have hS4 := hS3.rowR hN hgb
          have hV4 := hV3.grownBy hgb (fun e => hfr.2 e.symm)
          have hfr4 := hoth ge hV3.lt hfr.2
          obtain ⟨A3, c3, hv3, hc3⟩ := own_form hN.rem
          rw [List.length_append, List.length_singleton, HQ1.out.2] at hv3 hc3
          subst hv3
          clear r5 e0 hS3 hV3 hN hgb hk3
          have r5 := hS4.rw.rc.cellAt 5 rfl
          have rf := hS4.rw.rc.frozen
          have hS5 : RS w (w4.setCell ⟨gx, 5, none⟩ (.slice A3 (q2 + 1) c3)) g gx B A n c sc [.int .i64 2, .int .i64 p1, .int .i64 p2, .int .i64 (ni2 : Int), .slice A1 q1 c1, .slice A3 (q2 + 1) c3] (.slice A1 q1 c1) xs (.slice A3 (q2 + 1) c3) (ys ++ [id]) := hS4.set 5 _
          have hV5 := hV4.grownB (grown_set w4 gx 5 (.slice A3 (q2 + 1) c3)) (by omega)
          go_upto_region 8 with fail
          clear r5 rf hS4 hV4
          generalize w4.setCell ⟨gx, 5, none⟩ (.slice A3 (q2 + 1) c3) = w5 at *
          obtain ⟨iq, hsq⟩ := hS5.src
          go_wp2_with fail
          refine (next_any g A n c iq 2 _ hsq (by omega) (by omega)).mono ?_; rintro _ w6 ⟨k6, hk6, rfl, hs, hg⟩
          have hS6 := hS5.take ⟨_, hs⟩ hg
          have hV6 := hV5.grownB hg (by omega)
          clear hs hg hsq hS5 hV5
          by_cases hk60 : k6 = 0
          · subst hk60
            obtain ⟨iq, hsq⟩ := hS6.src
            go_wp2_with fail
            refine (next_any g A n c iq 20 _ hsq (by omega) (by omega)).mono ?_; rintro _ w7 ⟨k7, hk7, rfl, hs, hg⟩
            have hS7 := hS6.take ⟨_, hs⟩ hg
            have hV7 := hV6.grownB hg (by omega)
            clear hs hg hsq hS6 hV6
            have hw7 : IntKind.i64.wrap (1 + (k7 : Int)) = 1 + (k7 : Int) := IntWalk.i64_in _ (by omega)
            have e11 := hV7.cellAt 11 rfl
            have ef := hV7.frozen
            have hS8 := hS7.side (grown_set w7 ge 11 (.int .i64 (1 + (k7 : Int)))) hBg hfr.1 hfr4
            have hV8 : Blk (w7.setCell ⟨ge, 11, none⟩ (.int .i64 (1 + (k7 : Int)))) ge 40 [.int .i64 id, .int .i64 rows, .int .i64 live, .bool ln, .int .i64 li, .string lz, .int .i64 lq, .bool hn, .int .i64 hi, .string hz, .int .i64 hq, .int .i64 (1 + (k7 : Int))] := hV7.set_ 11 _
            go_upto_region 10 with fail
            clear e11 ef hS7 hV7
            generalize w7.setCell ⟨ge, 11, none⟩ (.int .i64 (1 + (k7 : Int))) = w8 at *
            have r4 := hS8.rw.rc.cellAt 4 rfl
            have e0 := hV8.cellAt 0 rfl
            have e1 := hV8.cellAt 1 rfl
            have e2 := hV8.cellAt 2 rfl
            have e3 := hV8.cellAt 3 rfl
            have e4 := hV8.cellAt 4 rfl
            have e5 := hV8.cellAt 5 rfl
            have e6 := hV8.cellAt 6 rfl
            have e7 := hV8.cellAt 7 rfl
            have e8 := hV8.cellAt 8 rfl
            have e9 := hV8.cellAt 9 rfl
            have e10 := hV8.cellAt 10 rfl
            have e11 := hV8.cellAt 11 rfl
            go_wp2_with (at_builtin; refine hS8.rw.one ⟨id, rows, live, ⟨⟨ln, li, lz⟩, lq⟩, ⟨⟨hn, hi, hz⟩, hq⟩, 1 + (k7 : Int)⟩ (by rw [HQ1.out.1]; omega) (ds := #[.int .i64 id, .int .i64 rows, .int .i64 live, .bool ln, .int .i64 li, .string lz, .int .i64 lq, .bool hn, .int .i64 hi, .string hz, .int .i64 hq, .int .i64 (1 + (k7 : Int))]) rfl ?_ rfl _ _ rfl rfl rfl)
            intro v' w9 hN hgb _
            have hS9 := hS8.rowE hN hgb
            obtain ⟨A4, c4, hv4, hc4⟩ := own_form hN.add
            rw [List.length_append, List.length_singleton, HQ1.out.1] at hv4 hc4
            subst hv4
            clear r4 e0 e1 e2 e3 e4 e5 e6 e7 e8 e9 e10 e11 hS8 hV8 hN hgb
            have r4 := hS9.rw.rc.cellAt 4 rfl
            have rf := hS9.rw.rc.frozen
            have hS10 : RS w (w9.setCell ⟨gx, 4, none⟩ (.slice A4 (q1 + 1) c4)) g gx B A n c sc [.int .i64 2, .int .i64 p1, .int .i64 p2, .int .i64 (ni2 : Int), .slice A4 (q1 + 1) c4, .slice A3 (q2 + 1) c3] (.slice A4 (q1 + 1) c4) _ (.slice A3 (q2 + 1) c3) (ys ++ [id]) := hS9.set 4 _
            go_wp2
            go_roundw
            case rel => exact ⟨k + 1, _, _, xs ++ [⟨id, rows, live, ⟨⟨ln, li, lz⟩, lq⟩, ⟨⟨hn, hi, hz⟩, hq⟩, 1 + (k7 : Int)⟩], ys ++ [id], by go_num, by omega, by rw [List.length_append, List.length_singleton, HQ1.out.1]; omega, by rw [List.length_append, List.length_singleton, HQ1.out.2]; omega, snoc_all' HKX.out HKE.out, hS10⟩
            case measure => simp [intOf]; omega
          · have hk60' : decide ((k6 : Int) = 0) = false := decide_eq_false (by omega)
            go_wp2
            go_roundw
            case rel => exact ⟨k + 1, _, _, xs, ys ++ [id], by go_num, by omega, by have := HQ1.out.1; omega, by rw [List.length_append, List.length_singleton, HQ1.out.2]; omega, HKX.out, hS6⟩
            case measure => simp [intOf]; omega
        · have hk0' : decide ((k3 : Int) = 0) = false := decide_eq_false (by omega)
          go_wp2
          go_roundw
          case rel => exact ⟨k + 1, _, _, xs, ys, by go_num, by omega, by have := HQ1.out.1; omega, by have := HQ1.out.2; omega, HKX.out, hS3⟩
          case measure => simp [intOf]; omega
      · have hkq2 : k = q := by omega
        subst hkq2
        have b2 := HB2.out _ hS.box
        have hq0 := HQ1.out
        go_wp2_with fail
        clear b2
        obtain ⟨iq, hsq⟩ := hS.src
        refine (next_any g A n c iq 3 _ hsq (by omega) (by omega)).mono ?_; rintro _ wl ⟨k9, hk9, rfl, hs, hg⟩
        replace hS := hS.take ⟨_, hs⟩ hg
        clear hs hg hsq
        go_wp2_with fail
        go_loopw [9, 10, 11] (fun a b _ wr => ∃ (id k : Nat) (v v2 : Value) (xs : List En) (ys : List Int), a = .int .i64 (id : Int) ∧ b = .int .i64 (k : Int) ∧ k ≤ 2 ∧ id + k ≤ 60 ∧ xs.length + k ≤ 8 ∧ ys.length ≤ 6 ∧ Hid (∀ e ∈ xs, keysI e) ∧ RS w wr g gx B A n c sc [.int .i64 2, .int .i64 p1, .int .i64 p2, .int .i64 (ni2 : Int), v, v2] v xs v2 ys) (fun _ b _ _ => (intOf b).toNat)
        case atStart => exact ⟨ni, k9, _, _, xs, ys, rfl, rfl, by omega, by omega, by omega, by omega, HKX.out, hS⟩
        case round =>
          clear hS hq0 HQ1 HKX hRB
          obtain ⟨id, k, v, v2, xs, ys, rfl, rfl, hk, hid, hxl, hyl, HKX, hS⟩ := hrel
          obtain ⟨A1, c1, hv, hc1⟩ := own_form hS.rw.add
          obtain ⟨A2, c2, hv2, hc2⟩ := own_form hS.rw.rem
          obtain ⟨q1, hq1⟩ : ∃ q1, xs.length = q1 := ⟨_, rfl⟩
          obtain ⟨q2, hq2⟩ : ∃ q2, ys.length = q2 := ⟨_, rfl⟩
          rw [hq1] at hv hc1 hxl
          rw [hq2] at hv2 hc2 hyl
          have HQ1 := Lib.hid (And.intro hq1 hq2)
          subst hv
          subst hv2
          clear hq1 hq2
          have r3 := hS.rw.rc.cellAt 3 rfl
          have hgx := hS.p1
          by_cases hk0 : 0 < k
          · have hd1 : decide (0 < (k : Int)) = true := decide_eq_true (by omega)
            by_cases hin : id < ni2
            · have hd2 : decide ((id : Int) < (ni2 : Int)) = true := decide_eq_true (by omega)
              obtain ⟨iq, hsq⟩ := hS.src
              go_wp2_with fail
              refine (raw_any g A n c iq _ hsq).mono ?_; rintro _ wn ⟨z1, hz1, rfl, hs, hg⟩
              replace hS := hS.take ⟨_, hs⟩ hg
              clear hs hg hsq
              clear r3 hd1 hd2
              obtain ⟨iq, hsq⟩ := hS.src
              go_wp2_with fail
              refine (raw_any g A n c iq _ hsq).mono ?_; rintro _ wn ⟨z2, hz2, rfl, hs, hg⟩
              replace hS := hS.take ⟨_, hs⟩ hg
              clear hs hg hsq
              obtain ⟨iq, hsq⟩ := hS.src
              go_wp2_with fail
              refine (raw_any g A n c iq _ hsq).mono ?_; rintro _ wn ⟨z3, hz3, rfl, hs, hg⟩
              replace hS := hS.take ⟨_, hs⟩ hg
              clear hs hg hsq
              obtain ⟨iq, hsq⟩ := hS.src
              go_wp2_with fail
              refine (raw_any g A n c iq _ hsq).mono ?_; rintro _ wn ⟨z4, hz4, rfl, hs, hg⟩
              replace hS := hS.take ⟨_, hs⟩ hg
              clear hs hg hsq
              obtain ⟨iq, hsq⟩ := hS.src
              go_wp2_with fail
              refine (raw_any g A n c iq _ hsq).mono ?_; rintro _ wn ⟨z5, hz5, rfl, hs, hg⟩
              replace hS := hS.take ⟨_, hs⟩ hg
              clear hs hg hsq
              have hZ := Blk.new' wn 3 #[.int .i64 1, .int .i64 z1, .int .i64 z2, .int .i64 z3, .int .i64 z4, .int .i64 z5]
              have hfr := fun k (hk : (wn.alloc (.cells #[.int .i64 1, .int .i64 z1, .int .i64 z2, .int .i64 z3, .int .i64 z4, .int .i64 z5] 3)).heap.size ≤ k) => (hS.alloc (.cells #[.int .i64 1, .int .i64 z1, .int .i64 z2, .int .i64 z3, .int .i64 z4, .int .i64 z5] 3)).rw.fresh hk
              replace hS := hS.alloc (.cells #[.int .i64 1, .int .i64 z1, .int .i64 z2, .int .i64 z3, .int .i64 z4, .int .i64 z5] 3)
              have hEN := Lib.hid (entries_any (some ⟨wn.heap.size, 0, none⟩) 6 6 2 [1, z1, z2, z3, z4, z5] _ hZ.rd rfl (by
                intro z hz
                simp only [List.mem_cons, List.not_mem_nil, or_false] at hz
                rcases hz with rfl | rfl | rfl | rfl | rfl | rfl
                · unfold I64; omega
                · exact hz1
                · exact hz2
                · exact hz3
                · exact hz4
                · exact hz5) (by omega) (by omega))
              clear hz1 hz2 hz3 hz4 hz5 hZ
              go_wp2_with fail
              generalize wn.alloc (.cells #[.int .i64 1, .int .i64 z1, .int .i64 z2, .int .i64 z3, .int .i64 z4, .int .i64 z5] 3) = wo at *
              have hBo := hS.rw.o4
              refine hEN.out.mono ?_; rintro _ wp ⟨vE, ee, rfl, ho, hge2, hle2, hbo⟩
              obtain ⟨AE, cE, rfl, hcE⟩ := own_form ho
              replace hS := hS.call hbo
              cases ee with
              | nil =>
                rw [List.length_nil]
                have hw8 : IntKind.i64.wrap ((id : Int) + 1) = (id : Int) + 1 := IntWalk.i64_in _ (by omega)
                have hw9 : IntKind.i64.wrap ((k : Int) - 1) = (k : Int) - 1 := IntWalk.i64_in _ (by omega)
                go_wp2
                go_roundw
                case rel => exact ⟨id + 1, k - 1, _, _, xs, ys, by go_num, by congr 1; omega, by omega, by omega, by have := HQ1.out.1; omega, by have := HQ1.out.2; omega, HKX.out, hS⟩
                case measure => simp [intOf]; omega
              | cons e es2 =>
                obtain ⟨m, hm⟩ : ∃ m, (e :: es2).length = m := ⟨_, rfl⟩
                have hm0 : 0 < m := by rw [← hm]; simp
                rw [hm] at ho hcE ⊢
                clear hm hle2
                have hd3 : decide (0 < (m : Int)) = true := decide_eq_true (by omega)
                obtain ⟨ge, hAE, hbg, hlt, hfz, hcs⟩ := own_blockK ho hm0
                subst hAE
                have hE12 : E12 wp ge e := E12.of (L := es2.flatMap entC) (by rw [← List.flatMap_cons]; exact hcs)
                have hfr2 := hfr ge hbg
                have HKE := Lib.hid (hge2 e (by simp)).2
                have hBw := Nat.le_trans hBo hbg
                have hBx := hS.rw.o3
                obtain ⟨eid, rows, live, ⟨⟨ln, li, lz⟩, lq⟩, ⟨⟨hn, hi, hz⟩, hq⟩, del⟩ := e
                have c0 := hE12.1
                have hE2 := hE12.setId (id : Int)
                have hS2 := hS.side (grown_set wp ge 0 (.int .i64 (id : Int))) hBw hfr2.1 hfr2.2
                have hlt2 : ge < (wp.setCell ⟨ge, 0, none⟩ (.int .i64 (id : Int))).heap.size := by simpa [World.setCell] using hlt
                clear ho hcs hfr hge2 hbo hBo hE12
                go_upto_region 19 with fail
                clear c0 hfz hS hlt
                generalize wp.setCell ⟨ge, 0, none⟩ (.int .i64 (id : Int)) = wq at *
                refine wp_region_L (SB2 5 6 (fun w' => w'.cell? ⟨gx, 4, none⟩ = some (.slice A1 q1 c1) ∧ E12 w' ge ⟨(id : Int), rows, live, ⟨⟨ln, li, lz⟩, lq⟩, ⟨⟨hn, hi, hz⟩, hq⟩, del⟩)) (by kernel_rfl) ?_
                have hF : wq.drew.cell? ⟨gx, 4, none⟩ = some (.slice A1 q1 c1) ∧ E12 wq.drew ge ⟨(id : Int), rows, live, ⟨⟨ln, li, lz⟩, lq⟩, ⟨⟨hn, hi, hz⟩, hq⟩, del⟩ := ⟨hS2.rw.rc.cellAt 4 rfl, hE2⟩
                replace hS2 := hS2.drew
                replace hlt2 : ge < wq.drew.heap.size := hlt2
                clear hE2
                generalize wq.drew = wy at *
                have HF := Lib.hid hF
                clear hF
                refine wpAnyL_takeD (fun _ => True) (i := 0) (v := (.pointer (some ⟨gx, 4, none⟩))) (some 92) rfl rfl (by kernel_rfl) (by kernel_rfl) (by kernel_rfl) (fun _ _ _ h => h) (fun _ _ _ _ _ _ => trivial) (fun _ _ _ => SB2.set (by decide) (by decide)) trivial (Or.inl ⟨by rfl, fun w' hw' => by go_simp⟩) (fun _ => HF.out) ?_
                simp only [Act.put, List.setIfInBounds_toArray, List.set_cons_zero, List.set_cons_succ]
                refine wpAnyL_takeD (fun l => l.getD 6 false = false) (i := 1) (v := (.slice A1 q1 c1)) (some 93) rfl rfl (by kernel_rfl) (by kernel_rfl) (by kernel_rfl) (fun _ _ _ h => h) (fun l j hc hi hj hne => (getD_set_ne false (waits_ne (k := 6) hi hj (by kernel_rfl))).trans hc) (fun _ _ _ => SB2.set (by decide) (by decide)) rfl (Or.inl ⟨by rfl, fun w' hw' => by obtain ⟨l, hc, hl⟩ := hw'; obtain ⟨x4, _⟩ := hl (.inr hc); go_simp⟩) (fun _ => HF.out) ?_
                simp only [Act.put, List.setIfInBounds_toArray, List.set_cons_zero, List.set_cons_succ]
                refine wpAnyL_takeD (fun _ => True) (i := 2) (v := (.slice (some ⟨ge, 0, none⟩) m cE)) (some 94) rfl rfl (by kernel_rfl) (by kernel_rfl) (by kernel_rfl) (fun _ _ _ h => h) (fun _ _ _ _ _ _ => trivial) (fun _ _ _ => SB2.set (by decide) (by decide)) trivial (Or.inl ⟨by rfl, fun w' hw' => by go_simp⟩) (fun _ => HF.out) ?_
                simp only [Act.put, List.setIfInBounds_toArray, List.set_cons_zero, List.set_cons_succ]
                refine wpAnyL_takeD (fun _ => True) (i := 3) (v := (.pointer (some ⟨ge, 0, none⟩))) (some 95) rfl rfl (by kernel_rfl) (by kernel_rfl) (by kernel_rfl) (fun _ _ _ h => h) (fun _ _ _ _ _ _ => trivial) (fun _ _ _ => SB2.set (by decide) (by decide)) trivial (Or.inl ⟨by rfl, fun w' hw' => by go_simp⟩) (fun _ => HF.out) ?_
                simp only [Act.put, List.setIfInBounds_toArray, List.set_cons_zero, List.set_cons_succ]
                refine wpAnyL_takeD (fun l => l.getD 5 false = false) (i := 4) (v := (.agg #[.int .i64 (id : Int), .int .i64 rows, .int .i64 live, .bool ln, .int .i64 li, .string lz, .int .i64 lq, .bool hn, .int .i64 hi, .string hz, .int .i64 hq, .int .i64 del])) (some 96) rfl rfl (by kernel_rfl) (by kernel_rfl) (by kernel_rfl) (fun _ _ _ h => h) (fun l j hc hi hj hne => (getD_set_ne false (waits_ne (k := 5) hi hj (by kernel_rfl))).trans hc) (fun _ _ _ => SB2.set (by decide) (by decide)) rfl (Or.inl ⟨by rfl, fun w' hw' => by obtain ⟨l, hc, hl⟩ := hw'; obtain ⟨x4, e0, e1, e2, e3, e4, e5, e6, e7, e8, e9, e10, e11⟩ := hl (.inl hc); go_simp⟩) (fun _ => HF.out) ?_
                simp only [Act.put, List.setIfInBounds_toArray, List.set_cons_zero, List.set_cons_succ]
                refine wpAnyL_one (i := 5) (by decide +kernel) ?_
                refine wpOp_go (o := _) rfl (fun K hK => ?_)
                go_simp
                have hba := (Below.refl wy.heap.size wy).alloc (Nat.le_refl _) (.cells #[.int .i64 (id : Int), .int .i64 rows, .int .i64 live, .bool ln, .int .i64 li, .string lz, .int .i64 lq, .bool hn, .int .i64 hi, .string hz, .int .i64 hq, .int .i64 del] 40)
                refine hK _ _ ⟨fun _ => ⟨(hba.cell (p := ⟨gx, 4, none⟩) hS2.rw.rc.lt).trans HF.out.1, HF.out.2.call hlt2 hba⟩, ?_⟩
                clear hK K HF hba
                refine wpAnyL_one (i := 6) (by decide +kernel) ?_
                refine wpOp_go (o := _) rfl (fun K hK => ?_)
                refine hS2.rw.stepE ⟨(id : Int), rows, live, ⟨⟨ln, li, lz⟩, lq⟩, ⟨⟨hn, hi, hz⟩, hq⟩, del⟩ (by rw [HQ1.out.1]; omega) rfl rfl _ _ rfl rfl rfl ?_
                intro v' w9 hN hgb _
                have hS9 := hS2.rowE hN hgb
                obtain ⟨A4, c4, hv4, hc4⟩ := own_form hN.add
                rw [List.length_append, List.length_singleton, HQ1.out.1] at hv4 hc4
                subst hv4
                clear hS2 hN hgb
                refine hK _ _ ⟨fun h => absurd h (by decide), ?_⟩
                clear hK K
                have r4 := hS9.rw.rc.cellAt 4 rfl
                have rf := hS9.rw.rc.frozen
                refine wpAnyL_one (i := 7) (by decide +kernel) ?_
                refine wpOp_go (o := _) rfl (fun K hK => ?_)
                go_simp
                refine hK _ _ ⟨fun h => absurd h (by decide), ?_⟩
                clear hK K
                have hS10 : RS w (w9.setCell ⟨gx, 4, none⟩ (.slice A4 (q1 + 1) c4)) g gx B A n c sc [.int .i64 2, .int .i64 p1, .int .i64 p2, .int .i64 (ni2 : Int), .slice A4 (q1 + 1) c4, .slice A2 q2 c2] (.slice A4 (q1 + 1) c4) _ (.slice A2 q2 c2) ys := hS9.set 4 _
                refine wpAnyL_one (i := 8) (by decide +kernel) ?_
                refine wpOp_go (o := _) rfl (fun K hK => ?_)
                go_simp
                refine hK _ _ ⟨fun h => absurd h (by decide), ?_⟩
                clear hK K r4 rf hS9
                refine wpAnyL_done (by decide +kernel) ?_ _
                have hw8 : IntKind.i64.wrap ((id : Int) + 1) = (id : Int) + 1 := IntWalk.i64_in _ (by omega)
                have hw9 : IntKind.i64.wrap ((k : Int) - 1) = (k : Int) - 1 := IntWalk.i64_in _ (by omega)
                go_wp2
                go_roundw
                case rel => exact ⟨id + 1, k - 1, _, _, xs ++ [⟨(id : Int), rows, live, ⟨⟨ln, li, lz⟩, lq⟩, ⟨⟨hn, hi, hz⟩, hq⟩, del⟩], ys, by go_num, by congr 1; omega, by omega, by omega, by rw [List.length_append, List.length_singleton, HQ1.out.1]; omega, by have := HQ1.out.2; omega, snoc_all' HKX.out HKE.out, hS10⟩
                case measure => simp [intOf]; omega
            · have hd2 : decide ((id : Int) < (ni2 : Int)) = false := decide_eq_false (by omega)
              obtain ⟨iq, hsq⟩ := hS.src
              go_wp2_with fail
              refine (next_any g A n c iq 12 _ hsq (by omega) (by omega)).mono ?_; rintro _ wt ⟨kk, hkk, rfl, hs, hg⟩
              replace hS := hS.take ⟨_, hs⟩ hg
              clear hs hg hsq r3
              by_cases h0 : kk = 0
              · subst h0
                go_upto_region 23 with fail
                refine wp_region_L (SB 7 (fun w' => w'.cell? ⟨gx, 1, none⟩ = some (.int .i64 p1))) (by kernel_rfl) ?_
                replace hS := hS.drew
                generalize wt.drew = wy at *
                have HF : Hid (wy.cell? ⟨gx, 1, none⟩ = some (.int .i64 p1)) := hS.rw.rc.cellAt 1 rfl
                refine wpAnyL_takeD (fun _ => True) (i := 0) (v := (.pointer (some ⟨gx, 1, none⟩))) (some 106) rfl rfl (by kernel_rfl) (by kernel_rfl) (by kernel_rfl) (fun _ _ _ h => h) (fun _ _ _ _ _ _ => trivial) (fun _ _ _ => SB.set (by decide)) trivial (Or.inl ⟨by rfl, fun w' hw' => by go_simp⟩) (fun _ => HF.out) ?_
                simp only [Act.put, List.setIfInBounds_toArray, List.set_cons_zero, List.set_cons_succ]
                refine wpAnyL_takeD (fun _ => True) (i := 2) (v := (.pointer (some ⟨g, 0, none⟩))) (some 108) rfl rfl (by kernel_rfl) (by kernel_rfl) (by kernel_rfl) (fun _ _ _ h => h) (fun _ _ _ _ _ _ => trivial) (fun _ _ _ => SB.set (by decide)) trivial (Or.inl ⟨by rfl, fun w' hw' => by go_simp⟩) (fun _ => HF.out) ?_
                simp only [Act.put, List.setIfInBounds_toArray, List.set_cons_zero, List.set_cons_succ]
                refine wpAnyL_takeD (fun l => l.getD 7 false = false) (i := 1) (v := (.int .i64 p1)) (some 107) rfl rfl (by kernel_rfl) (by kernel_rfl) (by kernel_rfl) (fun _ _ _ h => h) (fun l j hc hi hj hne => (getD_set_ne false (waits_ne (k := 7) hi hj (by kernel_rfl))).trans hc) (fun _ _ _ => SB.set (by decide)) rfl (Or.inl ⟨by rfl, fun w' hw' => by obtain ⟨l, hc, hl⟩ := hw'; have x1 := hl hc; go_simp⟩) (fun _ => HF.out) ?_
                simp only [Act.put, List.setIfInBounds_toArray, List.set_cons_zero, List.set_cons_succ]
                refine wpAnyL_one (i := 3) (by decide +kernel) ?_
                refine wpOp_go (o := _) rfl (fun K hK => ?_)
                go_simp
                go_at_call 46
                obtain ⟨iq, hsq⟩ := hS.src
                refine (next_any g A n c iq 3 _ hsq (by omega) (by omega)).mono ?_; rintro _ wy ⟨kd, hkd, rfl, hs, hg⟩
                replace hS := hS.take ⟨_, hs⟩ hg
                clear HF
                have HF : Hid (wy.cell? ⟨gx, 1, none⟩ = some (.int .i64 p1)) := hS.rw.rc.cellAt 1 rfl
                refine hK _ _ ⟨fun _ => HF.out, ?_⟩
                clear hK K hs hg hsq
                have hw2 : IntKind.i64.wrap ((kd : Int) - 1) = (kd : Int) - 1 := IntWalk.i64_in _ (by omega)
                have hw3 : IntKind.i64.wrap (p1 + ((kd : Int) - 1)) = p1 + ((kd : Int) - 1) := IntWalk.i64_in _ (by omega)
                refine wpAnyL_takeD (fun _ => True) (i := 4) (v := (.int .i64 ((kd : Int) - 1))) (some 110) rfl rfl (by kernel_rfl) (by kernel_rfl) (by kernel_rfl) (fun _ _ _ h => h) (fun _ _ _ _ _ _ => trivial) (fun _ _ _ => SB.set (by decide)) trivial (Or.inl ⟨by rfl, fun w' hw' => by go_simp⟩) (fun _ => HF.out) ?_
                simp only [Act.put, List.setIfInBounds_toArray, List.set_cons_zero, List.set_cons_succ]
                refine wpAnyL_takeD (fun _ => True) (i := 5) (v := (.int .i64 (p1 + ((kd : Int) - 1)))) (some 111) rfl rfl (by kernel_rfl) (by kernel_rfl) (by kernel_rfl) (fun _ _ _ h => h) (fun _ _ _ _ _ _ => trivial) (fun _ _ _ => SB.set (by decide)) trivial (Or.inl ⟨by rfl, fun w' hw' => by go_simp⟩) (fun _ => HF.out) ?_
                simp only [Act.put, List.setIfInBounds_toArray, List.set_cons_zero, List.set_cons_succ]
                refine wpAnyL_takeD (fun _ => True) (i := 6) (v := (.pointer (some ⟨gx, 1, none⟩))) (some 112) rfl rfl (by kernel_rfl) (by kernel_rfl) (by kernel_rfl) (fun _ _ _ h => h) (fun _ _ _ _ _ _ => trivial) (fun _ _ _ => SB.set (by decide)) trivial (Or.inl ⟨by rfl, fun w' hw' => by go_simp⟩) (fun _ => HF.out) ?_
                simp only [Act.put, List.setIfInBounds_toArray, List.set_cons_zero, List.set_cons_succ]
                have z1 := hS.rw.rc.cellAt 1 rfl
                have zf := hS.rw.rc.frozen
                have hS2 : RS w (wy.setCell ⟨gx, 1, none⟩ (.int .i64 (p1 + ((kd : Int) - 1)))) g gx B A n c sc [.int .i64 2, .int .i64 (p1 + ((kd : Int) - 1)), .int .i64 p2, .int .i64 (ni2 : Int), .slice A1 q1 c1, .slice A2 q2 c2] (.slice A1 q1 c1) xs (.slice A2 q2 c2) ys := hS.set 1 _
                refine wpAnyL_one (i := 7) (by decide +kernel) ?_
                refine wpOp_go (o := _) rfl (fun K hK => ?_)
                go_simp
                refine hK _ _ ⟨fun h => absurd h (by decide), ?_⟩
                clear hK K z1 zf hS HF
                refine wpAnyL_done (by decide +kernel) ?_ _
                generalize wy.setCell ⟨gx, 1, none⟩ (.int .i64 (p1 + ((kd : Int) - 1))) = wf2 at *
                have hS := hS2
                clear hS2
                have r0 := hS.rw.rc.cellAt 0 rfl
                have r1 := hS.rw.rc.cellAt 1 rfl
                have r2 := hS.rw.rc.cellAt 2 rfl
                have r3 := hS.rw.rc.cellAt 3 rfl
                have r4 := hS.rw.rc.cellAt 4 rfl
                have r5 := hS.rw.rc.cellAt 5 rfl
                have t0 := hS.res.cellAt 0 rfl
                have t1 := hS.res.cellAt 1 rfl
                have t2 := hS.res.cellAt 2 rfl
                have t3 := hS.res.cellAt 3 rfl
                have t4 := hS.res.cellAt 4 rfl
                have t5 := hS.res.cellAt 5 rfl
                have tf := hS.res.frozen
                obtain ⟨hRC, hRB, hBel⟩ := hS.done 2 (p1 + ((kd : Int) - 1)) p2 ((ni2 : Int))
                go_wp2
                clear r0 r1 r2 r3 r4 r5 t0 t1 t2 t3 t4 t5 tf hS
                generalize (((((wf2.setCell ⟨w.heap.size + 1, 0, none⟩ (.int .i64 2)).setCell ⟨w.heap.size + 1, 1, none⟩ (.int .i64 (p1 + ((kd : Int) - 1)))).setCell ⟨w.heap.size + 1, 2, none⟩ (.int .i64 p2)).setCell ⟨w.heap.size + 1, 3, none⟩ (.int .i64 ((ni2 : Int)))).setCell ⟨w.heap.size + 1, 4, none⟩ (.slice A1 q1 c1)).setCell ⟨w.heap.size + 1, 5, none⟩ (.slice A2 q2 c2) = wz at *
                have r0 := hRB.cellAt 0 rfl
                have r1 := hRB.cellAt 1 rfl
                have r2 := hRB.cellAt 2 rfl
                have r3 := hRB.cellAt 3 rfl
                have r4 := hRB.cellAt 4 rfl
                have r5 := hRB.cellAt 5 rfl
                have hl1 := HQ1.out.1
                have hl2 := HQ1.out.2
                exact bodyPost_ret (v := .agg #[.int .i64 2, .int .i64 (p1 + ((kd : Int) - 1)), .int .i64 p2, .int .i64 ((ni2 : Int)), .slice A1 q1 c1, .slice A2 q2 c2]) (by simp [results, Try.results58, go_sem, r0, r1, r2, r3, r4, r5]) rfl (recP_mk hRC HKX.out (by omega) (by first | omega | (rw [List.length_append, List.length_singleton]; omega)) hBel)
              · have h0' : decide ((kk : Int) = 0) = false := decide_eq_false (by omega)
                by_cases h1 : kk = 1
                · subst h1
                  have r5 := hS.rw.rc.cellAt 5 rfl
                  go_wp2_with (at_builtin; refine hS.rw.oneR 90 (by rw [HQ1.out.2]; omega) ?_ rfl _ _ rfl rfl rfl)
                  intro v' w4 hN hgb _
                  have hS4 := hS.rowR hN hgb
                  obtain ⟨A3, c3, hv3, hc3⟩ := own_form hN.rem
                  rw [List.length_append, List.length_singleton, HQ1.out.2] at hv3 hc3
                  subst hv3
                  clear r5 hS hN hgb
                  have r5 := hS4.rw.rc.cellAt 5 rfl
                  have rf := hS4.rw.rc.frozen
                  have hS : RS w (w4.setCell ⟨gx, 5, none⟩ (.slice A3 (q2 + 1) c3)) g gx B A n c sc [.int .i64 2, .int .i64 p1, .int .i64 p2, .int .i64 (ni2 : Int), .slice A1 q1 c1, .slice A3 (q2 + 1) c3] (.slice A1 q1 c1) xs (.slice A3 (q2 + 1) c3) (ys ++ [90]) := hS4.set 5 _
                  go_upto_region 28 with fail
                  clear r5 rf hS4
                  generalize w4.setCell ⟨gx, 5, none⟩ (.slice A3 (q2 + 1) c3) = w5 at *
                  have r0 := hS.rw.rc.cellAt 0 rfl
                  have r1 := hS.rw.rc.cellAt 1 rfl
                  have r2 := hS.rw.rc.cellAt 2 rfl
                  have r3 := hS.rw.rc.cellAt 3 rfl
                  have r4 := hS.rw.rc.cellAt 4 rfl
                  have r5 := hS.rw.rc.cellAt 5 rfl
                  have t0 := hS.res.cellAt 0 rfl
                  have t1 := hS.res.cellAt 1 rfl
                  have t2 := hS.res.cellAt 2 rfl
                  have t3 := hS.res.cellAt 3 rfl
                  have t4 := hS.res.cellAt 4 rfl
                  have t5 := hS.res.cellAt 5 rfl
                  have tf := hS.res.frozen
                  obtain ⟨hRC, hRB, hBel⟩ := hS.done 2 (p1) p2 ((ni2 : Int))
                  go_wp2
                  clear r0 r1 r2 r3 r4 r5 t0 t1 t2 t3 t4 t5 tf hS
                  generalize (((((w5.setCell ⟨w.heap.size + 1, 0, none⟩ (.int .i64 2)).setCell ⟨w.heap.size + 1, 1, none⟩ (.int .i64 (p1))).setCell ⟨w.heap.size + 1, 2, none⟩ (.int .i64 p2)).setCell ⟨w.heap.size + 1, 3, none⟩ (.int .i64 ((ni2 : Int)))).setCell ⟨w.heap.size + 1, 4, none⟩ (.slice A1 q1 c1)).setCell ⟨w.heap.size + 1, 5, none⟩ (.slice A3 (q2 + 1) c3) = wz at *
                  have r0 := hRB.cellAt 0 rfl
                  have r1 := hRB.cellAt 1 rfl
                  have r2 := hRB.cellAt 2 rfl
                  have r3 := hRB.cellAt 3 rfl
                  have r4 := hRB.cellAt 4 rfl
                  have r5 := hRB.cellAt 5 rfl
                  have hl1 := HQ1.out.1
                  have hl2 := HQ1.out.2
                  exact bodyPost_ret (v := .agg #[.int .i64 2, .int .i64 (p1), .int .i64 p2, .int .i64 ((ni2 : Int)), .slice A1 q1 c1, .slice A3 (q2 + 1) c3]) (by simp [results, Try.results58, go_sem, r0, r1, r2, r3, r4, r5]) rfl (recP_mk hRC HKX.out (by omega) (by first | omega | (rw [List.length_append, List.length_singleton]; omega)) hBel)
                · have h1' : decide ((kk : Int) = 1) = false := decide_eq_false (by omega)
                  by_cases h2 : kk = 2
                  · subst h2
                    obtain ⟨iq, hsq⟩ := hS.src
                    go_wp2_with fail
                    refine (next_any g A n c iq 40 _ hsq (by omega) (by omega)).mono ?_; rintro _ w4 ⟨k4, hk4, rfl, hs, hg⟩
                    have hS4 := hS.take ⟨_, hs⟩ hg
                    clear hs hg hsq hS
                    have r3 := hS4.rw.rc.cellAt 3 rfl
                    have rf := hS4.rw.rc.frozen
                    have hS : RS w (w4.setCell ⟨gx, 3, none⟩ (.int .i64 (k4 : Int))) g gx B A n c sc [.int .i64 2, .int .i64 p1, .int .i64 p2, .int .i64 (k4 : Int), .slice A1 q1 c1, .slice A2 q2 c2] (.slice A1 q1 c1) xs (.slice A2 q2 c2) ys := hS4.set 3 _
                    go_upto_region 28 with fail
                    clear r3 rf hS4
                    generalize w4.setCell ⟨gx, 3, none⟩ (.int .i64 (k4 : Int)) = w5 at *
                    have r0 := hS.rw.rc.cellAt 0 rfl
                    have r1 := hS.rw.rc.cellAt 1 rfl
                    have r2 := hS.rw.rc.cellAt 2 rfl
                    have r3 := hS.rw.rc.cellAt 3 rfl
                    have r4 := hS.rw.rc.cellAt 4 rfl
                    have r5 := hS.rw.rc.cellAt 5 rfl
                    have t0 := hS.res.cellAt 0 rfl
                    have t1 := hS.res.cellAt 1 rfl
                    have t2 := hS.res.cellAt 2 rfl
                    have t3 := hS.res.cellAt 3 rfl
                    have t4 := hS.res.cellAt 4 rfl
                    have t5 := hS.res.cellAt 5 rfl
                    have tf := hS.res.frozen
                    obtain ⟨hRC, hRB, hBel⟩ := hS.done 2 (p1) p2 ((k4 : Int))
                    go_wp2
                    clear r0 r1 r2 r3 r4 r5 t0 t1 t2 t3 t4 t5 tf hS
                    generalize (((((w5.setCell ⟨w.heap.size + 1, 0, none⟩ (.int .i64 2)).setCell ⟨w.heap.size + 1, 1, none⟩ (.int .i64 (p1))).setCell ⟨w.heap.size + 1, 2, none⟩ (.int .i64 p2)).setCell ⟨w.heap.size + 1, 3, none⟩ (.int .i64 ((k4 : Int)))).setCell ⟨w.heap.size + 1, 4, none⟩ (.slice A1 q1 c1)).setCell ⟨w.heap.size + 1, 5, none⟩ (.slice A2 q2 c2) = wz at *
                    have r0 := hRB.cellAt 0 rfl
                    have r1 := hRB.cellAt 1 rfl
                    have r2 := hRB.cellAt 2 rfl
                    have r3 := hRB.cellAt 3 rfl
                    have r4 := hRB.cellAt 4 rfl
                    have r5 := hRB.cellAt 5 rfl
                    have hl1 := HQ1.out.1
                    have hl2 := HQ1.out.2
                    exact bodyPost_ret (v := .agg #[.int .i64 2, .int .i64 (p1), .int .i64 p2, .int .i64 ((k4 : Int)), .slice A1 q1 c1, .slice A2 q2 c2]) (by simp [results, Try.results58, go_sem, r0, r1, r2, r3, r4, r5]) rfl (recP_mk hRC HKX.out (by omega) (by first | omega | (rw [List.length_append, List.length_singleton]; omega)) hBel)
                  · have h2' : decide ((kk : Int) = 2) = false := decide_eq_false (by omega)
                    go_upto_region 28 with fail
                    have r0 := hS.rw.rc.cellAt 0 rfl
                    have r1 := hS.rw.rc.cellAt 1 rfl
                    have r2 := hS.rw.rc.cellAt 2 rfl
                    have r3 := hS.rw.rc.cellAt 3 rfl
                    have r4 := hS.rw.rc.cellAt 4 rfl
                    have r5 := hS.rw.rc.cellAt 5 rfl
                    have t0 := hS.res.cellAt 0 rfl
                    have t1 := hS.res.cellAt 1 rfl
                    have t2 := hS.res.cellAt 2 rfl
                    have t3 := hS.res.cellAt 3 rfl
                    have t4 := hS.res.cellAt 4 rfl
                    have t5 := hS.res.cellAt 5 rfl
                    have tf := hS.res.frozen
                    obtain ⟨hRC, hRB, hBel⟩ := hS.done 2 (p1) p2 ((ni2 : Int))
                    go_wp2
                    clear r0 r1 r2 r3 r4 r5 t0 t1 t2 t3 t4 t5 tf hS
                    generalize (((((wt.setCell ⟨w.heap.size + 1, 0, none⟩ (.int .i64 2)).setCell ⟨w.heap.size + 1, 1, none⟩ (.int .i64 (p1))).setCell ⟨w.heap.size + 1, 2, none⟩ (.int .i64 p2)).setCell ⟨w.heap.size + 1, 3, none⟩ (.int .i64 ((ni2 : Int)))).setCell ⟨w.heap.size + 1, 4, none⟩ (.slice A1 q1 c1)).setCell ⟨w.heap.size + 1, 5, none⟩ (.slice A2 q2 c2) = wz at *
                    have r0 := hRB.cellAt 0 rfl
                    have r1 := hRB.cellAt 1 rfl
                    have r2 := hRB.cellAt 2 rfl
                    have r3 := hRB.cellAt 3 rfl
                    have r4 := hRB.cellAt 4 rfl
                    have r5 := hRB.cellAt 5 rfl
                    have hl1 := HQ1.out.1
                    have hl2 := HQ1.out.2
                    exact bodyPost_ret (v := .agg #[.int .i64 2, .int .i64 (p1), .int .i64 p2, .int .i64 ((ni2 : Int)), .slice A1 q1 c1, .slice A2 q2 c2]) (by simp [results, Try.results58, go_sem, r0, r1, r2, r3, r4, r5]) rfl (recP_mk hRC HKX.out (by omega) (by first | omega | (rw [List.length_append, List.length_singleton]; omega)) hBel)
          · have hd1 : decide (0 < (k : Int)) = false := decide_eq_false (by omega)
            obtain ⟨iq, hsq⟩ := hS.src
            go_wp2_with fail
            refine (next_any g A n c iq 12 _ hsq (by omega) (by omega)).mono ?_; rintro _ wt ⟨kk, hkk, rfl, hs, hg⟩
            replace hS := hS.take ⟨_, hs⟩ hg
            clear hs hg hsq r3
            by_cases h0 : kk = 0
            · subst h0
              go_upto_region 23 with fail
              refine wp_region_L (SB 7 (fun w' => w'.cell? ⟨gx, 1, none⟩ = some (.int .i64 p1))) (by kernel_rfl) ?_
              replace hS := hS.drew
              generalize wt.drew = wy at *
              have HF : Hid (wy.cell? ⟨gx, 1, none⟩ = some (.int .i64 p1)) := hS.rw.rc.cellAt 1 rfl
              refine wpAnyL_takeD (fun _ => True) (i := 0) (v := (.pointer (some ⟨gx, 1, none⟩))) (some 106) rfl rfl (by kernel_rfl) (by kernel_rfl) (by kernel_rfl) (fun _ _ _ h => h) (fun _ _ _ _ _ _ => trivial) (fun _ _ _ => SB.set (by decide)) trivial (Or.inl ⟨by rfl, fun w' hw' => by go_simp⟩) (fun _ => HF.out) ?_
              simp only [Act.put, List.setIfInBounds_toArray, List.set_cons_zero, List.set_cons_succ]
              refine wpAnyL_takeD (fun _ => True) (i := 2) (v := (.pointer (some ⟨g, 0, none⟩))) (some 108) rfl rfl (by kernel_rfl) (by kernel_rfl) (by kernel_rfl) (fun _ _ _ h => h) (fun _ _ _ _ _ _ => trivial) (fun _ _ _ => SB.set (by decide)) trivial (Or.inl ⟨by rfl, fun w' hw' => by go_simp⟩) (fun _ => HF.out) ?_
              simp only [Act.put, List.setIfInBounds_toArray, List.set_cons_zero, List.set_cons_succ]
              refine wpAnyL_takeD (fun l => l.getD 7 false = false) (i := 1) (v := (.int .i64 p1)) (some 107) rfl rfl (by kernel_rfl) (by kernel_rfl) (by kernel_rfl) (fun _ _ _ h => h) (fun l j hc hi hj hne => (getD_set_ne false (waits_ne (k := 7) hi hj (by kernel_rfl))).trans hc) (fun _ _ _ => SB.set (by decide)) rfl (Or.inl ⟨by rfl, fun w' hw' => by obtain ⟨l, hc, hl⟩ := hw'; have x1 := hl hc; go_simp⟩) (fun _ => HF.out) ?_
              simp only [Act.put, List.setIfInBounds_toArray, List.set_cons_zero, List.set_cons_succ]
              refine wpAnyL_one (i := 3) (by decide +kernel) ?_
              refine wpOp_go (o := _) rfl (fun K hK => ?_)
              go_simp
              go_at_call 46
              obtain ⟨iq, hsq⟩ := hS.src
              refine (next_any g A n c iq 3 _ hsq (by omega) (by omega)).mono ?_; rintro _ wy ⟨kd, hkd, rfl, hs, hg⟩
              replace hS := hS.take ⟨_, hs⟩ hg
              clear HF
              have HF : Hid (wy.cell? ⟨gx, 1, none⟩ = some (.int .i64 p1)) := hS.rw.rc.cellAt 1 rfl
              refine hK _ _ ⟨fun _ => HF.out, ?_⟩
              clear hK K hs hg hsq
              have hw2 : IntKind.i64.wrap ((kd : Int) - 1) = (kd : Int) - 1 := IntWalk.i64_in _ (by omega)
              have hw3 : IntKind.i64.wrap (p1 + ((kd : Int) - 1)) = p1 + ((kd : Int) - 1) := IntWalk.i64_in _ (by omega)
              refine wpAnyL_takeD (fun _ => True) (i := 4) (v := (.int .i64 ((kd : Int) - 1))) (some 110) rfl rfl (by kernel_rfl) (by kernel_rfl) (by kernel_rfl) (fun _ _ _ h => h) (fun _ _ _ _ _ _ => trivial) (fun _ _ _ => SB.set (by decide)) trivial (Or.inl ⟨by rfl, fun w' hw' => by go_simp⟩) (fun _ => HF.out) ?_
              simp only [Act.put, List.setIfInBounds_toArray, List.set_cons_zero, List.set_cons_succ]
              refine wpAnyL_takeD (fun _ => True) (i := 5) (v := (.int .i64 (p1 + ((kd : Int) - 1)))) (some 111) rfl rfl (by kernel_rfl) (by kernel_rfl) (by kernel_rfl) (fun _ _ _ h => h) (fun _ _ _ _ _ _ => trivial) (fun _ _ _ => SB.set (by decide)) trivial (Or.inl ⟨by rfl, fun w' hw' => by go_simp⟩) (fun _ => HF.out) ?_
              simp only [Act.put, List.setIfInBounds_toArray, List.set_cons_zero, List.set_cons_succ]
              refine wpAnyL_takeD (fun _ => True) (i := 6) (v := (.pointer (some ⟨gx, 1, none⟩))) (some 112) rfl rfl (by kernel_rfl) (by kernel_rfl) (by kernel_rfl) (fun _ _ _ h => h) (fun _ _ _ _ _ _ => trivial) (fun _ _ _ => SB.set (by decide)) trivial (Or.inl ⟨by rfl, fun w' hw' => by go_simp⟩) (fun _ => HF.out) ?_
              simp only [Act.put, List.setIfInBounds_toArray, List.set_cons_zero, List.set_cons_succ]
              have z1 := hS.rw.rc.cellAt 1 rfl
              have zf := hS.rw.rc.frozen
              have hS2 : RS w (wy.setCell ⟨gx, 1, none⟩ (.int .i64 (p1 + ((kd : Int) - 1)))) g gx B A n c sc [.int .i64 2, .int .i64 (p1 + ((kd : Int) - 1)), .int .i64 p2, .int .i64 (ni2 : Int), .slice A1 q1 c1, .slice A2 q2 c2] (.slice A1 q1 c1) xs (.slice A2 q2 c2) ys := hS.set 1 _
              refine wpAnyL_one (i := 7) (by decide +kernel) ?_
              refine wpOp_go (o := _) rfl (fun K hK => ?_)
              go_simp
              refine hK _ _ ⟨fun h => absurd h (by decide), ?_⟩
              clear hK K z1 zf hS HF
              refine wpAnyL_done (by decide +kernel) ?_ _
              generalize wy.setCell ⟨gx, 1, none⟩ (.int .i64 (p1 + ((kd : Int) - 1))) = wf2 at *
              have hS := hS2
              clear hS2
              have r0 := hS.rw.rc.cellAt 0 rfl
              have r1 := hS.rw.rc.cellAt 1 rfl
              have r2 := hS.rw.rc.cellAt 2 rfl
              have r3 := hS.rw.rc.cellAt 3 rfl
              have r4 := hS.rw.rc.cellAt 4 rfl
              have r5 := hS.rw.rc.cellAt 5 rfl
              have t0 := hS.res.cellAt 0 rfl
              have t1 := hS.res.cellAt 1 rfl
              have t2 := hS.res.cellAt 2 rfl
              have t3 := hS.res.cellAt 3 rfl
              have t4 := hS.res.cellAt 4 rfl
              have t5 := hS.res.cellAt 5 rfl
              have tf := hS.res.frozen
              obtain ⟨hRC, hRB, hBel⟩ := hS.done 2 (p1 + ((kd : Int) - 1)) p2 ((ni2 : Int))
              go_wp2
              clear r0 r1 r2 r3 r4 r5 t0 t1 t2 t3 t4 t5 tf hS
              generalize (((((wf2.setCell ⟨w.heap.size + 1, 0, none⟩ (.int .i64 2)).setCell ⟨w.heap.size + 1, 1, none⟩ (.int .i64 (p1 + ((kd : Int) - 1)))).setCell ⟨w.heap.size + 1, 2, none⟩ (.int .i64 p2)).setCell ⟨w.heap.size + 1, 3, none⟩ (.int .i64 ((ni2 : Int)))).setCell ⟨w.heap.size + 1, 4, none⟩ (.slice A1 q1 c1)).setCell ⟨w.heap.size + 1, 5, none⟩ (.slice A2 q2 c2) = wz at *
              have r0 := hRB.cellAt 0 rfl
              have r1 := hRB.cellAt 1 rfl
              have r2 := hRB.cellAt 2 rfl
              have r3 := hRB.cellAt 3 rfl
              have r4 := hRB.cellAt 4 rfl
              have r5 := hRB.cellAt 5 rfl
              have hl1 := HQ1.out.1
              have hl2 := HQ1.out.2
              exact bodyPost_ret (v := .agg #[.int .i64 2, .int .i64 (p1 + ((kd : Int) - 1)), .int .i64 p2, .int .i64 ((ni2 : Int)), .slice A1 q1 c1, .slice A2 q2 c2]) (by simp [results, Try.results58, go_sem, r0, r1, r2, r3, r4, r5]) rfl (recP_mk hRC HKX.out (by omega) (by first | omega | (rw [List.length_append, List.length_singleton]; omega)) hBel)
            · have h0' : decide ((kk : Int) = 0) = false := decide_eq_false (by omega)
              by_cases h1 : kk = 1
              · subst h1
                have r5 := hS.rw.rc.cellAt 5 rfl
                go_wp2_with (at_builtin; refine hS.rw.oneR 90 (by rw [HQ1.out.2]; omega) ?_ rfl _ _ rfl rfl rfl)
                intro v' w4 hN hgb _
                have hS4 := hS.rowR hN hgb
                obtain ⟨A3, c3, hv3, hc3⟩ := own_form hN.rem
                rw [List.length_append, List.length_singleton, HQ1.out.2] at hv3 hc3
                subst hv3
                clear r5 hS hN hgb
                have r5 := hS4.rw.rc.cellAt 5 rfl
                have rf := hS4.rw.rc.frozen
                have hS : RS w (w4.setCell ⟨gx, 5, none⟩ (.slice A3 (q2 + 1) c3)) g gx B A n c sc [.int .i64 2, .int .i64 p1, .int .i64 p2, .int .i64 (ni2 : Int), .slice A1 q1 c1, .slice A3 (q2 + 1) c3] (.slice A1 q1 c1) xs (.slice A3 (q2 + 1) c3) (ys ++ [90]) := hS4.set 5 _
                go_upto_region 28 with fail
                clear r5 rf hS4
                generalize w4.setCell ⟨gx, 5, none⟩ (.slice A3 (q2 + 1) c3) = w5 at *
                have r0 := hS.rw.rc.cellAt 0 rfl
                have r1 := hS.rw.rc.cellAt 1 rfl
                have r2 := hS.rw.rc.cellAt 2 rfl
                have r3 := hS.rw.rc.cellAt 3 rfl
                have r4 := hS.rw.rc.cellAt 4 rfl
                have r5 := hS.rw.rc.cellAt 5 rfl
                have t0 := hS.res.cellAt 0 rfl
                have t1 := hS.res.cellAt 1 rfl
                have t2 := hS.res.cellAt 2 rfl
                have t3 := hS.res.cellAt 3 rfl
                have t4 := hS.res.cellAt 4 rfl
                have t5 := hS.res.cellAt 5 rfl
                have tf := hS.res.frozen
                obtain ⟨hRC, hRB, hBel⟩ := hS.done 2 (p1) p2 ((ni2 : Int))
                go_wp2
                clear r0 r1 r2 r3 r4 r5 t0 t1 t2 t3 t4 t5 tf hS
                generalize (((((w5.setCell ⟨w.heap.size + 1, 0, none⟩ (.int .i64 2)).setCell ⟨w.heap.size + 1, 1, none⟩ (.int .i64 (p1))).setCell ⟨w.heap.size + 1, 2, none⟩ (.int .i64 p2)).setCell ⟨w.heap.size + 1, 3, none⟩ (.int .i64 ((ni2 : Int)))).setCell ⟨w.heap.size + 1, 4, none⟩ (.slice A1 q1 c1)).setCell ⟨w.heap.size + 1, 5, none⟩ (.slice A3 (q2 + 1) c3) = wz at *
                have r0 := hRB.cellAt 0 rfl
                have r1 := hRB.cellAt 1 rfl
                have r2 := hRB.cellAt 2 rfl
                have r3 := hRB.cellAt 3 rfl
                have r4 := hRB.cellAt 4 rfl
                have r5 := hRB.cellAt 5 rfl
                have hl1 := HQ1.out.1
                have hl2 := HQ1.out.2
                exact bodyPost_ret (v := .agg #[.int .i64 2, .int .i64 (p1), .int .i64 p2, .int .i64 ((ni2 : Int)), .slice A1 q1 c1, .slice A3 (q2 + 1) c3]) (by simp [results, Try.results58, go_sem, r0, r1, r2, r3, r4, r5]) rfl (recP_mk hRC HKX.out (by omega) (by first | omega | (rw [List.length_append, List.length_singleton]; omega)) hBel)
              · have h1' : decide ((kk : Int) = 1) = false := decide_eq_false (by omega)
                by_cases h2 : kk = 2
                · subst h2
                  obtain ⟨iq, hsq⟩ := hS.src
                  go_wp2_with fail
                  refine (next_any g A n c iq 40 _ hsq (by omega) (by omega)).mono ?_; rintro _ w4 ⟨k4, hk4, rfl, hs, hg⟩
                  have hS4 := hS.take ⟨_, hs⟩ hg
                  clear hs hg hsq hS
                  have r3 := hS4.rw.rc.cellAt 3 rfl
                  have rf := hS4.rw.rc.frozen
                  have hS : RS w (w4.setCell ⟨gx, 3, none⟩ (.int .i64 (k4 : Int))) g gx B A n c sc [.int .i64 2, .int .i64 p1, .int .i64 p2, .int .i64 (k4 : Int), .slice A1 q1 c1, .slice A2 q2 c2] (.slice A1 q1 c1) xs (.slice A2 q2 c2) ys := hS4.set 3 _
                  go_upto_region 28 with fail
                  clear r3 rf hS4
                  generalize w4.setCell ⟨gx, 3, none⟩ (.int .i64 (k4 : Int)) = w5 at *
                  have r0 := hS.rw.rc.cellAt 0 rfl
                  have r1 := hS.rw.rc.cellAt 1 rfl
                  have r2 := hS.rw.rc.cellAt 2 rfl
                  have r3 := hS.rw.rc.cellAt 3 rfl
                  have r4 := hS.rw.rc.cellAt 4 rfl
                  have r5 := hS.rw.rc.cellAt 5 rfl
                  have t0 := hS.res.cellAt 0 rfl
                  have t1 := hS.res.cellAt 1 rfl
                  have t2 := hS.res.cellAt 2 rfl
                  have t3 := hS.res.cellAt 3 rfl
                  have t4 := hS.res.cellAt 4 rfl
                  have t5 := hS.res.cellAt 5 rfl
                  have tf := hS.res.frozen
                  obtain ⟨hRC, hRB, hBel⟩ := hS.done 2 (p1) p2 ((k4 : Int))
                  go_wp2
                  clear r0 r1 r2 r3 r4 r5 t0 t1 t2 t3 t4 t5 tf hS
                  generalize (((((w5.setCell ⟨w.heap.size + 1, 0, none⟩ (.int .i64 2)).setCell ⟨w.heap.size + 1, 1, none⟩ (.int .i64 (p1))).setCell ⟨w.heap.size + 1, 2, none⟩ (.int .i64 p2)).setCell ⟨w.heap.size + 1, 3, none⟩ (.int .i64 ((k4 : Int)))).setCell ⟨w.heap.size + 1, 4, none⟩ (.slice A1 q1 c1)).setCell ⟨w.heap.size + 1, 5, none⟩ (.slice A2 q2 c2) = wz at *
                  have r0 := hRB.cellAt 0 rfl
                  have r1 := hRB.cellAt 1 rfl
                  have r2 := hRB.cellAt 2 rfl
                  have r3 := hRB.cellAt 3 rfl
                  have r4 := hRB.cellAt 4 rfl
                  have r5 := hRB.cellAt 5 rfl
                  have hl1 := HQ1.out.1
                  have hl2 := HQ1.out.2
                  exact bodyPost_ret (v := .agg #[.int .i64 2, .int .i64 (p1), .int .i64 p2, .int .i64 ((k4 : Int)), .slice A1 q1 c1, .slice A2 q2 c2]) (by simp [results, Try.results58, go_sem, r0, r1, r2, r3, r4, r5]) rfl (recP_mk hRC HKX.out (by omega) (by first | omega | (rw [List.length_append, List.length_singleton]; omega)) hBel)
                · have h2' : decide ((kk : Int) = 2) = false := decide_eq_false (by omega)
                  go_upto_region 28 with fail
                  have r0 := hS.rw.rc.cellAt 0 rfl
                  have r1 := hS.rw.rc.cellAt 1 rfl
                  have r2 := hS.rw.rc.cellAt 2 rfl
                  have r3 := hS.rw.rc.cellAt 3 rfl
                  have r4 := hS.rw.rc.cellAt 4 rfl
                  have r5 := hS.rw.rc.cellAt 5 rfl
                  have t0 := hS.res.cellAt 0 rfl
                  have t1 := hS.res.cellAt 1 rfl
                  have t2 := hS.res.cellAt 2 rfl
                  have t3 := hS.res.cellAt 3 rfl
                  have t4 := hS.res.cellAt 4 rfl
                  have t5 := hS.res.cellAt 5 rfl
                  have tf := hS.res.frozen
                  obtain ⟨hRC, hRB, hBel⟩ := hS.done 2 (p1) p2 ((ni2 : Int))
                  go_wp2
                  clear r0 r1 r2 r3 r4 r5 t0 t1 t2 t3 t4 t5 tf hS
                  generalize (((((wt.setCell ⟨w.heap.size + 1, 0, none⟩ (.int .i64 2)).setCell ⟨w.heap.size + 1, 1, none⟩ (.int .i64 (p1))).setCell ⟨w.heap.size + 1, 2, none⟩ (.int .i64 p2)).setCell ⟨w.heap.size + 1, 3, none⟩ (.int .i64 ((ni2 : Int)))).setCell ⟨w.heap.size + 1, 4, none⟩ (.slice A1 q1 c1)).setCell ⟨w.heap.size + 1, 5, none⟩ (.slice A2 q2 c2) = wz at *
                  have r0 := hRB.cellAt 0 rfl
                  have r1 := hRB.cellAt 1 rfl
                  have r2 := hRB.cellAt 2 rfl
                  have r3 := hRB.cellAt 3 rfl
                  have r4 := hRB.cellAt 4 rfl
                  have r5 := hRB.cellAt 5 rfl
                  have hl1 := HQ1.out.1
                  have hl2 := HQ1.out.2
                  exact bodyPost_ret (v := .agg #[.int .i64 2, .int .i64 (p1), .int .i64 p2, .int .i64 ((ni2 : Int)), .slice A1 q1 c1, .slice A2 q2 c2]) (by simp [results, Try.results58, go_sem, r0, r1, r2, r3, r4, r5]) rfl (recP_mk hRC HKX.out (by omega) (by first | omega | (rw [List.length_append, List.length_singleton]; omega)) hBel)

end Go.Proofs.Ytgacjpkgpegcdaa
