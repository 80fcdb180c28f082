/-
  The walk of ZoneRoundTrip.
-/
import Derived.Test.YtnichmblekbccaaZPlain5
import Derived.Test.YtnichmblekbccaaZLaws5
namespace Go.Proofs.Ytnichmblekbccaa
open Go.RowKit

theorem saddC {P : Program} {a b : ByteArray} (h : a.size + b.size ≤ 1000000000000000) (w : World) : (Op.stringOp .add a b).run P w = .ok (.string (a ++ b)) w := run_string_add_sum w _ _ (by omega)
theorem saddA {P : Program} {a : ByteArray} {b : List UInt8} (h : a.size + b.length ≤ 1000000000000000) (w : World) : (Op.stringOp .add a ⟨b.toArray⟩).run P w = .ok (.string (a ++ ⟨b.toArray⟩)) w := saddC (by rw [size_mk b]; omega) w
set_option maxRecDepth 100000 in
set_option maxHeartbeats 2000000 in
theorem walk_ZoneRoundTrip (t : Int) (A : Option Addr) (n c : Nat) (zs : List Int) (bf bh : ByteArray) (w : World) (_wt : (Lit.int .i64 t).wf = true)
    (hr : Rd w w.heap.size A (zs.map Iv)) (hn : zs.length = n) (hz : ∀ z ∈ zs, (Lit.int .i64 z).wf = true) (_hc : n ≤ c) (hb : n * 8 ≤ 140737488351232) (hs1 : bf.size ≤ 140737488351232) (hs2 : bh.size ≤ 140737488351232) :
    Calls Try.prog 9 #[.int .i64 t, .slice A n c, .string bf, .string bh] w fun e w' => e = .returned (.bool true) ∧ Below w.heap.size w w' := by
  have HZ := Lib.hid (wf_i64s hz)
  have HN := Lib.hid hn
  clear hz hn _hc _wt
  go_enter Try.func9, Try.ntmps9
  go_wp2_with fail
  refine (column_any t true _).mono ?_; rintro e w1 ⟨k, hk, rfl, hb1⟩
  dsimp only [colV]
  have hC1 := Blk.new' w1 32 #[.string ⟨#[120]⟩, .int .i64 (1 + (k : Int)), .int .i64 0, .bool true]
  have hbc := (Below.refl w1.heap.size w1).alloc (Nat.le_refl _) (.cells #[.string ⟨#[120]⟩, .int .i64 (1 + (k : Int)), .int .i64 0, .bool true] 32)
  have hrA := (hr.call hb1).call hbc
  have hb2 := bt hb1 hbc
  clear hr hb1 hbc
  go_upto_region 2 with fail
  generalize w1.alloc (.cells #[.string ⟨#[120]⟩, .int .i64 (1 + (k : Int)), .int .i64 0, .bool true] 32) = w2 at *
  generalize w1.heap.size = gc at *
  have HVS : Hid (∀ ws : World, Rd ws ws.heap.size A (zs.map Iv) → Calls Try.prog 13 #[colV (1 + (k : Int)) true, .slice A n c] ws (ValuesPost ws (1 + (k : Int)) true)) := fun ws h => values_any k hk true A n c zs ws h HN.out HZ.out (by omega)
  go_cut [10] (fun p wy => ∃ (g : Nat) (X : List Vl) (y : Zn), p = .pointer (some ⟨g, 0, none⟩) ∧ Hid ((∀ v ∈ X, okV (1 + (k : Int)) v ∧ (v.null = true → true = true)) ∧ X.length ≤ 39 ∧ y = zoneL (1 + (k : Int)) X.length X) ∧ Blk wy g 25 [.int .i64 y.rows, .int .i64 y.nulls, .bool y.mn.null, .int .i64 y.mn.n, .string y.mn.s, .bool y.mx.null, .int .i64 y.mx.n, .string y.mx.s] ∧ Below w2.heap.size w2 wy)
  case first =>
    have MK : Hid (∀ w', Below w2.heap.size w2 w' → (Below w2.heap.size w2 w' ∧ w'.cell? ⟨gc, 0, none⟩ = some (.string ⟨#[120]⟩) ∧ w'.cell? ⟨gc, 1, none⟩ = some (.int .i64 (1 + (k : Int))) ∧ w'.cell? ⟨gc, 2, none⟩ = some (.int .i64 0) ∧ w'.cell? ⟨gc, 3, none⟩ = some (.bool true))) := fun w' h => ⟨h, (hC1.call h).cellAt 0 rfl, (hC1.call h).cellAt 1 rfl, (hC1.call h).cellAt 2 rfl, (hC1.call h).cellAt 3 rfl⟩
    have hB : Below w2.heap.size w2 w2.drew := Below.drew (Below.refl _ _)
    refine wp_region_L (fun _ w' => Below w2.heap.size w2 w' ∧ w'.cell? ⟨gc, 0, none⟩ = some (.string ⟨#[120]⟩) ∧ w'.cell? ⟨gc, 1, none⟩ = some (.int .i64 (1 + (k : Int))) ∧ w'.cell? ⟨gc, 2, none⟩ = some (.int .i64 0) ∧ w'.cell? ⟨gc, 3, none⟩ = some (.bool true)) (by kernel_rfl) ?_
    generalize w2.drew = wx at *
    have HS := Lib.hid (MK.out _ hB)
    refine wpAnyL_takeD (fun _ => True) (i := 0) (v := (.pointer (some ⟨gc, 1, none⟩))) (some 17) rfl rfl (by kernel_rfl) (by kernel_rfl) (by kernel_rfl) (fun _ _ _ h => h) (fun _ _ _ _ _ _ => trivial) (fun _ _ _ => Iff.rfl) trivial (Or.inl ⟨by rfl, fun w' hw' => by obtain ⟨l, _, hl⟩ := hw'; obtain ⟨_, k0, k1, k2, k3⟩ := hl; go_simp⟩) HS.out ?_
    simp only [Act.put, List.setIfInBounds_toArray, List.set_cons_zero, List.set_cons_succ]
    refine wpAnyL_takeD (fun _ => True) (i := 1) (v := (.int .i64 (1 + (k : Int)))) (some 18) rfl rfl (by kernel_rfl) (by kernel_rfl) (by kernel_rfl) (fun _ _ _ h => h) (fun _ _ _ _ _ _ => trivial) (fun _ _ _ => Iff.rfl) trivial (Or.inl ⟨by rfl, fun w' hw' => by obtain ⟨l, _, hl⟩ := hw'; obtain ⟨_, k0, k1, k2, k3⟩ := hl; go_simp⟩) HS.out ?_
    simp only [Act.put, List.setIfInBounds_toArray, List.set_cons_zero, List.set_cons_succ]
    refine wpAnyL_takeD (fun _ => True) (i := 2) (v := (.agg #[.string ⟨#[120]⟩, .int .i64 (1 + (k : Int)), .int .i64 0, .bool true])) (some 19) rfl rfl (by kernel_rfl) (by kernel_rfl) (by kernel_rfl) (fun _ _ _ h => h) (fun _ _ _ _ _ _ => trivial) (fun _ _ _ => Iff.rfl) trivial (Or.inl ⟨by rfl, fun w' hw' => by obtain ⟨l, _, hl⟩ := hw'; obtain ⟨_, k0, k1, k2, k3⟩ := hl; go_simp⟩) HS.out ?_
    simp only [Act.put, List.setIfInBounds_toArray, List.set_cons_zero, List.set_cons_succ]
    refine wpAnyL_takeD (fun _ => True) (i := 3) (v := (.slice A n c)) (some 20) rfl rfl (by kernel_rfl) (by kernel_rfl) (by kernel_rfl) (fun _ _ _ h => h) (fun _ _ _ _ _ _ => trivial) (fun _ _ _ => Iff.rfl) trivial (Or.inl ⟨by rfl, fun w' hw' => by obtain ⟨l, _, hl⟩ := hw'; obtain ⟨_, k0, k1, k2, k3⟩ := hl; go_simp⟩) HS.out ?_
    simp only [Act.put, List.setIfInBounds_toArray, List.set_cons_zero, List.set_cons_succ]
    clear HS
    refine wpAnyL_lst (rs := [4, 6]) (by decide +kernel) ⟨List.cons_ne_nil _ _, ?_⟩
    refine List.forall_mem_cons.2 ⟨?_, List.forall_mem_cons.2 ⟨?_, (fun _ h => absurd h List.not_mem_nil)⟩⟩
    · skip
      refine wpOp_go (o := _) rfl (fun K hK => ?_)
      go_simp
      go_at_call 13
      refine (HVS.out wx (hrA.call hB)).mono ?_; rintro e wx ⟨v3, xs, rfl, ho3, hk3, hl3, hbx⟩
      try replace hG3 := hG3.call hbx
      obtain ⟨B3, d3, rfl, hd3⟩ := own_form ho3
      have hx := Rd.of_own ho3
      clear ho3
      replace hB := bt hB hbx
      refine hK _ _ ⟨MK.out _ hB, ?_⟩
      clear hK K hbx
      refine wpAnyL_lst (rs := [5, 6]) (by decide +kernel) ⟨List.cons_ne_nil _ _, ?_⟩
      refine List.forall_mem_cons.2 ⟨?_, List.forall_mem_cons.2 ⟨?_, (fun _ h => absurd h List.not_mem_nil)⟩⟩
      · skip
        refine wpOp_go (o := _) rfl (fun K hK => ?_)
        go_simp
        go_at_call 10
        refine (of_any (1 + (k : Int)) B3 _ d3 xs wx hx rfl (by omega)).mono ?_; rintro e wx ⟨rfl, hbx⟩
        generalize hzz : zoneL (1 + (k : Int)) xs.length xs = zy
        obtain ⟨yr, yn, ⟨ymn, ymi, ymz⟩, ⟨yxn, yxi, yxz⟩⟩ := zy
        have HZZ := Lib.hid hzz
        clear hzz
        dsimp only [Zv]
        try replace hG3 := hG3.call hbx
        replace hB := bt hB hbx
        refine hK _ _ ⟨MK.out _ hB, ?_⟩
        clear hK K hbx hx
        refine wpAnyL_one (i := 6) (by decide +kernel) ?_
        refine wpOp_go (o := _) rfl (fun K hK => ?_)
        go_simp
        have hG3 := Blk.new' wx 25 #[.int .i64 0, .int .i64 0, .bool false, .int .i64 0, .string ⟨#[]⟩, .bool false, .int .i64 0, .string ⟨#[]⟩]
        have hl3g : w2.heap.size ≤ wx.heap.size := hB.size
        try replace hx := hx.call ((Below.refl _ _).alloc (Nat.le_refl _) (.cells #[.int .i64 0, .int .i64 0, .bool false, .int .i64 0, .string ⟨#[]⟩, .bool false, .int .i64 0, .string ⟨#[]⟩] 25))
        replace hB := below_alloc (o := .cells #[.int .i64 0, .int .i64 0, .bool false, .int .i64 0, .string ⟨#[]⟩, .bool false, .int .i64 0, .string ⟨#[]⟩] 25) hB
        refine hK _ _ ⟨MK.out _ hB, ?_⟩
        clear hK K
        generalize wx.alloc (.cells #[.int .i64 0, .int .i64 0, .bool false, .int .i64 0, .string ⟨#[]⟩, .bool false, .int .i64 0, .string ⟨#[]⟩] 25) = wx at *
        refine wpAnyL_one (i := 7) (by decide +kernel) ?_
        have of := fun j => hG3.frozen j
        have o0 := hG3.cellAt 0 rfl
        have o1 := hG3.cellAt 1 rfl
        have o2 := hG3.cellAt 2 rfl
        have o3 := hG3.cellAt 3 rfl
        have o4 := hG3.cellAt 4 rfl
        have o5 := hG3.cellAt 5 rfl
        have o6 := hG3.cellAt 6 rfl
        have o7 := hG3.cellAt 7 rfl
        refine wpOp_go (o := _) rfl (fun K hK => ?_)
        go_simp
        clear of o0 o1 o2 o3 o4 o5 o6 o7
        replace hG3 := st8 hG3 (.int .i64 yr) (.int .i64 yn) (.bool ymn) (.int .i64 ymi) (.string ymz) (.bool yxn) (.int .i64 yxi) (.string yxz)
        replace hB := st8_below hB hl3g (.int .i64 yr) (.int .i64 yn) (.bool ymn) (.int .i64 ymi) (.string ymz) (.bool yxn) (.int .i64 yxi) (.string yxz)
        refine hK _ _ ⟨MK.out _ hB, ?_⟩
        clear hK K
        refine wpAnyL_done (by decide +kernel) ?_ _
        go_wp2_with fail
        go_meet
        exact ⟨_, xs, ⟨yr, yn, ⟨ymn, ymi, ymz⟩, ⟨yxn, yxi, yxz⟩⟩, rfl, ⟨hk3, hl3, HZZ.out.symm⟩, hG3, hB⟩
      · skip
        refine wpOp_go (o := _) rfl (fun K hK => ?_)
        go_simp
        have hG3 := Blk.new' wx 25 #[.int .i64 0, .int .i64 0, .bool false, .int .i64 0, .string ⟨#[]⟩, .bool false, .int .i64 0, .string ⟨#[]⟩]
        have hl3g : w2.heap.size ≤ wx.heap.size := hB.size
        try replace hx := hx.call ((Below.refl _ _).alloc (Nat.le_refl _) (.cells #[.int .i64 0, .int .i64 0, .bool false, .int .i64 0, .string ⟨#[]⟩, .bool false, .int .i64 0, .string ⟨#[]⟩] 25))
        replace hB := below_alloc (o := .cells #[.int .i64 0, .int .i64 0, .bool false, .int .i64 0, .string ⟨#[]⟩, .bool false, .int .i64 0, .string ⟨#[]⟩] 25) hB
        refine hK _ _ ⟨MK.out _ hB, ?_⟩
        clear hK K
        generalize wx.alloc (.cells #[.int .i64 0, .int .i64 0, .bool false, .int .i64 0, .string ⟨#[]⟩, .bool false, .int .i64 0, .string ⟨#[]⟩] 25) = wx at *
        refine wpAnyL_one (i := 5) (by decide +kernel) ?_
        refine wpOp_go (o := _) rfl (fun K hK => ?_)
        go_simp
        go_at_call 10
        refine (of_any (1 + (k : Int)) B3 _ d3 xs wx hx rfl (by omega)).mono ?_; rintro e wx ⟨rfl, hbx⟩
        generalize hzz : zoneL (1 + (k : Int)) xs.length xs = zy
        obtain ⟨yr, yn, ⟨ymn, ymi, ymz⟩, ⟨yxn, yxi, yxz⟩⟩ := zy
        have HZZ := Lib.hid hzz
        clear hzz
        dsimp only [Zv]
        try replace hG3 := hG3.call hbx
        replace hB := bt hB hbx
        refine hK _ _ ⟨MK.out _ hB, ?_⟩
        clear hK K hbx hx
        refine wpAnyL_one (i := 7) (by decide +kernel) ?_
        have of := fun j => hG3.frozen j
        have o0 := hG3.cellAt 0 rfl
        have o1 := hG3.cellAt 1 rfl
        have o2 := hG3.cellAt 2 rfl
        have o3 := hG3.cellAt 3 rfl
        have o4 := hG3.cellAt 4 rfl
        have o5 := hG3.cellAt 5 rfl
        have o6 := hG3.cellAt 6 rfl
        have o7 := hG3.cellAt 7 rfl
        refine wpOp_go (o := _) rfl (fun K hK => ?_)
        go_simp
        clear of o0 o1 o2 o3 o4 o5 o6 o7
        replace hG3 := st8 hG3 (.int .i64 yr) (.int .i64 yn) (.bool ymn) (.int .i64 ymi) (.string ymz) (.bool yxn) (.int .i64 yxi) (.string yxz)
        replace hB := st8_below hB hl3g (.int .i64 yr) (.int .i64 yn) (.bool ymn) (.int .i64 ymi) (.string ymz) (.bool yxn) (.int .i64 yxi) (.string yxz)
        refine hK _ _ ⟨MK.out _ hB, ?_⟩
        clear hK K
        refine wpAnyL_done (by decide +kernel) ?_ _
        go_wp2_with fail
        go_meet
        exact ⟨_, xs, ⟨yr, yn, ⟨ymn, ymi, ymz⟩, ⟨yxn, yxi, yxz⟩⟩, rfl, ⟨hk3, hl3, HZZ.out.symm⟩, hG3, hB⟩
    · skip
      refine wpOp_go (o := _) rfl (fun K hK => ?_)
      go_simp
      have hG3 := Blk.new' wx 25 #[.int .i64 0, .int .i64 0, .bool false, .int .i64 0, .string ⟨#[]⟩, .bool false, .int .i64 0, .string ⟨#[]⟩]
      have hl3g : w2.heap.size ≤ wx.heap.size := hB.size
      try replace hx := hx.call ((Below.refl _ _).alloc (Nat.le_refl _) (.cells #[.int .i64 0, .int .i64 0, .bool false, .int .i64 0, .string ⟨#[]⟩, .bool false, .int .i64 0, .string ⟨#[]⟩] 25))
      replace hB := below_alloc (o := .cells #[.int .i64 0, .int .i64 0, .bool false, .int .i64 0, .string ⟨#[]⟩, .bool false, .int .i64 0, .string ⟨#[]⟩] 25) hB
      refine hK _ _ ⟨MK.out _ hB, ?_⟩
      clear hK K
      generalize wx.alloc (.cells #[.int .i64 0, .int .i64 0, .bool false, .int .i64 0, .string ⟨#[]⟩, .bool false, .int .i64 0, .string ⟨#[]⟩] 25) = wx at *
      refine wpAnyL_one (i := 4) (by decide +kernel) ?_
      refine wpOp_go (o := _) rfl (fun K hK => ?_)
      go_simp
      go_at_call 13
      refine (HVS.out wx (hrA.call hB)).mono ?_; rintro e wx ⟨v3, xs, rfl, ho3, hk3, hl3, hbx⟩
      try replace hG3 := hG3.call hbx
      obtain ⟨B3, d3, rfl, hd3⟩ := own_form ho3
      have hx := Rd.of_own ho3
      clear ho3
      replace hB := bt hB hbx
      refine hK _ _ ⟨MK.out _ hB, ?_⟩
      clear hK K hbx
      refine wpAnyL_one (i := 5) (by decide +kernel) ?_
      refine wpOp_go (o := _) rfl (fun K hK => ?_)
      go_simp
      go_at_call 10
      refine (of_any (1 + (k : Int)) B3 _ d3 xs wx hx rfl (by omega)).mono ?_; rintro e wx ⟨rfl, hbx⟩
      generalize hzz : zoneL (1 + (k : Int)) xs.length xs = zy
      obtain ⟨yr, yn, ⟨ymn, ymi, ymz⟩, ⟨yxn, yxi, yxz⟩⟩ := zy
      have HZZ := Lib.hid hzz
      clear hzz
      dsimp only [Zv]
      try replace hG3 := hG3.call hbx
      replace hB := bt hB hbx
      refine hK _ _ ⟨MK.out _ hB, ?_⟩
      clear hK K hbx hx
      refine wpAnyL_one (i := 7) (by decide +kernel) ?_
      have of := fun j => hG3.frozen j
      have o0 := hG3.cellAt 0 rfl
      have o1 := hG3.cellAt 1 rfl
      have o2 := hG3.cellAt 2 rfl
      have o3 := hG3.cellAt 3 rfl
      have o4 := hG3.cellAt 4 rfl
      have o5 := hG3.cellAt 5 rfl
      have o6 := hG3.cellAt 6 rfl
      have o7 := hG3.cellAt 7 rfl
      refine wpOp_go (o := _) rfl (fun K hK => ?_)
      go_simp
      clear of o0 o1 o2 o3 o4 o5 o6 o7
      replace hG3 := st8 hG3 (.int .i64 yr) (.int .i64 yn) (.bool ymn) (.int .i64 ymi) (.string ymz) (.bool yxn) (.int .i64 yxi) (.string yxz)
      replace hB := st8_below hB hl3g (.int .i64 yr) (.int .i64 yn) (.bool ymn) (.int .i64 ymi) (.string ymz) (.bool yxn) (.int .i64 yxi) (.string yxz)
      refine hK _ _ ⟨MK.out _ hB, ?_⟩
      clear hK K
      refine wpAnyL_done (by decide +kernel) ?_ _
      go_wp2_with fail
      go_meet
      exact ⟨_, xs, ⟨yr, yn, ⟨ymn, ymi, ymz⟩, ⟨yxn, yxi, yxz⟩⟩, rfl, ⟨hk3, hl3, HZZ.out.symm⟩, hG3, hB⟩
  case rest =>
    obtain ⟨gy, X, y, rfl, HX, hY, hB⟩ := hcut
    have hyo : ZnOk y := by rw [HX.out.2.2]; exact zone_ZnOk (fun v hv => (HX.out.1 v hv).1) (by have := HX.out.2.1; omega)
    obtain ⟨o1, o2, o3, o4, o5⟩ := zone_ok_of (t := 1 + (k : Int)) (fun v hv => (HX.out.1 v hv).1) (show X.length ≤ 4096 by have := HX.out.2.1; omega)
    rw [← HX.out.2.2] at o1 o2 o3 o4 o5
    have hl39 := HX.out.2.1
    have hsz1 := o1.2.2.2.2.2
    have hsz2 := o2.2.2.2.2.2
    have hpl : (zoneP y).length ≤ 1000 := by
      have l1 := putL_len (toNat_U64 hyo.rows)
      have l2 := putL_len (toNat_U64 hyo.nulls)
      have l3 := valP_len hyo.mn.n (by omega)
      have l4 := valP_len hyo.mx.n (by omega)
      unfold zoneP
      simp only [List.length_append]
      omega
    have HY1 : Hid (∀ ws : World, Calls Try.prog 25 #[Zv y] ws fun e w' => e = .returned (Sv (zoneP y)) ∧ Below ws.heap.size ws w') := fun ws => zput_any y ws hyo
    have hT : (bf ++ ⟨(zoneP y).toArray⟩ ++ bh).size ≤ 1000000000000000 := by rw [ByteArray.size_append, ByteArray.size_append, size_mk (zoneP y)]; omega
    have hdrop : (bf ++ ⟨(zoneP y).toArray⟩ ++ bh : ByteArray).data.toList.drop bf.size = zoneP y ++ bh.data.toList := by
      rw [data_add, data_add, List.append_assoc, ← size_list bf, List.drop_left]
    have HG : Hid (∀ ws : World, Calls Try.prog 22 #[.string (bf ++ ⟨(zoneP y).toArray⟩ ++ bh), .int .i64 (bf.size : Int)] ws fun e w' => e = .returned (.tuple #[Zv y, .int .i64 ((bf.size : Int) + ((zoneP y).length : Int)), .int .i64 0]) ∧ Below ws.heap.size ws w') := fun ws => by
      have := zget_any (bf ++ ⟨(zoneP y).toArray⟩ ++ bh) (bf.size : Int) ws hT
      rw [zoneG_put hdrop (by omega) (by omega) (by omega) (by omega) hyo.mn.n (by omega) (fun h => o1.1 h) hyo.mx.n (by omega) (fun h => o2.1 h)] at this
      rwa [Int.natCast_add] at this
    have hb3 := bt hb2 hB
    have hw1 : IntKind.i64.wrap ((bf.size : Int) + ((zoneP y).length : Int)) = (bf.size : Int) + ((zoneP y).length : Int) := IntWalk.i64_in _ (by omega)
    clear HX hyo hC1 hrA hB hb2 HVS HZ HN o1 o2 o3 o4 o5 hl39 hsz1 hsz2 hdrop
    have sa1 := saddA (P := Try.prog) (a := bf) (b := zoneP y) (by omega)
    have sa2 := saddC (P := Try.prog) (a := bf ++ ⟨(zoneP y).toArray⟩) (b := bh) (by rw [ByteArray.size_append, size_mk (zoneP y)]; omega)
    generalize zoneP y = py at *
    generalize hTT : bf ++ ⟨py.toArray⟩ ++ bh = T at *
    generalize hTU : bf ++ ⟨py.toArray⟩ = T1 at *
    clear hTT hTU
    obtain ⟨yr, yn, ⟨ymn, ymi, ymz⟩, ⟨yxn, yxi, yxz⟩⟩ := y
    dsimp only [Zv] at *
    generalize wc = w3 at *
    have y0 := hY.cellAt 0 rfl
    have y1 := hY.cellAt 1 rfl
    have y2 := hY.cellAt 2 rfl
    have y3 := hY.cellAt 3 rfl
    have y4 := hY.cellAt 4 rfl
    have y5 := hY.cellAt 5 rfl
    have y6 := hY.cellAt 6 rfl
    have y7 := hY.cellAt 7 rfl
    go_wp2_with fail
    refine (HY1.out _).mono ?_; rintro _ wn ⟨rfl, hbn⟩
    replace hY := hY.call hbn
    replace hb3 := bt hb3 hbn
    clear y0 y1 y2 y3 y4 y5 y6 y7 hbn
    generalize wn = w3 at *
    go_wp2_with fail
    refine (HG.out _).mono ?_; rintro _ wn ⟨rfl, hbn⟩
    replace hY := (hY.call hbn).alloc (.cells #[.int .i64 yr, .int .i64 yn, .bool ymn, .int .i64 ymi, .string ymz, .bool yxn, .int .i64 yxi, .string yxz] 25)
    replace hb3 := bt (bt hb3 hbn) ((Below.refl wn.heap.size wn).alloc (Nat.le_refl _) (.cells #[.int .i64 yr, .int .i64 yn, .bool ymn, .int .i64 ymi, .string ymz, .bool yxn, .int .i64 yxi, .string yxz] 25))
    have hA := Blk.new' wn 25 #[.int .i64 yr, .int .i64 yn, .bool ymn, .int .i64 ymi, .string ymz, .bool yxn, .int .i64 yxi, .string yxz]
    go_upto_region 5 with fail
    generalize wn.alloc (.cells #[.int .i64 yr, .int .i64 yn, .bool ymn, .int .i64 ymi, .string ymz, .bool yxn, .int .i64 yxi, .string yxz] 25) = w3 at *
    generalize wn.heap.size = ga at *
    clear hbn
    go_wp2_with fail
    refine (awake14 _).mono ?_; rintro e w5 ⟨rfl, hb5⟩
    replace hY := hY.call hb5
    replace hA := hA.call hb5
    have hbf := bt hb3 hb5
    have y0 := hY.cellAt 0 rfl
    have a0 := hA.cellAt 0 rfl
    have y1 := hY.cellAt 1 rfl
    have a1 := hA.cellAt 1 rfl
    have y2 := hY.cellAt 2 rfl
    have a2 := hA.cellAt 2 rfl
    have y3 := hY.cellAt 3 rfl
    have a3 := hA.cellAt 3 rfl
    have y4 := hY.cellAt 4 rfl
    have a4 := hA.cellAt 4 rfl
    have y5 := hY.cellAt 5 rfl
    have a5 := hA.cellAt 5 rfl
    have y6 := hY.cellAt 6 rfl
    have a6 := hA.cellAt 6 rfl
    have y7 := hY.cellAt 7 rfl
    have a7 := hA.cellAt 7 rfl
    clear HG HY1
    go_wp2
    go_ret
    exact ⟨ret_bool (by first | rfl | (simp; done)), hbf⟩

end Go.Proofs.Ytnichmblekbccaa
