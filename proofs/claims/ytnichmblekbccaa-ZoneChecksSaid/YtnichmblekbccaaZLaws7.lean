/-
  The walk of ZoneChecks.
-/
import Derived.Test.YtnichmblekbccaaZChk4
import Derived.Test.YtnichmblekbccaaZLaws5
import Derived.Test.YtnichmblekbccaaZVals2
import Derived.Deep.CutBlock
namespace Go.Proofs.Ytnichmblekbccaa
open Go.RowKit

theorem I64_wrap64 (x : Int) : I64 (wrap64 x) := by unfold I64 wrap64; omega
set_option maxRecDepth 100000 in
set_option maxHeartbeats 4000000 in
theorem walk_ZoneChecks (cl : Cl) (z : Zn) (t : Int) (nl : Bool) (A : Option Addr) (n c : Nat) (zs : List Int) (how v : Int) (w : World) (_hz0 : ZnOk z) (_wt : (Lit.int .i64 t).wf = true)
    (hr : Rd w w.heap.size A (zs.map Iv)) (hn : zs.length = n) (hz : ∀ z ∈ zs, (Lit.int .i64 z).wf = true) (_hc : n ≤ c) (hb : n * 8 ≤ 140737488351232) (_wh : (Lit.int .i64 how).wf = true) (wv : (Lit.int .i64 v).wf = true) :
    Calls Try.prog 6 #[Cv cl, Zv z, .int .i64 t, .bool nl, .slice A n c, .int .i64 how, .int .i64 v] w fun e w' => e = .returned (.bool true) ∧ Below w.heap.size w w' := by
  have HZ := Lib.hid (wf_i64s hz)
  have HN := Lib.hid hn
  have HWV := Lib.hid (wf_i64 wv)
  have HC1 : Hid (∀ ws : World, Calls Try.prog 16 #[Cv cl, Zv z] ws fun e w' => e = .returned (.bool (chkZ cl z)) ∧ Below ws.heap.size ws w') := fun ws => zcheck_any cl z ws
  have HC2 : Hid (∀ ws : World, Calls Try.prog 20 #[Cv cl, Zv z] ws fun e w' => e = .returned (.bool (chkZ cl z)) ∧ Below ws.heap.size ws w') := fun ws => rzcheck_any cl z ws
  have HC3 : Hid (∀ (d : Cl) (ws : World), Calls Try.prog 16 #[Cv d, Zv z] ws fun e w' => e = .returned (.bool (chkZ d z)) ∧ Below ws.heap.size ws w') := fun d ws => zcheck_any d z ws
  have HC4 : Hid (∀ (d : Cl) (ws : World), Calls Try.prog 20 #[Cv d, Zv z] ws fun e w' => e = .returned (.bool (chkZ d z)) ∧ Below ws.heap.size ws w') := fun d ws => rzcheck_any d z ws
  clear hz hn _hc _wt _wh wv _hz0
  generalize chkZ cl z = b1 at *
  have HC3' : Hid (∀ (k : Nat), ∃ b : Bool, Hid (∀ ws : World, Calls Try.prog 16 #[Cv ⟨⟨#[120]⟩, 1 + (k : Int), 0, nl⟩, Zv z] ws fun e w' => e = .returned (.bool b) ∧ Below ws.heap.size ws w') ∧ Hid (∀ ws : World, Calls Try.prog 20 #[Cv ⟨⟨#[120]⟩, 1 + (k : Int), 0, nl⟩, Zv z] ws fun e w' => e = .returned (.bool b) ∧ Below ws.heap.size ws w')) := fun k => ⟨chkZ ⟨⟨#[120]⟩, 1 + (k : Int), 0, nl⟩ z, fun ws => HC3.out _ ws, fun ws => HC4.out _ ws⟩
  clear HC3 HC4
  obtain ⟨zr, zn, ⟨zmn, zmi, zmz⟩, ⟨zxn, zxi, zxz⟩⟩ := z
  obtain ⟨cm, ct, cs, cn⟩ := cl
  dsimp only [Zv, Cv] at *
  have hK0 := (Blk.new' w 32 #[.string cm, .int .i64 ct, .int .i64 cs, .bool cn]).alloc (.cells #[.int .i64 zr, .int .i64 zn, .bool zmn, .int .i64 zmi, .string zmz, .bool zxn, .int .i64 zxi, .string zxz] 25)
  have hZ0 := Blk.new' (w.alloc (.cells #[.string cm, .int .i64 ct, .int .i64 cs, .bool cn] 32)) 25 #[.int .i64 zr, .int .i64 zn, .bool zmn, .int .i64 zmi, .string zmz, .bool zxn, .int .i64 zxi, .string zxz]
  have s1 : (w.alloc (.cells #[.string cm, .int .i64 ct, .int .i64 cs, .bool cn] 32)).heap.size = w.heap.size + 1 := by simp
  rw [s1] at hZ0
  clear s1
  have hba : Below w.heap.size w ((w.alloc (.cells #[.string cm, .int .i64 ct, .int .i64 cs, .bool cn] 32)).alloc (.cells #[.int .i64 zr, .int .i64 zn, .bool zmn, .int .i64 zmi, .string zmz, .bool zxn, .int .i64 zxi, .string zxz] 25)) := ((Below.refl _ _).alloc (Nat.le_refl _) _).alloc (by simp) _
  have hr0 := hr.call hba
  go_enter Try.func6, Try.ntmps6
  go_upto_region 1 with fail
  generalize (w.alloc (.cells #[.string cm, .int .i64 ct, .int .i64 cs, .bool cn] 32)).alloc (.cells #[.int .i64 zr, .int .i64 zn, .bool zmn, .int .i64 zmi, .string zmz, .bool zxn, .int .i64 zxi, .string zxz] 25) = w0 at *
  go_wp2_with fail
  refine (column_any t nl _).mono ?_; rintro e w1 ⟨k, hk, rfl, hb1⟩
  obtain ⟨b2, HD1, HD2⟩ := HC3'.out k
  clear HC3'
  dsimp only [colV] at *
  have hC1 := Blk.new' w1 32 #[.string ⟨#[120]⟩, .int .i64 (1 + (k : Int)), .int .i64 0, .bool nl]
  have hbc := (Below.refl w1.heap.size w1).alloc (Nat.le_refl _) (.cells #[.string ⟨#[120]⟩, .int .i64 (1 + (k : Int)), .int .i64 0, .bool nl] 32)
  have hrA := (hr0.call hb1).call hbc
  have hZ2 := (hZ0.call hb1).call hbc
  have hK2 := (hK0.call hb1).call hbc
  have hb2 := bt (bt hba hb1) hbc
  clear hr hr0 hb1 hbc hba hZ0 hK0
  go_upto_region 2 with fail
  generalize w1.alloc (.cells #[.string ⟨#[120]⟩, .int .i64 (1 + (k : Int)), .int .i64 0, .bool nl] 32) = w2 at *
  generalize w1.heap.size = gc at *
  have HVS : Hid (∀ ws : World, Rd ws ws.heap.size A (zs.map Iv) → Calls Try.prog 13 #[.agg #[.string ⟨#[120]⟩, .int .i64 (1 + (k : Int)), .int .i64 0, .bool nl], .slice A n c] ws (ValuesPost ws (1 + (k : Int)) nl)) := fun ws h => values_any k hk nl A n c zs ws h HN.out HZ.out (by omega)
  go_cut [16] (fun p wy => ∃ (g : Nat) (X : List Vl) (y : Zn), p = .pointer (some ⟨g, 0, none⟩) ∧ Hid ((∀ v ∈ X, okV (1 + (k : Int)) v ∧ (v.null = true → nl = true)) ∧ X.length ≤ 39 ∧ y = zoneL (1 + (k : Int)) X.length X) ∧ Blk wy g 25 [.int .i64 y.rows, .int .i64 y.nulls, .bool y.mn.null, .int .i64 y.mn.n, .string y.mn.s, .bool y.mx.null, .int .i64 y.mx.n, .string y.mx.s] ∧ w2.heap.size ≤ g ∧ Below w2.heap.size w2 wy)
  case first =>
    have MK : Hid (∀ w', Below w2.heap.size w2 w' → (Below w2.heap.size w2 w' ∧ w'.cell? ⟨gc, 0, none⟩ = some (.string ⟨#[120]⟩) ∧ w'.cell? ⟨gc, 1, none⟩ = some (.int .i64 (1 + (k : Int))) ∧ w'.cell? ⟨gc, 2, none⟩ = some (.int .i64 0) ∧ w'.cell? ⟨gc, 3, none⟩ = some (.bool nl))) := fun w' h => ⟨h, (hC1.call h).cellAt 0 rfl, (hC1.call h).cellAt 1 rfl, (hC1.call h).cellAt 2 rfl, (hC1.call h).cellAt 3 rfl⟩
    have hB : Below w2.heap.size w2 w2.drew := Below.drew (Below.refl _ _)
    refine wp_region_L (fun _ w' => Below w2.heap.size w2 w' ∧ w'.cell? ⟨gc, 0, none⟩ = some (.string ⟨#[120]⟩) ∧ w'.cell? ⟨gc, 1, none⟩ = some (.int .i64 (1 + (k : Int))) ∧ w'.cell? ⟨gc, 2, none⟩ = some (.int .i64 0) ∧ w'.cell? ⟨gc, 3, none⟩ = some (.bool nl)) (by kernel_rfl) ?_
    generalize w2.drew = wx at *
    have HS := Lib.hid (MK.out _ hB)
    refine wpAnyL_takeD (fun _ => True) (i := 0) (v := (.pointer (some ⟨gc, 1, none⟩))) (some 20) rfl rfl (by kernel_rfl) (by kernel_rfl) (by kernel_rfl) (fun _ _ _ h => h) (fun _ _ _ _ _ _ => trivial) (fun _ _ _ => Iff.rfl) trivial (Or.inl ⟨by rfl, fun w' hw' => by obtain ⟨l, _, hl⟩ := hw'; obtain ⟨_, k0, k1, k2, k3⟩ := hl; go_simp⟩) HS.out ?_
    simp only [Act.put, List.setIfInBounds_toArray, List.set_cons_zero, List.set_cons_succ]
    refine wpAnyL_takeD (fun _ => True) (i := 1) (v := (.int .i64 (1 + (k : Int)))) (some 21) rfl rfl (by kernel_rfl) (by kernel_rfl) (by kernel_rfl) (fun _ _ _ h => h) (fun _ _ _ _ _ _ => trivial) (fun _ _ _ => Iff.rfl) trivial (Or.inl ⟨by rfl, fun w' hw' => by obtain ⟨l, _, hl⟩ := hw'; obtain ⟨_, k0, k1, k2, k3⟩ := hl; go_simp⟩) HS.out ?_
    simp only [Act.put, List.setIfInBounds_toArray, List.set_cons_zero, List.set_cons_succ]
    refine wpAnyL_takeD (fun _ => True) (i := 2) (v := (.agg #[.string ⟨#[120]⟩, .int .i64 (1 + (k : Int)), .int .i64 0, .bool nl])) (some 22) rfl rfl (by kernel_rfl) (by kernel_rfl) (by kernel_rfl) (fun _ _ _ h => h) (fun _ _ _ _ _ _ => trivial) (fun _ _ _ => Iff.rfl) trivial (Or.inl ⟨by rfl, fun w' hw' => by obtain ⟨l, _, hl⟩ := hw'; obtain ⟨_, k0, k1, k2, k3⟩ := hl; go_simp⟩) HS.out ?_
    simp only [Act.put, List.setIfInBounds_toArray, List.set_cons_zero, List.set_cons_succ]
    refine wpAnyL_takeD (fun _ => True) (i := 3) (v := (.slice A n c)) (some 23) rfl rfl (by kernel_rfl) (by kernel_rfl) (by kernel_rfl) (fun _ _ _ h => h) (fun _ _ _ _ _ _ => trivial) (fun _ _ _ => Iff.rfl) trivial (Or.inl ⟨by rfl, fun w' hw' => by obtain ⟨l, _, hl⟩ := hw'; obtain ⟨_, k0, k1, k2, k3⟩ := hl; go_simp⟩) HS.out ?_
    simp only [Act.put, List.setIfInBounds_toArray, List.set_cons_zero, List.set_cons_succ]
    clear HS
    refine wpAnyL_lst (rs := [4, 6]) (by decide +kernel) ⟨List.cons_ne_nil _ _, ?_⟩
    refine List.forall_mem_cons.2 ⟨?_, List.forall_mem_cons.2 ⟨?_, (fun _ h => absurd h List.not_mem_nil)⟩⟩
    · skip
      refine wpOp_go (o := _) rfl (fun K hK => ?_)
      go_simp
      go_at_call 13
      refine (HVS.out wx (hrA.call hB)).mono ?_; rintro e wx ⟨v3, xs, rfl, ho3, hk3, hl3, hbx⟩
      try replace hG3 := hG3.call hbx
      obtain ⟨B3, d3, rfl, hd3⟩ := own_form ho3
      have hx := Rd.of_own ho3
      clear ho3
      replace hB := bt hB hbx
      refine hK _ _ ⟨MK.out _ hB, ?_⟩
      clear hK K hbx
      refine wpAnyL_lst (rs := [5, 6]) (by decide +kernel) ⟨List.cons_ne_nil _ _, ?_⟩
      refine List.forall_mem_cons.2 ⟨?_, List.forall_mem_cons.2 ⟨?_, (fun _ h => absurd h List.not_mem_nil)⟩⟩
      · skip
        refine wpOp_go (o := _) rfl (fun K hK => ?_)
        go_simp
        go_at_call 15
        refine (rzone_any (1 + (k : Int)) B3 _ d3 xs wx hx rfl (by omega)).mono ?_; rintro e wx ⟨rfl, hbx⟩
        generalize hzz : zoneL (1 + (k : Int)) xs.length xs = zy
        obtain ⟨yr, yn, ⟨ymn, ymi, ymz⟩, ⟨yxn, yxi, yxz⟩⟩ := zy
        have HZZ := Lib.hid hzz
        clear hzz
        dsimp only [Zv]
        try replace hG3 := hG3.call hbx
        replace hB := bt hB hbx
        refine hK _ _ ⟨MK.out _ hB, ?_⟩
        clear hK K hbx hx
        refine wpAnyL_one (i := 6) (by decide +kernel) ?_
        refine wpOp_go (o := _) rfl (fun K hK => ?_)
        go_simp
        have hG3 := Blk.new' wx 25 #[.int .i64 0, .int .i64 0, .bool false, .int .i64 0, .string ⟨#[]⟩, .bool false, .int .i64 0, .string ⟨#[]⟩]
        have hl3g : w2.heap.size ≤ wx.heap.size := hB.size
        try replace hx := hx.call ((Below.refl _ _).alloc (Nat.le_refl _) (.cells #[.int .i64 0, .int .i64 0, .bool false, .int .i64 0, .string ⟨#[]⟩, .bool false, .int .i64 0, .string ⟨#[]⟩] 25))
        replace hB := below_alloc (o := .cells #[.int .i64 0, .int .i64 0, .bool false, .int .i64 0, .string ⟨#[]⟩, .bool false, .int .i64 0, .string ⟨#[]⟩] 25) hB
        refine hK _ _ ⟨MK.out _ hB, ?_⟩
        clear hK K
        generalize wx.alloc (.cells #[.int .i64 0, .int .i64 0, .bool false, .int .i64 0, .string ⟨#[]⟩, .bool false, .int .i64 0, .string ⟨#[]⟩] 25) = wx at *
        refine wpAnyL_one (i := 7) (by decide +kernel) ?_
        have of := fun j => hG3.frozen j
        have o0 := hG3.cellAt 0 rfl
        have o1 := hG3.cellAt 1 rfl
        have o2 := hG3.cellAt 2 rfl
        have o3 := hG3.cellAt 3 rfl
        have o4 := hG3.cellAt 4 rfl
        have o5 := hG3.cellAt 5 rfl
        have o6 := hG3.cellAt 6 rfl
        have o7 := hG3.cellAt 7 rfl
        refine wpOp_go (o := _) rfl (fun K hK => ?_)
        go_simp
        clear of o0 o1 o2 o3 o4 o5 o6 o7
        replace hG3 := st8 hG3 (.int .i64 yr) (.int .i64 yn) (.bool ymn) (.int .i64 ymi) (.string ymz) (.bool yxn) (.int .i64 yxi) (.string yxz)
        replace hB := st8_below hB hl3g (.int .i64 yr) (.int .i64 yn) (.bool ymn) (.int .i64 ymi) (.string ymz) (.bool yxn) (.int .i64 yxi) (.string yxz)
        refine hK _ _ ⟨MK.out _ hB, ?_⟩
        clear hK K
        refine wpAnyL_done (by decide +kernel) ?_ _
        go_wp2_with fail
        go_meet
        exact ⟨_, xs, ⟨yr, yn, ⟨ymn, ymi, ymz⟩, ⟨yxn, yxi, yxz⟩⟩, rfl, ⟨hk3, hl3, HZZ.out.symm⟩, hG3, hl3g, hB⟩
      · skip
        refine wpOp_go (o := _) rfl (fun K hK => ?_)
        go_simp
        have hG3 := Blk.new' wx 25 #[.int .i64 0, .int .i64 0, .bool false, .int .i64 0, .string ⟨#[]⟩, .bool false, .int .i64 0, .string ⟨#[]⟩]
        have hl3g : w2.heap.size ≤ wx.heap.size := hB.size
        try replace hx := hx.call ((Below.refl _ _).alloc (Nat.le_refl _) (.cells #[.int .i64 0, .int .i64 0, .bool false, .int .i64 0, .string ⟨#[]⟩, .bool false, .int .i64 0, .string ⟨#[]⟩] 25))
        replace hB := below_alloc (o := .cells #[.int .i64 0, .int .i64 0, .bool false, .int .i64 0, .string ⟨#[]⟩, .bool false, .int .i64 0, .string ⟨#[]⟩] 25) hB
        refine hK _ _ ⟨MK.out _ hB, ?_⟩
        clear hK K
        generalize wx.alloc (.cells #[.int .i64 0, .int .i64 0, .bool false, .int .i64 0, .string ⟨#[]⟩, .bool false, .int .i64 0, .string ⟨#[]⟩] 25) = wx at *
        refine wpAnyL_one (i := 5) (by decide +kernel) ?_
        refine wpOp_go (o := _) rfl (fun K hK => ?_)
        go_simp
        go_at_call 15
        refine (rzone_any (1 + (k : Int)) B3 _ d3 xs wx hx rfl (by omega)).mono ?_; rintro e wx ⟨rfl, hbx⟩
        generalize hzz : zoneL (1 + (k : Int)) xs.length xs = zy
        obtain ⟨yr, yn, ⟨ymn, ymi, ymz⟩, ⟨yxn, yxi, yxz⟩⟩ := zy
        have HZZ := Lib.hid hzz
        clear hzz
        dsimp only [Zv]
        try replace hG3 := hG3.call hbx
        replace hB := bt hB hbx
        refine hK _ _ ⟨MK.out _ hB, ?_⟩
        clear hK K hbx hx
        refine wpAnyL_one (i := 7) (by decide +kernel) ?_
        have of := fun j => hG3.frozen j
        have o0 := hG3.cellAt 0 rfl
        have o1 := hG3.cellAt 1 rfl
        have o2 := hG3.cellAt 2 rfl
        have o3 := hG3.cellAt 3 rfl
        have o4 := hG3.cellAt 4 rfl
        have o5 := hG3.cellAt 5 rfl
        have o6 := hG3.cellAt 6 rfl
        have o7 := hG3.cellAt 7 rfl
        refine wpOp_go (o := _) rfl (fun K hK => ?_)
        go_simp
        clear of o0 o1 o2 o3 o4 o5 o6 o7
        replace hG3 := st8 hG3 (.int .i64 yr) (.int .i64 yn) (.bool ymn) (.int .i64 ymi) (.string ymz) (.bool yxn) (.int .i64 yxi) (.string yxz)
        replace hB := st8_below hB hl3g (.int .i64 yr) (.int .i64 yn) (.bool ymn) (.int .i64 ymi) (.string ymz) (.bool yxn) (.int .i64 yxi) (.string yxz)
        refine hK _ _ ⟨MK.out _ hB, ?_⟩
        clear hK K
        refine wpAnyL_done (by decide +kernel) ?_ _
        go_wp2_with fail
        go_meet
        exact ⟨_, xs, ⟨yr, yn, ⟨ymn, ymi, ymz⟩, ⟨yxn, yxi, yxz⟩⟩, rfl, ⟨hk3, hl3, HZZ.out.symm⟩, hG3, hl3g, hB⟩
    · skip
      refine wpOp_go (o := _) rfl (fun K hK => ?_)
      go_simp
      have hG3 := Blk.new' wx 25 #[.int .i64 0, .int .i64 0, .bool false, .int .i64 0, .string ⟨#[]⟩, .bool false, .int .i64 0, .string ⟨#[]⟩]
      have hl3g : w2.heap.size ≤ wx.heap.size := hB.size
      try replace hx := hx.call ((Below.refl _ _).alloc (Nat.le_refl _) (.cells #[.int .i64 0, .int .i64 0, .bool false, .int .i64 0, .string ⟨#[]⟩, .bool false, .int .i64 0, .string ⟨#[]⟩] 25))
      replace hB := below_alloc (o := .cells #[.int .i64 0, .int .i64 0, .bool false, .int .i64 0, .string ⟨#[]⟩, .bool false, .int .i64 0, .string ⟨#[]⟩] 25) hB
      refine hK _ _ ⟨MK.out _ hB, ?_⟩
      clear hK K
      generalize wx.alloc (.cells #[.int .i64 0, .int .i64 0, .bool false, .int .i64 0, .string ⟨#[]⟩, .bool false, .int .i64 0, .string ⟨#[]⟩] 25) = wx at *
      refine wpAnyL_one (i := 4) (by decide +kernel) ?_
      refine wpOp_go (o := _) rfl (fun K hK => ?_)
      go_simp
      go_at_call 13
      refine (HVS.out wx (hrA.call hB)).mono ?_; rintro e wx ⟨v3, xs, rfl, ho3, hk3, hl3, hbx⟩
      try replace hG3 := hG3.call hbx
      obtain ⟨B3, d3, rfl, hd3⟩ := own_form ho3
      have hx := Rd.of_own ho3
      clear ho3
      replace hB := bt hB hbx
      refine hK _ _ ⟨MK.out _ hB, ?_⟩
      clear hK K hbx
      refine wpAnyL_one (i := 5) (by decide +kernel) ?_
      refine wpOp_go (o := _) rfl (fun K hK => ?_)
      go_simp
      go_at_call 15
      refine (rzone_any (1 + (k : Int)) B3 _ d3 xs wx hx rfl (by omega)).mono ?_; rintro e wx ⟨rfl, hbx⟩
      generalize hzz : zoneL (1 + (k : Int)) xs.length xs = zy
      obtain ⟨yr, yn, ⟨ymn, ymi, ymz⟩, ⟨yxn, yxi, yxz⟩⟩ := zy
      have HZZ := Lib.hid hzz
      clear hzz
      dsimp only [Zv]
      try replace hG3 := hG3.call hbx
      replace hB := bt hB hbx
      refine hK _ _ ⟨MK.out _ hB, ?_⟩
      clear hK K hbx hx
      refine wpAnyL_one (i := 7) (by decide +kernel) ?_
      have of := fun j => hG3.frozen j
      have o0 := hG3.cellAt 0 rfl
      have o1 := hG3.cellAt 1 rfl
      have o2 := hG3.cellAt 2 rfl
      have o3 := hG3.cellAt 3 rfl
      have o4 := hG3.cellAt 4 rfl
      have o5 := hG3.cellAt 5 rfl
      have o6 := hG3.cellAt 6 rfl
      have o7 := hG3.cellAt 7 rfl
      refine wpOp_go (o := _) rfl (fun K hK => ?_)
      go_simp
      clear of o0 o1 o2 o3 o4 o5 o6 o7
      replace hG3 := st8 hG3 (.int .i64 yr) (.int .i64 yn) (.bool ymn) (.int .i64 ymi) (.string ymz) (.bool yxn) (.int .i64 yxi) (.string yxz)
      replace hB := st8_below hB hl3g (.int .i64 yr) (.int .i64 yn) (.bool ymn) (.int .i64 ymi) (.string ymz) (.bool yxn) (.int .i64 yxi) (.string yxz)
      refine hK _ _ ⟨MK.out _ hB, ?_⟩
      clear hK K
      refine wpAnyL_done (by decide +kernel) ?_ _
      go_wp2_with fail
      go_meet
      exact ⟨_, xs, ⟨yr, yn, ⟨ymn, ymi, ymz⟩, ⟨yxn, yxi, yxz⟩⟩, rfl, ⟨hk3, hl3, HZZ.out.symm⟩, hG3, hl3g, hB⟩
  case rest =>
    obtain ⟨gy, X, y, rfl, HX, hY, hgy, hB⟩ := hcut
    have hZ3 := hZ2.call hB
    have hK3 := hK2.call hB
    have hC3 := hC1.call hB
    have hb3 := bt hb2 hB
    have hgl : w.heap.size ≤ gy := by have := hb2.size; omega
    have hgne1 : w.heap.size ≠ gy := by have := hK2.lt; omega
    have hgne2 : w.heap.size + 1 ≠ gy := by have := hZ2.lt; omega
    have hgne3 : gc ≠ gy := by have := hC1.lt; omega
    clear HX hC1 hrA hZ2 hK2 hB hb2 HVS HZ HN hgy
    obtain ⟨yr, yn, ⟨ymn, ymi, ymz⟩, ⟨yxn, yxi, yxz⟩⟩ := y
    dsimp only at *
    generalize wc = w3 at *
    go_wp2_with fail
    refine (pick_any how 6 _ (by omega) (by omega)).mono ?_; rintro e w' ⟨rfl, rfl⟩
    have hp := pickN_lt how (show 0 < 6 by omega)
    generalize pickN how 6 = q at *
    go_upto_block 0 with fail
    go_cut [14] (fun b wx => ∃ y : Zn, b = .bool false ∧ Blk wx gy 25 [.int .i64 y.rows, .int .i64 y.nulls, .bool y.mn.null, .int .i64 y.mn.n, .string y.mn.s, .bool y.mx.null, .int .i64 y.mx.n, .string y.mx.s] ∧ Blk wx w.heap.size 32 [.string cm, .int .i64 ct, .int .i64 cs, .bool cn] ∧ Blk wx (w.heap.size + 1) 25 [.int .i64 zr, .int .i64 zn, .bool zmn, .int .i64 zmi, .string zmz, .bool zxn, .int .i64 zxi, .string zxz] ∧ Blk wx gc 32 [.string ⟨#[120]⟩, .int .i64 (1 + (k : Int)), .int .i64 0, .bool nl] ∧ Below w.heap.size w wx)
    case first =>
      clear HC1 HC2 HD1 HD2
      rcases (show q = 0 ∨ q = 1 ∨ q = 2 ∨ q = 3 ∨ q = 4 ∨ q = 5 by omega) with rfl | rfl | rfl | rfl | rfl | rfl
      · skip
        have yf := fun j => hY.frozen j
        have y0 := hY.cellAt 0 rfl
        have y1 := hY.cellAt 1 rfl
        have y2 := hY.cellAt 2 rfl
        have y3 := hY.cellAt 3 rfl
        have y4 := hY.cellAt 4 rfl
        have y5 := hY.cellAt 5 rfl
        have y6 := hY.cellAt 6 rfl
        have y7 := hY.cellAt 7 rfl
        go_wp2_with fail
        refine (pick_any v 5 _ (by omega) (by omega)).mono ?_; rintro e w' ⟨rfl, rfl⟩
        have hp2 := pickN_lt v (show 0 < 5 by omega)
        generalize pickN v 5 = m at *
        go_wp2_with fail
        go_meet
        exact ⟨⟨(m : Int) - 1, yn, ⟨ymn, ymi, ymz⟩, ⟨yxn, yxi, yxz⟩⟩, rfl, (hY.set_ 0 (.int .i64 ((m : Int) - 1))), (hK3.grownB (grown_set _ gy 0 (.int .i64 ((m : Int) - 1))) hgne1), (hZ3.grownB (grown_set _ gy 0 (.int .i64 ((m : Int) - 1))) hgne2), (hC3.grownB (grown_set _ gy 0 (.int .i64 ((m : Int) - 1))) hgne3), (below_set (i := 0) (u := .int .i64 ((m : Int) - 1)) hb3 hgl)⟩
      · skip
        have yf := fun j => hY.frozen j
        have y0 := hY.cellAt 0 rfl
        have y1 := hY.cellAt 1 rfl
        have y2 := hY.cellAt 2 rfl
        have y3 := hY.cellAt 3 rfl
        have y4 := hY.cellAt 4 rfl
        have y5 := hY.cellAt 5 rfl
        have y6 := hY.cellAt 6 rfl
        have y7 := hY.cellAt 7 rfl
        go_wp2_with fail
        refine (pick_any v 5 _ (by omega) (by omega)).mono ?_; rintro e w' ⟨rfl, rfl⟩
        have hp2 := pickN_lt v (show 0 < 5 by omega)
        generalize pickN v 5 = m at *
        go_wp2_with fail
        go_meet
        exact ⟨⟨yr, (m : Int) - 1, ⟨ymn, ymi, ymz⟩, ⟨yxn, yxi, yxz⟩⟩, rfl, (hY.set_ 1 (.int .i64 ((m : Int) - 1))), (hK3.grownB (grown_set _ gy 1 (.int .i64 ((m : Int) - 1))) hgne1), (hZ3.grownB (grown_set _ gy 1 (.int .i64 ((m : Int) - 1))) hgne2), (hC3.grownB (grown_set _ gy 1 (.int .i64 ((m : Int) - 1))) hgne3), (below_set (i := 1) (u := .int .i64 ((m : Int) - 1)) hb3 hgl)⟩
      · skip
        have yf := fun j => hY.frozen j
        have y0 := hY.cellAt 0 rfl
        have y1 := hY.cellAt 1 rfl
        have y2 := hY.cellAt 2 rfl
        have y3 := hY.cellAt 3 rfl
        have y4 := hY.cellAt 4 rfl
        have y5 := hY.cellAt 5 rfl
        have y6 := hY.cellAt 6 rfl
        have y7 := hY.cellAt 7 rfl
        go_wp2_with fail
        go_meet
        exact ⟨⟨yr, yn, ⟨yxn, yxi, yxz⟩, ⟨ymn, ymi, ymz⟩⟩, rfl, ((((((hY.set_ 2 (.bool yxn)).set_ 3 (.int .i64 yxi)).set_ 4 (.string yxz)).set_ 5 (.bool ymn)).set_ 6 (.int .i64 ymi)).set_ 7 (.string ymz)), ((((((hK3.grownB (grown_set _ gy 2 (.bool yxn)) hgne1).grownB (grown_set _ gy 3 (.int .i64 yxi)) hgne1).grownB (grown_set _ gy 4 (.string yxz)) hgne1).grownB (grown_set _ gy 5 (.bool ymn)) hgne1).grownB (grown_set _ gy 6 (.int .i64 ymi)) hgne1).grownB (grown_set _ gy 7 (.string ymz)) hgne1), ((((((hZ3.grownB (grown_set _ gy 2 (.bool yxn)) hgne2).grownB (grown_set _ gy 3 (.int .i64 yxi)) hgne2).grownB (grown_set _ gy 4 (.string yxz)) hgne2).grownB (grown_set _ gy 5 (.bool ymn)) hgne2).grownB (grown_set _ gy 6 (.int .i64 ymi)) hgne2).grownB (grown_set _ gy 7 (.string ymz)) hgne2), ((((((hC3.grownB (grown_set _ gy 2 (.bool yxn)) hgne3).grownB (grown_set _ gy 3 (.int .i64 yxi)) hgne3).grownB (grown_set _ gy 4 (.string yxz)) hgne3).grownB (grown_set _ gy 5 (.bool ymn)) hgne3).grownB (grown_set _ gy 6 (.int .i64 ymi)) hgne3).grownB (grown_set _ gy 7 (.string ymz)) hgne3), (below_set (i := 7) (u := .string ymz) (below_set (i := 6) (u := .int .i64 ymi) (below_set (i := 5) (u := .bool ymn) (below_set (i := 4) (u := .string yxz) (below_set (i := 3) (u := .int .i64 yxi) (below_set (i := 2) (u := .bool yxn) hb3 hgl) hgl) hgl) hgl) hgl) hgl)⟩
      · skip
        have yf := fun j => hY.frozen j
        have y0 := hY.cellAt 0 rfl
        have y1 := hY.cellAt 1 rfl
        have y2 := hY.cellAt 2 rfl
        have y3 := hY.cellAt 3 rfl
        have y4 := hY.cellAt 4 rfl
        have y5 := hY.cellAt 5 rfl
        have y6 := hY.cellAt 6 rfl
        have y7 := hY.cellAt 7 rfl
        go_wp2_with fail
        refine (pick_any v 2 _ (by omega) (by omega)).mono ?_; rintro e w' ⟨rfl, rfl⟩
        have hp2 := pickN_lt v (show 0 < 2 by omega)
        generalize pickN v 2 = m at *
        have hwm : IntKind.i64.wrap (m : Int) = (m : Int) := IntWalk.i64_in _ (by omega)
        go_wp2_with fail
        go_meet
        exact ⟨⟨yr, yn, ⟨true, m, ⟨#[]⟩⟩, ⟨yxn, yxi, yxz⟩⟩, rfl, (((hY.set_ 2 (.bool true)).set_ 3 (.int .i64 (m : Int))).set_ 4 (.string ⟨#[]⟩)), (((hK3.grownB (grown_set _ gy 2 (.bool true)) hgne1).grownB (grown_set _ gy 3 (.int .i64 (m : Int))) hgne1).grownB (grown_set _ gy 4 (.string ⟨#[]⟩)) hgne1), (((hZ3.grownB (grown_set _ gy 2 (.bool true)) hgne2).grownB (grown_set _ gy 3 (.int .i64 (m : Int))) hgne2).grownB (grown_set _ gy 4 (.string ⟨#[]⟩)) hgne2), (((hC3.grownB (grown_set _ gy 2 (.bool true)) hgne3).grownB (grown_set _ gy 3 (.int .i64 (m : Int))) hgne3).grownB (grown_set _ gy 4 (.string ⟨#[]⟩)) hgne3), (below_set (i := 4) (u := .string ⟨#[]⟩) (below_set (i := 3) (u := .int .i64 (m : Int)) (below_set (i := 2) (u := .bool true) hb3 hgl) hgl) hgl)⟩
      · skip
        have c0 := hC3.cellAt 0 rfl
        have c1 := hC3.cellAt 1 rfl
        have c2 := hC3.cellAt 2 rfl
        have c3 := hC3.cellAt 3 rfl
        have hS := Blk.new' w3 3 #[.int .i64 v, .int .i64 (wrap64 (v.tdiv 3)), .int .i64 (wrap64 (v.tdiv 7))]
        have hrS : Rd (w3.alloc (.cells #[.int .i64 v, .int .i64 (wrap64 (v.tdiv 3)), .int .i64 (wrap64 (v.tdiv 7))] 3)) (w3.alloc (.cells #[.int .i64 v, .int .i64 (wrap64 (v.tdiv 3)), .int .i64 (wrap64 (v.tdiv 7))] 3)).heap.size (some ⟨w3.heap.size, 0, none⟩) ([v, wrap64 (v.tdiv 3), wrap64 (v.tdiv 7)].map Iv) := hS.rd
        have HI3 : Hid (∀ z ∈ [v, wrap64 (v.tdiv 3), wrap64 (v.tdiv 7)], I64 z) := by intro z hz; simp only [List.mem_cons, List.not_mem_nil, or_false] at hz; rcases hz with rfl | rfl | rfl; exact HWV.out; exact I64_wrap64 _; exact I64_wrap64 _
        have hba := (Below.refl w3.heap.size w3).alloc (Nat.le_refl _) (.cells #[.int .i64 v, .int .i64 (wrap64 (v.tdiv 3)), .int .i64 (wrap64 (v.tdiv 7))] 3)
        go_wp2_with fail
        refine (kvalue_any k hk nl _ 3 3 [v, wrap64 (v.tdiv 3), wrap64 (v.tdiv 7)] _ hrS rfl HI3.out (by omega)).mono ?_; rintro e w5 ⟨⟨un, ui, uz⟩, _, rfl, hb5⟩
        clear hrS hS c0 c1 c2 c3
        dsimp only [Vv]
        have hY5 := (hY.call hba).call hb5
        have hK5 := (hK3.call hba).call hb5
        have hZ5 := (hZ3.call hba).call hb5
        have hC5 := (hC3.call hba).call hb5
        have hb6 := bt (bt hb3 hba) hb5
        have yf := fun j => hY5.frozen j
        have y0 := hY5.cellAt 0 rfl
        have y1 := hY5.cellAt 1 rfl
        have y2 := hY5.cellAt 2 rfl
        have y3 := hY5.cellAt 3 rfl
        have y4 := hY5.cellAt 4 rfl
        have y5 := hY5.cellAt 5 rfl
        have y6 := hY5.cellAt 6 rfl
        have y7 := hY5.cellAt 7 rfl
        go_wp2_with fail
        go_meet
        exact ⟨⟨yr, yn, ⟨ymn, ymi, ymz⟩, ⟨un, ui, uz⟩⟩, rfl, (((hY5.set_ 5 (.bool un)).set_ 6 (.int .i64 ui)).set_ 7 (.string uz)), (((hK5.grownB (grown_set _ gy 5 (.bool un)) hgne1).grownB (grown_set _ gy 6 (.int .i64 ui)) hgne1).grownB (grown_set _ gy 7 (.string uz)) hgne1), (((hZ5.grownB (grown_set _ gy 5 (.bool un)) hgne2).grownB (grown_set _ gy 6 (.int .i64 ui)) hgne2).grownB (grown_set _ gy 7 (.string uz)) hgne2), (((hC5.grownB (grown_set _ gy 5 (.bool un)) hgne3).grownB (grown_set _ gy 6 (.int .i64 ui)) hgne3).grownB (grown_set _ gy 7 (.string uz)) hgne3), (below_set (i := 7) (u := .string uz) (below_set (i := 6) (u := .int .i64 ui) (below_set (i := 5) (u := .bool un) hb6 hgl) hgl) hgl)⟩
      · skip
        have yf := fun j => hY.frozen j
        have y0 := hY.cellAt 0 rfl
        have y1 := hY.cellAt 1 rfl
        have y2 := hY.cellAt 2 rfl
        have y3 := hY.cellAt 3 rfl
        have y4 := hY.cellAt 4 rfl
        have y5 := hY.cellAt 5 rfl
        have y6 := hY.cellAt 6 rfl
        have y7 := hY.cellAt 7 rfl
        go_wp2_with fail
        refine (pick_any v 2 _ (by omega) (by omega)).mono ?_; rintro e w' ⟨rfl, rfl⟩
        have hp2 := pickN_lt v (show 0 < 2 by omega)
        generalize pickN v 2 = m at *
        go_wp2_with fail
        go_meet
        exact ⟨⟨4096 + (m : Int), yn, ⟨ymn, ymi, ymz⟩, ⟨yxn, yxi, yxz⟩⟩, rfl, (hY.set_ 0 (.int .i64 (4096 + (m : Int)))), (hK3.grownB (grown_set _ gy 0 (.int .i64 (4096 + (m : Int)))) hgne1), (hZ3.grownB (grown_set _ gy 0 (.int .i64 (4096 + (m : Int)))) hgne2), (hC3.grownB (grown_set _ gy 0 (.int .i64 (4096 + (m : Int)))) hgne3), (below_set (i := 0) (u := .int .i64 (4096 + (m : Int))) hb3 hgl)⟩
    case rest =>
      obtain ⟨y, rfl, hY4, hK4, hZ4, hC4, hb4⟩ := hcut
      clear hY hK3 hZ3 hC3 hb3 HWV
      obtain ⟨b3, HE1, HE2⟩ : ∃ b : Bool, Hid (∀ ws : World, Calls Try.prog 16 #[.agg #[.string ⟨#[120]⟩, .int .i64 (1 + (k : Int)), .int .i64 0, .bool nl], Zv y] ws fun e w' => e = .returned (.bool b) ∧ Below ws.heap.size ws w') ∧ Hid (∀ ws : World, Calls Try.prog 20 #[.agg #[.string ⟨#[120]⟩, .int .i64 (1 + (k : Int)), .int .i64 0, .bool nl], Zv y] ws fun e w' => e = .returned (.bool b) ∧ Below ws.heap.size ws w') := ⟨chkZ ⟨⟨#[120]⟩, 1 + (k : Int), 0, nl⟩ y, fun ws => zcheck_any ⟨⟨#[120]⟩, 1 + (k : Int), 0, nl⟩ y ws, fun ws => rzcheck_any ⟨⟨#[120]⟩, 1 + (k : Int), 0, nl⟩ y ws⟩
      skip
      clear hgl hgne1 hgne2 hgne3
      obtain ⟨yr, yn, ⟨ymn, ymi, ymz⟩, ⟨yxn, yxi, yxz⟩⟩ := y
      dsimp only [Zv] at *
      generalize wc = w4 at *
      go_upto_region 16 with fail
      have MK : Hid (∀ w', Below w4.heap.size w4 w' → (Below w4.heap.size w4 w' ∧ w'.cell? ⟨gy, 0, none⟩ = some (.int .i64 yr) ∧ w'.cell? ⟨gy, 1, none⟩ = some (.int .i64 yn) ∧ w'.cell? ⟨gy, 2, none⟩ = some (.bool ymn) ∧ w'.cell? ⟨gy, 3, none⟩ = some (.int .i64 ymi) ∧ w'.cell? ⟨gy, 4, none⟩ = some (.string ymz) ∧ w'.cell? ⟨gy, 5, none⟩ = some (.bool yxn) ∧ w'.cell? ⟨gy, 6, none⟩ = some (.int .i64 yxi) ∧ w'.cell? ⟨gy, 7, none⟩ = some (.string yxz) ∧ w'.cell? ⟨w.heap.size, 0, none⟩ = some (.string cm) ∧ w'.cell? ⟨w.heap.size, 1, none⟩ = some (.int .i64 ct) ∧ w'.cell? ⟨w.heap.size, 2, none⟩ = some (.int .i64 cs) ∧ w'.cell? ⟨w.heap.size, 3, none⟩ = some (.bool cn) ∧ w'.cell? ⟨w.heap.size + 1, 0, none⟩ = some (.int .i64 zr) ∧ w'.cell? ⟨w.heap.size + 1, 1, none⟩ = some (.int .i64 zn) ∧ w'.cell? ⟨w.heap.size + 1, 2, none⟩ = some (.bool zmn) ∧ w'.cell? ⟨w.heap.size + 1, 3, none⟩ = some (.int .i64 zmi) ∧ w'.cell? ⟨w.heap.size + 1, 4, none⟩ = some (.string zmz) ∧ w'.cell? ⟨w.heap.size + 1, 5, none⟩ = some (.bool zxn) ∧ w'.cell? ⟨w.heap.size + 1, 6, none⟩ = some (.int .i64 zxi) ∧ w'.cell? ⟨w.heap.size + 1, 7, none⟩ = some (.string zxz) ∧ w'.cell? ⟨gc, 0, none⟩ = some (.string ⟨#[120]⟩) ∧ w'.cell? ⟨gc, 1, none⟩ = some (.int .i64 (1 + (k : Int))) ∧ w'.cell? ⟨gc, 2, none⟩ = some (.int .i64 0) ∧ w'.cell? ⟨gc, 3, none⟩ = some (.bool nl))) := fun w' h => ⟨h, (hY4.call h).cellAt 0 rfl, (hY4.call h).cellAt 1 rfl, (hY4.call h).cellAt 2 rfl, (hY4.call h).cellAt 3 rfl, (hY4.call h).cellAt 4 rfl, (hY4.call h).cellAt 5 rfl, (hY4.call h).cellAt 6 rfl, (hY4.call h).cellAt 7 rfl, (hK4.call h).cellAt 0 rfl, (hK4.call h).cellAt 1 rfl, (hK4.call h).cellAt 2 rfl, (hK4.call h).cellAt 3 rfl, (hZ4.call h).cellAt 0 rfl, (hZ4.call h).cellAt 1 rfl, (hZ4.call h).cellAt 2 rfl, (hZ4.call h).cellAt 3 rfl, (hZ4.call h).cellAt 4 rfl, (hZ4.call h).cellAt 5 rfl, (hZ4.call h).cellAt 6 rfl, (hZ4.call h).cellAt 7 rfl, (hC4.call h).cellAt 0 rfl, (hC4.call h).cellAt 1 rfl, (hC4.call h).cellAt 2 rfl, (hC4.call h).cellAt 3 rfl⟩
      go_region_held3 (fun w' => Below w4.heap.size w4 w' ∧ w'.cell? ⟨gy, 0, none⟩ = some (.int .i64 yr) ∧ w'.cell? ⟨gy, 1, none⟩ = some (.int .i64 yn) ∧ w'.cell? ⟨gy, 2, none⟩ = some (.bool ymn) ∧ w'.cell? ⟨gy, 3, none⟩ = some (.int .i64 ymi) ∧ w'.cell? ⟨gy, 4, none⟩ = some (.string ymz) ∧ w'.cell? ⟨gy, 5, none⟩ = some (.bool yxn) ∧ w'.cell? ⟨gy, 6, none⟩ = some (.int .i64 yxi) ∧ w'.cell? ⟨gy, 7, none⟩ = some (.string yxz) ∧ w'.cell? ⟨w.heap.size, 0, none⟩ = some (.string cm) ∧ w'.cell? ⟨w.heap.size, 1, none⟩ = some (.int .i64 ct) ∧ w'.cell? ⟨w.heap.size, 2, none⟩ = some (.int .i64 cs) ∧ w'.cell? ⟨w.heap.size, 3, none⟩ = some (.bool cn) ∧ w'.cell? ⟨w.heap.size + 1, 0, none⟩ = some (.int .i64 zr) ∧ w'.cell? ⟨w.heap.size + 1, 1, none⟩ = some (.int .i64 zn) ∧ w'.cell? ⟨w.heap.size + 1, 2, none⟩ = some (.bool zmn) ∧ w'.cell? ⟨w.heap.size + 1, 3, none⟩ = some (.int .i64 zmi) ∧ w'.cell? ⟨w.heap.size + 1, 4, none⟩ = some (.string zmz) ∧ w'.cell? ⟨w.heap.size + 1, 5, none⟩ = some (.bool zxn) ∧ w'.cell? ⟨w.heap.size + 1, 6, none⟩ = some (.int .i64 zxi) ∧ w'.cell? ⟨w.heap.size + 1, 7, none⟩ = some (.string zxz) ∧ w'.cell? ⟨gc, 0, none⟩ = some (.string ⟨#[120]⟩) ∧ w'.cell? ⟨gc, 1, none⟩ = some (.int .i64 (1 + (k : Int))) ∧ w'.cell? ⟨gc, 2, none⟩ = some (.int .i64 0) ∧ w'.cell? ⟨gc, 3, none⟩ = some (.bool nl)) (first | with_reducible assumption | with_reducible exact MK.out _ hbx | exact MK.out _ (Below.refl _ _) | exact MK.out _ ⟨rfl, rfl, rfl, Nat.le_refl _, fun _ _ => rfl⟩) (first | (go_at_call 14; refine (awake14 _).mono ?_; rintro e w5 ⟨rfl, hb5⟩; have hbx := bt (‹Below w4.heap.size w4 _ ∧ _›).1 hb5) | (go_at_call 16; have hq := hM2; refine (HD1.out _).mono ?_; rintro e w5 ⟨rfl, hb5⟩; have hbx := bt (‹Below w4.heap.size w4 _ ∧ _›).1 hb5; have hM3 := hbx) | (go_at_call 16; have hq := hM1; refine (HE1.out _).mono ?_; rintro e w5 ⟨rfl, hb5⟩; have hbx := bt (‹Below w4.heap.size w4 _ ∧ _›).1 hb5; have hM2 := hbx) | (go_at_call 16; refine (HC1.out _).mono ?_; rintro e w5 ⟨rfl, hb5⟩; have hbx := bt (‹Below w4.heap.size w4 _ ∧ _›).1 hb5; have hM1 := hbx) | (go_at_call 20; have hq := hN2; refine (HD2.out _).mono ?_; rintro e w5 ⟨rfl, hb5⟩; have hbx := bt (‹Below w4.heap.size w4 _ ∧ _›).1 hb5; have hN3 := hbx) | (go_at_call 20; have hq := hN1; refine (HE2.out _).mono ?_; rintro e w5 ⟨rfl, hb5⟩; have hbx := bt (‹Below w4.heap.size w4 _ ∧ _›).1 hb5; have hN2 := hbx) | (go_at_call 20; refine (HC2.out _).mono ?_; rintro e w5 ⟨rfl, hb5⟩; have hbx := bt (‹Below w4.heap.size w4 _ ∧ _›).1 hb5; have hN1 := hbx))
      have hbf := bt hb4 hbx
      clear MK HC1 HC2 HD1 HD2 HE1 HE2
      go_wp2
      go_ret
      exact ⟨ret_bool (by first | rfl | (simp; done)), hbf⟩

end Go.Proofs.Ytnichmblekbccaa
