/-
  The walk of ZonePuts.
-/
import Derived.Test.YtnichmblekbccaaZGet2
import Derived.Test.YtnichmblekbccaaZLaws3
namespace Go.Proofs.Ytnichmblekbccaa
open Go.RowKit

theorem ok_VlOk {ty : Int} {v : Vl} (h : okV ty v) : VlOk v := ⟨h.2.2.2.2.1, by have := h.2.2.2.2.2; omega⟩
/-- The zone of a list of a column's values is one that a row admits; its strings are short. -/
theorem zone_ok_of {t : Int} {X : List Vl} (hX : ∀ v ∈ X, okV t v) (_hl : X.length ≤ 4096) : okV t (zoneL t X.length X).mn ∧ okV t (zoneL t X.length X).mx ∧ (zoneL t X.length X).rows = (X.length : Int) ∧ 0 ≤ (zoneL t X.length X).nulls ∧ (zoneL t X.length X).nulls ≤ (X.length : Int) := by
  have Z := zone_law t X.length X
  generalize zoneL t X.length X = z at *
  have hle : X.countP (fun v => v.null) ≤ X.length := List.countP_le_length
  have hr := Z.rows
  have hn := Z.nulls
  refine ⟨?_, ?_, hr, by omega, by omega⟩
  all_goals
    by_cases hs : ∃ v ∈ X, v.null = false
    · obtain ⟨_, _, m1, m2, _⟩ := Z.some_ hs
      first | exact hX _ m1 | exact hX _ m2
    · have hall : ∀ v ∈ X, v.null = true := fun v hv => by
        cases e : v.null
        · exact absurd ⟨v, hv, e⟩ hs
        · rfl
      obtain ⟨e1, e2⟩ := Z.none_ hall
      first | (rw [e1]; exact ok_nullV t) | (rw [e2]; exact ok_nullV t)
theorem zone_ZnOk {t : Int} {X : List Vl} (hX : ∀ v ∈ X, okV t v) (hl : X.length ≤ 4096) : ZnOk (zoneL t X.length X) := by
  obtain ⟨h1, h2, h3, h4, h5⟩ := zone_ok_of hX hl
  exact ⟨by unfold I64; omega, by unfold I64; omega, ok_VlOk h1, ok_VlOk h2⟩
set_option maxRecDepth 100000 in
set_option maxHeartbeats 4000000 in
theorem walk_ZonePuts (z : Zn) (s : ByteArray) (at_ t : Int) (A : Option Addr) (n c : Nat) (zs : List Int) (w : World) (hz0 : ZnOk z) (hs0 : s.size ≤ 140737488351232) (_wa : (Lit.int .i64 at_).wf = true) (_wt : (Lit.int .i64 t).wf = true)
    (hr : Rd w w.heap.size A (zs.map Iv)) (hn : zs.length = n) (hz : ∀ z ∈ zs, (Lit.int .i64 z).wf = true) (_hc : n ≤ c) (hb : n * 8 ≤ 140737488351232) :
    Calls Try.prog 8 #[Zv z, .string s, .int .i64 at_, .int .i64 t, .slice A n c] w fun e w' => e = .returned (.bool true) ∧ Below w.heap.size w w' := by
  have HZ := Lib.hid (wf_i64s hz)
  have HN := Lib.hid hn
  have HP1 : Hid (∀ ws : World, Calls Try.prog 25 #[Zv z] ws fun e w' => e = .returned (Sv (zoneP z)) ∧ Below ws.heap.size ws w') := fun ws => zput_any z ws hz0
  have HP2 : Hid (∀ ws : World, Calls Try.prog 24 #[Zv z] ws fun e w' => e = .returned (Sv (zoneP z)) ∧ Below ws.heap.size ws w') := fun ws => rzput_any z ws hz0
  clear hz hn _hc _wt _wa hz0
  generalize zoneP z = pz at *
  obtain ⟨zr, zn, ⟨zmn, zmi, zmz⟩, ⟨zxn, zxi, zxz⟩⟩ := z
  dsimp only [Zv] at *
  have hZ0 := Blk.new' w 25 #[.int .i64 zr, .int .i64 zn, .bool zmn, .int .i64 zmi, .string zmz, .bool zxn, .int .i64 zxi, .string zxz]
  have hba := (Below.refl w.heap.size w).alloc (Nat.le_refl _) (.cells #[.int .i64 zr, .int .i64 zn, .bool zmn, .int .i64 zmi, .string zmz, .bool zxn, .int .i64 zxi, .string zxz] 25)
  have hr0 := hr.call hba
  go_enter Try.func8, Try.ntmps8
  go_upto_region 1 with fail
  generalize w.alloc (.cells #[.int .i64 zr, .int .i64 zn, .bool zmn, .int .i64 zmi, .string zmz, .bool zxn, .int .i64 zxi, .string zxz] 25) = w0 at *
  go_wp2_with fail
  refine (column_any t true _).mono ?_; rintro e w1 ⟨k, hk, rfl, hb1⟩
  dsimp only [colV]
  have hC1 := Blk.new' w1 32 #[.string ⟨#[120]⟩, .int .i64 (1 + (k : Int)), .int .i64 0, .bool true]
  have hbc := (Below.refl w1.heap.size w1).alloc (Nat.le_refl _) (.cells #[.string ⟨#[120]⟩, .int .i64 (1 + (k : Int)), .int .i64 0, .bool true] 32)
  have hrA := (hr0.call hb1).call hbc
  have hZ2 := (hZ0.call hb1).call hbc
  have hb2 := bt (bt hba hb1) hbc
  clear hr hr0 hb1 hbc hba hZ0
  go_upto_region 2 with fail
  generalize w1.alloc (.cells #[.string ⟨#[120]⟩, .int .i64 (1 + (k : Int)), .int .i64 0, .bool true] 32) = w2 at *
  generalize w1.heap.size = gc at *
  have HVS : Hid (∀ ws : World, Rd ws ws.heap.size A (zs.map Iv) → Calls Try.prog 13 #[colV (1 + (k : Int)) true, .slice A n c] ws (ValuesPost ws (1 + (k : Int)) true)) := fun ws h => values_any k hk true A n c zs ws h HN.out HZ.out (by omega)
  go_cut [12] (fun p wy => ∃ (g : Nat) (X : List Vl) (y : Zn), p = .pointer (some ⟨g, 0, none⟩) ∧ Hid ((∀ v ∈ X, okV (1 + (k : Int)) v ∧ (v.null = true → true = true)) ∧ X.length ≤ 39 ∧ y = zoneL (1 + (k : Int)) X.length X) ∧ Blk wy g 25 [.int .i64 y.rows, .int .i64 y.nulls, .bool y.mn.null, .int .i64 y.mn.n, .string y.mn.s, .bool y.mx.null, .int .i64 y.mx.n, .string y.mx.s] ∧ Below w2.heap.size w2 wy)
  case first =>
    have MK : Hid (∀ w', Below w2.heap.size w2 w' → (Below w2.heap.size w2 w' ∧ w'.cell? ⟨gc, 0, none⟩ = some (.string ⟨#[120]⟩) ∧ w'.cell? ⟨gc, 1, none⟩ = some (.int .i64 (1 + (k : Int))) ∧ w'.cell? ⟨gc, 2, none⟩ = some (.int .i64 0) ∧ w'.cell? ⟨gc, 3, none⟩ = some (.bool true))) := fun w' h => ⟨h, (hC1.call h).cellAt 0 rfl, (hC1.call h).cellAt 1 rfl, (hC1.call h).cellAt 2 rfl, (hC1.call h).cellAt 3 rfl⟩
    have hB : Below w2.heap.size w2 w2.drew := Below.drew (Below.refl _ _)
    refine wp_region_L (fun _ w' => Below w2.heap.size w2 w' ∧ w'.cell? ⟨gc, 0, none⟩ = some (.string ⟨#[120]⟩) ∧ w'.cell? ⟨gc, 1, none⟩ = some (.int .i64 (1 + (k : Int))) ∧ w'.cell? ⟨gc, 2, none⟩ = some (.int .i64 0) ∧ w'.cell? ⟨gc, 3, none⟩ = some (.bool true)) (by kernel_rfl) ?_
    generalize w2.drew = wx at *
    have HS := Lib.hid (MK.out _ hB)
    refine wpAnyL_takeD (fun _ => True) (i := 0) (v := (.pointer (some ⟨gc, 1, none⟩))) (some 30) rfl rfl (by kernel_rfl) (by kernel_rfl) (by kernel_rfl) (fun _ _ _ h => h) (fun _ _ _ _ _ _ => trivial) (fun _ _ _ => Iff.rfl) trivial (Or.inl ⟨by rfl, fun w' hw' => by obtain ⟨l, _, hl⟩ := hw'; obtain ⟨_, k0, k1, k2, k3⟩ := hl; go_simp⟩) HS.out ?_
    simp only [Act.put, List.setIfInBounds_toArray, List.set_cons_zero, List.set_cons_succ]
    refine wpAnyL_takeD (fun _ => True) (i := 1) (v := (.int .i64 (1 + (k : Int)))) (some 31) rfl rfl (by kernel_rfl) (by kernel_rfl) (by kernel_rfl) (fun _ _ _ h => h) (fun _ _ _ _ _ _ => trivial) (fun _ _ _ => Iff.rfl) trivial (Or.inl ⟨by rfl, fun w' hw' => by obtain ⟨l, _, hl⟩ := hw'; obtain ⟨_, k0, k1, k2, k3⟩ := hl; go_simp⟩) HS.out ?_
    simp only [Act.put, List.setIfInBounds_toArray, List.set_cons_zero, List.set_cons_succ]
    refine wpAnyL_takeD (fun _ => True) (i := 2) (v := (.agg #[.string ⟨#[120]⟩, .int .i64 (1 + (k : Int)), .int .i64 0, .bool true])) (some 32) rfl rfl (by kernel_rfl) (by kernel_rfl) (by kernel_rfl) (fun _ _ _ h => h) (fun _ _ _ _ _ _ => trivial) (fun _ _ _ => Iff.rfl) trivial (Or.inl ⟨by rfl, fun w' hw' => by obtain ⟨l, _, hl⟩ := hw'; obtain ⟨_, k0, k1, k2, k3⟩ := hl; go_simp⟩) HS.out ?_
    simp only [Act.put, List.setIfInBounds_toArray, List.set_cons_zero, List.set_cons_succ]
    refine wpAnyL_takeD (fun _ => True) (i := 3) (v := (.slice A n c)) (some 33) rfl rfl (by kernel_rfl) (by kernel_rfl) (by kernel_rfl) (fun _ _ _ h => h) (fun _ _ _ _ _ _ => trivial) (fun _ _ _ => Iff.rfl) trivial (Or.inl ⟨by rfl, fun w' hw' => by obtain ⟨l, _, hl⟩ := hw'; obtain ⟨_, k0, k1, k2, k3⟩ := hl; go_simp⟩) HS.out ?_
    simp only [Act.put, List.setIfInBounds_toArray, List.set_cons_zero, List.set_cons_succ]
    clear HS
    refine wpAnyL_lst (rs := [4, 6]) (by decide +kernel) ⟨List.cons_ne_nil _ _, ?_⟩
    refine List.forall_mem_cons.2 ⟨?_, List.forall_mem_cons.2 ⟨?_, (fun _ h => absurd h List.not_mem_nil)⟩⟩
    · skip
      refine wpOp_go (o := _) rfl (fun K hK => ?_)
      go_simp
      go_at_call 13
      refine (HVS.out wx (hrA.call hB)).mono ?_; rintro e wx ⟨v3, xs, rfl, ho3, hk3, hl3, hbx⟩
      try replace hG3 := hG3.call hbx
      obtain ⟨B3, d3, rfl, hd3⟩ := own_form ho3
      have hx := Rd.of_own ho3
      clear ho3
      replace hB := bt hB hbx
      refine hK _ _ ⟨MK.out _ hB, ?_⟩
      clear hK K hbx
      refine wpAnyL_lst (rs := [5, 6]) (by decide +kernel) ⟨List.cons_ne_nil _ _, ?_⟩
      refine List.forall_mem_cons.2 ⟨?_, List.forall_mem_cons.2 ⟨?_, (fun _ h => absurd h List.not_mem_nil)⟩⟩
      · skip
        refine wpOp_go (o := _) rfl (fun K hK => ?_)
        go_simp
        go_at_call 15
        refine (rzone_any (1 + (k : Int)) B3 _ d3 xs wx hx rfl (by omega)).mono ?_; rintro e wx ⟨rfl, hbx⟩
        generalize hzz : zoneL (1 + (k : Int)) xs.length xs = zy
        obtain ⟨yr, yn, ⟨ymn, ymi, ymz⟩, ⟨yxn, yxi, yxz⟩⟩ := zy
        have HZZ := Lib.hid hzz
        clear hzz
        dsimp only [Zv]
        try replace hG3 := hG3.call hbx
        replace hB := bt hB hbx
        refine hK _ _ ⟨MK.out _ hB, ?_⟩
        clear hK K hbx hx
        refine wpAnyL_one (i := 6) (by decide +kernel) ?_
        refine wpOp_go (o := _) rfl (fun K hK => ?_)
        go_simp
        have hG3 := Blk.new' wx 25 #[.int .i64 0, .int .i64 0, .bool false, .int .i64 0, .string ⟨#[]⟩, .bool false, .int .i64 0, .string ⟨#[]⟩]
        have hl3g : w2.heap.size ≤ wx.heap.size := hB.size
        try replace hx := hx.call ((Below.refl _ _).alloc (Nat.le_refl _) (.cells #[.int .i64 0, .int .i64 0, .bool false, .int .i64 0, .string ⟨#[]⟩, .bool false, .int .i64 0, .string ⟨#[]⟩] 25))
        replace hB := below_alloc (o := .cells #[.int .i64 0, .int .i64 0, .bool false, .int .i64 0, .string ⟨#[]⟩, .bool false, .int .i64 0, .string ⟨#[]⟩] 25) hB
        refine hK _ _ ⟨MK.out _ hB, ?_⟩
        clear hK K
        generalize wx.alloc (.cells #[.int .i64 0, .int .i64 0, .bool false, .int .i64 0, .string ⟨#[]⟩, .bool false, .int .i64 0, .string ⟨#[]⟩] 25) = wx at *
        refine wpAnyL_one (i := 7) (by decide +kernel) ?_
        have of := fun j => hG3.frozen j
        have o0 := hG3.cellAt 0 rfl
        have o1 := hG3.cellAt 1 rfl
        have o2 := hG3.cellAt 2 rfl
        have o3 := hG3.cellAt 3 rfl
        have o4 := hG3.cellAt 4 rfl
        have o5 := hG3.cellAt 5 rfl
        have o6 := hG3.cellAt 6 rfl
        have o7 := hG3.cellAt 7 rfl
        refine wpOp_go (o := _) rfl (fun K hK => ?_)
        go_simp
        clear of o0 o1 o2 o3 o4 o5 o6 o7
        replace hG3 := st8 hG3 (.int .i64 yr) (.int .i64 yn) (.bool ymn) (.int .i64 ymi) (.string ymz) (.bool yxn) (.int .i64 yxi) (.string yxz)
        replace hB := st8_below hB hl3g (.int .i64 yr) (.int .i64 yn) (.bool ymn) (.int .i64 ymi) (.string ymz) (.bool yxn) (.int .i64 yxi) (.string yxz)
        refine hK _ _ ⟨MK.out _ hB, ?_⟩
        clear hK K
        refine wpAnyL_done (by decide +kernel) ?_ _
        go_wp2_with fail
        go_meet
        exact ⟨_, xs, ⟨yr, yn, ⟨ymn, ymi, ymz⟩, ⟨yxn, yxi, yxz⟩⟩, rfl, ⟨hk3, hl3, HZZ.out.symm⟩, hG3, hB⟩
      · skip
        refine wpOp_go (o := _) rfl (fun K hK => ?_)
        go_simp
        have hG3 := Blk.new' wx 25 #[.int .i64 0, .int .i64 0, .bool false, .int .i64 0, .string ⟨#[]⟩, .bool false, .int .i64 0, .string ⟨#[]⟩]
        have hl3g : w2.heap.size ≤ wx.heap.size := hB.size
        try replace hx := hx.call ((Below.refl _ _).alloc (Nat.le_refl _) (.cells #[.int .i64 0, .int .i64 0, .bool false, .int .i64 0, .string ⟨#[]⟩, .bool false, .int .i64 0, .string ⟨#[]⟩] 25))
        replace hB := below_alloc (o := .cells #[.int .i64 0, .int .i64 0, .bool false, .int .i64 0, .string ⟨#[]⟩, .bool false, .int .i64 0, .string ⟨#[]⟩] 25) hB
        refine hK _ _ ⟨MK.out _ hB, ?_⟩
        clear hK K
        generalize wx.alloc (.cells #[.int .i64 0, .int .i64 0, .bool false, .int .i64 0, .string ⟨#[]⟩, .bool false, .int .i64 0, .string ⟨#[]⟩] 25) = wx at *
        refine wpAnyL_one (i := 5) (by decide +kernel) ?_
        refine wpOp_go (o := _) rfl (fun K hK => ?_)
        go_simp
        go_at_call 15
        refine (rzone_any (1 + (k : Int)) B3 _ d3 xs wx hx rfl (by omega)).mono ?_; rintro e wx ⟨rfl, hbx⟩
        generalize hzz : zoneL (1 + (k : Int)) xs.length xs = zy
        obtain ⟨yr, yn, ⟨ymn, ymi, ymz⟩, ⟨yxn, yxi, yxz⟩⟩ := zy
        have HZZ := Lib.hid hzz
        clear hzz
        dsimp only [Zv]
        try replace hG3 := hG3.call hbx
        replace hB := bt hB hbx
        refine hK _ _ ⟨MK.out _ hB, ?_⟩
        clear hK K hbx hx
        refine wpAnyL_one (i := 7) (by decide +kernel) ?_
        have of := fun j => hG3.frozen j
        have o0 := hG3.cellAt 0 rfl
        have o1 := hG3.cellAt 1 rfl
        have o2 := hG3.cellAt 2 rfl
        have o3 := hG3.cellAt 3 rfl
        have o4 := hG3.cellAt 4 rfl
        have o5 := hG3.cellAt 5 rfl
        have o6 := hG3.cellAt 6 rfl
        have o7 := hG3.cellAt 7 rfl
        refine wpOp_go (o := _) rfl (fun K hK => ?_)
        go_simp
        clear of o0 o1 o2 o3 o4 o5 o6 o7
        replace hG3 := st8 hG3 (.int .i64 yr) (.int .i64 yn) (.bool ymn) (.int .i64 ymi) (.string ymz) (.bool yxn) (.int .i64 yxi) (.string yxz)
        replace hB := st8_below hB hl3g (.int .i64 yr) (.int .i64 yn) (.bool ymn) (.int .i64 ymi) (.string ymz) (.bool yxn) (.int .i64 yxi) (.string yxz)
        refine hK _ _ ⟨MK.out _ hB, ?_⟩
        clear hK K
        refine wpAnyL_done (by decide +kernel) ?_ _
        go_wp2_with fail
        go_meet
        exact ⟨_, xs, ⟨yr, yn, ⟨ymn, ymi, ymz⟩, ⟨yxn, yxi, yxz⟩⟩, rfl, ⟨hk3, hl3, HZZ.out.symm⟩, hG3, hB⟩
    · skip
      refine wpOp_go (o := _) rfl (fun K hK => ?_)
      go_simp
      have hG3 := Blk.new' wx 25 #[.int .i64 0, .int .i64 0, .bool false, .int .i64 0, .string ⟨#[]⟩, .bool false, .int .i64 0, .string ⟨#[]⟩]
      have hl3g : w2.heap.size ≤ wx.heap.size := hB.size
      try replace hx := hx.call ((Below.refl _ _).alloc (Nat.le_refl _) (.cells #[.int .i64 0, .int .i64 0, .bool false, .int .i64 0, .string ⟨#[]⟩, .bool false, .int .i64 0, .string ⟨#[]⟩] 25))
      replace hB := below_alloc (o := .cells #[.int .i64 0, .int .i64 0, .bool false, .int .i64 0, .string ⟨#[]⟩, .bool false, .int .i64 0, .string ⟨#[]⟩] 25) hB
      refine hK _ _ ⟨MK.out _ hB, ?_⟩
      clear hK K
      generalize wx.alloc (.cells #[.int .i64 0, .int .i64 0, .bool false, .int .i64 0, .string ⟨#[]⟩, .bool false, .int .i64 0, .string ⟨#[]⟩] 25) = wx at *
      refine wpAnyL_one (i := 4) (by decide +kernel) ?_
      refine wpOp_go (o := _) rfl (fun K hK => ?_)
      go_simp
      go_at_call 13
      refine (HVS.out wx (hrA.call hB)).mono ?_; rintro e wx ⟨v3, xs, rfl, ho3, hk3, hl3, hbx⟩
      try replace hG3 := hG3.call hbx
      obtain ⟨B3, d3, rfl, hd3⟩ := own_form ho3
      have hx := Rd.of_own ho3
      clear ho3
      replace hB := bt hB hbx
      refine hK _ _ ⟨MK.out _ hB, ?_⟩
      clear hK K hbx
      refine wpAnyL_one (i := 5) (by decide +kernel) ?_
      refine wpOp_go (o := _) rfl (fun K hK => ?_)
      go_simp
      go_at_call 15
      refine (rzone_any (1 + (k : Int)) B3 _ d3 xs wx hx rfl (by omega)).mono ?_; rintro e wx ⟨rfl, hbx⟩
      generalize hzz : zoneL (1 + (k : Int)) xs.length xs = zy
      obtain ⟨yr, yn, ⟨ymn, ymi, ymz⟩, ⟨yxn, yxi, yxz⟩⟩ := zy
      have HZZ := Lib.hid hzz
      clear hzz
      dsimp only [Zv]
      try replace hG3 := hG3.call hbx
      replace hB := bt hB hbx
      refine hK _ _ ⟨MK.out _ hB, ?_⟩
      clear hK K hbx hx
      refine wpAnyL_one (i := 7) (by decide +kernel) ?_
      have of := fun j => hG3.frozen j
      have o0 := hG3.cellAt 0 rfl
      have o1 := hG3.cellAt 1 rfl
      have o2 := hG3.cellAt 2 rfl
      have o3 := hG3.cellAt 3 rfl
      have o4 := hG3.cellAt 4 rfl
      have o5 := hG3.cellAt 5 rfl
      have o6 := hG3.cellAt 6 rfl
      have o7 := hG3.cellAt 7 rfl
      refine wpOp_go (o := _) rfl (fun K hK => ?_)
      go_simp
      clear of o0 o1 o2 o3 o4 o5 o6 o7
      replace hG3 := st8 hG3 (.int .i64 yr) (.int .i64 yn) (.bool ymn) (.int .i64 ymi) (.string ymz) (.bool yxn) (.int .i64 yxi) (.string yxz)
      replace hB := st8_below hB hl3g (.int .i64 yr) (.int .i64 yn) (.bool ymn) (.int .i64 ymi) (.string ymz) (.bool yxn) (.int .i64 yxi) (.string yxz)
      refine hK _ _ ⟨MK.out _ hB, ?_⟩
      clear hK K
      refine wpAnyL_done (by decide +kernel) ?_ _
      go_wp2_with fail
      go_meet
      exact ⟨_, xs, ⟨yr, yn, ⟨ymn, ymi, ymz⟩, ⟨yxn, yxi, yxz⟩⟩, rfl, ⟨hk3, hl3, HZZ.out.symm⟩, hG3, hB⟩
  case rest =>
    obtain ⟨gy, X, y, rfl, HX, hY, hB⟩ := hcut
    have hyo : ZnOk y := by rw [HX.out.2.2]; exact zone_ZnOk (fun v hv => (HX.out.1 v hv).1) (by have := HX.out.2.1; omega)
    have hpl : (zoneP y).length ≤ 1000 := by
      obtain ⟨o1, o2, _, _, _⟩ := zone_ok_of (t := 1 + (k : Int)) (fun v hv => (HX.out.1 v hv).1) (show X.length ≤ 4096 by have := HX.out.2.1; omega)
      rw [← HX.out.2.2] at o1 o2
      have l1 := putL_len (toNat_U64 hyo.rows)
      have l2 := putL_len (toNat_U64 hyo.nulls)
      have l3 := valP_len hyo.mn.n (by have := o1.2.2.2.2.2; omega)
      have l4 := valP_len hyo.mx.n (by have := o2.2.2.2.2.2; omega)
      have := o1.2.2.2.2.2
      have := o2.2.2.2.2.2
      unfold zoneP
      simp only [List.length_append]
      omega
    have hpp : 0 < (zoneP y).length := by unfold zoneP; have := putL_pos y.rows.toNat; simp only [List.length_append]; omega
    have HY1 : Hid (∀ ws : World, Calls Try.prog 25 #[Zv y] ws fun e w' => e = .returned (Sv (zoneP y)) ∧ Below ws.heap.size ws w') := fun ws => zput_any y ws hyo
    have HY2 : Hid (∀ ws : World, Calls Try.prog 24 #[Zv y] ws fun e w' => e = .returned (Sv (zoneP y)) ∧ Below ws.heap.size ws w') := fun ws => rzput_any y ws hyo
    have hZ3 := hZ2.call hB
    have hb3 := bt hb2 hB
    clear HX hyo hC1 hrA hZ2 hB hb2 HVS HZ HN
    generalize zoneP y = py at *
    obtain ⟨yr, yn, ⟨ymn, ymi, ymz⟩, ⟨yxn, yxi, yxz⟩⟩ := y
    dsimp only [Zv] at *
    generalize wc = w3 at *
    go_wp2_with fail
    refine (pick_any at_ (s.size + 3) _ (by omega) (by omega)).mono ?_; rintro e w' ⟨rfl, rfl⟩
    have hp := pickN_lt at_ (show 0 < s.size + 3 by omega)
    generalize pickN at_ (s.size + 3) = q at *
    go_wp2_with fail
    refine (zget_any s ((q : Int) - 1) _ (by omega)).mono ?_; rintro _ wn ⟨rfl, hbn⟩
    (generalize hg1 : zoneG s ((q : Int) - 1) = r1; obtain ⟨⟨ar, an, ⟨amn, ami, amz⟩, ⟨axn, axi, axz⟩⟩, ai, ae⟩ := r1; have HG1 := Lib.hid hg1; clear hg1)
    dsimp only [Zv]
    try replace hA := (hA.call hbn).alloc (.cells #[.int .i64 ar, .int .i64 an, .bool amn, .int .i64 ami, .string amz, .bool axn, .int .i64 axi, .string axz] 25)
    try replace hB2 := (hB2.call hbn).alloc (.cells #[.int .i64 ar, .int .i64 an, .bool amn, .int .i64 ami, .string amz, .bool axn, .int .i64 axi, .string axz] 25)
    try replace hD := (hD.call hbn).alloc (.cells #[.int .i64 ar, .int .i64 an, .bool amn, .int .i64 ami, .string amz, .bool axn, .int .i64 axi, .string axz] 25)
    replace hZ3 := (hZ3.call hbn).alloc (.cells #[.int .i64 ar, .int .i64 an, .bool amn, .int .i64 ami, .string amz, .bool axn, .int .i64 axi, .string axz] 25)
    replace hY := (hY.call hbn).alloc (.cells #[.int .i64 ar, .int .i64 an, .bool amn, .int .i64 ami, .string amz, .bool axn, .int .i64 axi, .string axz] 25)
    replace hb3 := bt (bt hb3 hbn) ((Below.refl wn.heap.size wn).alloc (Nat.le_refl _) (.cells #[.int .i64 ar, .int .i64 an, .bool amn, .int .i64 ami, .string amz, .bool axn, .int .i64 axi, .string axz] 25))
    have hA := Blk.new' wn 25 #[.int .i64 ar, .int .i64 an, .bool amn, .int .i64 ami, .string amz, .bool axn, .int .i64 axi, .string axz]
    go_upto_region 5 with fail
    generalize wn.alloc (.cells #[.int .i64 ar, .int .i64 an, .bool amn, .int .i64 ami, .string amz, .bool axn, .int .i64 axi, .string axz] 25) = w3 at *
    generalize wn.heap.size = ga at *
    clear hbn
    go_wp2_with fail
    refine (rzget_any s ((q : Int) - 1) _ (by omega)).mono ?_; rintro _ wn ⟨rfl, hbn⟩
    (rw [HG1.out])
    dsimp only [Zv]
    try replace hA := (hA.call hbn).alloc (.cells #[.int .i64 ar, .int .i64 an, .bool amn, .int .i64 ami, .string amz, .bool axn, .int .i64 axi, .string axz] 25)
    try replace hB2 := (hB2.call hbn).alloc (.cells #[.int .i64 ar, .int .i64 an, .bool amn, .int .i64 ami, .string amz, .bool axn, .int .i64 axi, .string axz] 25)
    try replace hD := (hD.call hbn).alloc (.cells #[.int .i64 ar, .int .i64 an, .bool amn, .int .i64 ami, .string amz, .bool axn, .int .i64 axi, .string axz] 25)
    replace hZ3 := (hZ3.call hbn).alloc (.cells #[.int .i64 ar, .int .i64 an, .bool amn, .int .i64 ami, .string amz, .bool axn, .int .i64 axi, .string axz] 25)
    replace hY := (hY.call hbn).alloc (.cells #[.int .i64 ar, .int .i64 an, .bool amn, .int .i64 ami, .string amz, .bool axn, .int .i64 axi, .string axz] 25)
    replace hb3 := bt (bt hb3 hbn) ((Below.refl wn.heap.size wn).alloc (Nat.le_refl _) (.cells #[.int .i64 ar, .int .i64 an, .bool amn, .int .i64 ami, .string amz, .bool axn, .int .i64 axi, .string axz] 25))
    have hB2 := Blk.new' wn 25 #[.int .i64 ar, .int .i64 an, .bool amn, .int .i64 ami, .string amz, .bool axn, .int .i64 axi, .string axz]
    go_upto_region 6 with fail
    generalize wn.alloc (.cells #[.int .i64 ar, .int .i64 an, .bool amn, .int .i64 ami, .string amz, .bool axn, .int .i64 axi, .string axz] 25) = w3 at *
    generalize wn.heap.size = gb at *
    clear hbn
    clear HG1
    have hYc := hY
    have y0 := hY.cellAt 0 rfl
    have y1 := hY.cellAt 1 rfl
    have y2 := hY.cellAt 2 rfl
    have y3 := hY.cellAt 3 rfl
    have y4 := hY.cellAt 4 rfl
    have y5 := hY.cellAt 5 rfl
    have y6 := hY.cellAt 6 rfl
    have y7 := hY.cellAt 7 rfl
    go_wp2_with fail
    refine (HY2.out _).mono ?_; rintro _ wn ⟨rfl, hbn⟩
    replace hA := hA.call hbn
    replace hB2 := hB2.call hbn
    replace hZ3 := hZ3.call hbn
    replace hY := hY.call hbn
    replace hb3 := bt hb3 hbn
    clear y0 y1 y2 y3 y4 y5 y6 y7 hYc hbn
    skip
    generalize wn = w3 at *
    go_wp2_with fail
    refine (pick_any at_ py.length _ hpp (by omega)).mono ?_; rintro e w' ⟨rfl, rfl⟩
    have hp2 := pickN_lt at_ hpp
    generalize pickN at_ py.length = q2 at *
    have hp3 : q2 ≤ py.length := by omega
    go_upto_region 8 with fail
    have hT : (({ data := py.toArray } : ByteArray).extract 0 q2 ++ s).size ≤ 1000000000000000 := by
      rw [ByteArray.size_append, ByteArray.size_extract, size_mk]
      omega
    generalize ({ data := py.toArray } : ByteArray).extract 0 q2 ++ s = T at *
    go_wp2_with fail
    refine (zget_any T 0 _ hT).mono ?_; rintro _ wn ⟨rfl, hbn⟩
    (generalize hg1 : zoneG T 0 = r1; obtain ⟨⟨dr, dn, ⟨dmn, dmi, dmz⟩, ⟨dxn, dxi, dxz⟩⟩, di, de⟩ := r1; have HG1 := Lib.hid hg1; clear hg1)
    dsimp only [Zv]
    try replace hA := (hA.call hbn).alloc (.cells #[.int .i64 dr, .int .i64 dn, .bool dmn, .int .i64 dmi, .string dmz, .bool dxn, .int .i64 dxi, .string dxz] 25)
    try replace hB2 := (hB2.call hbn).alloc (.cells #[.int .i64 dr, .int .i64 dn, .bool dmn, .int .i64 dmi, .string dmz, .bool dxn, .int .i64 dxi, .string dxz] 25)
    try replace hD := (hD.call hbn).alloc (.cells #[.int .i64 dr, .int .i64 dn, .bool dmn, .int .i64 dmi, .string dmz, .bool dxn, .int .i64 dxi, .string dxz] 25)
    replace hZ3 := (hZ3.call hbn).alloc (.cells #[.int .i64 dr, .int .i64 dn, .bool dmn, .int .i64 dmi, .string dmz, .bool dxn, .int .i64 dxi, .string dxz] 25)
    replace hY := (hY.call hbn).alloc (.cells #[.int .i64 dr, .int .i64 dn, .bool dmn, .int .i64 dmi, .string dmz, .bool dxn, .int .i64 dxi, .string dxz] 25)
    replace hb3 := bt (bt hb3 hbn) ((Below.refl wn.heap.size wn).alloc (Nat.le_refl _) (.cells #[.int .i64 dr, .int .i64 dn, .bool dmn, .int .i64 dmi, .string dmz, .bool dxn, .int .i64 dxi, .string dxz] 25))
    have hD := Blk.new' wn 25 #[.int .i64 dr, .int .i64 dn, .bool dmn, .int .i64 dmi, .string dmz, .bool dxn, .int .i64 dxi, .string dxz]
    go_upto_region 9 with fail
    generalize wn.alloc (.cells #[.int .i64 dr, .int .i64 dn, .bool dmn, .int .i64 dmi, .string dmz, .bool dxn, .int .i64 dxi, .string dxz] 25) = w3 at *
    generalize wn.heap.size = gd at *
    clear hbn
    go_wp2_with fail
    refine (rzget_any T 0 _ hT).mono ?_; rintro _ wn ⟨rfl, hbn⟩
    (rw [HG1.out])
    dsimp only [Zv]
    try replace hA := (hA.call hbn).alloc (.cells #[.int .i64 dr, .int .i64 dn, .bool dmn, .int .i64 dmi, .string dmz, .bool dxn, .int .i64 dxi, .string dxz] 25)
    try replace hB2 := (hB2.call hbn).alloc (.cells #[.int .i64 dr, .int .i64 dn, .bool dmn, .int .i64 dmi, .string dmz, .bool dxn, .int .i64 dxi, .string dxz] 25)
    try replace hD := (hD.call hbn).alloc (.cells #[.int .i64 dr, .int .i64 dn, .bool dmn, .int .i64 dmi, .string dmz, .bool dxn, .int .i64 dxi, .string dxz] 25)
    replace hZ3 := (hZ3.call hbn).alloc (.cells #[.int .i64 dr, .int .i64 dn, .bool dmn, .int .i64 dmi, .string dmz, .bool dxn, .int .i64 dxi, .string dxz] 25)
    replace hY := (hY.call hbn).alloc (.cells #[.int .i64 dr, .int .i64 dn, .bool dmn, .int .i64 dmi, .string dmz, .bool dxn, .int .i64 dxi, .string dxz] 25)
    replace hb3 := bt (bt hb3 hbn) ((Below.refl wn.heap.size wn).alloc (Nat.le_refl _) (.cells #[.int .i64 dr, .int .i64 dn, .bool dmn, .int .i64 dmi, .string dmz, .bool dxn, .int .i64 dxi, .string dxz] 25))
    have hO := Blk.new' wn 25 #[.int .i64 dr, .int .i64 dn, .bool dmn, .int .i64 dmi, .string dmz, .bool dxn, .int .i64 dxi, .string dxz]
    go_upto_region 10 with fail
    generalize wn.alloc (.cells #[.int .i64 dr, .int .i64 dn, .bool dmn, .int .i64 dmi, .string dmz, .bool dxn, .int .i64 dxi, .string dxz] 25) = w3 at *
    generalize wn.heap.size = go at *
    clear hbn
    clear HG1
    have MK : Hid (∀ w', Below w3.heap.size w3 w' → (Below w3.heap.size w3 w' ∧ w'.cell? ⟨w.heap.size, 0, none⟩ = some (.int .i64 zr) ∧ w'.cell? ⟨w.heap.size, 1, none⟩ = some (.int .i64 zn) ∧ w'.cell? ⟨w.heap.size, 2, none⟩ = some (.bool zmn) ∧ w'.cell? ⟨w.heap.size, 3, none⟩ = some (.int .i64 zmi) ∧ w'.cell? ⟨w.heap.size, 4, none⟩ = some (.string zmz) ∧ w'.cell? ⟨w.heap.size, 5, none⟩ = some (.bool zxn) ∧ w'.cell? ⟨w.heap.size, 6, none⟩ = some (.int .i64 zxi) ∧ w'.cell? ⟨w.heap.size, 7, none⟩ = some (.string zxz) ∧ w'.cell? ⟨gy, 0, none⟩ = some (.int .i64 yr) ∧ w'.cell? ⟨gy, 1, none⟩ = some (.int .i64 yn) ∧ w'.cell? ⟨gy, 2, none⟩ = some (.bool ymn) ∧ w'.cell? ⟨gy, 3, none⟩ = some (.int .i64 ymi) ∧ w'.cell? ⟨gy, 4, none⟩ = some (.string ymz) ∧ w'.cell? ⟨gy, 5, none⟩ = some (.bool yxn) ∧ w'.cell? ⟨gy, 6, none⟩ = some (.int .i64 yxi) ∧ w'.cell? ⟨gy, 7, none⟩ = some (.string yxz) ∧ w'.cell? ⟨ga, 0, none⟩ = some (.int .i64 ar) ∧ w'.cell? ⟨ga, 1, none⟩ = some (.int .i64 an) ∧ w'.cell? ⟨ga, 2, none⟩ = some (.bool amn) ∧ w'.cell? ⟨ga, 3, none⟩ = some (.int .i64 ami) ∧ w'.cell? ⟨ga, 4, none⟩ = some (.string amz) ∧ w'.cell? ⟨ga, 5, none⟩ = some (.bool axn) ∧ w'.cell? ⟨ga, 6, none⟩ = some (.int .i64 axi) ∧ w'.cell? ⟨ga, 7, none⟩ = some (.string axz) ∧ w'.cell? ⟨gb, 0, none⟩ = some (.int .i64 ar) ∧ w'.cell? ⟨gb, 1, none⟩ = some (.int .i64 an) ∧ w'.cell? ⟨gb, 2, none⟩ = some (.bool amn) ∧ w'.cell? ⟨gb, 3, none⟩ = some (.int .i64 ami) ∧ w'.cell? ⟨gb, 4, none⟩ = some (.string amz) ∧ w'.cell? ⟨gb, 5, none⟩ = some (.bool axn) ∧ w'.cell? ⟨gb, 6, none⟩ = some (.int .i64 axi) ∧ w'.cell? ⟨gb, 7, none⟩ = some (.string axz) ∧ w'.cell? ⟨gd, 0, none⟩ = some (.int .i64 dr) ∧ w'.cell? ⟨gd, 1, none⟩ = some (.int .i64 dn) ∧ w'.cell? ⟨gd, 2, none⟩ = some (.bool dmn) ∧ w'.cell? ⟨gd, 3, none⟩ = some (.int .i64 dmi) ∧ w'.cell? ⟨gd, 4, none⟩ = some (.string dmz) ∧ w'.cell? ⟨gd, 5, none⟩ = some (.bool dxn) ∧ w'.cell? ⟨gd, 6, none⟩ = some (.int .i64 dxi) ∧ w'.cell? ⟨gd, 7, none⟩ = some (.string dxz) ∧ w'.cell? ⟨go, 0, none⟩ = some (.int .i64 dr) ∧ w'.cell? ⟨go, 1, none⟩ = some (.int .i64 dn) ∧ w'.cell? ⟨go, 2, none⟩ = some (.bool dmn) ∧ w'.cell? ⟨go, 3, none⟩ = some (.int .i64 dmi) ∧ w'.cell? ⟨go, 4, none⟩ = some (.string dmz) ∧ w'.cell? ⟨go, 5, none⟩ = some (.bool dxn) ∧ w'.cell? ⟨go, 6, none⟩ = some (.int .i64 dxi) ∧ w'.cell? ⟨go, 7, none⟩ = some (.string dxz))) := fun w' h => ⟨h, (hZ3.call h).cellAt 0 rfl, (hZ3.call h).cellAt 1 rfl, (hZ3.call h).cellAt 2 rfl, (hZ3.call h).cellAt 3 rfl, (hZ3.call h).cellAt 4 rfl, (hZ3.call h).cellAt 5 rfl, (hZ3.call h).cellAt 6 rfl, (hZ3.call h).cellAt 7 rfl, (hY.call h).cellAt 0 rfl, (hY.call h).cellAt 1 rfl, (hY.call h).cellAt 2 rfl, (hY.call h).cellAt 3 rfl, (hY.call h).cellAt 4 rfl, (hY.call h).cellAt 5 rfl, (hY.call h).cellAt 6 rfl, (hY.call h).cellAt 7 rfl, (hA.call h).cellAt 0 rfl, (hA.call h).cellAt 1 rfl, (hA.call h).cellAt 2 rfl, (hA.call h).cellAt 3 rfl, (hA.call h).cellAt 4 rfl, (hA.call h).cellAt 5 rfl, (hA.call h).cellAt 6 rfl, (hA.call h).cellAt 7 rfl, (hB2.call h).cellAt 0 rfl, (hB2.call h).cellAt 1 rfl, (hB2.call h).cellAt 2 rfl, (hB2.call h).cellAt 3 rfl, (hB2.call h).cellAt 4 rfl, (hB2.call h).cellAt 5 rfl, (hB2.call h).cellAt 6 rfl, (hB2.call h).cellAt 7 rfl, (hD.call h).cellAt 0 rfl, (hD.call h).cellAt 1 rfl, (hD.call h).cellAt 2 rfl, (hD.call h).cellAt 3 rfl, (hD.call h).cellAt 4 rfl, (hD.call h).cellAt 5 rfl, (hD.call h).cellAt 6 rfl, (hD.call h).cellAt 7 rfl, (hO.call h).cellAt 0 rfl, (hO.call h).cellAt 1 rfl, (hO.call h).cellAt 2 rfl, (hO.call h).cellAt 3 rfl, (hO.call h).cellAt 4 rfl, (hO.call h).cellAt 5 rfl, (hO.call h).cellAt 6 rfl, (hO.call h).cellAt 7 rfl⟩
    go_region_held3 (fun w' => Below w3.heap.size w3 w' ∧ w'.cell? ⟨w.heap.size, 0, none⟩ = some (.int .i64 zr) ∧ w'.cell? ⟨w.heap.size, 1, none⟩ = some (.int .i64 zn) ∧ w'.cell? ⟨w.heap.size, 2, none⟩ = some (.bool zmn) ∧ w'.cell? ⟨w.heap.size, 3, none⟩ = some (.int .i64 zmi) ∧ w'.cell? ⟨w.heap.size, 4, none⟩ = some (.string zmz) ∧ w'.cell? ⟨w.heap.size, 5, none⟩ = some (.bool zxn) ∧ w'.cell? ⟨w.heap.size, 6, none⟩ = some (.int .i64 zxi) ∧ w'.cell? ⟨w.heap.size, 7, none⟩ = some (.string zxz) ∧ w'.cell? ⟨gy, 0, none⟩ = some (.int .i64 yr) ∧ w'.cell? ⟨gy, 1, none⟩ = some (.int .i64 yn) ∧ w'.cell? ⟨gy, 2, none⟩ = some (.bool ymn) ∧ w'.cell? ⟨gy, 3, none⟩ = some (.int .i64 ymi) ∧ w'.cell? ⟨gy, 4, none⟩ = some (.string ymz) ∧ w'.cell? ⟨gy, 5, none⟩ = some (.bool yxn) ∧ w'.cell? ⟨gy, 6, none⟩ = some (.int .i64 yxi) ∧ w'.cell? ⟨gy, 7, none⟩ = some (.string yxz) ∧ w'.cell? ⟨ga, 0, none⟩ = some (.int .i64 ar) ∧ w'.cell? ⟨ga, 1, none⟩ = some (.int .i64 an) ∧ w'.cell? ⟨ga, 2, none⟩ = some (.bool amn) ∧ w'.cell? ⟨ga, 3, none⟩ = some (.int .i64 ami) ∧ w'.cell? ⟨ga, 4, none⟩ = some (.string amz) ∧ w'.cell? ⟨ga, 5, none⟩ = some (.bool axn) ∧ w'.cell? ⟨ga, 6, none⟩ = some (.int .i64 axi) ∧ w'.cell? ⟨ga, 7, none⟩ = some (.string axz) ∧ w'.cell? ⟨gb, 0, none⟩ = some (.int .i64 ar) ∧ w'.cell? ⟨gb, 1, none⟩ = some (.int .i64 an) ∧ w'.cell? ⟨gb, 2, none⟩ = some (.bool amn) ∧ w'.cell? ⟨gb, 3, none⟩ = some (.int .i64 ami) ∧ w'.cell? ⟨gb, 4, none⟩ = some (.string amz) ∧ w'.cell? ⟨gb, 5, none⟩ = some (.bool axn) ∧ w'.cell? ⟨gb, 6, none⟩ = some (.int .i64 axi) ∧ w'.cell? ⟨gb, 7, none⟩ = some (.string axz) ∧ w'.cell? ⟨gd, 0, none⟩ = some (.int .i64 dr) ∧ w'.cell? ⟨gd, 1, none⟩ = some (.int .i64 dn) ∧ w'.cell? ⟨gd, 2, none⟩ = some (.bool dmn) ∧ w'.cell? ⟨gd, 3, none⟩ = some (.int .i64 dmi) ∧ w'.cell? ⟨gd, 4, none⟩ = some (.string dmz) ∧ w'.cell? ⟨gd, 5, none⟩ = some (.bool dxn) ∧ w'.cell? ⟨gd, 6, none⟩ = some (.int .i64 dxi) ∧ w'.cell? ⟨gd, 7, none⟩ = some (.string dxz) ∧ w'.cell? ⟨go, 0, none⟩ = some (.int .i64 dr) ∧ w'.cell? ⟨go, 1, none⟩ = some (.int .i64 dn) ∧ w'.cell? ⟨go, 2, none⟩ = some (.bool dmn) ∧ w'.cell? ⟨go, 3, none⟩ = some (.int .i64 dmi) ∧ w'.cell? ⟨go, 4, none⟩ = some (.string dmz) ∧ w'.cell? ⟨go, 5, none⟩ = some (.bool dxn) ∧ w'.cell? ⟨go, 6, none⟩ = some (.int .i64 dxi) ∧ w'.cell? ⟨go, 7, none⟩ = some (.string dxz)) (first | with_reducible assumption | with_reducible exact MK.out _ hbx | exact MK.out _ (Below.refl _ _) | exact MK.out _ ⟨rfl, rfl, rfl, Nat.le_refl _, fun _ _ => rfl⟩) (first | (go_at_call 14; refine (awake14 _).mono ?_; rintro e w5 ⟨rfl, hb5⟩; have hbx := bt (‹Below w3.heap.size w3 _ ∧ _›).1 hb5) | (go_at_call 25; have hq := hR; refine (HY1.out _).mono ?_; rintro e w5 ⟨rfl, hb5⟩; have hbx := bt (‹Below w3.heap.size w3 _ ∧ _›).1 hb5) | (go_at_call 25; refine (HP1.out _).mono ?_; rintro e w5 ⟨rfl, hb5⟩; have hbx := bt (‹Below w3.heap.size w3 _ ∧ _›).1 hb5; have hR := hbx) | (go_at_call 24; refine (HP2.out _).mono ?_; rintro e w5 ⟨rfl, hb5⟩; have hbx := bt (‹Below w3.heap.size w3 _ ∧ _›).1 hb5))
    have hbf := bt hb3 hbx
    clear MK HP1 HP2 HY1 HY2
    go_wp2
    go_ret
    exact ⟨ret_bool (by first | rfl | (simp; done)), hbf⟩

end Go.Proofs.Ytnichmblekbccaa
