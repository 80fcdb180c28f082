/-
  The first error of a record: manifest.Check.
-/
import Derived.Test.YtgacjpkgpegcdaaMChk
namespace Go.Proofs.Ytgacjpkgpegcdaa
open Go.RowKit

/-- A record as a value, and that its lists lie below B. -/
abbrev Kv (r : Rc) (A : Option Addr) (n c : Nat) (A2 : Option Addr) (n2 c2 : Nat) : Value := .agg #[.int .i64 r.kind, .int .i64 r.version, .int .i64 r.nextSeq, .int .i64 r.nextId, .slice A n c, .slice A2 n2 c2]
structure RcAt (w : World) (r : Rc) (A : Option Addr) (n c : Nat) (A2 : Option Addr) (n2 c2 : Nat) : Prop where
  add : Rd w w.heap.size A (r.add.flatMap entC)
  rem : Rd w w.heap.size A2 (r.rem.map Iv)
  ln : r.add.length = n
  ln2 : r.rem.length = n2
  lc : n ≤ c
  lc2 : n2 ≤ c2
  sm : n ≤ 2000000000000
  sm2 : n2 ≤ 17592186044416
theorem RcAt.call {w w' : World} {r : Rc} {A A2 : Option Addr} {n c n2 c2 : Nat} (h : RcAt w r A n c A2 n2 c2) (hb : Below w.heap.size w w') : RcAt w' r A n c A2 n2 c2 :=
  ⟨h.add.call hb, h.rem.call hb, h.ln, h.ln2, h.lc, h.lc2, h.sm, h.sm2⟩
theorem goodN_next {l : List Int} {i : Nat} (h : ∀ j, j < i → goodN l j) (hi : goodN l i) : ∀ j, j < i + 1 → goodN l j := fun j hj => by
  rcases Nat.lt_or_ge j i with h1 | h1
  · exact h j h1
  · have : j = i := by omega
    subst this; exact hi
theorem goodN_first {l : List Int} {e : Int} (he : l[0]? = some e) (hb : objB e = true) : goodN l 0 := ⟨e, he, hb, fun _ h => absurd h (by omega)⟩
theorem goodN_more {l : List Int} {i : Nat} {e p : Int} (he : l[i]? = some e) (hb : objB e = true) (hp : l[i - 1]? = some p) (hlt : p < e) : goodN l i := ⟨e, he, hb, fun q _ hq => by rw [hp] at hq; cases hq; exact hlt⟩
theorem bad_num {l : List Int} {i : Nat} {e : Int} (he : l[i]? = some e) (hb : objB e = false) : ¬ remOk l := fun h => by
  obtain ⟨e', h1, h2, _⟩ := h i (List.getElem?_eq_some_iff.1 he).1
  rw [he] at h1; cases h1; rw [hb] at h2; cases h2
theorem bad_ascN {l : List Int} {i : Nat} {e p : Int} (h0 : 0 < i) (he : l[i]? = some e) (hp : l[i - 1]? = some p) (hle : e ≤ p) : ¬ remOk l := fun h => by
  obtain ⟨e', h1, _, h3⟩ := h i (List.getElem?_eq_some_iff.1 he).1
  rw [he] at h1; cases h1
  have := h3 p h0 hp
  omega
set_option maxRecDepth 100000 in
set_option maxHeartbeats 4000000 in
theorem check_any (r : Rc) (A : Option Addr) (n c : Nat) (A2 : Option Addr) (n2 c2 : Nat) (w : World) (hr : RcAt w r A n c A2 n2 c2) :
    Calls Try.prog 26 #[Kv r A n c A2 n2 c2] w fun e w' => e = .returned (.int .i64 (chkR r)) ∧ Below w.heap.size w w' := by
  obtain ⟨kd, ve, ns, ni, add, rem⟩ := r
  dsimp only [Kv]
  have hRb := Blk.new' w 31 #[.int .i64 kd, .int .i64 ve, .int .i64 ns, .int .i64 ni, .slice A n c, .slice A2 n2 c2]
  have hbel : Below w.heap.size w (w.alloc (.cells #[.int .i64 kd, .int .i64 ve, .int .i64 ns, .int .i64 ni, .slice A n c, .slice A2 n2 c2] 31)) := (Below.refl _ _).alloc (Nat.le_refl _) _
  have hr1 := hr.call hbel
  have hsm := hr.sm
  have hsm2 := hr.sm2
  have HLN := Lib.hid hr.ln
  have HLN2 := Lib.hid hr.ln2
  dsimp only at HLN HLN2
  have HNK : Hid (numsOk ⟨kd, ve, ns, ni, add, rem⟩ ↔ 0 ≤ ve ∧ ve ≤ 2147483647 ∧ 0 ≤ ns ∧ ns ≤ 1099511627777 ∧ objB ni = true) := Iff.rfl
  by_cases hk1 : kd = 1 ∨ kd = 2
  · have HK := Lib.hid hk1
    rcases hk1 with rfl | rfl
    · skip
      by_cases v1 : 0 ≤ ve
      · by_cases v2 : ve ≤ 2147483647
        · by_cases s1 : 0 ≤ ns
          · by_cases s2 : ns ≤ 1099511627777
            · go_enter Try.func26, Try.ntmps26
              have k0 := hRb.cellAt 0 rfl
              have k1 := hRb.cellAt 1 rfl
              have k2 := hRb.cellAt 2 rfl
              have k3 := hRb.cellAt 3 rfl
              have k4 := hRb.cellAt 4 rfl
              have k5 := hRb.cellAt 5 rfl
              go_wp2_with fail
              generalize w.alloc (.cells #[.int .i64 1, .int .i64 ve, .int .i64 ns, .int .i64 ni, .slice A n c, .slice A2 n2 c2] 31) = wa at *
              refine (object_any ni _).mono ?_; rintro e w1 ⟨rfl, rfl⟩
              generalize objB ni = ob at *
              cases ob
              · have HR := Lib.hid (chk_nums (r := ⟨1, ve, ns, ni, add, rem⟩) (by first | exact .inl rfl | exact .inr rfl) (by rw [HNK.out]; simp))
                go_wp2
                go_ret
                exact ⟨by rw [HR.out] <;> rfl, hbel⟩
              · have HNM : Hid (numsOk ⟨1, ve, ns, ni, add, rem⟩) := HNK.out.2 ⟨v1, v2, s1, s2, rfl⟩
                clear HNK
                by_cases l1 : n ≤ 256
                · by_cases l2 : n2 ≤ 256
                  · have HBAD : Hid (¬ addOk add ∨ ((1 : Int) = 1 ∧ rem ≠ []) ∨ ¬ remOk rem → chkR ⟨1, ve, ns, ni, add, rem⟩ = 1) := fun h => chk_bad (by first | exact .inl rfl | exact .inr rfl) HNM.out (by dsimp only; rw [HLN.out]; exact l1) (by dsimp only; rw [HLN2.out]; exact l2) h
                    have HOKK : Hid (addOk add → ((1 : Int) = 1 → rem = []) → remOk rem → chkR ⟨1, ve, ns, ni, add, rem⟩ = 0) := fun h h' h'' => chk_ok (by first | exact .inl rfl | exact .inr rfl) HNM.out (by dsimp only; rw [HLN.out]; exact l1) (by dsimp only; rw [HLN2.out]; exact l2) h h' h''
                    go_wp2_with fail
                    go_loopw [55] (fun a wr => ∃ i : Nat, a = .int .i64 (i : Int) ∧ i ≤ n ∧ Hid (∀ j, j < i → goodE add j) ∧ Below wa.heap.size wa wr) (fun a _ => n - (intOf a).toNat)
                    case atStart => exact ⟨0, rfl, by omega, (fun j hj => by omega), Below.refl _ _⟩
                    case round =>
                      obtain ⟨i, rfl, hin, HG, hb⟩ := hrel
                      by_cases hlt : i < n
                      · obtain ⟨e, he⟩ : ∃ e, add[i]? = some e := ⟨_, List.getElem?_eq_getElem (by rw [HLN.out]; exact hlt)⟩
                        obtain ⟨ad, rfl, hadb, c0, c1, c2', c3, c4, c5, c6, c7, c8, c9, ca, cb⟩ := (hr1.add.below hb).ent he
                        have HE := Lib.hid he
                        have HC : Hid (∀ W : World, Calls Try.prog 17 #[Ev e] W fun x w' => x = .returned (.bool (entB e)) ∧ Below W.heap.size W w') := fun W => entry_any e W
                        obtain ⟨b, hbb⟩ : ∃ b, b = entB e := ⟨_, rfl⟩
                        rw [← hbb] at HC
                        have HBB := Lib.hid hbb
                        obtain ⟨id, rows, live, ⟨⟨ln, li, lz⟩, lq⟩, ⟨⟨hn, hi, hz⟩, hq⟩, del⟩ := e
                        dsimp only [Ev] at HC c0 c1 c2' c3 c4 c5 c6 c7 c8 c9 ca cb
                        have hE := Blk.new' wr 40 #[.int .i64 id, .int .i64 rows, .int .i64 live, .bool ln, .int .i64 li, .string lz, .int .i64 lq, .bool hn, .int .i64 hi, .string hz, .int .i64 hq, .int .i64 del]
                        have hbx := (Below.refl wr.heap.size wr).alloc (Nat.le_refl _) (.cells #[.int .i64 id, .int .i64 rows, .int .i64 live, .bool ln, .int .i64 li, .string lz, .int .i64 lq, .bool hn, .int .i64 hi, .string hz, .int .i64 hq, .int .i64 del] 40)
                        have hb2 := bt hb hbx
                        have hRx := hRb.call hb2
                        clear he hbb
                        go_upto_region 10 with fail
                        generalize wr.alloc (.cells #[.int .i64 id, .int .i64 rows, .int .i64 live, .bool ln, .int .i64 li, .string lz, .int .i64 lq, .bool hn, .int .i64 hi, .string hz, .int .i64 hq, .int .i64 del] 40) = wx at *
                        cases b
                        · have HR := Lib.hid (HBAD.out (.inl (bad_ent HE.out HBB.out.symm)))
                          have MK : Hid (∀ w', Below wx.heap.size wx w' → (Below wx.heap.size wx w' ∧ True ∧ True ∧ w'.cell? ⟨wr.heap.size, 0, none⟩ = some (.int .i64 id) ∧ w'.cell? ⟨wr.heap.size, 1, none⟩ = some (.int .i64 rows) ∧ w'.cell? ⟨wr.heap.size, 2, none⟩ = some (.int .i64 live) ∧ w'.cell? ⟨wr.heap.size, 3, none⟩ = some (.bool ln) ∧ w'.cell? ⟨wr.heap.size, 4, none⟩ = some (.int .i64 li) ∧ w'.cell? ⟨wr.heap.size, 5, none⟩ = some (.string lz) ∧ w'.cell? ⟨wr.heap.size, 6, none⟩ = some (.int .i64 lq) ∧ w'.cell? ⟨wr.heap.size, 7, none⟩ = some (.bool hn) ∧ w'.cell? ⟨wr.heap.size, 8, none⟩ = some (.int .i64 hi) ∧ w'.cell? ⟨wr.heap.size, 9, none⟩ = some (.string hz) ∧ w'.cell? ⟨wr.heap.size, 10, none⟩ = some (.int .i64 hq) ∧ w'.cell? ⟨wr.heap.size, 11, none⟩ = some (.int .i64 del))) := fun w' h => by
                            have hk := hE.call h
                            exact ⟨h, trivial, trivial, hk.cellAt 0 rfl, hk.cellAt 1 rfl, hk.cellAt 2 rfl, hk.cellAt 3 rfl, hk.cellAt 4 rfl, hk.cellAt 5 rfl, hk.cellAt 6 rfl, hk.cellAt 7 rfl, hk.cellAt 8 rfl, hk.cellAt 9 rfl, hk.cellAt 10 rfl, hk.cellAt 11 rfl⟩
                          refine wp_region_L (fun _ w' => Below wx.heap.size wx w' ∧ True ∧ True ∧ w'.cell? ⟨wr.heap.size, 0, none⟩ = some (.int .i64 id) ∧ w'.cell? ⟨wr.heap.size, 1, none⟩ = some (.int .i64 rows) ∧ w'.cell? ⟨wr.heap.size, 2, none⟩ = some (.int .i64 live) ∧ w'.cell? ⟨wr.heap.size, 3, none⟩ = some (.bool ln) ∧ w'.cell? ⟨wr.heap.size, 4, none⟩ = some (.int .i64 li) ∧ w'.cell? ⟨wr.heap.size, 5, none⟩ = some (.string lz) ∧ w'.cell? ⟨wr.heap.size, 6, none⟩ = some (.int .i64 lq) ∧ w'.cell? ⟨wr.heap.size, 7, none⟩ = some (.bool hn) ∧ w'.cell? ⟨wr.heap.size, 8, none⟩ = some (.int .i64 hi) ∧ w'.cell? ⟨wr.heap.size, 9, none⟩ = some (.string hz) ∧ w'.cell? ⟨wr.heap.size, 10, none⟩ = some (.int .i64 hq) ∧ w'.cell? ⟨wr.heap.size, 11, none⟩ = some (.int .i64 del)) (by kernel_rfl) ?_
                          have hbp : Below wx.heap.size wx wx.drew := Below.drew (Below.refl _ _)
                          generalize wx.drew = wy at *
                          have HS := Lib.hid (MK.out _ hbp)
                          refine wpAnyL_takeD (fun _ => True) (i := 0) (v := (.agg #[.int .i64 id, .int .i64 rows, .int .i64 live, .bool ln, .int .i64 li, .string lz, .int .i64 lq, .bool hn, .int .i64 hi, .string hz, .int .i64 hq, .int .i64 del])) (some 60) rfl rfl (by kernel_rfl) (by kernel_rfl) (by kernel_rfl) (fun _ _ _ h => h) (fun _ _ _ _ _ _ => trivial) (fun _ _ _ => Iff.rfl) trivial (Or.inl ⟨by rfl, fun w' hw' => by obtain ⟨l, _, hl⟩ := hw'; obtain ⟨_, kx, ky, k0, k1, k2, k3, k4, k5, k6, k7, k8, k9, ka, kb⟩ := hl; go_simp⟩) HS.out ?_
                          simp only [Act.put, List.setIfInBounds_toArray, List.set_cons_zero, List.set_cons_succ]
                          refine wpAnyL_one (i := 1) (by decide +kernel) ?_
                          refine wpOp_go (o := _) rfl (fun K hK => ?_)
                          go_simp
                          go_at_call 17
                          refine (HC.out _).mono ?_; rintro e wy ⟨rfl, hb3⟩
                          replace hbp := bt hbp hb3
                          refine hK _ _ ⟨MK.out _ hbp, ?_⟩
                          replace HS := Lib.hid (MK.out _ hbp)
                          clear hK K hb3
                          refine wpAnyL_takeD (fun _ => True) (i := 2) (v := (.bool true)) (some 62) rfl rfl (by kernel_rfl) (by kernel_rfl) (by kernel_rfl) (fun _ _ _ h => h) (fun _ _ _ _ _ _ => trivial) (fun _ _ _ => Iff.rfl) trivial (Or.inl ⟨by rfl, fun w' hw' => by obtain ⟨l, _, hl⟩ := hw'; obtain ⟨_, kx, ky, k0, k1, k2, k3, k4, k5, k6, k7, k8, k9, ka, kb⟩ := hl; go_simp⟩) HS.out ?_
                          simp only [Act.put, List.setIfInBounds_toArray, List.set_cons_zero, List.set_cons_succ]
                          refine wpAnyL_takeD (fun _ => True) (i := 3) (v := (.bool true)) (some 63) rfl rfl (by kernel_rfl) (by kernel_rfl) (by kernel_rfl) (fun _ _ _ h => h) (fun _ _ _ _ _ _ => trivial) (fun _ _ _ => Iff.rfl) trivial (Or.inl ⟨by rfl, fun w' hw' => by obtain ⟨l, _, hl⟩ := hw'; obtain ⟨_, kx, ky, k0, k1, k2, k3, k4, k5, k6, k7, k8, k9, ka, kb⟩ := hl; go_simp⟩) HS.out ?_
                          simp only [Act.put, List.setIfInBounds_toArray, List.set_cons_zero, List.set_cons_succ]
                          refine wpAnyL_takeD (fun _ => True) (i := 4) (v := undef) (some 64) rfl rfl (by kernel_rfl) (by kernel_rfl) (by kernel_rfl) (fun _ _ _ h => h) (fun _ _ _ _ _ _ => trivial) (fun _ _ _ => Iff.rfl) trivial (Or.inr ⟨by rfl, rfl⟩) HS.out ?_
                          simp only [Act.put, List.setIfInBounds_toArray, List.set_cons_zero, List.set_cons_succ]
                          refine wpAnyL_takeD (fun _ => True) (i := 5) (v := undef) (some 65) rfl rfl (by kernel_rfl) (by kernel_rfl) (by kernel_rfl) (fun _ _ _ h => h) (fun _ _ _ _ _ _ => trivial) (fun _ _ _ => Iff.rfl) trivial (Or.inr ⟨by rfl, rfl⟩) HS.out ?_
                          simp only [Act.put, List.setIfInBounds_toArray, List.set_cons_zero, List.set_cons_succ]
                          refine wpAnyL_takeD (fun _ => True) (i := 6) (v := undef) (some 66) rfl rfl (by kernel_rfl) (by kernel_rfl) (by kernel_rfl) (fun _ _ _ h => h) (fun _ _ _ _ _ _ => trivial) (fun _ _ _ => Iff.rfl) trivial (Or.inr ⟨by rfl, rfl⟩) HS.out ?_
                          simp only [Act.put, List.setIfInBounds_toArray, List.set_cons_zero, List.set_cons_succ]
                          refine wpAnyL_takeD (fun _ => True) (i := 7) (v := undef) (some 67) rfl rfl (by kernel_rfl) (by kernel_rfl) (by kernel_rfl) (fun _ _ _ h => h) (fun _ _ _ _ _ _ => trivial) (fun _ _ _ => Iff.rfl) trivial (Or.inr ⟨by rfl, rfl⟩) HS.out ?_
                          simp only [Act.put, List.setIfInBounds_toArray, List.set_cons_zero, List.set_cons_succ]
                          refine wpAnyL_takeD (fun _ => True) (i := 8) (v := undef) (some 68) rfl rfl (by kernel_rfl) (by kernel_rfl) (by kernel_rfl) (fun _ _ _ h => h) (fun _ _ _ _ _ _ => trivial) (fun _ _ _ => Iff.rfl) trivial (Or.inr ⟨by rfl, rfl⟩) HS.out ?_
                          simp only [Act.put, List.setIfInBounds_toArray, List.set_cons_zero, List.set_cons_succ]
                          refine wpAnyL_takeD (fun _ => True) (i := 9) (v := undef) (some 69) rfl rfl (by kernel_rfl) (by kernel_rfl) (by kernel_rfl) (fun _ _ _ h => h) (fun _ _ _ _ _ _ => trivial) (fun _ _ _ => Iff.rfl) trivial (Or.inr ⟨by rfl, rfl⟩) HS.out ?_
                          simp only [Act.put, List.setIfInBounds_toArray, List.set_cons_zero, List.set_cons_succ]
                          refine wpAnyL_takeD (fun _ => True) (i := 10) (v := undef) (some 70) rfl rfl (by kernel_rfl) (by kernel_rfl) (by kernel_rfl) (fun _ _ _ h => h) (fun _ _ _ _ _ _ => trivial) (fun _ _ _ => Iff.rfl) trivial (Or.inr ⟨by rfl, rfl⟩) HS.out ?_
                          simp only [Act.put, List.setIfInBounds_toArray, List.set_cons_zero, List.set_cons_succ]
                          refine wpAnyL_takeD (fun _ => True) (i := 11) (v := undef) (some 71) rfl rfl (by kernel_rfl) (by kernel_rfl) (by kernel_rfl) (fun _ _ _ h => h) (fun _ _ _ _ _ _ => trivial) (fun _ _ _ => Iff.rfl) trivial (Or.inr ⟨by rfl, rfl⟩) HS.out ?_
                          simp only [Act.put, List.setIfInBounds_toArray, List.set_cons_zero, List.set_cons_succ]
                          refine wpAnyL_takeD (fun _ => True) (i := 12) (v := undef) (some 72) rfl rfl (by kernel_rfl) (by kernel_rfl) (by kernel_rfl) (fun _ _ _ h => h) (fun _ _ _ _ _ _ => trivial) (fun _ _ _ => Iff.rfl) trivial (Or.inr ⟨by rfl, rfl⟩) HS.out ?_
                          simp only [Act.put, List.setIfInBounds_toArray, List.set_cons_zero, List.set_cons_succ]
                          refine wpAnyL_takeD (fun _ => True) (i := 13) (v := undef) (some 73) rfl rfl (by kernel_rfl) (by kernel_rfl) (by kernel_rfl) (fun _ _ _ h => h) (fun _ _ _ _ _ _ => trivial) (fun _ _ _ => Iff.rfl) trivial (Or.inr ⟨by rfl, rfl⟩) HS.out ?_
                          simp only [Act.put, List.setIfInBounds_toArray, List.set_cons_zero, List.set_cons_succ]
                          refine wpAnyL_takeD (fun _ => True) (i := 14) (v := undef) (some 74) rfl rfl (by kernel_rfl) (by kernel_rfl) (by kernel_rfl) (fun _ _ _ h => h) (fun _ _ _ _ _ _ => trivial) (fun _ _ _ => Iff.rfl) trivial (Or.inr ⟨by rfl, rfl⟩) HS.out ?_
                          simp only [Act.put, List.setIfInBounds_toArray, List.set_cons_zero, List.set_cons_succ]
                          refine wpAnyL_takeD (fun _ => True) (i := 15) (v := undef) (some 75) rfl rfl (by kernel_rfl) (by kernel_rfl) (by kernel_rfl) (fun _ _ _ h => h) (fun _ _ _ _ _ _ => trivial) (fun _ _ _ => Iff.rfl) trivial (Or.inr ⟨by rfl, rfl⟩) HS.out ?_
                          simp only [Act.put, List.setIfInBounds_toArray, List.set_cons_zero, List.set_cons_succ]
                          refine wpAnyL_takeD (fun _ => True) (i := 16) (v := undef) (some 76) rfl rfl (by kernel_rfl) (by kernel_rfl) (by kernel_rfl) (fun _ _ _ h => h) (fun _ _ _ _ _ _ => trivial) (fun _ _ _ => Iff.rfl) trivial (Or.inr ⟨by rfl, rfl⟩) HS.out ?_
                          simp only [Act.put, List.setIfInBounds_toArray, List.set_cons_zero, List.set_cons_succ]
                          refine wpAnyL_takeD (fun _ => True) (i := 17) (v := undef) (some 77) rfl rfl (by kernel_rfl) (by kernel_rfl) (by kernel_rfl) (fun _ _ _ h => h) (fun _ _ _ _ _ _ => trivial) (fun _ _ _ => Iff.rfl) trivial (Or.inr ⟨by rfl, rfl⟩) HS.out ?_
                          simp only [Act.put, List.setIfInBounds_toArray, List.set_cons_zero, List.set_cons_succ]
                          refine wpAnyL_takeD (fun _ => True) (i := 18) (v := (.bool true)) (some 78) rfl rfl (by kernel_rfl) (by kernel_rfl) (by kernel_rfl) (fun _ _ _ h => h) (fun _ _ _ _ _ _ => trivial) (fun _ _ _ => Iff.rfl) trivial (Or.inl ⟨by rfl, fun w' hw' => by obtain ⟨l, _, hl⟩ := hw'; obtain ⟨_, kx, ky, k0, k1, k2, k3, k4, k5, k6, k7, k8, k9, ka, kb⟩ := hl; go_simp⟩) HS.out ?_
                          simp only [Act.put, List.setIfInBounds_toArray, List.set_cons_zero, List.set_cons_succ]
                          refine wpAnyL_done (by decide +kernel) ?_ _
                          clear MK HS
                          go_wp2
                          go_ret
                          exact ⟨by rw [HR.out] <;> rfl, bt hbel (bt hb2 hbp)⟩
                        · by_cases h0 : i = 0
                          · subst h0
                            have HGD : Hid (goodE add 0) := good_first HE.out HBB.out.symm
                            have MK : Hid (∀ w', Below wx.heap.size wx w' → (Below wx.heap.size wx w' ∧ True ∧ True ∧ w'.cell? ⟨wr.heap.size, 0, none⟩ = some (.int .i64 id) ∧ w'.cell? ⟨wr.heap.size, 1, none⟩ = some (.int .i64 rows) ∧ w'.cell? ⟨wr.heap.size, 2, none⟩ = some (.int .i64 live) ∧ w'.cell? ⟨wr.heap.size, 3, none⟩ = some (.bool ln) ∧ w'.cell? ⟨wr.heap.size, 4, none⟩ = some (.int .i64 li) ∧ w'.cell? ⟨wr.heap.size, 5, none⟩ = some (.string lz) ∧ w'.cell? ⟨wr.heap.size, 6, none⟩ = some (.int .i64 lq) ∧ w'.cell? ⟨wr.heap.size, 7, none⟩ = some (.bool hn) ∧ w'.cell? ⟨wr.heap.size, 8, none⟩ = some (.int .i64 hi) ∧ w'.cell? ⟨wr.heap.size, 9, none⟩ = some (.string hz) ∧ w'.cell? ⟨wr.heap.size, 10, none⟩ = some (.int .i64 hq) ∧ w'.cell? ⟨wr.heap.size, 11, none⟩ = some (.int .i64 del))) := fun w' h => by
                              have hk := hE.call h
                              exact ⟨h, trivial, trivial, hk.cellAt 0 rfl, hk.cellAt 1 rfl, hk.cellAt 2 rfl, hk.cellAt 3 rfl, hk.cellAt 4 rfl, hk.cellAt 5 rfl, hk.cellAt 6 rfl, hk.cellAt 7 rfl, hk.cellAt 8 rfl, hk.cellAt 9 rfl, hk.cellAt 10 rfl, hk.cellAt 11 rfl⟩
                            refine wp_region_L (fun _ w' => Below wx.heap.size wx w' ∧ True ∧ True ∧ w'.cell? ⟨wr.heap.size, 0, none⟩ = some (.int .i64 id) ∧ w'.cell? ⟨wr.heap.size, 1, none⟩ = some (.int .i64 rows) ∧ w'.cell? ⟨wr.heap.size, 2, none⟩ = some (.int .i64 live) ∧ w'.cell? ⟨wr.heap.size, 3, none⟩ = some (.bool ln) ∧ w'.cell? ⟨wr.heap.size, 4, none⟩ = some (.int .i64 li) ∧ w'.cell? ⟨wr.heap.size, 5, none⟩ = some (.string lz) ∧ w'.cell? ⟨wr.heap.size, 6, none⟩ = some (.int .i64 lq) ∧ w'.cell? ⟨wr.heap.size, 7, none⟩ = some (.bool hn) ∧ w'.cell? ⟨wr.heap.size, 8, none⟩ = some (.int .i64 hi) ∧ w'.cell? ⟨wr.heap.size, 9, none⟩ = some (.string hz) ∧ w'.cell? ⟨wr.heap.size, 10, none⟩ = some (.int .i64 hq) ∧ w'.cell? ⟨wr.heap.size, 11, none⟩ = some (.int .i64 del)) (by kernel_rfl) ?_
                            have hbp : Below wx.heap.size wx wx.drew := Below.drew (Below.refl _ _)
                            generalize wx.drew = wy at *
                            have HS := Lib.hid (MK.out _ hbp)
                            refine wpAnyL_takeD (fun _ => True) (i := 0) (v := (.agg #[.int .i64 id, .int .i64 rows, .int .i64 live, .bool ln, .int .i64 li, .string lz, .int .i64 lq, .bool hn, .int .i64 hi, .string hz, .int .i64 hq, .int .i64 del])) (some 60) rfl rfl (by kernel_rfl) (by kernel_rfl) (by kernel_rfl) (fun _ _ _ h => h) (fun _ _ _ _ _ _ => trivial) (fun _ _ _ => Iff.rfl) trivial (Or.inl ⟨by rfl, fun w' hw' => by obtain ⟨l, _, hl⟩ := hw'; obtain ⟨_, kx, ky, k0, k1, k2, k3, k4, k5, k6, k7, k8, k9, ka, kb⟩ := hl; go_simp⟩) HS.out ?_
                            simp only [Act.put, List.setIfInBounds_toArray, List.set_cons_zero, List.set_cons_succ]
                            refine wpAnyL_one (i := 1) (by decide +kernel) ?_
                            refine wpOp_go (o := _) rfl (fun K hK => ?_)
                            go_simp
                            go_at_call 17
                            refine (HC.out _).mono ?_; rintro e wy ⟨rfl, hb3⟩
                            replace hbp := bt hbp hb3
                            refine hK _ _ ⟨MK.out _ hbp, ?_⟩
                            replace HS := Lib.hid (MK.out _ hbp)
                            clear hK K hb3
                            refine wpAnyL_takeD (fun _ => True) (i := 2) (v := (.bool false)) (some 62) rfl rfl (by kernel_rfl) (by kernel_rfl) (by kernel_rfl) (fun _ _ _ h => h) (fun _ _ _ _ _ _ => trivial) (fun _ _ _ => Iff.rfl) trivial (Or.inl ⟨by rfl, fun w' hw' => by obtain ⟨l, _, hl⟩ := hw'; obtain ⟨_, kx, ky, k0, k1, k2, k3, k4, k5, k6, k7, k8, k9, ka, kb⟩ := hl; go_simp⟩) HS.out ?_
                            simp only [Act.put, List.setIfInBounds_toArray, List.set_cons_zero, List.set_cons_succ]
                            refine wpAnyL_takeD (fun _ => True) (i := 3) (v := (.bool false)) (some 63) rfl rfl (by kernel_rfl) (by kernel_rfl) (by kernel_rfl) (fun _ _ _ h => h) (fun _ _ _ _ _ _ => trivial) (fun _ _ _ => Iff.rfl) trivial (Or.inl ⟨by rfl, fun w' hw' => by obtain ⟨l, _, hl⟩ := hw'; obtain ⟨_, kx, ky, k0, k1, k2, k3, k4, k5, k6, k7, k8, k9, ka, kb⟩ := hl; go_simp⟩) HS.out ?_
                            simp only [Act.put, List.setIfInBounds_toArray, List.set_cons_zero, List.set_cons_succ]
                            refine wpAnyL_takeD (fun _ => True) (i := 4) (v := (.int .i64 0)) (some 64) rfl rfl (by kernel_rfl) (by kernel_rfl) (by kernel_rfl) (fun _ _ _ h => h) (fun _ _ _ _ _ _ => trivial) (fun _ _ _ => Iff.rfl) trivial (Or.inl ⟨by rfl, fun w' hw' => by obtain ⟨l, _, hl⟩ := hw'; obtain ⟨_, kx, ky, k0, k1, k2, k3, k4, k5, k6, k7, k8, k9, ka, kb⟩ := hl; go_simp⟩) HS.out ?_
                            simp only [Act.put, List.setIfInBounds_toArray, List.set_cons_zero, List.set_cons_succ]
                            refine wpAnyL_takeD (fun _ => True) (i := 5) (v := (.bool false)) (some 65) rfl rfl (by kernel_rfl) (by kernel_rfl) (by kernel_rfl) (fun _ _ _ h => h) (fun _ _ _ _ _ _ => trivial) (fun _ _ _ => Iff.rfl) trivial (Or.inl ⟨by rfl, fun w' hw' => by obtain ⟨l, _, hl⟩ := hw'; obtain ⟨_, kx, ky, k0, k1, k2, k3, k4, k5, k6, k7, k8, k9, ka, kb⟩ := hl; go_simp⟩) HS.out ?_
                            simp only [Act.put, List.setIfInBounds_toArray, List.set_cons_zero, List.set_cons_succ]
                            refine wpAnyL_takeD (fun _ => True) (i := 6) (v := (.bool false)) (some 66) rfl rfl (by kernel_rfl) (by kernel_rfl) (by kernel_rfl) (fun _ _ _ h => h) (fun _ _ _ _ _ _ => trivial) (fun _ _ _ => Iff.rfl) trivial (Or.inl ⟨by rfl, fun w' hw' => by obtain ⟨l, _, hl⟩ := hw'; obtain ⟨_, kx, ky, k0, k1, k2, k3, k4, k5, k6, k7, k8, k9, ka, kb⟩ := hl; go_simp⟩) HS.out ?_
                            simp only [Act.put, List.setIfInBounds_toArray, List.set_cons_zero, List.set_cons_succ]
                            refine wpAnyL_takeD (fun _ => True) (i := 7) (v := undef) (some 67) rfl rfl (by kernel_rfl) (by kernel_rfl) (by kernel_rfl) (fun _ _ _ h => h) (fun _ _ _ _ _ _ => trivial) (fun _ _ _ => Iff.rfl) trivial (Or.inr ⟨by rfl, rfl⟩) HS.out ?_
                            simp only [Act.put, List.setIfInBounds_toArray, List.set_cons_zero, List.set_cons_succ]
                            refine wpAnyL_takeD (fun _ => True) (i := 8) (v := undef) (some 68) rfl rfl (by kernel_rfl) (by kernel_rfl) (by kernel_rfl) (fun _ _ _ h => h) (fun _ _ _ _ _ _ => trivial) (fun _ _ _ => Iff.rfl) trivial (Or.inr ⟨by rfl, rfl⟩) HS.out ?_
                            simp only [Act.put, List.setIfInBounds_toArray, List.set_cons_zero, List.set_cons_succ]
                            refine wpAnyL_takeD (fun _ => True) (i := 9) (v := undef) (some 69) rfl rfl (by kernel_rfl) (by kernel_rfl) (by kernel_rfl) (fun _ _ _ h => h) (fun _ _ _ _ _ _ => trivial) (fun _ _ _ => Iff.rfl) trivial (Or.inr ⟨by rfl, rfl⟩) HS.out ?_
                            simp only [Act.put, List.setIfInBounds_toArray, List.set_cons_zero, List.set_cons_succ]
                            refine wpAnyL_takeD (fun _ => True) (i := 10) (v := undef) (some 70) rfl rfl (by kernel_rfl) (by kernel_rfl) (by kernel_rfl) (fun _ _ _ h => h) (fun _ _ _ _ _ _ => trivial) (fun _ _ _ => Iff.rfl) trivial (Or.inr ⟨by rfl, rfl⟩) HS.out ?_
                            simp only [Act.put, List.setIfInBounds_toArray, List.set_cons_zero, List.set_cons_succ]
                            refine wpAnyL_takeD (fun _ => True) (i := 11) (v := undef) (some 71) rfl rfl (by kernel_rfl) (by kernel_rfl) (by kernel_rfl) (fun _ _ _ h => h) (fun _ _ _ _ _ _ => trivial) (fun _ _ _ => Iff.rfl) trivial (Or.inr ⟨by rfl, rfl⟩) HS.out ?_
                            simp only [Act.put, List.setIfInBounds_toArray, List.set_cons_zero, List.set_cons_succ]
                            refine wpAnyL_takeD (fun _ => True) (i := 12) (v := undef) (some 72) rfl rfl (by kernel_rfl) (by kernel_rfl) (by kernel_rfl) (fun _ _ _ h => h) (fun _ _ _ _ _ _ => trivial) (fun _ _ _ => Iff.rfl) trivial (Or.inr ⟨by rfl, rfl⟩) HS.out ?_
                            simp only [Act.put, List.setIfInBounds_toArray, List.set_cons_zero, List.set_cons_succ]
                            refine wpAnyL_takeD (fun _ => True) (i := 13) (v := undef) (some 73) rfl rfl (by kernel_rfl) (by kernel_rfl) (by kernel_rfl) (fun _ _ _ h => h) (fun _ _ _ _ _ _ => trivial) (fun _ _ _ => Iff.rfl) trivial (Or.inr ⟨by rfl, rfl⟩) HS.out ?_
                            simp only [Act.put, List.setIfInBounds_toArray, List.set_cons_zero, List.set_cons_succ]
                            refine wpAnyL_takeD (fun _ => True) (i := 14) (v := undef) (some 74) rfl rfl (by kernel_rfl) (by kernel_rfl) (by kernel_rfl) (fun _ _ _ h => h) (fun _ _ _ _ _ _ => trivial) (fun _ _ _ => Iff.rfl) trivial (Or.inr ⟨by rfl, rfl⟩) HS.out ?_
                            simp only [Act.put, List.setIfInBounds_toArray, List.set_cons_zero, List.set_cons_succ]
                            refine wpAnyL_takeD (fun _ => True) (i := 15) (v := undef) (some 75) rfl rfl (by kernel_rfl) (by kernel_rfl) (by kernel_rfl) (fun _ _ _ h => h) (fun _ _ _ _ _ _ => trivial) (fun _ _ _ => Iff.rfl) trivial (Or.inr ⟨by rfl, rfl⟩) HS.out ?_
                            simp only [Act.put, List.setIfInBounds_toArray, List.set_cons_zero, List.set_cons_succ]
                            refine wpAnyL_takeD (fun _ => True) (i := 16) (v := undef) (some 76) rfl rfl (by kernel_rfl) (by kernel_rfl) (by kernel_rfl) (fun _ _ _ h => h) (fun _ _ _ _ _ _ => trivial) (fun _ _ _ => Iff.rfl) trivial (Or.inr ⟨by rfl, rfl⟩) HS.out ?_
                            simp only [Act.put, List.setIfInBounds_toArray, List.set_cons_zero, List.set_cons_succ]
                            refine wpAnyL_takeD (fun _ => True) (i := 17) (v := (.bool false)) (some 77) rfl rfl (by kernel_rfl) (by kernel_rfl) (by kernel_rfl) (fun _ _ _ h => h) (fun _ _ _ _ _ _ => trivial) (fun _ _ _ => Iff.rfl) trivial (Or.inl ⟨by rfl, fun w' hw' => by obtain ⟨l, _, hl⟩ := hw'; obtain ⟨_, kx, ky, k0, k1, k2, k3, k4, k5, k6, k7, k8, k9, ka, kb⟩ := hl; go_simp⟩) HS.out ?_
                            simp only [Act.put, List.setIfInBounds_toArray, List.set_cons_zero, List.set_cons_succ]
                            refine wpAnyL_takeD (fun _ => True) (i := 18) (v := (.bool false)) (some 78) rfl rfl (by kernel_rfl) (by kernel_rfl) (by kernel_rfl) (fun _ _ _ h => h) (fun _ _ _ _ _ _ => trivial) (fun _ _ _ => Iff.rfl) trivial (Or.inl ⟨by rfl, fun w' hw' => by obtain ⟨l, _, hl⟩ := hw'; obtain ⟨_, kx, ky, k0, k1, k2, k3, k4, k5, k6, k7, k8, k9, ka, kb⟩ := hl; go_simp⟩) HS.out ?_
                            simp only [Act.put, List.setIfInBounds_toArray, List.set_cons_zero, List.set_cons_succ]
                            refine wpAnyL_done (by decide +kernel) ?_ _
                            clear MK HS
                            go_wp2
                            go_roundw
                            case rel => exact ⟨1, by go_num, by omega, good_next HG.out HGD.out, bt hb2 hbp⟩
                            case measure => simp [intOf]; omega
                          · have hd0 : decide ((0 : Int) < (i : Int)) = true := by simp; omega
                            have q1 : (1 : Int) ≤ (i : Int) := by omega
                            have q2 : ((i : Int) - 1).toNat = i - 1 := by omega
                            have q3 : IntKind.i64.wrap ((i : Int) - 1) = (i : Int) - 1 := IntWalk.i64_in _ (by omega)
                            have q4 : ¬ ((n : Int) ≤ (i : Int) - 1) := by omega
                            have q5 : 0 < i := by omega
                            obtain ⟨p, hp⟩ : ∃ p, add[i - 1]? = some p := ⟨_, List.getElem?_eq_getElem (by rw [HLN.out]; omega)⟩
                            obtain ⟨_, e1, _, pc, _⟩ := (hr1.add.below hb2).ent hp
                            cases e1
                            have hplt : (ad.add ((i - 1) * 12)).block < wx.heap.size := by rw [block_of_add]; have := hb2.size; omega
                            generalize hpid : p.id = pid at *
                            by_cases hle : id ≤ pid
                            · have HR := Lib.hid (HBAD.out (.inl (bad_asc (by omega) HE.out hp (by rw [hpid]; exact hle))))
                              clear hp hpid
                              have hdl : decide (id ≤ pid) = true := by simpa using hle
                              have MK : Hid (∀ w', Below wx.heap.size wx w' → (Below wx.heap.size wx w' ∧ w'.cell? (ad.add ((i - 1) * 12)) = some (.int .i64 pid) ∧ w'.cell? ⟨w.heap.size, 4, none⟩ = some (.slice (some ad) n c) ∧ w'.cell? ⟨wr.heap.size, 0, none⟩ = some (.int .i64 id) ∧ w'.cell? ⟨wr.heap.size, 1, none⟩ = some (.int .i64 rows) ∧ w'.cell? ⟨wr.heap.size, 2, none⟩ = some (.int .i64 live) ∧ w'.cell? ⟨wr.heap.size, 3, none⟩ = some (.bool ln) ∧ w'.cell? ⟨wr.heap.size, 4, none⟩ = some (.int .i64 li) ∧ w'.cell? ⟨wr.heap.size, 5, none⟩ = some (.string lz) ∧ w'.cell? ⟨wr.heap.size, 6, none⟩ = some (.int .i64 lq) ∧ w'.cell? ⟨wr.heap.size, 7, none⟩ = some (.bool hn) ∧ w'.cell? ⟨wr.heap.size, 8, none⟩ = some (.int .i64 hi) ∧ w'.cell? ⟨wr.heap.size, 9, none⟩ = some (.string hz) ∧ w'.cell? ⟨wr.heap.size, 10, none⟩ = some (.int .i64 hq) ∧ w'.cell? ⟨wr.heap.size, 11, none⟩ = some (.int .i64 del))) := fun w' h => by
                                have hk := hE.call h
                                exact ⟨h, (h.cell hplt).trans pc, (hRx.call h).cellAt 4 rfl, hk.cellAt 0 rfl, hk.cellAt 1 rfl, hk.cellAt 2 rfl, hk.cellAt 3 rfl, hk.cellAt 4 rfl, hk.cellAt 5 rfl, hk.cellAt 6 rfl, hk.cellAt 7 rfl, hk.cellAt 8 rfl, hk.cellAt 9 rfl, hk.cellAt 10 rfl, hk.cellAt 11 rfl⟩
                              refine wp_region_L (fun _ w' => Below wx.heap.size wx w' ∧ w'.cell? (ad.add ((i - 1) * 12)) = some (.int .i64 pid) ∧ w'.cell? ⟨w.heap.size, 4, none⟩ = some (.slice (some ad) n c) ∧ w'.cell? ⟨wr.heap.size, 0, none⟩ = some (.int .i64 id) ∧ w'.cell? ⟨wr.heap.size, 1, none⟩ = some (.int .i64 rows) ∧ w'.cell? ⟨wr.heap.size, 2, none⟩ = some (.int .i64 live) ∧ w'.cell? ⟨wr.heap.size, 3, none⟩ = some (.bool ln) ∧ w'.cell? ⟨wr.heap.size, 4, none⟩ = some (.int .i64 li) ∧ w'.cell? ⟨wr.heap.size, 5, none⟩ = some (.string lz) ∧ w'.cell? ⟨wr.heap.size, 6, none⟩ = some (.int .i64 lq) ∧ w'.cell? ⟨wr.heap.size, 7, none⟩ = some (.bool hn) ∧ w'.cell? ⟨wr.heap.size, 8, none⟩ = some (.int .i64 hi) ∧ w'.cell? ⟨wr.heap.size, 9, none⟩ = some (.string hz) ∧ w'.cell? ⟨wr.heap.size, 10, none⟩ = some (.int .i64 hq) ∧ w'.cell? ⟨wr.heap.size, 11, none⟩ = some (.int .i64 del)) (by kernel_rfl) ?_
                              have hbp : Below wx.heap.size wx wx.drew := Below.drew (Below.refl _ _)
                              generalize wx.drew = wy at *
                              have HS := Lib.hid (MK.out _ hbp)
                              refine wpAnyL_takeD (fun _ => True) (i := 0) (v := (.agg #[.int .i64 id, .int .i64 rows, .int .i64 live, .bool ln, .int .i64 li, .string lz, .int .i64 lq, .bool hn, .int .i64 hi, .string hz, .int .i64 hq, .int .i64 del])) (some 60) rfl rfl (by kernel_rfl) (by kernel_rfl) (by kernel_rfl) (fun _ _ _ h => h) (fun _ _ _ _ _ _ => trivial) (fun _ _ _ => Iff.rfl) trivial (Or.inl ⟨by rfl, fun w' hw' => by obtain ⟨l, _, hl⟩ := hw'; obtain ⟨_, kx, ky, k0, k1, k2, k3, k4, k5, k6, k7, k8, k9, ka, kb⟩ := hl; go_simp⟩) HS.out ?_
                              simp only [Act.put, List.setIfInBounds_toArray, List.set_cons_zero, List.set_cons_succ]
                              refine wpAnyL_one (i := 1) (by decide +kernel) ?_
                              refine wpOp_go (o := _) rfl (fun K hK => ?_)
                              go_simp
                              go_at_call 17
                              refine (HC.out _).mono ?_; rintro e wy ⟨rfl, hb3⟩
                              replace hbp := bt hbp hb3
                              refine hK _ _ ⟨MK.out _ hbp, ?_⟩
                              replace HS := Lib.hid (MK.out _ hbp)
                              clear hK K hb3
                              refine wpAnyL_takeD (fun _ => True) (i := 2) (v := (.bool false)) (some 62) rfl rfl (by kernel_rfl) (by kernel_rfl) (by kernel_rfl) (fun _ _ _ h => h) (fun _ _ _ _ _ _ => trivial) (fun _ _ _ => Iff.rfl) trivial (Or.inl ⟨by rfl, fun w' hw' => by obtain ⟨l, _, hl⟩ := hw'; obtain ⟨_, kx, ky, k0, k1, k2, k3, k4, k5, k6, k7, k8, k9, ka, kb⟩ := hl; go_simp⟩) HS.out ?_
                              simp only [Act.put, List.setIfInBounds_toArray, List.set_cons_zero, List.set_cons_succ]
                              refine wpAnyL_takeD (fun _ => True) (i := 3) (v := (.bool false)) (some 63) rfl rfl (by kernel_rfl) (by kernel_rfl) (by kernel_rfl) (fun _ _ _ h => h) (fun _ _ _ _ _ _ => trivial) (fun _ _ _ => Iff.rfl) trivial (Or.inl ⟨by rfl, fun w' hw' => by obtain ⟨l, _, hl⟩ := hw'; obtain ⟨_, kx, ky, k0, k1, k2, k3, k4, k5, k6, k7, k8, k9, ka, kb⟩ := hl; go_simp⟩) HS.out ?_
                              simp only [Act.put, List.setIfInBounds_toArray, List.set_cons_zero, List.set_cons_succ]
                              refine wpAnyL_takeD (fun _ => True) (i := 4) (v := (.int .i64 (i : Int))) (some 64) rfl rfl (by kernel_rfl) (by kernel_rfl) (by kernel_rfl) (fun _ _ _ h => h) (fun _ _ _ _ _ _ => trivial) (fun _ _ _ => Iff.rfl) trivial (Or.inl ⟨by rfl, fun w' hw' => by obtain ⟨l, _, hl⟩ := hw'; obtain ⟨_, kx, ky, k0, k1, k2, k3, k4, k5, k6, k7, k8, k9, ka, kb⟩ := hl; go_simp⟩) HS.out ?_
                              simp only [Act.put, List.setIfInBounds_toArray, List.set_cons_zero, List.set_cons_succ]
                              refine wpAnyL_takeD (fun _ => True) (i := 5) (v := (.bool true)) (some 65) rfl rfl (by kernel_rfl) (by kernel_rfl) (by kernel_rfl) (fun _ _ _ h => h) (fun _ _ _ _ _ _ => trivial) (fun _ _ _ => Iff.rfl) trivial (Or.inl ⟨by rfl, fun w' hw' => by obtain ⟨l, _, hl⟩ := hw'; obtain ⟨_, kx, ky, k0, k1, k2, k3, k4, k5, k6, k7, k8, k9, ka, kb⟩ := hl; go_simp⟩) HS.out ?_
                              simp only [Act.put, List.setIfInBounds_toArray, List.set_cons_zero, List.set_cons_succ]
                              refine wpAnyL_takeD (fun _ => True) (i := 6) (v := (.bool true)) (some 66) rfl rfl (by kernel_rfl) (by kernel_rfl) (by kernel_rfl) (fun _ _ _ h => h) (fun _ _ _ _ _ _ => trivial) (fun _ _ _ => Iff.rfl) trivial (Or.inl ⟨by rfl, fun w' hw' => by obtain ⟨l, _, hl⟩ := hw'; obtain ⟨_, kx, ky, k0, k1, k2, k3, k4, k5, k6, k7, k8, k9, ka, kb⟩ := hl; go_simp⟩) HS.out ?_
                              simp only [Act.put, List.setIfInBounds_toArray, List.set_cons_zero, List.set_cons_succ]
                              refine wpAnyL_takeD (fun _ => True) (i := 7) (v := (.pointer (some ⟨wr.heap.size, 0, none⟩))) (some 67) rfl rfl (by kernel_rfl) (by kernel_rfl) (by kernel_rfl) (fun _ _ _ h => h) (fun _ _ _ _ _ _ => trivial) (fun _ _ _ => Iff.rfl) trivial (Or.inl ⟨by rfl, fun w' hw' => by obtain ⟨l, _, hl⟩ := hw'; obtain ⟨_, kx, ky, k0, k1, k2, k3, k4, k5, k6, k7, k8, k9, ka, kb⟩ := hl; go_simp⟩) HS.out ?_
                              simp only [Act.put, List.setIfInBounds_toArray, List.set_cons_zero, List.set_cons_succ]
                              refine wpAnyL_takeD (fun _ => True) (i := 8) (v := (.int .i64 id)) (some 68) rfl rfl (by kernel_rfl) (by kernel_rfl) (by kernel_rfl) (fun _ _ _ h => h) (fun _ _ _ _ _ _ => trivial) (fun _ _ _ => Iff.rfl) trivial (Or.inl ⟨by rfl, fun w' hw' => by obtain ⟨l, _, hl⟩ := hw'; obtain ⟨_, kx, ky, k0, k1, k2, k3, k4, k5, k6, k7, k8, k9, ka, kb⟩ := hl; go_simp⟩) HS.out ?_
                              simp only [Act.put, List.setIfInBounds_toArray, List.set_cons_zero, List.set_cons_succ]
                              refine wpAnyL_takeD (fun _ => True) (i := 9) (v := (.pointer (some ⟨w.heap.size, 4, none⟩))) (some 69) rfl rfl (by kernel_rfl) (by kernel_rfl) (by kernel_rfl) (fun _ _ _ h => h) (fun _ _ _ _ _ _ => trivial) (fun _ _ _ => Iff.rfl) trivial (Or.inl ⟨by rfl, fun w' hw' => by obtain ⟨l, _, hl⟩ := hw'; obtain ⟨_, kx, ky, k0, k1, k2, k3, k4, k5, k6, k7, k8, k9, ka, kb⟩ := hl; go_simp⟩) HS.out ?_
                              simp only [Act.put, List.setIfInBounds_toArray, List.set_cons_zero, List.set_cons_succ]
                              refine wpAnyL_takeD (fun _ => True) (i := 10) (v := (.slice (some ad) n c)) (some 70) rfl rfl (by kernel_rfl) (by kernel_rfl) (by kernel_rfl) (fun _ _ _ h => h) (fun _ _ _ _ _ _ => trivial) (fun _ _ _ => Iff.rfl) trivial (Or.inl ⟨by rfl, fun w' hw' => by obtain ⟨l, _, hl⟩ := hw'; obtain ⟨_, kx, ky, k0, k1, k2, k3, k4, k5, k6, k7, k8, k9, ka, kb⟩ := hl; go_simp⟩) HS.out ?_
                              simp only [Act.put, List.setIfInBounds_toArray, List.set_cons_zero, List.set_cons_succ]
                              refine wpAnyL_takeD (fun _ => True) (i := 11) (v := (.int .i64 (i : Int))) (some 71) rfl rfl (by kernel_rfl) (by kernel_rfl) (by kernel_rfl) (fun _ _ _ h => h) (fun _ _ _ _ _ _ => trivial) (fun _ _ _ => Iff.rfl) trivial (Or.inl ⟨by rfl, fun w' hw' => by obtain ⟨l, _, hl⟩ := hw'; obtain ⟨_, kx, ky, k0, k1, k2, k3, k4, k5, k6, k7, k8, k9, ka, kb⟩ := hl; go_simp⟩) HS.out ?_
                              simp only [Act.put, List.setIfInBounds_toArray, List.set_cons_zero, List.set_cons_succ]
                              refine wpAnyL_takeD (fun _ => True) (i := 12) (v := (.int .i64 ((i : Int) - 1))) (some 72) rfl rfl (by kernel_rfl) (by kernel_rfl) (by kernel_rfl) (fun _ _ _ h => h) (fun _ _ _ _ _ _ => trivial) (fun _ _ _ => Iff.rfl) trivial (Or.inl ⟨by rfl, fun w' hw' => by obtain ⟨l, _, hl⟩ := hw'; obtain ⟨_, kx, ky, k0, k1, k2, k3, k4, k5, k6, k7, k8, k9, ka, kb⟩ := hl; go_simp⟩) HS.out ?_
                              simp only [Act.put, List.setIfInBounds_toArray, List.set_cons_zero, List.set_cons_succ]
                              refine wpAnyL_takeD (fun _ => True) (i := 13) (v := (.pointer (some (ad.add ((i - 1) * 12))))) (some 73) rfl rfl (by kernel_rfl) (by kernel_rfl) (by kernel_rfl) (fun _ _ _ h => h) (fun _ _ _ _ _ _ => trivial) (fun _ _ _ => Iff.rfl) trivial (Or.inl ⟨by rfl, fun w' hw' => by obtain ⟨l, _, hl⟩ := hw'; obtain ⟨_, kx, ky, k0, k1, k2, k3, k4, k5, k6, k7, k8, k9, ka, kb⟩ := hl; go_simp⟩) HS.out ?_
                              simp only [Act.put, List.setIfInBounds_toArray, List.set_cons_zero, List.set_cons_succ]
                              refine wpAnyL_takeD (fun _ => True) (i := 14) (v := (.pointer (some (ad.add ((i - 1) * 12))))) (some 74) rfl rfl (by kernel_rfl) (by kernel_rfl) (by kernel_rfl) (fun _ _ _ h => h) (fun _ _ _ _ _ _ => trivial) (fun _ _ _ => Iff.rfl) trivial (Or.inl ⟨by rfl, fun w' hw' => by obtain ⟨l, _, hl⟩ := hw'; obtain ⟨_, kx, ky, k0, k1, k2, k3, k4, k5, k6, k7, k8, k9, ka, kb⟩ := hl; go_simp⟩) HS.out ?_
                              simp only [Act.put, List.setIfInBounds_toArray, List.set_cons_zero, List.set_cons_succ]
                              refine wpAnyL_takeD (fun _ => True) (i := 15) (v := (.int .i64 pid)) (some 75) rfl rfl (by kernel_rfl) (by kernel_rfl) (by kernel_rfl) (fun _ _ _ h => h) (fun _ _ _ _ _ _ => trivial) (fun _ _ _ => Iff.rfl) trivial (Or.inl ⟨by rfl, fun w' hw' => by obtain ⟨l, _, hl⟩ := hw'; obtain ⟨_, kx, ky, k0, k1, k2, k3, k4, k5, k6, k7, k8, k9, ka, kb⟩ := hl; go_simp⟩) HS.out ?_
                              simp only [Act.put, List.setIfInBounds_toArray, List.set_cons_zero, List.set_cons_succ]
                              refine wpAnyL_takeD (fun _ => True) (i := 16) (v := (.bool true)) (some 76) rfl rfl (by kernel_rfl) (by kernel_rfl) (by kernel_rfl) (fun _ _ _ h => h) (fun _ _ _ _ _ _ => trivial) (fun _ _ _ => Iff.rfl) trivial (Or.inl ⟨by rfl, fun w' hw' => by obtain ⟨l, _, hl⟩ := hw'; obtain ⟨_, kx, ky, k0, k1, k2, k3, k4, k5, k6, k7, k8, k9, ka, kb⟩ := hl; go_simp⟩) HS.out ?_
                              simp only [Act.put, List.setIfInBounds_toArray, List.set_cons_zero, List.set_cons_succ]
                              refine wpAnyL_takeD (fun _ => True) (i := 17) (v := (.bool true)) (some 77) rfl rfl (by kernel_rfl) (by kernel_rfl) (by kernel_rfl) (fun _ _ _ h => h) (fun _ _ _ _ _ _ => trivial) (fun _ _ _ => Iff.rfl) trivial (Or.inl ⟨by rfl, fun w' hw' => by obtain ⟨l, _, hl⟩ := hw'; obtain ⟨_, kx, ky, k0, k1, k2, k3, k4, k5, k6, k7, k8, k9, ka, kb⟩ := hl; go_simp⟩) HS.out ?_
                              simp only [Act.put, List.setIfInBounds_toArray, List.set_cons_zero, List.set_cons_succ]
                              refine wpAnyL_takeD (fun _ => True) (i := 18) (v := (.bool true)) (some 78) rfl rfl (by kernel_rfl) (by kernel_rfl) (by kernel_rfl) (fun _ _ _ h => h) (fun _ _ _ _ _ _ => trivial) (fun _ _ _ => Iff.rfl) trivial (Or.inl ⟨by rfl, fun w' hw' => by obtain ⟨l, _, hl⟩ := hw'; obtain ⟨_, kx, ky, k0, k1, k2, k3, k4, k5, k6, k7, k8, k9, ka, kb⟩ := hl; go_simp⟩) HS.out ?_
                              simp only [Act.put, List.setIfInBounds_toArray, List.set_cons_zero, List.set_cons_succ]
                              refine wpAnyL_done (by decide +kernel) ?_ _
                              clear MK HS q3 q4
                              go_wp2
                              go_ret
                              exact ⟨by rw [HR.out] <;> rfl, bt hbel (bt hb2 hbp)⟩
                            · have HGD : Hid (goodE add i) := good_more HE.out HBB.out.symm hp (by rw [hpid]; show pid < id; omega)
                              clear hp hpid
                              have hdl : decide (id ≤ pid) = false := by simpa using hle
                              have MK : Hid (∀ w', Below wx.heap.size wx w' → (Below wx.heap.size wx w' ∧ w'.cell? (ad.add ((i - 1) * 12)) = some (.int .i64 pid) ∧ w'.cell? ⟨w.heap.size, 4, none⟩ = some (.slice (some ad) n c) ∧ w'.cell? ⟨wr.heap.size, 0, none⟩ = some (.int .i64 id) ∧ w'.cell? ⟨wr.heap.size, 1, none⟩ = some (.int .i64 rows) ∧ w'.cell? ⟨wr.heap.size, 2, none⟩ = some (.int .i64 live) ∧ w'.cell? ⟨wr.heap.size, 3, none⟩ = some (.bool ln) ∧ w'.cell? ⟨wr.heap.size, 4, none⟩ = some (.int .i64 li) ∧ w'.cell? ⟨wr.heap.size, 5, none⟩ = some (.string lz) ∧ w'.cell? ⟨wr.heap.size, 6, none⟩ = some (.int .i64 lq) ∧ w'.cell? ⟨wr.heap.size, 7, none⟩ = some (.bool hn) ∧ w'.cell? ⟨wr.heap.size, 8, none⟩ = some (.int .i64 hi) ∧ w'.cell? ⟨wr.heap.size, 9, none⟩ = some (.string hz) ∧ w'.cell? ⟨wr.heap.size, 10, none⟩ = some (.int .i64 hq) ∧ w'.cell? ⟨wr.heap.size, 11, none⟩ = some (.int .i64 del))) := fun w' h => by
                                have hk := hE.call h
                                exact ⟨h, (h.cell hplt).trans pc, (hRx.call h).cellAt 4 rfl, hk.cellAt 0 rfl, hk.cellAt 1 rfl, hk.cellAt 2 rfl, hk.cellAt 3 rfl, hk.cellAt 4 rfl, hk.cellAt 5 rfl, hk.cellAt 6 rfl, hk.cellAt 7 rfl, hk.cellAt 8 rfl, hk.cellAt 9 rfl, hk.cellAt 10 rfl, hk.cellAt 11 rfl⟩
                              refine wp_region_L (fun _ w' => Below wx.heap.size wx w' ∧ w'.cell? (ad.add ((i - 1) * 12)) = some (.int .i64 pid) ∧ w'.cell? ⟨w.heap.size, 4, none⟩ = some (.slice (some ad) n c) ∧ w'.cell? ⟨wr.heap.size, 0, none⟩ = some (.int .i64 id) ∧ w'.cell? ⟨wr.heap.size, 1, none⟩ = some (.int .i64 rows) ∧ w'.cell? ⟨wr.heap.size, 2, none⟩ = some (.int .i64 live) ∧ w'.cell? ⟨wr.heap.size, 3, none⟩ = some (.bool ln) ∧ w'.cell? ⟨wr.heap.size, 4, none⟩ = some (.int .i64 li) ∧ w'.cell? ⟨wr.heap.size, 5, none⟩ = some (.string lz) ∧ w'.cell? ⟨wr.heap.size, 6, none⟩ = some (.int .i64 lq) ∧ w'.cell? ⟨wr.heap.size, 7, none⟩ = some (.bool hn) ∧ w'.cell? ⟨wr.heap.size, 8, none⟩ = some (.int .i64 hi) ∧ w'.cell? ⟨wr.heap.size, 9, none⟩ = some (.string hz) ∧ w'.cell? ⟨wr.heap.size, 10, none⟩ = some (.int .i64 hq) ∧ w'.cell? ⟨wr.heap.size, 11, none⟩ = some (.int .i64 del)) (by kernel_rfl) ?_
                              have hbp : Below wx.heap.size wx wx.drew := Below.drew (Below.refl _ _)
                              generalize wx.drew = wy at *
                              have HS := Lib.hid (MK.out _ hbp)
                              refine wpAnyL_takeD (fun _ => True) (i := 0) (v := (.agg #[.int .i64 id, .int .i64 rows, .int .i64 live, .bool ln, .int .i64 li, .string lz, .int .i64 lq, .bool hn, .int .i64 hi, .string hz, .int .i64 hq, .int .i64 del])) (some 60) rfl rfl (by kernel_rfl) (by kernel_rfl) (by kernel_rfl) (fun _ _ _ h => h) (fun _ _ _ _ _ _ => trivial) (fun _ _ _ => Iff.rfl) trivial (Or.inl ⟨by rfl, fun w' hw' => by obtain ⟨l, _, hl⟩ := hw'; obtain ⟨_, kx, ky, k0, k1, k2, k3, k4, k5, k6, k7, k8, k9, ka, kb⟩ := hl; go_simp⟩) HS.out ?_
                              simp only [Act.put, List.setIfInBounds_toArray, List.set_cons_zero, List.set_cons_succ]
                              refine wpAnyL_one (i := 1) (by decide +kernel) ?_
                              refine wpOp_go (o := _) rfl (fun K hK => ?_)
                              go_simp
                              go_at_call 17
                              refine (HC.out _).mono ?_; rintro e wy ⟨rfl, hb3⟩
                              replace hbp := bt hbp hb3
                              refine hK _ _ ⟨MK.out _ hbp, ?_⟩
                              replace HS := Lib.hid (MK.out _ hbp)
                              clear hK K hb3
                              refine wpAnyL_takeD (fun _ => True) (i := 2) (v := (.bool false)) (some 62) rfl rfl (by kernel_rfl) (by kernel_rfl) (by kernel_rfl) (fun _ _ _ h => h) (fun _ _ _ _ _ _ => trivial) (fun _ _ _ => Iff.rfl) trivial (Or.inl ⟨by rfl, fun w' hw' => by obtain ⟨l, _, hl⟩ := hw'; obtain ⟨_, kx, ky, k0, k1, k2, k3, k4, k5, k6, k7, k8, k9, ka, kb⟩ := hl; go_simp⟩) HS.out ?_
                              simp only [Act.put, List.setIfInBounds_toArray, List.set_cons_zero, List.set_cons_succ]
                              refine wpAnyL_takeD (fun _ => True) (i := 3) (v := (.bool false)) (some 63) rfl rfl (by kernel_rfl) (by kernel_rfl) (by kernel_rfl) (fun _ _ _ h => h) (fun _ _ _ _ _ _ => trivial) (fun _ _ _ => Iff.rfl) trivial (Or.inl ⟨by rfl, fun w' hw' => by obtain ⟨l, _, hl⟩ := hw'; obtain ⟨_, kx, ky, k0, k1, k2, k3, k4, k5, k6, k7, k8, k9, ka, kb⟩ := hl; go_simp⟩) HS.out ?_
                              simp only [Act.put, List.setIfInBounds_toArray, List.set_cons_zero, List.set_cons_succ]
                              refine wpAnyL_takeD (fun _ => True) (i := 4) (v := (.int .i64 (i : Int))) (some 64) rfl rfl (by kernel_rfl) (by kernel_rfl) (by kernel_rfl) (fun _ _ _ h => h) (fun _ _ _ _ _ _ => trivial) (fun _ _ _ => Iff.rfl) trivial (Or.inl ⟨by rfl, fun w' hw' => by obtain ⟨l, _, hl⟩ := hw'; obtain ⟨_, kx, ky, k0, k1, k2, k3, k4, k5, k6, k7, k8, k9, ka, kb⟩ := hl; go_simp⟩) HS.out ?_
                              simp only [Act.put, List.setIfInBounds_toArray, List.set_cons_zero, List.set_cons_succ]
                              refine wpAnyL_takeD (fun _ => True) (i := 5) (v := (.bool true)) (some 65) rfl rfl (by kernel_rfl) (by kernel_rfl) (by kernel_rfl) (fun _ _ _ h => h) (fun _ _ _ _ _ _ => trivial) (fun _ _ _ => Iff.rfl) trivial (Or.inl ⟨by rfl, fun w' hw' => by obtain ⟨l, _, hl⟩ := hw'; obtain ⟨_, kx, ky, k0, k1, k2, k3, k4, k5, k6, k7, k8, k9, ka, kb⟩ := hl; go_simp⟩) HS.out ?_
                              simp only [Act.put, List.setIfInBounds_toArray, List.set_cons_zero, List.set_cons_succ]
                              refine wpAnyL_takeD (fun _ => True) (i := 6) (v := (.bool true)) (some 66) rfl rfl (by kernel_rfl) (by kernel_rfl) (by kernel_rfl) (fun _ _ _ h => h) (fun _ _ _ _ _ _ => trivial) (fun _ _ _ => Iff.rfl) trivial (Or.inl ⟨by rfl, fun w' hw' => by obtain ⟨l, _, hl⟩ := hw'; obtain ⟨_, kx, ky, k0, k1, k2, k3, k4, k5, k6, k7, k8, k9, ka, kb⟩ := hl; go_simp⟩) HS.out ?_
                              simp only [Act.put, List.setIfInBounds_toArray, List.set_cons_zero, List.set_cons_succ]
                              refine wpAnyL_takeD (fun _ => True) (i := 7) (v := (.pointer (some ⟨wr.heap.size, 0, none⟩))) (some 67) rfl rfl (by kernel_rfl) (by kernel_rfl) (by kernel_rfl) (fun _ _ _ h => h) (fun _ _ _ _ _ _ => trivial) (fun _ _ _ => Iff.rfl) trivial (Or.inl ⟨by rfl, fun w' hw' => by obtain ⟨l, _, hl⟩ := hw'; obtain ⟨_, kx, ky, k0, k1, k2, k3, k4, k5, k6, k7, k8, k9, ka, kb⟩ := hl; go_simp⟩) HS.out ?_
                              simp only [Act.put, List.setIfInBounds_toArray, List.set_cons_zero, List.set_cons_succ]
                              refine wpAnyL_takeD (fun _ => True) (i := 8) (v := (.int .i64 id)) (some 68) rfl rfl (by kernel_rfl) (by kernel_rfl) (by kernel_rfl) (fun _ _ _ h => h) (fun _ _ _ _ _ _ => trivial) (fun _ _ _ => Iff.rfl) trivial (Or.inl ⟨by rfl, fun w' hw' => by obtain ⟨l, _, hl⟩ := hw'; obtain ⟨_, kx, ky, k0, k1, k2, k3, k4, k5, k6, k7, k8, k9, ka, kb⟩ := hl; go_simp⟩) HS.out ?_
                              simp only [Act.put, List.setIfInBounds_toArray, List.set_cons_zero, List.set_cons_succ]
                              refine wpAnyL_takeD (fun _ => True) (i := 9) (v := (.pointer (some ⟨w.heap.size, 4, none⟩))) (some 69) rfl rfl (by kernel_rfl) (by kernel_rfl) (by kernel_rfl) (fun _ _ _ h => h) (fun _ _ _ _ _ _ => trivial) (fun _ _ _ => Iff.rfl) trivial (Or.inl ⟨by rfl, fun w' hw' => by obtain ⟨l, _, hl⟩ := hw'; obtain ⟨_, kx, ky, k0, k1, k2, k3, k4, k5, k6, k7, k8, k9, ka, kb⟩ := hl; go_simp⟩) HS.out ?_
                              simp only [Act.put, List.setIfInBounds_toArray, List.set_cons_zero, List.set_cons_succ]
                              refine wpAnyL_takeD (fun _ => True) (i := 10) (v := (.slice (some ad) n c)) (some 70) rfl rfl (by kernel_rfl) (by kernel_rfl) (by kernel_rfl) (fun _ _ _ h => h) (fun _ _ _ _ _ _ => trivial) (fun _ _ _ => Iff.rfl) trivial (Or.inl ⟨by rfl, fun w' hw' => by obtain ⟨l, _, hl⟩ := hw'; obtain ⟨_, kx, ky, k0, k1, k2, k3, k4, k5, k6, k7, k8, k9, ka, kb⟩ := hl; go_simp⟩) HS.out ?_
                              simp only [Act.put, List.setIfInBounds_toArray, List.set_cons_zero, List.set_cons_succ]
                              refine wpAnyL_takeD (fun _ => True) (i := 11) (v := (.int .i64 (i : Int))) (some 71) rfl rfl (by kernel_rfl) (by kernel_rfl) (by kernel_rfl) (fun _ _ _ h => h) (fun _ _ _ _ _ _ => trivial) (fun _ _ _ => Iff.rfl) trivial (Or.inl ⟨by rfl, fun w' hw' => by obtain ⟨l, _, hl⟩ := hw'; obtain ⟨_, kx, ky, k0, k1, k2, k3, k4, k5, k6, k7, k8, k9, ka, kb⟩ := hl; go_simp⟩) HS.out ?_
                              simp only [Act.put, List.setIfInBounds_toArray, List.set_cons_zero, List.set_cons_succ]
                              refine wpAnyL_takeD (fun _ => True) (i := 12) (v := (.int .i64 ((i : Int) - 1))) (some 72) rfl rfl (by kernel_rfl) (by kernel_rfl) (by kernel_rfl) (fun _ _ _ h => h) (fun _ _ _ _ _ _ => trivial) (fun _ _ _ => Iff.rfl) trivial (Or.inl ⟨by rfl, fun w' hw' => by obtain ⟨l, _, hl⟩ := hw'; obtain ⟨_, kx, ky, k0, k1, k2, k3, k4, k5, k6, k7, k8, k9, ka, kb⟩ := hl; go_simp⟩) HS.out ?_
                              simp only [Act.put, List.setIfInBounds_toArray, List.set_cons_zero, List.set_cons_succ]
                              refine wpAnyL_takeD (fun _ => True) (i := 13) (v := (.pointer (some (ad.add ((i - 1) * 12))))) (some 73) rfl rfl (by kernel_rfl) (by kernel_rfl) (by kernel_rfl) (fun _ _ _ h => h) (fun _ _ _ _ _ _ => trivial) (fun _ _ _ => Iff.rfl) trivial (Or.inl ⟨by rfl, fun w' hw' => by obtain ⟨l, _, hl⟩ := hw'; obtain ⟨_, kx, ky, k0, k1, k2, k3, k4, k5, k6, k7, k8, k9, ka, kb⟩ := hl; go_simp⟩) HS.out ?_
                              simp only [Act.put, List.setIfInBounds_toArray, List.set_cons_zero, List.set_cons_succ]
                              refine wpAnyL_takeD (fun _ => True) (i := 14) (v := (.pointer (some (ad.add ((i - 1) * 12))))) (some 74) rfl rfl (by kernel_rfl) (by kernel_rfl) (by kernel_rfl) (fun _ _ _ h => h) (fun _ _ _ _ _ _ => trivial) (fun _ _ _ => Iff.rfl) trivial (Or.inl ⟨by rfl, fun w' hw' => by obtain ⟨l, _, hl⟩ := hw'; obtain ⟨_, kx, ky, k0, k1, k2, k3, k4, k5, k6, k7, k8, k9, ka, kb⟩ := hl; go_simp⟩) HS.out ?_
                              simp only [Act.put, List.setIfInBounds_toArray, List.set_cons_zero, List.set_cons_succ]
                              refine wpAnyL_takeD (fun _ => True) (i := 15) (v := (.int .i64 pid)) (some 75) rfl rfl (by kernel_rfl) (by kernel_rfl) (by kernel_rfl) (fun _ _ _ h => h) (fun _ _ _ _ _ _ => trivial) (fun _ _ _ => Iff.rfl) trivial (Or.inl ⟨by rfl, fun w' hw' => by obtain ⟨l, _, hl⟩ := hw'; obtain ⟨_, kx, ky, k0, k1, k2, k3, k4, k5, k6, k7, k8, k9, ka, kb⟩ := hl; go_simp⟩) HS.out ?_
                              simp only [Act.put, List.setIfInBounds_toArray, List.set_cons_zero, List.set_cons_succ]
                              refine wpAnyL_takeD (fun _ => True) (i := 16) (v := (.bool false)) (some 76) rfl rfl (by kernel_rfl) (by kernel_rfl) (by kernel_rfl) (fun _ _ _ h => h) (fun _ _ _ _ _ _ => trivial) (fun _ _ _ => Iff.rfl) trivial (Or.inl ⟨by rfl, fun w' hw' => by obtain ⟨l, _, hl⟩ := hw'; obtain ⟨_, kx, ky, k0, k1, k2, k3, k4, k5, k6, k7, k8, k9, ka, kb⟩ := hl; go_simp⟩) HS.out ?_
                              simp only [Act.put, List.setIfInBounds_toArray, List.set_cons_zero, List.set_cons_succ]
                              refine wpAnyL_takeD (fun _ => True) (i := 17) (v := (.bool false)) (some 77) rfl rfl (by kernel_rfl) (by kernel_rfl) (by kernel_rfl) (fun _ _ _ h => h) (fun _ _ _ _ _ _ => trivial) (fun _ _ _ => Iff.rfl) trivial (Or.inl ⟨by rfl, fun w' hw' => by obtain ⟨l, _, hl⟩ := hw'; obtain ⟨_, kx, ky, k0, k1, k2, k3, k4, k5, k6, k7, k8, k9, ka, kb⟩ := hl; go_simp⟩) HS.out ?_
                              simp only [Act.put, List.setIfInBounds_toArray, List.set_cons_zero, List.set_cons_succ]
                              refine wpAnyL_takeD (fun _ => True) (i := 18) (v := (.bool false)) (some 78) rfl rfl (by kernel_rfl) (by kernel_rfl) (by kernel_rfl) (fun _ _ _ h => h) (fun _ _ _ _ _ _ => trivial) (fun _ _ _ => Iff.rfl) trivial (Or.inl ⟨by rfl, fun w' hw' => by obtain ⟨l, _, hl⟩ := hw'; obtain ⟨_, kx, ky, k0, k1, k2, k3, k4, k5, k6, k7, k8, k9, ka, kb⟩ := hl; go_simp⟩) HS.out ?_
                              simp only [Act.put, List.setIfInBounds_toArray, List.set_cons_zero, List.set_cons_succ]
                              refine wpAnyL_done (by decide +kernel) ?_ _
                              clear MK HS q3 q4
                              go_wp2
                              go_roundw
                              case rel => exact ⟨i + 1, by go_num, by omega, good_next HG.out HGD.out, bt hb2 hbp⟩
                              case measure => simp [intOf]; omega
                      · have hin2 : n = i := by omega
                        subst hin2
                        have HADD : Hid (addOk add) := fun j hj => HG.out j (by rw [← HLN.out]; exact hj)
                        have hRw := hRb.call hb
                        clear k0 k1 k2 k3 k4 k5
                        have k0 := hRw.cellAt 0 rfl
                        have k5 := hRw.cellAt 5 rfl
                        cases rem with
                        | nil =>
                          have hn20 : n2 = 0 := by have := HLN2.out; simpa using this.symm
                          subst hn20
                          have HR := Lib.hid (HOKK.out HADD.out (fun _ => rfl) (fun j hj => by simp at hj))
                          go_wp2
                          go_loopw [83] (fun a wx => a = .int .i64 0 ∧ wx = wr) (fun _ _ => 0)
                          case atStart => exact ⟨by trivial, by trivial⟩
                          case round =>
                            obtain ⟨rfl, rfl⟩ := hrel
                            go_wp2
                            go_ret
                            exact ⟨by rw [HR.out] <;> rfl, bt hbel hb⟩
                        | cons z t =>
                          have HR := Lib.hid (HBAD.out (.inr (.inl ⟨by trivial, by simp⟩)))
                          have hn20 : 0 < n2 := by have := HLN2.out; simp at this; omega
                          obtain ⟨bd, rfl, _, cz⟩ := (hr1.rem.below hb).at_ (j := 0) (u := Iv z) rfl
                          have cz0 : wr.cell? bd = some (Iv z) := by simpa [Addr.add] using cz
                          go_wp2
                          go_loopw [83] (fun a wx => a = .int .i64 0 ∧ wx = wr) (fun _ _ => 0)
                          case atStart => exact ⟨by trivial, by trivial⟩
                          case round =>
                            obtain ⟨rfl, rfl⟩ := hrel
                            go_wp2_with fail
                            refine (object_any z _).mono ?_; rintro e w1 ⟨rfl, rfl⟩
                            generalize objB z = oz at *
                            cases oz
                            · go_wp2
                              go_ret
                              exact ⟨by rw [HR.out] <;> rfl, bt hbel hb⟩
                            · go_wp2
                              go_ret
                              exact ⟨by rw [HR.out] <;> rfl, bt hbel hb⟩
                  · have l2' : 256 < n2 := by omega
                    have d1 : decide ((256 : Int) < (n : Int)) = false := by simp; omega
                    have d2 : decide ((256 : Int) < (n2 : Int)) = true := by simp; omega
                    have HR := Lib.hid (chk_full (r := ⟨1, ve, ns, ni, add, rem⟩) (by first | exact .inl rfl | exact .inr rfl) HNM.out (.inr (by dsimp only; rw [HLN2.out]; exact l2')))
                    go_wp2
                    go_ret
                    exact ⟨by rw [HR.out] <;> rfl, hbel⟩
                · have d1 : decide ((256 : Int) < (n : Int)) = true := by simp; omega
                  have HR := Lib.hid (chk_full (r := ⟨1, ve, ns, ni, add, rem⟩) (by first | exact .inl rfl | exact .inr rfl) HNM.out (.inl (by dsimp only; rw [HLN.out]; omega)))
                  go_wp2
                  go_ret
                  exact ⟨by rw [HR.out] <;> rfl, hbel⟩
            · have HR := Lib.hid (chk_nums (r := ⟨1, ve, ns, ni, add, rem⟩) (by first | exact .inl rfl | exact .inr rfl) (by rw [HNK.out]; exact fun h => s2 h.2.2.2.1))
              go_enter Try.func26, Try.ntmps26
              go_wp2
              go_ret
              exact ⟨by rw [HR.out] <;> rfl, hbel⟩
          · have HR := Lib.hid (chk_nums (r := ⟨1, ve, ns, ni, add, rem⟩) (by first | exact .inl rfl | exact .inr rfl) (by rw [HNK.out]; exact fun h => s1 h.2.2.1))
            go_enter Try.func26, Try.ntmps26
            go_wp2
            go_ret
            exact ⟨by rw [HR.out] <;> rfl, hbel⟩
        · have HR := Lib.hid (chk_nums (r := ⟨1, ve, ns, ni, add, rem⟩) (by first | exact .inl rfl | exact .inr rfl) (by rw [HNK.out]; exact fun h => v2 h.2.1))
          go_enter Try.func26, Try.ntmps26
          go_wp2
          go_ret
          exact ⟨by rw [HR.out] <;> rfl, hbel⟩
      · have HR := Lib.hid (chk_nums (r := ⟨1, ve, ns, ni, add, rem⟩) (by first | exact .inl rfl | exact .inr rfl) (by rw [HNK.out]; exact fun h => v1 h.1))
        go_enter Try.func26, Try.ntmps26
        go_wp2
        go_ret
        exact ⟨by rw [HR.out] <;> rfl, hbel⟩
    · skip
      by_cases v1 : 0 ≤ ve
      · by_cases v2 : ve ≤ 2147483647
        · by_cases s1 : 0 ≤ ns
          · by_cases s2 : ns ≤ 1099511627777
            · go_enter Try.func26, Try.ntmps26
              have k0 := hRb.cellAt 0 rfl
              have k1 := hRb.cellAt 1 rfl
              have k2 := hRb.cellAt 2 rfl
              have k3 := hRb.cellAt 3 rfl
              have k4 := hRb.cellAt 4 rfl
              have k5 := hRb.cellAt 5 rfl
              go_wp2_with fail
              generalize w.alloc (.cells #[.int .i64 2, .int .i64 ve, .int .i64 ns, .int .i64 ni, .slice A n c, .slice A2 n2 c2] 31) = wa at *
              refine (object_any ni _).mono ?_; rintro e w1 ⟨rfl, rfl⟩
              generalize objB ni = ob at *
              cases ob
              · have HR := Lib.hid (chk_nums (r := ⟨2, ve, ns, ni, add, rem⟩) (by first | exact .inl rfl | exact .inr rfl) (by rw [HNK.out]; simp))
                go_wp2
                go_ret
                exact ⟨by rw [HR.out] <;> rfl, hbel⟩
              · have HNM : Hid (numsOk ⟨2, ve, ns, ni, add, rem⟩) := HNK.out.2 ⟨v1, v2, s1, s2, rfl⟩
                clear HNK
                by_cases l1 : n ≤ 256
                · by_cases l2 : n2 ≤ 256
                  · have HBAD : Hid (¬ addOk add ∨ ((2 : Int) = 1 ∧ rem ≠ []) ∨ ¬ remOk rem → chkR ⟨2, ve, ns, ni, add, rem⟩ = 1) := fun h => chk_bad (by first | exact .inl rfl | exact .inr rfl) HNM.out (by dsimp only; rw [HLN.out]; exact l1) (by dsimp only; rw [HLN2.out]; exact l2) h
                    have HOKK : Hid (addOk add → ((2 : Int) = 1 → rem = []) → remOk rem → chkR ⟨2, ve, ns, ni, add, rem⟩ = 0) := fun h h' h'' => chk_ok (by first | exact .inl rfl | exact .inr rfl) HNM.out (by dsimp only; rw [HLN.out]; exact l1) (by dsimp only; rw [HLN2.out]; exact l2) h h' h''
                    go_wp2_with fail
                    go_loopw [55] (fun a wr => ∃ i : Nat, a = .int .i64 (i : Int) ∧ i ≤ n ∧ Hid (∀ j, j < i → goodE add j) ∧ Below wa.heap.size wa wr) (fun a _ => n - (intOf a).toNat)
                    case atStart => exact ⟨0, rfl, by omega, (fun j hj => by omega), Below.refl _ _⟩
                    case round =>
                      obtain ⟨i, rfl, hin, HG, hb⟩ := hrel
                      by_cases hlt : i < n
                      · obtain ⟨e, he⟩ : ∃ e, add[i]? = some e := ⟨_, List.getElem?_eq_getElem (by rw [HLN.out]; exact hlt)⟩
                        obtain ⟨ad, rfl, hadb, c0, c1, c2', c3, c4, c5, c6, c7, c8, c9, ca, cb⟩ := (hr1.add.below hb).ent he
                        have HE := Lib.hid he
                        have HC : Hid (∀ W : World, Calls Try.prog 17 #[Ev e] W fun x w' => x = .returned (.bool (entB e)) ∧ Below W.heap.size W w') := fun W => entry_any e W
                        obtain ⟨b, hbb⟩ : ∃ b, b = entB e := ⟨_, rfl⟩
                        rw [← hbb] at HC
                        have HBB := Lib.hid hbb
                        obtain ⟨id, rows, live, ⟨⟨ln, li, lz⟩, lq⟩, ⟨⟨hn, hi, hz⟩, hq⟩, del⟩ := e
                        dsimp only [Ev] at HC c0 c1 c2' c3 c4 c5 c6 c7 c8 c9 ca cb
                        have hE := Blk.new' wr 40 #[.int .i64 id, .int .i64 rows, .int .i64 live, .bool ln, .int .i64 li, .string lz, .int .i64 lq, .bool hn, .int .i64 hi, .string hz, .int .i64 hq, .int .i64 del]
                        have hbx := (Below.refl wr.heap.size wr).alloc (Nat.le_refl _) (.cells #[.int .i64 id, .int .i64 rows, .int .i64 live, .bool ln, .int .i64 li, .string lz, .int .i64 lq, .bool hn, .int .i64 hi, .string hz, .int .i64 hq, .int .i64 del] 40)
                        have hb2 := bt hb hbx
                        have hRx := hRb.call hb2
                        clear he hbb
                        go_upto_region 10 with fail
                        generalize wr.alloc (.cells #[.int .i64 id, .int .i64 rows, .int .i64 live, .bool ln, .int .i64 li, .string lz, .int .i64 lq, .bool hn, .int .i64 hi, .string hz, .int .i64 hq, .int .i64 del] 40) = wx at *
                        cases b
                        · have HR := Lib.hid (HBAD.out (.inl (bad_ent HE.out HBB.out.symm)))
                          have MK : Hid (∀ w', Below wx.heap.size wx w' → (Below wx.heap.size wx w' ∧ True ∧ True ∧ w'.cell? ⟨wr.heap.size, 0, none⟩ = some (.int .i64 id) ∧ w'.cell? ⟨wr.heap.size, 1, none⟩ = some (.int .i64 rows) ∧ w'.cell? ⟨wr.heap.size, 2, none⟩ = some (.int .i64 live) ∧ w'.cell? ⟨wr.heap.size, 3, none⟩ = some (.bool ln) ∧ w'.cell? ⟨wr.heap.size, 4, none⟩ = some (.int .i64 li) ∧ w'.cell? ⟨wr.heap.size, 5, none⟩ = some (.string lz) ∧ w'.cell? ⟨wr.heap.size, 6, none⟩ = some (.int .i64 lq) ∧ w'.cell? ⟨wr.heap.size, 7, none⟩ = some (.bool hn) ∧ w'.cell? ⟨wr.heap.size, 8, none⟩ = some (.int .i64 hi) ∧ w'.cell? ⟨wr.heap.size, 9, none⟩ = some (.string hz) ∧ w'.cell? ⟨wr.heap.size, 10, none⟩ = some (.int .i64 hq) ∧ w'.cell? ⟨wr.heap.size, 11, none⟩ = some (.int .i64 del))) := fun w' h => by
                            have hk := hE.call h
                            exact ⟨h, trivial, trivial, hk.cellAt 0 rfl, hk.cellAt 1 rfl, hk.cellAt 2 rfl, hk.cellAt 3 rfl, hk.cellAt 4 rfl, hk.cellAt 5 rfl, hk.cellAt 6 rfl, hk.cellAt 7 rfl, hk.cellAt 8 rfl, hk.cellAt 9 rfl, hk.cellAt 10 rfl, hk.cellAt 11 rfl⟩
                          refine wp_region_L (fun _ w' => Below wx.heap.size wx w' ∧ True ∧ True ∧ w'.cell? ⟨wr.heap.size, 0, none⟩ = some (.int .i64 id) ∧ w'.cell? ⟨wr.heap.size, 1, none⟩ = some (.int .i64 rows) ∧ w'.cell? ⟨wr.heap.size, 2, none⟩ = some (.int .i64 live) ∧ w'.cell? ⟨wr.heap.size, 3, none⟩ = some (.bool ln) ∧ w'.cell? ⟨wr.heap.size, 4, none⟩ = some (.int .i64 li) ∧ w'.cell? ⟨wr.heap.size, 5, none⟩ = some (.string lz) ∧ w'.cell? ⟨wr.heap.size, 6, none⟩ = some (.int .i64 lq) ∧ w'.cell? ⟨wr.heap.size, 7, none⟩ = some (.bool hn) ∧ w'.cell? ⟨wr.heap.size, 8, none⟩ = some (.int .i64 hi) ∧ w'.cell? ⟨wr.heap.size, 9, none⟩ = some (.string hz) ∧ w'.cell? ⟨wr.heap.size, 10, none⟩ = some (.int .i64 hq) ∧ w'.cell? ⟨wr.heap.size, 11, none⟩ = some (.int .i64 del)) (by kernel_rfl) ?_
                          have hbp : Below wx.heap.size wx wx.drew := Below.drew (Below.refl _ _)
                          generalize wx.drew = wy at *
                          have HS := Lib.hid (MK.out _ hbp)
                          refine wpAnyL_takeD (fun _ => True) (i := 0) (v := (.agg #[.int .i64 id, .int .i64 rows, .int .i64 live, .bool ln, .int .i64 li, .string lz, .int .i64 lq, .bool hn, .int .i64 hi, .string hz, .int .i64 hq, .int .i64 del])) (some 60) rfl rfl (by kernel_rfl) (by kernel_rfl) (by kernel_rfl) (fun _ _ _ h => h) (fun _ _ _ _ _ _ => trivial) (fun _ _ _ => Iff.rfl) trivial (Or.inl ⟨by rfl, fun w' hw' => by obtain ⟨l, _, hl⟩ := hw'; obtain ⟨_, kx, ky, k0, k1, k2, k3, k4, k5, k6, k7, k8, k9, ka, kb⟩ := hl; go_simp⟩) HS.out ?_
                          simp only [Act.put, List.setIfInBounds_toArray, List.set_cons_zero, List.set_cons_succ]
                          refine wpAnyL_one (i := 1) (by decide +kernel) ?_
                          refine wpOp_go (o := _) rfl (fun K hK => ?_)
                          go_simp
                          go_at_call 17
                          refine (HC.out _).mono ?_; rintro e wy ⟨rfl, hb3⟩
                          replace hbp := bt hbp hb3
                          refine hK _ _ ⟨MK.out _ hbp, ?_⟩
                          replace HS := Lib.hid (MK.out _ hbp)
                          clear hK K hb3
                          refine wpAnyL_takeD (fun _ => True) (i := 2) (v := (.bool true)) (some 62) rfl rfl (by kernel_rfl) (by kernel_rfl) (by kernel_rfl) (fun _ _ _ h => h) (fun _ _ _ _ _ _ => trivial) (fun _ _ _ => Iff.rfl) trivial (Or.inl ⟨by rfl, fun w' hw' => by obtain ⟨l, _, hl⟩ := hw'; obtain ⟨_, kx, ky, k0, k1, k2, k3, k4, k5, k6, k7, k8, k9, ka, kb⟩ := hl; go_simp⟩) HS.out ?_
                          simp only [Act.put, List.setIfInBounds_toArray, List.set_cons_zero, List.set_cons_succ]
                          refine wpAnyL_takeD (fun _ => True) (i := 3) (v := (.bool true)) (some 63) rfl rfl (by kernel_rfl) (by kernel_rfl) (by kernel_rfl) (fun _ _ _ h => h) (fun _ _ _ _ _ _ => trivial) (fun _ _ _ => Iff.rfl) trivial (Or.inl ⟨by rfl, fun w' hw' => by obtain ⟨l, _, hl⟩ := hw'; obtain ⟨_, kx, ky, k0, k1, k2, k3, k4, k5, k6, k7, k8, k9, ka, kb⟩ := hl; go_simp⟩) HS.out ?_
                          simp only [Act.put, List.setIfInBounds_toArray, List.set_cons_zero, List.set_cons_succ]
                          refine wpAnyL_takeD (fun _ => True) (i := 4) (v := undef) (some 64) rfl rfl (by kernel_rfl) (by kernel_rfl) (by kernel_rfl) (fun _ _ _ h => h) (fun _ _ _ _ _ _ => trivial) (fun _ _ _ => Iff.rfl) trivial (Or.inr ⟨by rfl, rfl⟩) HS.out ?_
                          simp only [Act.put, List.setIfInBounds_toArray, List.set_cons_zero, List.set_cons_succ]
                          refine wpAnyL_takeD (fun _ => True) (i := 5) (v := undef) (some 65) rfl rfl (by kernel_rfl) (by kernel_rfl) (by kernel_rfl) (fun _ _ _ h => h) (fun _ _ _ _ _ _ => trivial) (fun _ _ _ => Iff.rfl) trivial (Or.inr ⟨by rfl, rfl⟩) HS.out ?_
                          simp only [Act.put, List.setIfInBounds_toArray, List.set_cons_zero, List.set_cons_succ]
                          refine wpAnyL_takeD (fun _ => True) (i := 6) (v := undef) (some 66) rfl rfl (by kernel_rfl) (by kernel_rfl) (by kernel_rfl) (fun _ _ _ h => h) (fun _ _ _ _ _ _ => trivial) (fun _ _ _ => Iff.rfl) trivial (Or.inr ⟨by rfl, rfl⟩) HS.out ?_
                          simp only [Act.put, List.setIfInBounds_toArray, List.set_cons_zero, List.set_cons_succ]
                          refine wpAnyL_takeD (fun _ => True) (i := 7) (v := undef) (some 67) rfl rfl (by kernel_rfl) (by kernel_rfl) (by kernel_rfl) (fun _ _ _ h => h) (fun _ _ _ _ _ _ => trivial) (fun _ _ _ => Iff.rfl) trivial (Or.inr ⟨by rfl, rfl⟩) HS.out ?_
                          simp only [Act.put, List.setIfInBounds_toArray, List.set_cons_zero, List.set_cons_succ]
                          refine wpAnyL_takeD (fun _ => True) (i := 8) (v := undef) (some 68) rfl rfl (by kernel_rfl) (by kernel_rfl) (by kernel_rfl) (fun _ _ _ h => h) (fun _ _ _ _ _ _ => trivial) (fun _ _ _ => Iff.rfl) trivial (Or.inr ⟨by rfl, rfl⟩) HS.out ?_
                          simp only [Act.put, List.setIfInBounds_toArray, List.set_cons_zero, List.set_cons_succ]
                          refine wpAnyL_takeD (fun _ => True) (i := 9) (v := undef) (some 69) rfl rfl (by kernel_rfl) (by kernel_rfl) (by kernel_rfl) (fun _ _ _ h => h) (fun _ _ _ _ _ _ => trivial) (fun _ _ _ => Iff.rfl) trivial (Or.inr ⟨by rfl, rfl⟩) HS.out ?_
                          simp only [Act.put, List.setIfInBounds_toArray, List.set_cons_zero, List.set_cons_succ]
                          refine wpAnyL_takeD (fun _ => True) (i := 10) (v := undef) (some 70) rfl rfl (by kernel_rfl) (by kernel_rfl) (by kernel_rfl) (fun _ _ _ h => h) (fun _ _ _ _ _ _ => trivial) (fun _ _ _ => Iff.rfl) trivial (Or.inr ⟨by rfl, rfl⟩) HS.out ?_
                          simp only [Act.put, List.setIfInBounds_toArray, List.set_cons_zero, List.set_cons_succ]
                          refine wpAnyL_takeD (fun _ => True) (i := 11) (v := undef) (some 71) rfl rfl (by kernel_rfl) (by kernel_rfl) (by kernel_rfl) (fun _ _ _ h => h) (fun _ _ _ _ _ _ => trivial) (fun _ _ _ => Iff.rfl) trivial (Or.inr ⟨by rfl, rfl⟩) HS.out ?_
                          simp only [Act.put, List.setIfInBounds_toArray, List.set_cons_zero, List.set_cons_succ]
                          refine wpAnyL_takeD (fun _ => True) (i := 12) (v := undef) (some 72) rfl rfl (by kernel_rfl) (by kernel_rfl) (by kernel_rfl) (fun _ _ _ h => h) (fun _ _ _ _ _ _ => trivial) (fun _ _ _ => Iff.rfl) trivial (Or.inr ⟨by rfl, rfl⟩) HS.out ?_
                          simp only [Act.put, List.setIfInBounds_toArray, List.set_cons_zero, List.set_cons_succ]
                          refine wpAnyL_takeD (fun _ => True) (i := 13) (v := undef) (some 73) rfl rfl (by kernel_rfl) (by kernel_rfl) (by kernel_rfl) (fun _ _ _ h => h) (fun _ _ _ _ _ _ => trivial) (fun _ _ _ => Iff.rfl) trivial (Or.inr ⟨by rfl, rfl⟩) HS.out ?_
                          simp only [Act.put, List.setIfInBounds_toArray, List.set_cons_zero, List.set_cons_succ]
                          refine wpAnyL_takeD (fun _ => True) (i := 14) (v := undef) (some 74) rfl rfl (by kernel_rfl) (by kernel_rfl) (by kernel_rfl) (fun _ _ _ h => h) (fun _ _ _ _ _ _ => trivial) (fun _ _ _ => Iff.rfl) trivial (Or.inr ⟨by rfl, rfl⟩) HS.out ?_
                          simp only [Act.put, List.setIfInBounds_toArray, List.set_cons_zero, List.set_cons_succ]
                          refine wpAnyL_takeD (fun _ => True) (i := 15) (v := undef) (some 75) rfl rfl (by kernel_rfl) (by kernel_rfl) (by kernel_rfl) (fun _ _ _ h => h) (fun _ _ _ _ _ _ => trivial) (fun _ _ _ => Iff.rfl) trivial (Or.inr ⟨by rfl, rfl⟩) HS.out ?_
                          simp only [Act.put, List.setIfInBounds_toArray, List.set_cons_zero, List.set_cons_succ]
                          refine wpAnyL_takeD (fun _ => True) (i := 16) (v := undef) (some 76) rfl rfl (by kernel_rfl) (by kernel_rfl) (by kernel_rfl) (fun _ _ _ h => h) (fun _ _ _ _ _ _ => trivial) (fun _ _ _ => Iff.rfl) trivial (Or.inr ⟨by rfl, rfl⟩) HS.out ?_
                          simp only [Act.put, List.setIfInBounds_toArray, List.set_cons_zero, List.set_cons_succ]
                          refine wpAnyL_takeD (fun _ => True) (i := 17) (v := undef) (some 77) rfl rfl (by kernel_rfl) (by kernel_rfl) (by kernel_rfl) (fun _ _ _ h => h) (fun _ _ _ _ _ _ => trivial) (fun _ _ _ => Iff.rfl) trivial (Or.inr ⟨by rfl, rfl⟩) HS.out ?_
                          simp only [Act.put, List.setIfInBounds_toArray, List.set_cons_zero, List.set_cons_succ]
                          refine wpAnyL_takeD (fun _ => True) (i := 18) (v := (.bool true)) (some 78) rfl rfl (by kernel_rfl) (by kernel_rfl) (by kernel_rfl) (fun _ _ _ h => h) (fun _ _ _ _ _ _ => trivial) (fun _ _ _ => Iff.rfl) trivial (Or.inl ⟨by rfl, fun w' hw' => by obtain ⟨l, _, hl⟩ := hw'; obtain ⟨_, kx, ky, k0, k1, k2, k3, k4, k5, k6, k7, k8, k9, ka, kb⟩ := hl; go_simp⟩) HS.out ?_
                          simp only [Act.put, List.setIfInBounds_toArray, List.set_cons_zero, List.set_cons_succ]
                          refine wpAnyL_done (by decide +kernel) ?_ _
                          clear MK HS
                          go_wp2
                          go_ret
                          exact ⟨by rw [HR.out] <;> rfl, bt hbel (bt hb2 hbp)⟩
                        · by_cases h0 : i = 0
                          · subst h0
                            have HGD : Hid (goodE add 0) := good_first HE.out HBB.out.symm
                            have MK : Hid (∀ w', Below wx.heap.size wx w' → (Below wx.heap.size wx w' ∧ True ∧ True ∧ w'.cell? ⟨wr.heap.size, 0, none⟩ = some (.int .i64 id) ∧ w'.cell? ⟨wr.heap.size, 1, none⟩ = some (.int .i64 rows) ∧ w'.cell? ⟨wr.heap.size, 2, none⟩ = some (.int .i64 live) ∧ w'.cell? ⟨wr.heap.size, 3, none⟩ = some (.bool ln) ∧ w'.cell? ⟨wr.heap.size, 4, none⟩ = some (.int .i64 li) ∧ w'.cell? ⟨wr.heap.size, 5, none⟩ = some (.string lz) ∧ w'.cell? ⟨wr.heap.size, 6, none⟩ = some (.int .i64 lq) ∧ w'.cell? ⟨wr.heap.size, 7, none⟩ = some (.bool hn) ∧ w'.cell? ⟨wr.heap.size, 8, none⟩ = some (.int .i64 hi) ∧ w'.cell? ⟨wr.heap.size, 9, none⟩ = some (.string hz) ∧ w'.cell? ⟨wr.heap.size, 10, none⟩ = some (.int .i64 hq) ∧ w'.cell? ⟨wr.heap.size, 11, none⟩ = some (.int .i64 del))) := fun w' h => by
                              have hk := hE.call h
                              exact ⟨h, trivial, trivial, hk.cellAt 0 rfl, hk.cellAt 1 rfl, hk.cellAt 2 rfl, hk.cellAt 3 rfl, hk.cellAt 4 rfl, hk.cellAt 5 rfl, hk.cellAt 6 rfl, hk.cellAt 7 rfl, hk.cellAt 8 rfl, hk.cellAt 9 rfl, hk.cellAt 10 rfl, hk.cellAt 11 rfl⟩
                            refine wp_region_L (fun _ w' => Below wx.heap.size wx w' ∧ True ∧ True ∧ w'.cell? ⟨wr.heap.size, 0, none⟩ = some (.int .i64 id) ∧ w'.cell? ⟨wr.heap.size, 1, none⟩ = some (.int .i64 rows) ∧ w'.cell? ⟨wr.heap.size, 2, none⟩ = some (.int .i64 live) ∧ w'.cell? ⟨wr.heap.size, 3, none⟩ = some (.bool ln) ∧ w'.cell? ⟨wr.heap.size, 4, none⟩ = some (.int .i64 li) ∧ w'.cell? ⟨wr.heap.size, 5, none⟩ = some (.string lz) ∧ w'.cell? ⟨wr.heap.size, 6, none⟩ = some (.int .i64 lq) ∧ w'.cell? ⟨wr.heap.size, 7, none⟩ = some (.bool hn) ∧ w'.cell? ⟨wr.heap.size, 8, none⟩ = some (.int .i64 hi) ∧ w'.cell? ⟨wr.heap.size, 9, none⟩ = some (.string hz) ∧ w'.cell? ⟨wr.heap.size, 10, none⟩ = some (.int .i64 hq) ∧ w'.cell? ⟨wr.heap.size, 11, none⟩ = some (.int .i64 del)) (by kernel_rfl) ?_
                            have hbp : Below wx.heap.size wx wx.drew := Below.drew (Below.refl _ _)
                            generalize wx.drew = wy at *
                            have HS := Lib.hid (MK.out _ hbp)
                            refine wpAnyL_takeD (fun _ => True) (i := 0) (v := (.agg #[.int .i64 id, .int .i64 rows, .int .i64 live, .bool ln, .int .i64 li, .string lz, .int .i64 lq, .bool hn, .int .i64 hi, .string hz, .int .i64 hq, .int .i64 del])) (some 60) rfl rfl (by kernel_rfl) (by kernel_rfl) (by kernel_rfl) (fun _ _ _ h => h) (fun _ _ _ _ _ _ => trivial) (fun _ _ _ => Iff.rfl) trivial (Or.inl ⟨by rfl, fun w' hw' => by obtain ⟨l, _, hl⟩ := hw'; obtain ⟨_, kx, ky, k0, k1, k2, k3, k4, k5, k6, k7, k8, k9, ka, kb⟩ := hl; go_simp⟩) HS.out ?_
                            simp only [Act.put, List.setIfInBounds_toArray, List.set_cons_zero, List.set_cons_succ]
                            refine wpAnyL_one (i := 1) (by decide +kernel) ?_
                            refine wpOp_go (o := _) rfl (fun K hK => ?_)
                            go_simp
                            go_at_call 17
                            refine (HC.out _).mono ?_; rintro e wy ⟨rfl, hb3⟩
                            replace hbp := bt hbp hb3
                            refine hK _ _ ⟨MK.out _ hbp, ?_⟩
                            replace HS := Lib.hid (MK.out _ hbp)
                            clear hK K hb3
                            refine wpAnyL_takeD (fun _ => True) (i := 2) (v := (.bool false)) (some 62) rfl rfl (by kernel_rfl) (by kernel_rfl) (by kernel_rfl) (fun _ _ _ h => h) (fun _ _ _ _ _ _ => trivial) (fun _ _ _ => Iff.rfl) trivial (Or.inl ⟨by rfl, fun w' hw' => by obtain ⟨l, _, hl⟩ := hw'; obtain ⟨_, kx, ky, k0, k1, k2, k3, k4, k5, k6, k7, k8, k9, ka, kb⟩ := hl; go_simp⟩) HS.out ?_
                            simp only [Act.put, List.setIfInBounds_toArray, List.set_cons_zero, List.set_cons_succ]
                            refine wpAnyL_takeD (fun _ => True) (i := 3) (v := (.bool false)) (some 63) rfl rfl (by kernel_rfl) (by kernel_rfl) (by kernel_rfl) (fun _ _ _ h => h) (fun _ _ _ _ _ _ => trivial) (fun _ _ _ => Iff.rfl) trivial (Or.inl ⟨by rfl, fun w' hw' => by obtain ⟨l, _, hl⟩ := hw'; obtain ⟨_, kx, ky, k0, k1, k2, k3, k4, k5, k6, k7, k8, k9, ka, kb⟩ := hl; go_simp⟩) HS.out ?_
                            simp only [Act.put, List.setIfInBounds_toArray, List.set_cons_zero, List.set_cons_succ]
                            refine wpAnyL_takeD (fun _ => True) (i := 4) (v := (.int .i64 0)) (some 64) rfl rfl (by kernel_rfl) (by kernel_rfl) (by kernel_rfl) (fun _ _ _ h => h) (fun _ _ _ _ _ _ => trivial) (fun _ _ _ => Iff.rfl) trivial (Or.inl ⟨by rfl, fun w' hw' => by obtain ⟨l, _, hl⟩ := hw'; obtain ⟨_, kx, ky, k0, k1, k2, k3, k4, k5, k6, k7, k8, k9, ka, kb⟩ := hl; go_simp⟩) HS.out ?_
                            simp only [Act.put, List.setIfInBounds_toArray, List.set_cons_zero, List.set_cons_succ]
                            refine wpAnyL_takeD (fun _ => True) (i := 5) (v := (.bool false)) (some 65) rfl rfl (by kernel_rfl) (by kernel_rfl) (by kernel_rfl) (fun _ _ _ h => h) (fun _ _ _ _ _ _ => trivial) (fun _ _ _ => Iff.rfl) trivial (Or.inl ⟨by rfl, fun w' hw' => by obtain ⟨l, _, hl⟩ := hw'; obtain ⟨_, kx, ky, k0, k1, k2, k3, k4, k5, k6, k7, k8, k9, ka, kb⟩ := hl; go_simp⟩) HS.out ?_
                            simp only [Act.put, List.setIfInBounds_toArray, List.set_cons_zero, List.set_cons_succ]
                            refine wpAnyL_takeD (fun _ => True) (i := 6) (v := (.bool false)) (some 66) rfl rfl (by kernel_rfl) (by kernel_rfl) (by kernel_rfl) (fun _ _ _ h => h) (fun _ _ _ _ _ _ => trivial) (fun _ _ _ => Iff.rfl) trivial (Or.inl ⟨by rfl, fun w' hw' => by obtain ⟨l, _, hl⟩ := hw'; obtain ⟨_, kx, ky, k0, k1, k2, k3, k4, k5, k6, k7, k8, k9, ka, kb⟩ := hl; go_simp⟩) HS.out ?_
                            simp only [Act.put, List.setIfInBounds_toArray, List.set_cons_zero, List.set_cons_succ]
                            refine wpAnyL_takeD (fun _ => True) (i := 7) (v := undef) (some 67) rfl rfl (by kernel_rfl) (by kernel_rfl) (by kernel_rfl) (fun _ _ _ h => h) (fun _ _ _ _ _ _ => trivial) (fun _ _ _ => Iff.rfl) trivial (Or.inr ⟨by rfl, rfl⟩) HS.out ?_
                            simp only [Act.put, List.setIfInBounds_toArray, List.set_cons_zero, List.set_cons_succ]
                            refine wpAnyL_takeD (fun _ => True) (i := 8) (v := undef) (some 68) rfl rfl (by kernel_rfl) (by kernel_rfl) (by kernel_rfl) (fun _ _ _ h => h) (fun _ _ _ _ _ _ => trivial) (fun _ _ _ => Iff.rfl) trivial (Or.inr ⟨by rfl, rfl⟩) HS.out ?_
                            simp only [Act.put, List.setIfInBounds_toArray, List.set_cons_zero, List.set_cons_succ]
                            refine wpAnyL_takeD (fun _ => True) (i := 9) (v := undef) (some 69) rfl rfl (by kernel_rfl) (by kernel_rfl) (by kernel_rfl) (fun _ _ _ h => h) (fun _ _ _ _ _ _ => trivial) (fun _ _ _ => Iff.rfl) trivial (Or.inr ⟨by rfl, rfl⟩) HS.out ?_
                            simp only [Act.put, List.setIfInBounds_toArray, List.set_cons_zero, List.set_cons_succ]
                            refine wpAnyL_takeD (fun _ => True) (i := 10) (v := undef) (some 70) rfl rfl (by kernel_rfl) (by kernel_rfl) (by kernel_rfl) (fun _ _ _ h => h) (fun _ _ _ _ _ _ => trivial) (fun _ _ _ => Iff.rfl) trivial (Or.inr ⟨by rfl, rfl⟩) HS.out ?_
                            simp only [Act.put, List.setIfInBounds_toArray, List.set_cons_zero, List.set_cons_succ]
                            refine wpAnyL_takeD (fun _ => True) (i := 11) (v := undef) (some 71) rfl rfl (by kernel_rfl) (by kernel_rfl) (by kernel_rfl) (fun _ _ _ h => h) (fun _ _ _ _ _ _ => trivial) (fun _ _ _ => Iff.rfl) trivial (Or.inr ⟨by rfl, rfl⟩) HS.out ?_
                            simp only [Act.put, List.setIfInBounds_toArray, List.set_cons_zero, List.set_cons_succ]
                            refine wpAnyL_takeD (fun _ => True) (i := 12) (v := undef) (some 72) rfl rfl (by kernel_rfl) (by kernel_rfl) (by kernel_rfl) (fun _ _ _ h => h) (fun _ _ _ _ _ _ => trivial) (fun _ _ _ => Iff.rfl) trivial (Or.inr ⟨by rfl, rfl⟩) HS.out ?_
                            simp only [Act.put, List.setIfInBounds_toArray, List.set_cons_zero, List.set_cons_succ]
                            refine wpAnyL_takeD (fun _ => True) (i := 13) (v := undef) (some 73) rfl rfl (by kernel_rfl) (by kernel_rfl) (by kernel_rfl) (fun _ _ _ h => h) (fun _ _ _ _ _ _ => trivial) (fun _ _ _ => Iff.rfl) trivial (Or.inr ⟨by rfl, rfl⟩) HS.out ?_
                            simp only [Act.put, List.setIfInBounds_toArray, List.set_cons_zero, List.set_cons_succ]
                            refine wpAnyL_takeD (fun _ => True) (i := 14) (v := undef) (some 74) rfl rfl (by kernel_rfl) (by kernel_rfl) (by kernel_rfl) (fun _ _ _ h => h) (fun _ _ _ _ _ _ => trivial) (fun _ _ _ => Iff.rfl) trivial (Or.inr ⟨by rfl, rfl⟩) HS.out ?_
                            simp only [Act.put, List.setIfInBounds_toArray, List.set_cons_zero, List.set_cons_succ]
                            refine wpAnyL_takeD (fun _ => True) (i := 15) (v := undef) (some 75) rfl rfl (by kernel_rfl) (by kernel_rfl) (by kernel_rfl) (fun _ _ _ h => h) (fun _ _ _ _ _ _ => trivial) (fun _ _ _ => Iff.rfl) trivial (Or.inr ⟨by rfl, rfl⟩) HS.out ?_
                            simp only [Act.put, List.setIfInBounds_toArray, List.set_cons_zero, List.set_cons_succ]
                            refine wpAnyL_takeD (fun _ => True) (i := 16) (v := undef) (some 76) rfl rfl (by kernel_rfl) (by kernel_rfl) (by kernel_rfl) (fun _ _ _ h => h) (fun _ _ _ _ _ _ => trivial) (fun _ _ _ => Iff.rfl) trivial (Or.inr ⟨by rfl, rfl⟩) HS.out ?_
                            simp only [Act.put, List.setIfInBounds_toArray, List.set_cons_zero, List.set_cons_succ]
                            refine wpAnyL_takeD (fun _ => True) (i := 17) (v := (.bool false)) (some 77) rfl rfl (by kernel_rfl) (by kernel_rfl) (by kernel_rfl) (fun _ _ _ h => h) (fun _ _ _ _ _ _ => trivial) (fun _ _ _ => Iff.rfl) trivial (Or.inl ⟨by rfl, fun w' hw' => by obtain ⟨l, _, hl⟩ := hw'; obtain ⟨_, kx, ky, k0, k1, k2, k3, k4, k5, k6, k7, k8, k9, ka, kb⟩ := hl; go_simp⟩) HS.out ?_
                            simp only [Act.put, List.setIfInBounds_toArray, List.set_cons_zero, List.set_cons_succ]
                            refine wpAnyL_takeD (fun _ => True) (i := 18) (v := (.bool false)) (some 78) rfl rfl (by kernel_rfl) (by kernel_rfl) (by kernel_rfl) (fun _ _ _ h => h) (fun _ _ _ _ _ _ => trivial) (fun _ _ _ => Iff.rfl) trivial (Or.inl ⟨by rfl, fun w' hw' => by obtain ⟨l, _, hl⟩ := hw'; obtain ⟨_, kx, ky, k0, k1, k2, k3, k4, k5, k6, k7, k8, k9, ka, kb⟩ := hl; go_simp⟩) HS.out ?_
                            simp only [Act.put, List.setIfInBounds_toArray, List.set_cons_zero, List.set_cons_succ]
                            refine wpAnyL_done (by decide +kernel) ?_ _
                            clear MK HS
                            go_wp2
                            go_roundw
                            case rel => exact ⟨1, by go_num, by omega, good_next HG.out HGD.out, bt hb2 hbp⟩
                            case measure => simp [intOf]; omega
                          · have hd0 : decide ((0 : Int) < (i : Int)) = true := by simp; omega
                            have q1 : (1 : Int) ≤ (i : Int) := by omega
                            have q2 : ((i : Int) - 1).toNat = i - 1 := by omega
                            have q3 : IntKind.i64.wrap ((i : Int) - 1) = (i : Int) - 1 := IntWalk.i64_in _ (by omega)
                            have q4 : ¬ ((n : Int) ≤ (i : Int) - 1) := by omega
                            have q5 : 0 < i := by omega
                            obtain ⟨p, hp⟩ : ∃ p, add[i - 1]? = some p := ⟨_, List.getElem?_eq_getElem (by rw [HLN.out]; omega)⟩
                            obtain ⟨_, e1, _, pc, _⟩ := (hr1.add.below hb2).ent hp
                            cases e1
                            have hplt : (ad.add ((i - 1) * 12)).block < wx.heap.size := by rw [block_of_add]; have := hb2.size; omega
                            generalize hpid : p.id = pid at *
                            by_cases hle : id ≤ pid
                            · have HR := Lib.hid (HBAD.out (.inl (bad_asc (by omega) HE.out hp (by rw [hpid]; exact hle))))
                              clear hp hpid
                              have hdl : decide (id ≤ pid) = true := by simpa using hle
                              have MK : Hid (∀ w', Below wx.heap.size wx w' → (Below wx.heap.size wx w' ∧ w'.cell? (ad.add ((i - 1) * 12)) = some (.int .i64 pid) ∧ w'.cell? ⟨w.heap.size, 4, none⟩ = some (.slice (some ad) n c) ∧ w'.cell? ⟨wr.heap.size, 0, none⟩ = some (.int .i64 id) ∧ w'.cell? ⟨wr.heap.size, 1, none⟩ = some (.int .i64 rows) ∧ w'.cell? ⟨wr.heap.size, 2, none⟩ = some (.int .i64 live) ∧ w'.cell? ⟨wr.heap.size, 3, none⟩ = some (.bool ln) ∧ w'.cell? ⟨wr.heap.size, 4, none⟩ = some (.int .i64 li) ∧ w'.cell? ⟨wr.heap.size, 5, none⟩ = some (.string lz) ∧ w'.cell? ⟨wr.heap.size, 6, none⟩ = some (.int .i64 lq) ∧ w'.cell? ⟨wr.heap.size, 7, none⟩ = some (.bool hn) ∧ w'.cell? ⟨wr.heap.size, 8, none⟩ = some (.int .i64 hi) ∧ w'.cell? ⟨wr.heap.size, 9, none⟩ = some (.string hz) ∧ w'.cell? ⟨wr.heap.size, 10, none⟩ = some (.int .i64 hq) ∧ w'.cell? ⟨wr.heap.size, 11, none⟩ = some (.int .i64 del))) := fun w' h => by
                                have hk := hE.call h
                                exact ⟨h, (h.cell hplt).trans pc, (hRx.call h).cellAt 4 rfl, hk.cellAt 0 rfl, hk.cellAt 1 rfl, hk.cellAt 2 rfl, hk.cellAt 3 rfl, hk.cellAt 4 rfl, hk.cellAt 5 rfl, hk.cellAt 6 rfl, hk.cellAt 7 rfl, hk.cellAt 8 rfl, hk.cellAt 9 rfl, hk.cellAt 10 rfl, hk.cellAt 11 rfl⟩
                              refine wp_region_L (fun _ w' => Below wx.heap.size wx w' ∧ w'.cell? (ad.add ((i - 1) * 12)) = some (.int .i64 pid) ∧ w'.cell? ⟨w.heap.size, 4, none⟩ = some (.slice (some ad) n c) ∧ w'.cell? ⟨wr.heap.size, 0, none⟩ = some (.int .i64 id) ∧ w'.cell? ⟨wr.heap.size, 1, none⟩ = some (.int .i64 rows) ∧ w'.cell? ⟨wr.heap.size, 2, none⟩ = some (.int .i64 live) ∧ w'.cell? ⟨wr.heap.size, 3, none⟩ = some (.bool ln) ∧ w'.cell? ⟨wr.heap.size, 4, none⟩ = some (.int .i64 li) ∧ w'.cell? ⟨wr.heap.size, 5, none⟩ = some (.string lz) ∧ w'.cell? ⟨wr.heap.size, 6, none⟩ = some (.int .i64 lq) ∧ w'.cell? ⟨wr.heap.size, 7, none⟩ = some (.bool hn) ∧ w'.cell? ⟨wr.heap.size, 8, none⟩ = some (.int .i64 hi) ∧ w'.cell? ⟨wr.heap.size, 9, none⟩ = some (.string hz) ∧ w'.cell? ⟨wr.heap.size, 10, none⟩ = some (.int .i64 hq) ∧ w'.cell? ⟨wr.heap.size, 11, none⟩ = some (.int .i64 del)) (by kernel_rfl) ?_
                              have hbp : Below wx.heap.size wx wx.drew := Below.drew (Below.refl _ _)
                              generalize wx.drew = wy at *
                              have HS := Lib.hid (MK.out _ hbp)
                              refine wpAnyL_takeD (fun _ => True) (i := 0) (v := (.agg #[.int .i64 id, .int .i64 rows, .int .i64 live, .bool ln, .int .i64 li, .string lz, .int .i64 lq, .bool hn, .int .i64 hi, .string hz, .int .i64 hq, .int .i64 del])) (some 60) rfl rfl (by kernel_rfl) (by kernel_rfl) (by kernel_rfl) (fun _ _ _ h => h) (fun _ _ _ _ _ _ => trivial) (fun _ _ _ => Iff.rfl) trivial (Or.inl ⟨by rfl, fun w' hw' => by obtain ⟨l, _, hl⟩ := hw'; obtain ⟨_, kx, ky, k0, k1, k2, k3, k4, k5, k6, k7, k8, k9, ka, kb⟩ := hl; go_simp⟩) HS.out ?_
                              simp only [Act.put, List.setIfInBounds_toArray, List.set_cons_zero, List.set_cons_succ]
                              refine wpAnyL_one (i := 1) (by decide +kernel) ?_
                              refine wpOp_go (o := _) rfl (fun K hK => ?_)
                              go_simp
                              go_at_call 17
                              refine (HC.out _).mono ?_; rintro e wy ⟨rfl, hb3⟩
                              replace hbp := bt hbp hb3
                              refine hK _ _ ⟨MK.out _ hbp, ?_⟩
                              replace HS := Lib.hid (MK.out _ hbp)
                              clear hK K hb3
                              refine wpAnyL_takeD (fun _ => True) (i := 2) (v := (.bool false)) (some 62) rfl rfl (by kernel_rfl) (by kernel_rfl) (by kernel_rfl) (fun _ _ _ h => h) (fun _ _ _ _ _ _ => trivial) (fun _ _ _ => Iff.rfl) trivial (Or.inl ⟨by rfl, fun w' hw' => by obtain ⟨l, _, hl⟩ := hw'; obtain ⟨_, kx, ky, k0, k1, k2, k3, k4, k5, k6, k7, k8, k9, ka, kb⟩ := hl; go_simp⟩) HS.out ?_
                              simp only [Act.put, List.setIfInBounds_toArray, List.set_cons_zero, List.set_cons_succ]
                              refine wpAnyL_takeD (fun _ => True) (i := 3) (v := (.bool false)) (some 63) rfl rfl (by kernel_rfl) (by kernel_rfl) (by kernel_rfl) (fun _ _ _ h => h) (fun _ _ _ _ _ _ => trivial) (fun _ _ _ => Iff.rfl) trivial (Or.inl ⟨by rfl, fun w' hw' => by obtain ⟨l, _, hl⟩ := hw'; obtain ⟨_, kx, ky, k0, k1, k2, k3, k4, k5, k6, k7, k8, k9, ka, kb⟩ := hl; go_simp⟩) HS.out ?_
                              simp only [Act.put, List.setIfInBounds_toArray, List.set_cons_zero, List.set_cons_succ]
                              refine wpAnyL_takeD (fun _ => True) (i := 4) (v := (.int .i64 (i : Int))) (some 64) rfl rfl (by kernel_rfl) (by kernel_rfl) (by kernel_rfl) (fun _ _ _ h => h) (fun _ _ _ _ _ _ => trivial) (fun _ _ _ => Iff.rfl) trivial (Or.inl ⟨by rfl, fun w' hw' => by obtain ⟨l, _, hl⟩ := hw'; obtain ⟨_, kx, ky, k0, k1, k2, k3, k4, k5, k6, k7, k8, k9, ka, kb⟩ := hl; go_simp⟩) HS.out ?_
                              simp only [Act.put, List.setIfInBounds_toArray, List.set_cons_zero, List.set_cons_succ]
                              refine wpAnyL_takeD (fun _ => True) (i := 5) (v := (.bool true)) (some 65) rfl rfl (by kernel_rfl) (by kernel_rfl) (by kernel_rfl) (fun _ _ _ h => h) (fun _ _ _ _ _ _ => trivial) (fun _ _ _ => Iff.rfl) trivial (Or.inl ⟨by rfl, fun w' hw' => by obtain ⟨l, _, hl⟩ := hw'; obtain ⟨_, kx, ky, k0, k1, k2, k3, k4, k5, k6, k7, k8, k9, ka, kb⟩ := hl; go_simp⟩) HS.out ?_
                              simp only [Act.put, List.setIfInBounds_toArray, List.set_cons_zero, List.set_cons_succ]
                              refine wpAnyL_takeD (fun _ => True) (i := 6) (v := (.bool true)) (some 66) rfl rfl (by kernel_rfl) (by kernel_rfl) (by kernel_rfl) (fun _ _ _ h => h) (fun _ _ _ _ _ _ => trivial) (fun _ _ _ => Iff.rfl) trivial (Or.inl ⟨by rfl, fun w' hw' => by obtain ⟨l, _, hl⟩ := hw'; obtain ⟨_, kx, ky, k0, k1, k2, k3, k4, k5, k6, k7, k8, k9, ka, kb⟩ := hl; go_simp⟩) HS.out ?_
                              simp only [Act.put, List.setIfInBounds_toArray, List.set_cons_zero, List.set_cons_succ]
                              refine wpAnyL_takeD (fun _ => True) (i := 7) (v := (.pointer (some ⟨wr.heap.size, 0, none⟩))) (some 67) rfl rfl (by kernel_rfl) (by kernel_rfl) (by kernel_rfl) (fun _ _ _ h => h) (fun _ _ _ _ _ _ => trivial) (fun _ _ _ => Iff.rfl) trivial (Or.inl ⟨by rfl, fun w' hw' => by obtain ⟨l, _, hl⟩ := hw'; obtain ⟨_, kx, ky, k0, k1, k2, k3, k4, k5, k6, k7, k8, k9, ka, kb⟩ := hl; go_simp⟩) HS.out ?_
                              simp only [Act.put, List.setIfInBounds_toArray, List.set_cons_zero, List.set_cons_succ]
                              refine wpAnyL_takeD (fun _ => True) (i := 8) (v := (.int .i64 id)) (some 68) rfl rfl (by kernel_rfl) (by kernel_rfl) (by kernel_rfl) (fun _ _ _ h => h) (fun _ _ _ _ _ _ => trivial) (fun _ _ _ => Iff.rfl) trivial (Or.inl ⟨by rfl, fun w' hw' => by obtain ⟨l, _, hl⟩ := hw'; obtain ⟨_, kx, ky, k0, k1, k2, k3, k4, k5, k6, k7, k8, k9, ka, kb⟩ := hl; go_simp⟩) HS.out ?_
                              simp only [Act.put, List.setIfInBounds_toArray, List.set_cons_zero, List.set_cons_succ]
                              refine wpAnyL_takeD (fun _ => True) (i := 9) (v := (.pointer (some ⟨w.heap.size, 4, none⟩))) (some 69) rfl rfl (by kernel_rfl) (by kernel_rfl) (by kernel_rfl) (fun _ _ _ h => h) (fun _ _ _ _ _ _ => trivial) (fun _ _ _ => Iff.rfl) trivial (Or.inl ⟨by rfl, fun w' hw' => by obtain ⟨l, _, hl⟩ := hw'; obtain ⟨_, kx, ky, k0, k1, k2, k3, k4, k5, k6, k7, k8, k9, ka, kb⟩ := hl; go_simp⟩) HS.out ?_
                              simp only [Act.put, List.setIfInBounds_toArray, List.set_cons_zero, List.set_cons_succ]
                              refine wpAnyL_takeD (fun _ => True) (i := 10) (v := (.slice (some ad) n c)) (some 70) rfl rfl (by kernel_rfl) (by kernel_rfl) (by kernel_rfl) (fun _ _ _ h => h) (fun _ _ _ _ _ _ => trivial) (fun _ _ _ => Iff.rfl) trivial (Or.inl ⟨by rfl, fun w' hw' => by obtain ⟨l, _, hl⟩ := hw'; obtain ⟨_, kx, ky, k0, k1, k2, k3, k4, k5, k6, k7, k8, k9, ka, kb⟩ := hl; go_simp⟩) HS.out ?_
                              simp only [Act.put, List.setIfInBounds_toArray, List.set_cons_zero, List.set_cons_succ]
                              refine wpAnyL_takeD (fun _ => True) (i := 11) (v := (.int .i64 (i : Int))) (some 71) rfl rfl (by kernel_rfl) (by kernel_rfl) (by kernel_rfl) (fun _ _ _ h => h) (fun _ _ _ _ _ _ => trivial) (fun _ _ _ => Iff.rfl) trivial (Or.inl ⟨by rfl, fun w' hw' => by obtain ⟨l, _, hl⟩ := hw'; obtain ⟨_, kx, ky, k0, k1, k2, k3, k4, k5, k6, k7, k8, k9, ka, kb⟩ := hl; go_simp⟩) HS.out ?_
                              simp only [Act.put, List.setIfInBounds_toArray, List.set_cons_zero, List.set_cons_succ]
                              refine wpAnyL_takeD (fun _ => True) (i := 12) (v := (.int .i64 ((i : Int) - 1))) (some 72) rfl rfl (by kernel_rfl) (by kernel_rfl) (by kernel_rfl) (fun _ _ _ h => h) (fun _ _ _ _ _ _ => trivial) (fun _ _ _ => Iff.rfl) trivial (Or.inl ⟨by rfl, fun w' hw' => by obtain ⟨l, _, hl⟩ := hw'; obtain ⟨_, kx, ky, k0, k1, k2, k3, k4, k5, k6, k7, k8, k9, ka, kb⟩ := hl; go_simp⟩) HS.out ?_
                              simp only [Act.put, List.setIfInBounds_toArray, List.set_cons_zero, List.set_cons_succ]
                              refine wpAnyL_takeD (fun _ => True) (i := 13) (v := (.pointer (some (ad.add ((i - 1) * 12))))) (some 73) rfl rfl (by kernel_rfl) (by kernel_rfl) (by kernel_rfl) (fun _ _ _ h => h) (fun _ _ _ _ _ _ => trivial) (fun _ _ _ => Iff.rfl) trivial (Or.inl ⟨by rfl, fun w' hw' => by obtain ⟨l, _, hl⟩ := hw'; obtain ⟨_, kx, ky, k0, k1, k2, k3, k4, k5, k6, k7, k8, k9, ka, kb⟩ := hl; go_simp⟩) HS.out ?_
                              simp only [Act.put, List.setIfInBounds_toArray, List.set_cons_zero, List.set_cons_succ]
                              refine wpAnyL_takeD (fun _ => True) (i := 14) (v := (.pointer (some (ad.add ((i - 1) * 12))))) (some 74) rfl rfl (by kernel_rfl) (by kernel_rfl) (by kernel_rfl) (fun _ _ _ h => h) (fun _ _ _ _ _ _ => trivial) (fun _ _ _ => Iff.rfl) trivial (Or.inl ⟨by rfl, fun w' hw' => by obtain ⟨l, _, hl⟩ := hw'; obtain ⟨_, kx, ky, k0, k1, k2, k3, k4, k5, k6, k7, k8, k9, ka, kb⟩ := hl; go_simp⟩) HS.out ?_
                              simp only [Act.put, List.setIfInBounds_toArray, List.set_cons_zero, List.set_cons_succ]
                              refine wpAnyL_takeD (fun _ => True) (i := 15) (v := (.int .i64 pid)) (some 75) rfl rfl (by kernel_rfl) (by kernel_rfl) (by kernel_rfl) (fun _ _ _ h => h) (fun _ _ _ _ _ _ => trivial) (fun _ _ _ => Iff.rfl) trivial (Or.inl ⟨by rfl, fun w' hw' => by obtain ⟨l, _, hl⟩ := hw'; obtain ⟨_, kx, ky, k0, k1, k2, k3, k4, k5, k6, k7, k8, k9, ka, kb⟩ := hl; go_simp⟩) HS.out ?_
                              simp only [Act.put, List.setIfInBounds_toArray, List.set_cons_zero, List.set_cons_succ]
                              refine wpAnyL_takeD (fun _ => True) (i := 16) (v := (.bool true)) (some 76) rfl rfl (by kernel_rfl) (by kernel_rfl) (by kernel_rfl) (fun _ _ _ h => h) (fun _ _ _ _ _ _ => trivial) (fun _ _ _ => Iff.rfl) trivial (Or.inl ⟨by rfl, fun w' hw' => by obtain ⟨l, _, hl⟩ := hw'; obtain ⟨_, kx, ky, k0, k1, k2, k3, k4, k5, k6, k7, k8, k9, ka, kb⟩ := hl; go_simp⟩) HS.out ?_
                              simp only [Act.put, List.setIfInBounds_toArray, List.set_cons_zero, List.set_cons_succ]
                              refine wpAnyL_takeD (fun _ => True) (i := 17) (v := (.bool true)) (some 77) rfl rfl (by kernel_rfl) (by kernel_rfl) (by kernel_rfl) (fun _ _ _ h => h) (fun _ _ _ _ _ _ => trivial) (fun _ _ _ => Iff.rfl) trivial (Or.inl ⟨by rfl, fun w' hw' => by obtain ⟨l, _, hl⟩ := hw'; obtain ⟨_, kx, ky, k0, k1, k2, k3, k4, k5, k6, k7, k8, k9, ka, kb⟩ := hl; go_simp⟩) HS.out ?_
                              simp only [Act.put, List.setIfInBounds_toArray, List.set_cons_zero, List.set_cons_succ]
                              refine wpAnyL_takeD (fun _ => True) (i := 18) (v := (.bool true)) (some 78) rfl rfl (by kernel_rfl) (by kernel_rfl) (by kernel_rfl) (fun _ _ _ h => h) (fun _ _ _ _ _ _ => trivial) (fun _ _ _ => Iff.rfl) trivial (Or.inl ⟨by rfl, fun w' hw' => by obtain ⟨l, _, hl⟩ := hw'; obtain ⟨_, kx, ky, k0, k1, k2, k3, k4, k5, k6, k7, k8, k9, ka, kb⟩ := hl; go_simp⟩) HS.out ?_
                              simp only [Act.put, List.setIfInBounds_toArray, List.set_cons_zero, List.set_cons_succ]
                              refine wpAnyL_done (by decide +kernel) ?_ _
                              clear MK HS q3 q4
                              go_wp2
                              go_ret
                              exact ⟨by rw [HR.out] <;> rfl, bt hbel (bt hb2 hbp)⟩
                            · have HGD : Hid (goodE add i) := good_more HE.out HBB.out.symm hp (by rw [hpid]; show pid < id; omega)
                              clear hp hpid
                              have hdl : decide (id ≤ pid) = false := by simpa using hle
                              have MK : Hid (∀ w', Below wx.heap.size wx w' → (Below wx.heap.size wx w' ∧ w'.cell? (ad.add ((i - 1) * 12)) = some (.int .i64 pid) ∧ w'.cell? ⟨w.heap.size, 4, none⟩ = some (.slice (some ad) n c) ∧ w'.cell? ⟨wr.heap.size, 0, none⟩ = some (.int .i64 id) ∧ w'.cell? ⟨wr.heap.size, 1, none⟩ = some (.int .i64 rows) ∧ w'.cell? ⟨wr.heap.size, 2, none⟩ = some (.int .i64 live) ∧ w'.cell? ⟨wr.heap.size, 3, none⟩ = some (.bool ln) ∧ w'.cell? ⟨wr.heap.size, 4, none⟩ = some (.int .i64 li) ∧ w'.cell? ⟨wr.heap.size, 5, none⟩ = some (.string lz) ∧ w'.cell? ⟨wr.heap.size, 6, none⟩ = some (.int .i64 lq) ∧ w'.cell? ⟨wr.heap.size, 7, none⟩ = some (.bool hn) ∧ w'.cell? ⟨wr.heap.size, 8, none⟩ = some (.int .i64 hi) ∧ w'.cell? ⟨wr.heap.size, 9, none⟩ = some (.string hz) ∧ w'.cell? ⟨wr.heap.size, 10, none⟩ = some (.int .i64 hq) ∧ w'.cell? ⟨wr.heap.size, 11, none⟩ = some (.int .i64 del))) := fun w' h => by
                                have hk := hE.call h
                                exact ⟨h, (h.cell hplt).trans pc, (hRx.call h).cellAt 4 rfl, hk.cellAt 0 rfl, hk.cellAt 1 rfl, hk.cellAt 2 rfl, hk.cellAt 3 rfl, hk.cellAt 4 rfl, hk.cellAt 5 rfl, hk.cellAt 6 rfl, hk.cellAt 7 rfl, hk.cellAt 8 rfl, hk.cellAt 9 rfl, hk.cellAt 10 rfl, hk.cellAt 11 rfl⟩
                              refine wp_region_L (fun _ w' => Below wx.heap.size wx w' ∧ w'.cell? (ad.add ((i - 1) * 12)) = some (.int .i64 pid) ∧ w'.cell? ⟨w.heap.size, 4, none⟩ = some (.slice (some ad) n c) ∧ w'.cell? ⟨wr.heap.size, 0, none⟩ = some (.int .i64 id) ∧ w'.cell? ⟨wr.heap.size, 1, none⟩ = some (.int .i64 rows) ∧ w'.cell? ⟨wr.heap.size, 2, none⟩ = some (.int .i64 live) ∧ w'.cell? ⟨wr.heap.size, 3, none⟩ = some (.bool ln) ∧ w'.cell? ⟨wr.heap.size, 4, none⟩ = some (.int .i64 li) ∧ w'.cell? ⟨wr.heap.size, 5, none⟩ = some (.string lz) ∧ w'.cell? ⟨wr.heap.size, 6, none⟩ = some (.int .i64 lq) ∧ w'.cell? ⟨wr.heap.size, 7, none⟩ = some (.bool hn) ∧ w'.cell? ⟨wr.heap.size, 8, none⟩ = some (.int .i64 hi) ∧ w'.cell? ⟨wr.heap.size, 9, none⟩ = some (.string hz) ∧ w'.cell? ⟨wr.heap.size, 10, none⟩ = some (.int .i64 hq) ∧ w'.cell? ⟨wr.heap.size, 11, none⟩ = some (.int .i64 del)) (by kernel_rfl) ?_
                              have hbp : Below wx.heap.size wx wx.drew := Below.drew (Below.refl _ _)
                              generalize wx.drew = wy at *
                              have HS := Lib.hid (MK.out _ hbp)
                              refine wpAnyL_takeD (fun _ => True) (i := 0) (v := (.agg #[.int .i64 id, .int .i64 rows, .int .i64 live, .bool ln, .int .i64 li, .string lz, .int .i64 lq, .bool hn, .int .i64 hi, .string hz, .int .i64 hq, .int .i64 del])) (some 60) rfl rfl (by kernel_rfl) (by kernel_rfl) (by kernel_rfl) (fun _ _ _ h => h) (fun _ _ _ _ _ _ => trivial) (fun _ _ _ => Iff.rfl) trivial (Or.inl ⟨by rfl, fun w' hw' => by obtain ⟨l, _, hl⟩ := hw'; obtain ⟨_, kx, ky, k0, k1, k2, k3, k4, k5, k6, k7, k8, k9, ka, kb⟩ := hl; go_simp⟩) HS.out ?_
                              simp only [Act.put, List.setIfInBounds_toArray, List.set_cons_zero, List.set_cons_succ]
                              refine wpAnyL_one (i := 1) (by decide +kernel) ?_
                              refine wpOp_go (o := _) rfl (fun K hK => ?_)
                              go_simp
                              go_at_call 17
                              refine (HC.out _).mono ?_; rintro e wy ⟨rfl, hb3⟩
                              replace hbp := bt hbp hb3
                              refine hK _ _ ⟨MK.out _ hbp, ?_⟩
                              replace HS := Lib.hid (MK.out _ hbp)
                              clear hK K hb3
                              refine wpAnyL_takeD (fun _ => True) (i := 2) (v := (.bool false)) (some 62) rfl rfl (by kernel_rfl) (by kernel_rfl) (by kernel_rfl) (fun _ _ _ h => h) (fun _ _ _ _ _ _ => trivial) (fun _ _ _ => Iff.rfl) trivial (Or.inl ⟨by rfl, fun w' hw' => by obtain ⟨l, _, hl⟩ := hw'; obtain ⟨_, kx, ky, k0, k1, k2, k3, k4, k5, k6, k7, k8, k9, ka, kb⟩ := hl; go_simp⟩) HS.out ?_
                              simp only [Act.put, List.setIfInBounds_toArray, List.set_cons_zero, List.set_cons_succ]
                              refine wpAnyL_takeD (fun _ => True) (i := 3) (v := (.bool false)) (some 63) rfl rfl (by kernel_rfl) (by kernel_rfl) (by kernel_rfl) (fun _ _ _ h => h) (fun _ _ _ _ _ _ => trivial) (fun _ _ _ => Iff.rfl) trivial (Or.inl ⟨by rfl, fun w' hw' => by obtain ⟨l, _, hl⟩ := hw'; obtain ⟨_, kx, ky, k0, k1, k2, k3, k4, k5, k6, k7, k8, k9, ka, kb⟩ := hl; go_simp⟩) HS.out ?_
                              simp only [Act.put, List.setIfInBounds_toArray, List.set_cons_zero, List.set_cons_succ]
                              refine wpAnyL_takeD (fun _ => True) (i := 4) (v := (.int .i64 (i : Int))) (some 64) rfl rfl (by kernel_rfl) (by kernel_rfl) (by kernel_rfl) (fun _ _ _ h => h) (fun _ _ _ _ _ _ => trivial) (fun _ _ _ => Iff.rfl) trivial (Or.inl ⟨by rfl, fun w' hw' => by obtain ⟨l, _, hl⟩ := hw'; obtain ⟨_, kx, ky, k0, k1, k2, k3, k4, k5, k6, k7, k8, k9, ka, kb⟩ := hl; go_simp⟩) HS.out ?_
                              simp only [Act.put, List.setIfInBounds_toArray, List.set_cons_zero, List.set_cons_succ]
                              refine wpAnyL_takeD (fun _ => True) (i := 5) (v := (.bool true)) (some 65) rfl rfl (by kernel_rfl) (by kernel_rfl) (by kernel_rfl) (fun _ _ _ h => h) (fun _ _ _ _ _ _ => trivial) (fun _ _ _ => Iff.rfl) trivial (Or.inl ⟨by rfl, fun w' hw' => by obtain ⟨l, _, hl⟩ := hw'; obtain ⟨_, kx, ky, k0, k1, k2, k3, k4, k5, k6, k7, k8, k9, ka, kb⟩ := hl; go_simp⟩) HS.out ?_
                              simp only [Act.put, List.setIfInBounds_toArray, List.set_cons_zero, List.set_cons_succ]
                              refine wpAnyL_takeD (fun _ => True) (i := 6) (v := (.bool true)) (some 66) rfl rfl (by kernel_rfl) (by kernel_rfl) (by kernel_rfl) (fun _ _ _ h => h) (fun _ _ _ _ _ _ => trivial) (fun _ _ _ => Iff.rfl) trivial (Or.inl ⟨by rfl, fun w' hw' => by obtain ⟨l, _, hl⟩ := hw'; obtain ⟨_, kx, ky, k0, k1, k2, k3, k4, k5, k6, k7, k8, k9, ka, kb⟩ := hl; go_simp⟩) HS.out ?_
                              simp only [Act.put, List.setIfInBounds_toArray, List.set_cons_zero, List.set_cons_succ]
                              refine wpAnyL_takeD (fun _ => True) (i := 7) (v := (.pointer (some ⟨wr.heap.size, 0, none⟩))) (some 67) rfl rfl (by kernel_rfl) (by kernel_rfl) (by kernel_rfl) (fun _ _ _ h => h) (fun _ _ _ _ _ _ => trivial) (fun _ _ _ => Iff.rfl) trivial (Or.inl ⟨by rfl, fun w' hw' => by obtain ⟨l, _, hl⟩ := hw'; obtain ⟨_, kx, ky, k0, k1, k2, k3, k4, k5, k6, k7, k8, k9, ka, kb⟩ := hl; go_simp⟩) HS.out ?_
                              simp only [Act.put, List.setIfInBounds_toArray, List.set_cons_zero, List.set_cons_succ]
                              refine wpAnyL_takeD (fun _ => True) (i := 8) (v := (.int .i64 id)) (some 68) rfl rfl (by kernel_rfl) (by kernel_rfl) (by kernel_rfl) (fun _ _ _ h => h) (fun _ _ _ _ _ _ => trivial) (fun _ _ _ => Iff.rfl) trivial (Or.inl ⟨by rfl, fun w' hw' => by obtain ⟨l, _, hl⟩ := hw'; obtain ⟨_, kx, ky, k0, k1, k2, k3, k4, k5, k6, k7, k8, k9, ka, kb⟩ := hl; go_simp⟩) HS.out ?_
                              simp only [Act.put, List.setIfInBounds_toArray, List.set_cons_zero, List.set_cons_succ]
                              refine wpAnyL_takeD (fun _ => True) (i := 9) (v := (.pointer (some ⟨w.heap.size, 4, none⟩))) (some 69) rfl rfl (by kernel_rfl) (by kernel_rfl) (by kernel_rfl) (fun _ _ _ h => h) (fun _ _ _ _ _ _ => trivial) (fun _ _ _ => Iff.rfl) trivial (Or.inl ⟨by rfl, fun w' hw' => by obtain ⟨l, _, hl⟩ := hw'; obtain ⟨_, kx, ky, k0, k1, k2, k3, k4, k5, k6, k7, k8, k9, ka, kb⟩ := hl; go_simp⟩) HS.out ?_
                              simp only [Act.put, List.setIfInBounds_toArray, List.set_cons_zero, List.set_cons_succ]
                              refine wpAnyL_takeD (fun _ => True) (i := 10) (v := (.slice (some ad) n c)) (some 70) rfl rfl (by kernel_rfl) (by kernel_rfl) (by kernel_rfl) (fun _ _ _ h => h) (fun _ _ _ _ _ _ => trivial) (fun _ _ _ => Iff.rfl) trivial (Or.inl ⟨by rfl, fun w' hw' => by obtain ⟨l, _, hl⟩ := hw'; obtain ⟨_, kx, ky, k0, k1, k2, k3, k4, k5, k6, k7, k8, k9, ka, kb⟩ := hl; go_simp⟩) HS.out ?_
                              simp only [Act.put, List.setIfInBounds_toArray, List.set_cons_zero, List.set_cons_succ]
                              refine wpAnyL_takeD (fun _ => True) (i := 11) (v := (.int .i64 (i : Int))) (some 71) rfl rfl (by kernel_rfl) (by kernel_rfl) (by kernel_rfl) (fun _ _ _ h => h) (fun _ _ _ _ _ _ => trivial) (fun _ _ _ => Iff.rfl) trivial (Or.inl ⟨by rfl, fun w' hw' => by obtain ⟨l, _, hl⟩ := hw'; obtain ⟨_, kx, ky, k0, k1, k2, k3, k4, k5, k6, k7, k8, k9, ka, kb⟩ := hl; go_simp⟩) HS.out ?_
                              simp only [Act.put, List.setIfInBounds_toArray, List.set_cons_zero, List.set_cons_succ]
                              refine wpAnyL_takeD (fun _ => True) (i := 12) (v := (.int .i64 ((i : Int) - 1))) (some 72) rfl rfl (by kernel_rfl) (by kernel_rfl) (by kernel_rfl) (fun _ _ _ h => h) (fun _ _ _ _ _ _ => trivial) (fun _ _ _ => Iff.rfl) trivial (Or.inl ⟨by rfl, fun w' hw' => by obtain ⟨l, _, hl⟩ := hw'; obtain ⟨_, kx, ky, k0, k1, k2, k3, k4, k5, k6, k7, k8, k9, ka, kb⟩ := hl; go_simp⟩) HS.out ?_
                              simp only [Act.put, List.setIfInBounds_toArray, List.set_cons_zero, List.set_cons_succ]
                              refine wpAnyL_takeD (fun _ => True) (i := 13) (v := (.pointer (some (ad.add ((i - 1) * 12))))) (some 73) rfl rfl (by kernel_rfl) (by kernel_rfl) (by kernel_rfl) (fun _ _ _ h => h) (fun _ _ _ _ _ _ => trivial) (fun _ _ _ => Iff.rfl) trivial (Or.inl ⟨by rfl, fun w' hw' => by obtain ⟨l, _, hl⟩ := hw'; obtain ⟨_, kx, ky, k0, k1, k2, k3, k4, k5, k6, k7, k8, k9, ka, kb⟩ := hl; go_simp⟩) HS.out ?_
                              simp only [Act.put, List.setIfInBounds_toArray, List.set_cons_zero, List.set_cons_succ]
                              refine wpAnyL_takeD (fun _ => True) (i := 14) (v := (.pointer (some (ad.add ((i - 1) * 12))))) (some 74) rfl rfl (by kernel_rfl) (by kernel_rfl) (by kernel_rfl) (fun _ _ _ h => h) (fun _ _ _ _ _ _ => trivial) (fun _ _ _ => Iff.rfl) trivial (Or.inl ⟨by rfl, fun w' hw' => by obtain ⟨l, _, hl⟩ := hw'; obtain ⟨_, kx, ky, k0, k1, k2, k3, k4, k5, k6, k7, k8, k9, ka, kb⟩ := hl; go_simp⟩) HS.out ?_
                              simp only [Act.put, List.setIfInBounds_toArray, List.set_cons_zero, List.set_cons_succ]
                              refine wpAnyL_takeD (fun _ => True) (i := 15) (v := (.int .i64 pid)) (some 75) rfl rfl (by kernel_rfl) (by kernel_rfl) (by kernel_rfl) (fun _ _ _ h => h) (fun _ _ _ _ _ _ => trivial) (fun _ _ _ => Iff.rfl) trivial (Or.inl ⟨by rfl, fun w' hw' => by obtain ⟨l, _, hl⟩ := hw'; obtain ⟨_, kx, ky, k0, k1, k2, k3, k4, k5, k6, k7, k8, k9, ka, kb⟩ := hl; go_simp⟩) HS.out ?_
                              simp only [Act.put, List.setIfInBounds_toArray, List.set_cons_zero, List.set_cons_succ]
                              refine wpAnyL_takeD (fun _ => True) (i := 16) (v := (.bool false)) (some 76) rfl rfl (by kernel_rfl) (by kernel_rfl) (by kernel_rfl) (fun _ _ _ h => h) (fun _ _ _ _ _ _ => trivial) (fun _ _ _ => Iff.rfl) trivial (Or.inl ⟨by rfl, fun w' hw' => by obtain ⟨l, _, hl⟩ := hw'; obtain ⟨_, kx, ky, k0, k1, k2, k3, k4, k5, k6, k7, k8, k9, ka, kb⟩ := hl; go_simp⟩) HS.out ?_
                              simp only [Act.put, List.setIfInBounds_toArray, List.set_cons_zero, List.set_cons_succ]
                              refine wpAnyL_takeD (fun _ => True) (i := 17) (v := (.bool false)) (some 77) rfl rfl (by kernel_rfl) (by kernel_rfl) (by kernel_rfl) (fun _ _ _ h => h) (fun _ _ _ _ _ _ => trivial) (fun _ _ _ => Iff.rfl) trivial (Or.inl ⟨by rfl, fun w' hw' => by obtain ⟨l, _, hl⟩ := hw'; obtain ⟨_, kx, ky, k0, k1, k2, k3, k4, k5, k6, k7, k8, k9, ka, kb⟩ := hl; go_simp⟩) HS.out ?_
                              simp only [Act.put, List.setIfInBounds_toArray, List.set_cons_zero, List.set_cons_succ]
                              refine wpAnyL_takeD (fun _ => True) (i := 18) (v := (.bool false)) (some 78) rfl rfl (by kernel_rfl) (by kernel_rfl) (by kernel_rfl) (fun _ _ _ h => h) (fun _ _ _ _ _ _ => trivial) (fun _ _ _ => Iff.rfl) trivial (Or.inl ⟨by rfl, fun w' hw' => by obtain ⟨l, _, hl⟩ := hw'; obtain ⟨_, kx, ky, k0, k1, k2, k3, k4, k5, k6, k7, k8, k9, ka, kb⟩ := hl; go_simp⟩) HS.out ?_
                              simp only [Act.put, List.setIfInBounds_toArray, List.set_cons_zero, List.set_cons_succ]
                              refine wpAnyL_done (by decide +kernel) ?_ _
                              clear MK HS q3 q4
                              go_wp2
                              go_roundw
                              case rel => exact ⟨i + 1, by go_num, by omega, good_next HG.out HGD.out, bt hb2 hbp⟩
                              case measure => simp [intOf]; omega
                      · have hin2 : n = i := by omega
                        subst hin2
                        have HADD : Hid (addOk add) := fun j hj => HG.out j (by rw [← HLN.out]; exact hj)
                        have hRw := hRb.call hb
                        clear k0 k1 k2 k3 k4 k5
                        have k0 := hRw.cellAt 0 rfl
                        have k5 := hRw.cellAt 5 rfl
                        go_wp2
                        go_loopw [83] (fun a wx => ∃ i : Nat, a = .int .i64 (i : Int) ∧ i ≤ n2 ∧ Hid (∀ j, j < i → goodN rem j) ∧ wx = wr) (fun a _ => n2 - (intOf a).toNat)
                        case atStart => exact ⟨0, rfl, by omega, (fun j hj => by omega), by trivial⟩
                        case round =>
                          obtain ⟨i, rfl, hi2, HG2, rfl⟩ := hrel
                          by_cases hlt2 : i < n2
                          · obtain ⟨z, hz⟩ : ∃ z, rem[i]? = some z := ⟨_, List.getElem?_eq_getElem (by rw [HLN2.out]; exact hlt2)⟩
                            obtain ⟨bd, rfl, _, cz⟩ := (hr1.rem.below hb).at_ (j := i) (u := Iv z) (by rw [List.getElem?_map, hz]; rfl)
                            have HZ := Lib.hid hz
                            have HO := Lib.hid (rfl : objB z = objB z)
                            obtain ⟨oz, hoz⟩ : ∃ b, b = objB z := ⟨_, rfl⟩
                            have HOZ := Lib.hid hoz
                            have hobj := fun W => object_any z W
                            rw [← hoz] at hobj
                            have HOB := Lib.hid hobj
                            clear hoz hobj hz
                            cases oz
                            · have HR := Lib.hid (HBAD.out (.inr (.inr (bad_num HZ.out HOZ.out.symm))))
                              go_wp2_with fail
                              refine (HOB.out _).mono ?_; rintro e w1 ⟨rfl, rfl⟩
                              go_wp2
                              go_ret
                              exact ⟨by rw [HR.out] <;> rfl, bt hbel hb⟩
                            · by_cases h0 : i = 0
                              · subst h0
                                have HGD : Hid (goodN rem 0) := goodN_first HZ.out HOZ.out.symm
                                have cz0 : wr.cell? bd = some (Iv z) := by simpa [Addr.add] using cz
                                go_wp2_with fail
                                refine (HOB.out _).mono ?_; rintro e w1 ⟨rfl, rfl⟩
                                go_wp2
                                go_roundw
                                case rel => exact ⟨1, by go_num, by omega, goodN_next HG2.out HGD.out, by trivial⟩
                                case measure => simp [intOf]; omega
                              · have hd0 : decide ((0 : Int) < (i : Int)) = true := by simp; omega
                                have q1 : (1 : Int) ≤ (i : Int) := by omega
                                have q2 : ((i : Int) - 1).toNat = i - 1 := by omega
                                have q3 : (i : Int) - 1 < (n2 : Int) := by omega
                                obtain ⟨pz, hpz⟩ : ∃ p, rem[i - 1]? = some p := ⟨_, List.getElem?_eq_getElem (by rw [HLN2.out]; omega)⟩
                                obtain ⟨_, e1, _, cp⟩ := (hr1.rem.below hb).at_ (j := i - 1) (u := Iv pz) (by rw [List.getElem?_map, hpz]; rfl)
                                cases e1
                                by_cases hle : z ≤ pz
                                · have HR := Lib.hid (HBAD.out (.inr (.inr (bad_ascN (by omega) HZ.out hpz hle))))
                                  clear hpz
                                  go_wp2_with fail
                                  refine (HOB.out _).mono ?_; rintro e w1 ⟨rfl, rfl⟩
                                  go_wp2
                                  go_ret
                                  exact ⟨by rw [HR.out] <;> rfl, bt hbel hb⟩
                                · have HGD : Hid (goodN rem i) := goodN_more HZ.out HOZ.out.symm hpz (by omega)
                                  clear hpz
                                  go_wp2_with fail
                                  refine (HOB.out _).mono ?_; rintro e w1 ⟨rfl, rfl⟩
                                  go_wp2
                                  go_roundw
                                  case rel => exact ⟨i + 1, by go_num, by omega, goodN_next HG2.out HGD.out, by trivial⟩
                                  case measure => simp [intOf]; omega
                          · have hi3 : i = n2 := by omega
                            have HR := Lib.hid (HOKK.out HADD.out (fun h => absurd h (by decide)) (fun j hj => HG2.out j (by rw [hi3, ← HLN2.out]; exact hj)))
                            go_wp2
                            go_ret
                            exact ⟨by rw [HR.out] <;> rfl, bt hbel hb⟩
                  · have l2' : 256 < n2 := by omega
                    have d1 : decide ((256 : Int) < (n : Int)) = false := by simp; omega
                    have d2 : decide ((256 : Int) < (n2 : Int)) = true := by simp; omega
                    have HR := Lib.hid (chk_full (r := ⟨2, ve, ns, ni, add, rem⟩) (by first | exact .inl rfl | exact .inr rfl) HNM.out (.inr (by dsimp only; rw [HLN2.out]; exact l2')))
                    go_wp2
                    go_ret
                    exact ⟨by rw [HR.out] <;> rfl, hbel⟩
                · have d1 : decide ((256 : Int) < (n : Int)) = true := by simp; omega
                  have HR := Lib.hid (chk_full (r := ⟨2, ve, ns, ni, add, rem⟩) (by first | exact .inl rfl | exact .inr rfl) HNM.out (.inl (by dsimp only; rw [HLN.out]; omega)))
                  go_wp2
                  go_ret
                  exact ⟨by rw [HR.out] <;> rfl, hbel⟩
            · have HR := Lib.hid (chk_nums (r := ⟨2, ve, ns, ni, add, rem⟩) (by first | exact .inl rfl | exact .inr rfl) (by rw [HNK.out]; exact fun h => s2 h.2.2.2.1))
              go_enter Try.func26, Try.ntmps26
              go_wp2
              go_ret
              exact ⟨by rw [HR.out] <;> rfl, hbel⟩
          · have HR := Lib.hid (chk_nums (r := ⟨2, ve, ns, ni, add, rem⟩) (by first | exact .inl rfl | exact .inr rfl) (by rw [HNK.out]; exact fun h => s1 h.2.2.1))
            go_enter Try.func26, Try.ntmps26
            go_wp2
            go_ret
            exact ⟨by rw [HR.out] <;> rfl, hbel⟩
        · have HR := Lib.hid (chk_nums (r := ⟨2, ve, ns, ni, add, rem⟩) (by first | exact .inl rfl | exact .inr rfl) (by rw [HNK.out]; exact fun h => v2 h.2.1))
          go_enter Try.func26, Try.ntmps26
          go_wp2
          go_ret
          exact ⟨by rw [HR.out] <;> rfl, hbel⟩
      · have HR := Lib.hid (chk_nums (r := ⟨2, ve, ns, ni, add, rem⟩) (by first | exact .inl rfl | exact .inr rfl) (by rw [HNK.out]; exact fun h => v1 h.1))
        go_enter Try.func26, Try.ntmps26
        go_wp2
        go_ret
        exact ⟨by rw [HR.out] <;> rfl, hbel⟩
  · have hk2 : kd ≠ 1 := fun h => hk1 (.inl h)
    have hk3 : kd ≠ 2 := fun h => hk1 (.inr h)
    have HR := Lib.hid (chk_kind (r := ⟨kd, ve, ns, ni, add, rem⟩) hk2 hk3)
    have b1 : (kd != 1) = true := by simpa using hk2
    have b2 : (kd != 2) = true := by simpa using hk3
    clear hk1 hk2 hk3
    go_enter Try.func26, Try.ntmps26
    go_wp2
    go_ret
    exact ⟨by rw [HR.out] <;> rfl, hbel⟩

end Go.Proofs.Ytgacjpkgpegcdaa
