/-
  The first error of a record: the entries.
-/
import Derived.Test.YtgacjpkgpegcdaaMEnt2
import Derived.Test.YtgacjpkgpegcdaaRegL
namespace Go.Proofs.Ytgacjpkgpegcdaa
open Go.RowKit

theorem Rd.ent {w : World} {B : Nat} {A : Option Addr} {L : List En} (h : Rd w B A (L.flatMap entC)) {i : Nat} {e : En} (hi : L[i]? = some e) :
    ∃ ad, A = some ad ∧ ad.block < B ∧ w.cell? (ad.add (i * 12)) = some (.int .i64 e.id) ∧ w.cell? ⟨(ad.add (i * 12)).block, (ad.add (i * 12)).off + 1, none⟩ = some (.int .i64 e.rows) ∧ w.cell? ⟨(ad.add (i * 12)).block, (ad.add (i * 12)).off + 2, none⟩ = some (.int .i64 e.live) ∧
      w.cell? ⟨(ad.add (i * 12)).block, (ad.add (i * 12)).off + 3, none⟩ = some (.bool e.lo.key.null) ∧ w.cell? ⟨(ad.add (i * 12)).block, (ad.add (i * 12)).off + 4, none⟩ = some (.int .i64 e.lo.key.n) ∧ w.cell? ⟨(ad.add (i * 12)).block, (ad.add (i * 12)).off + 5, none⟩ = some (.string e.lo.key.s) ∧ w.cell? ⟨(ad.add (i * 12)).block, (ad.add (i * 12)).off + 6, none⟩ = some (.int .i64 e.lo.seq) ∧
      w.cell? ⟨(ad.add (i * 12)).block, (ad.add (i * 12)).off + 7, none⟩ = some (.bool e.hi.key.null) ∧ w.cell? ⟨(ad.add (i * 12)).block, (ad.add (i * 12)).off + 8, none⟩ = some (.int .i64 e.hi.key.n) ∧ w.cell? ⟨(ad.add (i * 12)).block, (ad.add (i * 12)).off + 9, none⟩ = some (.string e.hi.key.s) ∧ w.cell? ⟨(ad.add (i * 12)).block, (ad.add (i * 12)).off + 10, none⟩ = some (.int .i64 e.hi.seq) ∧
      w.cell? ⟨(ad.add (i * 12)).block, (ad.add (i * 12)).off + 11, none⟩ = some (.int .i64 e.del) := by
  have g := fun j hj => flat_get (f := entC) (k := 12) (fun _ => rfl) L i j e hi hj
  obtain ⟨ad, rfl, hb, c0⟩ := h.at_ (j := i * 12) (u := .int .i64 e.id) (by have := g 0 (by omega); rw [Nat.add_zero] at this; rw [this]; rfl)
  have k : ∀ j u, j < 12 → j ≠ 0 → (entC e)[j]? = some u → w.cell? ⟨(ad.add (i * 12)).block, (ad.add (i * 12)).off + j, none⟩ = some u := fun j u h1 h2 h3 => by
    obtain ⟨_, e1, _, c⟩ := h.at_ (j := i * 12 + j) (u := u) (by rw [g j h1]; exact h3)
    cases e1
    rw [add_off _ _ _ h2] at c
    exact c
  exact ⟨ad, rfl, hb, c0, k 1 _ (by omega) (by omega) rfl, k 2 _ (by omega) (by omega) rfl, k 3 _ (by omega) (by omega) rfl, k 4 _ (by omega) (by omega) rfl, k 5 _ (by omega) (by omega) rfl, k 6 _ (by omega) (by omega) rfl, k 7 _ (by omega) (by omega) rfl, k 8 _ (by omega) (by omega) rfl, k 9 _ (by omega) (by omega) rfl, k 10 _ (by omega) (by omega) rfl, k 11 _ (by omega) (by omega) rfl⟩
theorem good_next {l : List En} {i : Nat} (h : ∀ j, j < i → goodE l j) (hi : goodE l i) : ∀ j, j < i + 1 → goodE l j := fun j hj => by
  rcases Nat.lt_or_ge j i with h1 | h1
  · exact h j h1
  · have : j = i := by omega
    subst this; exact hi
theorem good_first {l : List En} {e : En} (he : l[0]? = some e) (hb : entB e = true) : goodE l 0 := ⟨e, he, hb, fun _ h => absurd h (by omega)⟩
theorem good_more {l : List En} {i : Nat} {e p : En} (he : l[i]? = some e) (hb : entB e = true) (hp : l[i - 1]? = some p) (hlt : p.id < e.id) : goodE l i := ⟨e, he, hb, fun q _ hq => by rw [hp] at hq; cases hq; exact hlt⟩
theorem bad_ent {l : List En} {i : Nat} {e : En} (he : l[i]? = some e) (hb : entB e = false) : ¬ addOk l := fun h => by
  obtain ⟨e', h1, h2, _⟩ := h i (List.getElem?_eq_some_iff.1 he).1
  rw [he] at h1; cases h1; rw [hb] at h2; cases h2
theorem bad_asc {l : List En} {i : Nat} {e p : En} (h0 : 0 < i) (he : l[i]? = some e) (hp : l[i - 1]? = some p) (hle : e.id ≤ p.id) : ¬ addOk l := fun h => by
  obtain ⟨e', h1, _, h3⟩ := h i (List.getElem?_eq_some_iff.1 he).1
  rw [he] at h1; cases h1
  have := h3 p h0 hp
  omega
def SEnt (wx : World) (g : Nat) (id rows live : Int) (ln : Bool) (li : Int) (lz : ByteArray) (lq : Int) (hn : Bool) (hi : Int) (hz : ByteArray) (hq del : Int) (w' : World) : Prop :=
  Below wx.heap.size wx w' ∧ Blk w' g 40 [.int .i64 id, .int .i64 rows, .int .i64 live, .bool ln, .int .i64 li, .string lz, .int .i64 lq, .bool hn, .int .i64 hi, .string hz, .int .i64 hq, .int .i64 del]
def BoolPost (p : Prop) (w : World) (x : Ending) (w' : World) : Prop := ∃ b : Bool, x = .returned (.bool b) ∧ (b = true ↔ p) ∧ Below w.heap.size w w'
set_option maxRecDepth 100000 in
set_option maxHeartbeats 2000000 in
theorem rentries_any (A : Option Addr) (n c : Nat) (L : List En) (w : World) (hr : Rd w w.heap.size A (L.flatMap entC)) (hn : L.length = n) (hm : n ≤ 1000000000) :
    Calls Try.prog 62 #[.slice A n c] w (BoolPost (addOk L) w) := by
  have HN := Lib.hid hn
  clear hn
  go_enter Try.func62, Try.ntmps62
  go_wp2_with fail
  go_loopw [7] (fun a wr => ∃ i : Nat, a = .int .i64 (i : Int) ∧ i ≤ n ∧ Hid (∀ j, j < i → goodE L j) ∧ Below w.heap.size w wr) (fun a _ => n - (intOf a).toNat)
  case atStart => exact ⟨0, rfl, by omega, (fun j hj => by omega), Below.refl _ _⟩
  case round =>
    obtain ⟨i, rfl, hin, HG, hb⟩ := hrel
    by_cases hlt : i < n
    · obtain ⟨e, he⟩ : ∃ e, L[i]? = some e := ⟨_, List.getElem?_eq_getElem (by rw [HN.out]; exact hlt)⟩
      obtain ⟨ad, rfl, hadb, c0, c1, c2, c3, c4, c5, c6, c7, c8, c9, ca, cb⟩ := (hr.below hb).ent he
      have HE := Lib.hid he
      have HC : Hid (∀ W : World, Calls Try.prog 18 #[Ev e] W fun x w' => x = .returned (.bool (entB e)) ∧ Below W.heap.size W w') := fun W => rentry_any e W
      have HB : Hid (entB e = entB e) := rfl
      obtain ⟨b, hbb⟩ : ∃ b, b = entB e := ⟨_, rfl⟩
      rw [← hbb] at HC
      have HBB := Lib.hid hbb
      obtain ⟨id, rows, live, ⟨⟨ln, li, lz⟩, lq⟩, ⟨⟨hn, hi, hz⟩, hq⟩, del⟩ := e
      dsimp only [Ev] at HC c0 c1 c2 c3 c4 c5 c6 c7 c8 c9 ca cb
      have hE := Blk.new' wr 40 #[.int .i64 id, .int .i64 rows, .int .i64 live, .bool ln, .int .i64 li, .string lz, .int .i64 lq, .bool hn, .int .i64 hi, .string hz, .int .i64 hq, .int .i64 del]
      have hbx := (Below.refl wr.heap.size wr).alloc (Nat.le_refl _) (.cells #[.int .i64 id, .int .i64 rows, .int .i64 live, .bool ln, .int .i64 li, .string lz, .int .i64 lq, .bool hn, .int .i64 hi, .string hz, .int .i64 hq, .int .i64 del] 40)
      have hb2 := bt hb hbx
      clear he hbb HB
      go_upto_region 4 with fail
      generalize wr.alloc (.cells #[.int .i64 id, .int .i64 rows, .int .i64 live, .bool ln, .int .i64 li, .string lz, .int .i64 lq, .bool hn, .int .i64 hi, .string hz, .int .i64 hq, .int .i64 del] 40) = wx at *
      cases b
      · have HNO : Hid (¬ addOk L) := bad_ent HE.out HBB.out.symm
        have MK : Hid (∀ w', Below wx.heap.size wx w' → (Below wx.heap.size wx w' ∧ True ∧ True ∧ w'.cell? ⟨wr.heap.size, 0, none⟩ = some (.int .i64 id) ∧ w'.cell? ⟨wr.heap.size, 1, none⟩ = some (.int .i64 rows) ∧ w'.cell? ⟨wr.heap.size, 2, none⟩ = some (.int .i64 live) ∧ w'.cell? ⟨wr.heap.size, 3, none⟩ = some (.bool ln) ∧ w'.cell? ⟨wr.heap.size, 4, none⟩ = some (.int .i64 li) ∧ w'.cell? ⟨wr.heap.size, 5, none⟩ = some (.string lz) ∧ w'.cell? ⟨wr.heap.size, 6, none⟩ = some (.int .i64 lq) ∧ w'.cell? ⟨wr.heap.size, 7, none⟩ = some (.bool hn) ∧ w'.cell? ⟨wr.heap.size, 8, none⟩ = some (.int .i64 hi) ∧ w'.cell? ⟨wr.heap.size, 9, none⟩ = some (.string hz) ∧ w'.cell? ⟨wr.heap.size, 10, none⟩ = some (.int .i64 hq) ∧ w'.cell? ⟨wr.heap.size, 11, none⟩ = some (.int .i64 del))) := fun w' h => by
          have hk := hE.call h
          exact ⟨h, trivial, trivial, hk.cellAt 0 rfl, hk.cellAt 1 rfl, hk.cellAt 2 rfl, hk.cellAt 3 rfl, hk.cellAt 4 rfl, hk.cellAt 5 rfl, hk.cellAt 6 rfl, hk.cellAt 7 rfl, hk.cellAt 8 rfl, hk.cellAt 9 rfl, hk.cellAt 10 rfl, hk.cellAt 11 rfl⟩
        refine wp_region_L (fun _ w' => Below wx.heap.size wx w' ∧ True ∧ True ∧ w'.cell? ⟨wr.heap.size, 0, none⟩ = some (.int .i64 id) ∧ w'.cell? ⟨wr.heap.size, 1, none⟩ = some (.int .i64 rows) ∧ w'.cell? ⟨wr.heap.size, 2, none⟩ = some (.int .i64 live) ∧ w'.cell? ⟨wr.heap.size, 3, none⟩ = some (.bool ln) ∧ w'.cell? ⟨wr.heap.size, 4, none⟩ = some (.int .i64 li) ∧ w'.cell? ⟨wr.heap.size, 5, none⟩ = some (.string lz) ∧ w'.cell? ⟨wr.heap.size, 6, none⟩ = some (.int .i64 lq) ∧ w'.cell? ⟨wr.heap.size, 7, none⟩ = some (.bool hn) ∧ w'.cell? ⟨wr.heap.size, 8, none⟩ = some (.int .i64 hi) ∧ w'.cell? ⟨wr.heap.size, 9, none⟩ = some (.string hz) ∧ w'.cell? ⟨wr.heap.size, 10, none⟩ = some (.int .i64 hq) ∧ w'.cell? ⟨wr.heap.size, 11, none⟩ = some (.int .i64 del)) (by kernel_rfl) ?_
        have hbp : Below wx.heap.size wx wx.drew := Below.drew (Below.refl _ _)
        generalize wx.drew = wy at *
        have HS := Lib.hid (MK.out _ hbp)
        refine wpAnyL_takeD (fun _ => True) (i := 0) (v := (.agg #[.int .i64 id, .int .i64 rows, .int .i64 live, .bool ln, .int .i64 li, .string lz, .int .i64 lq, .bool hn, .int .i64 hi, .string hz, .int .i64 hq, .int .i64 del])) (some 12) rfl rfl (by kernel_rfl) (by kernel_rfl) (by kernel_rfl) (fun _ _ _ h => h) (fun _ _ _ _ _ _ => trivial) (fun _ _ _ => Iff.rfl) trivial (Or.inl ⟨by rfl, fun w' hw' => by obtain ⟨l, _, hl⟩ := hw'; obtain ⟨_, kx, ky, k0, k1, k2, k3, k4, k5, k6, k7, k8, k9, ka, kb⟩ := hl; go_simp⟩) HS.out ?_
        simp only [Act.put, List.setIfInBounds_toArray, List.set_cons_zero, List.set_cons_succ]
        refine wpAnyL_one (i := 1) (by decide +kernel) ?_
        refine wpOp_go (o := _) rfl (fun K hK => ?_)
        go_simp
        go_at_call 18
        refine (HC.out _).mono ?_; rintro e wy ⟨rfl, hb3⟩
        replace hbp := bt hbp hb3
        refine hK _ _ ⟨MK.out _ hbp, ?_⟩
        replace HS := Lib.hid (MK.out _ hbp)
        clear hK K hb3
        refine wpAnyL_takeD (fun _ => True) (i := 2) (v := (.bool true)) (some 14) rfl rfl (by kernel_rfl) (by kernel_rfl) (by kernel_rfl) (fun _ _ _ h => h) (fun _ _ _ _ _ _ => trivial) (fun _ _ _ => Iff.rfl) trivial (Or.inl ⟨by rfl, fun w' hw' => by obtain ⟨l, _, hl⟩ := hw'; obtain ⟨_, kx, ky, k0, k1, k2, k3, k4, k5, k6, k7, k8, k9, ka, kb⟩ := hl; go_simp⟩) HS.out ?_
        simp only [Act.put, List.setIfInBounds_toArray, List.set_cons_zero, List.set_cons_succ]
        refine wpAnyL_takeD (fun _ => True) (i := 3) (v := (.bool true)) (some 15) rfl rfl (by kernel_rfl) (by kernel_rfl) (by kernel_rfl) (fun _ _ _ h => h) (fun _ _ _ _ _ _ => trivial) (fun _ _ _ => Iff.rfl) trivial (Or.inl ⟨by rfl, fun w' hw' => by obtain ⟨l, _, hl⟩ := hw'; obtain ⟨_, kx, ky, k0, k1, k2, k3, k4, k5, k6, k7, k8, k9, ka, kb⟩ := hl; go_simp⟩) HS.out ?_
        simp only [Act.put, List.setIfInBounds_toArray, List.set_cons_zero, List.set_cons_succ]
        refine wpAnyL_takeD (fun _ => True) (i := 4) (v := undef) (some 16) rfl rfl (by kernel_rfl) (by kernel_rfl) (by kernel_rfl) (fun _ _ _ h => h) (fun _ _ _ _ _ _ => trivial) (fun _ _ _ => Iff.rfl) trivial (Or.inr ⟨by rfl, rfl⟩) HS.out ?_
        simp only [Act.put, List.setIfInBounds_toArray, List.set_cons_zero, List.set_cons_succ]
        refine wpAnyL_takeD (fun _ => True) (i := 5) (v := undef) (some 17) rfl rfl (by kernel_rfl) (by kernel_rfl) (by kernel_rfl) (fun _ _ _ h => h) (fun _ _ _ _ _ _ => trivial) (fun _ _ _ => Iff.rfl) trivial (Or.inr ⟨by rfl, rfl⟩) HS.out ?_
        simp only [Act.put, List.setIfInBounds_toArray, List.set_cons_zero, List.set_cons_succ]
        refine wpAnyL_takeD (fun _ => True) (i := 6) (v := undef) (some 18) rfl rfl (by kernel_rfl) (by kernel_rfl) (by kernel_rfl) (fun _ _ _ h => h) (fun _ _ _ _ _ _ => trivial) (fun _ _ _ => Iff.rfl) trivial (Or.inr ⟨by rfl, rfl⟩) HS.out ?_
        simp only [Act.put, List.setIfInBounds_toArray, List.set_cons_zero, List.set_cons_succ]
        refine wpAnyL_takeD (fun _ => True) (i := 7) (v := undef) (some 19) rfl rfl (by kernel_rfl) (by kernel_rfl) (by kernel_rfl) (fun _ _ _ h => h) (fun _ _ _ _ _ _ => trivial) (fun _ _ _ => Iff.rfl) trivial (Or.inr ⟨by rfl, rfl⟩) HS.out ?_
        simp only [Act.put, List.setIfInBounds_toArray, List.set_cons_zero, List.set_cons_succ]
        refine wpAnyL_takeD (fun _ => True) (i := 8) (v := undef) (some 20) rfl rfl (by kernel_rfl) (by kernel_rfl) (by kernel_rfl) (fun _ _ _ h => h) (fun _ _ _ _ _ _ => trivial) (fun _ _ _ => Iff.rfl) trivial (Or.inr ⟨by rfl, rfl⟩) HS.out ?_
        simp only [Act.put, List.setIfInBounds_toArray, List.set_cons_zero, List.set_cons_succ]
        refine wpAnyL_takeD (fun _ => True) (i := 9) (v := undef) (some 21) rfl rfl (by kernel_rfl) (by kernel_rfl) (by kernel_rfl) (fun _ _ _ h => h) (fun _ _ _ _ _ _ => trivial) (fun _ _ _ => Iff.rfl) trivial (Or.inr ⟨by rfl, rfl⟩) HS.out ?_
        simp only [Act.put, List.setIfInBounds_toArray, List.set_cons_zero, List.set_cons_succ]
        refine wpAnyL_takeD (fun _ => True) (i := 10) (v := undef) (some 22) rfl rfl (by kernel_rfl) (by kernel_rfl) (by kernel_rfl) (fun _ _ _ h => h) (fun _ _ _ _ _ _ => trivial) (fun _ _ _ => Iff.rfl) trivial (Or.inr ⟨by rfl, rfl⟩) HS.out ?_
        simp only [Act.put, List.setIfInBounds_toArray, List.set_cons_zero, List.set_cons_succ]
        refine wpAnyL_takeD (fun _ => True) (i := 11) (v := undef) (some 23) rfl rfl (by kernel_rfl) (by kernel_rfl) (by kernel_rfl) (fun _ _ _ h => h) (fun _ _ _ _ _ _ => trivial) (fun _ _ _ => Iff.rfl) trivial (Or.inr ⟨by rfl, rfl⟩) HS.out ?_
        simp only [Act.put, List.setIfInBounds_toArray, List.set_cons_zero, List.set_cons_succ]
        refine wpAnyL_takeD (fun _ => True) (i := 12) (v := undef) (some 24) rfl rfl (by kernel_rfl) (by kernel_rfl) (by kernel_rfl) (fun _ _ _ h => h) (fun _ _ _ _ _ _ => trivial) (fun _ _ _ => Iff.rfl) trivial (Or.inr ⟨by rfl, rfl⟩) HS.out ?_
        simp only [Act.put, List.setIfInBounds_toArray, List.set_cons_zero, List.set_cons_succ]
        refine wpAnyL_takeD (fun _ => True) (i := 13) (v := undef) (some 25) rfl rfl (by kernel_rfl) (by kernel_rfl) (by kernel_rfl) (fun _ _ _ h => h) (fun _ _ _ _ _ _ => trivial) (fun _ _ _ => Iff.rfl) trivial (Or.inr ⟨by rfl, rfl⟩) HS.out ?_
        simp only [Act.put, List.setIfInBounds_toArray, List.set_cons_zero, List.set_cons_succ]
        refine wpAnyL_takeD (fun _ => True) (i := 14) (v := undef) (some 26) rfl rfl (by kernel_rfl) (by kernel_rfl) (by kernel_rfl) (fun _ _ _ h => h) (fun _ _ _ _ _ _ => trivial) (fun _ _ _ => Iff.rfl) trivial (Or.inr ⟨by rfl, rfl⟩) HS.out ?_
        simp only [Act.put, List.setIfInBounds_toArray, List.set_cons_zero, List.set_cons_succ]
        refine wpAnyL_takeD (fun _ => True) (i := 15) (v := undef) (some 27) rfl rfl (by kernel_rfl) (by kernel_rfl) (by kernel_rfl) (fun _ _ _ h => h) (fun _ _ _ _ _ _ => trivial) (fun _ _ _ => Iff.rfl) trivial (Or.inr ⟨by rfl, rfl⟩) HS.out ?_
        simp only [Act.put, List.setIfInBounds_toArray, List.set_cons_zero, List.set_cons_succ]
        refine wpAnyL_takeD (fun _ => True) (i := 16) (v := undef) (some 28) rfl rfl (by kernel_rfl) (by kernel_rfl) (by kernel_rfl) (fun _ _ _ h => h) (fun _ _ _ _ _ _ => trivial) (fun _ _ _ => Iff.rfl) trivial (Or.inr ⟨by rfl, rfl⟩) HS.out ?_
        simp only [Act.put, List.setIfInBounds_toArray, List.set_cons_zero, List.set_cons_succ]
        refine wpAnyL_takeD (fun _ => True) (i := 17) (v := (.bool true)) (some 29) rfl rfl (by kernel_rfl) (by kernel_rfl) (by kernel_rfl) (fun _ _ _ h => h) (fun _ _ _ _ _ _ => trivial) (fun _ _ _ => Iff.rfl) trivial (Or.inl ⟨by rfl, fun w' hw' => by obtain ⟨l, _, hl⟩ := hw'; obtain ⟨_, kx, ky, k0, k1, k2, k3, k4, k5, k6, k7, k8, k9, ka, kb⟩ := hl; go_simp⟩) HS.out ?_
        simp only [Act.put, List.setIfInBounds_toArray, List.set_cons_zero, List.set_cons_succ]
        refine wpAnyL_done (by decide +kernel) ?_ _
        clear MK HS
        go_wp2
        go_ret
        exact ⟨false, rfl, ⟨fun h => (by cases h), fun h => absurd h HNO.out⟩, bt hb2 hbp⟩
      · by_cases h0 : i = 0
        · subst h0
          have HGD : Hid (goodE L 0) := good_first HE.out HBB.out.symm
          have MK : Hid (∀ w', Below wx.heap.size wx w' → (Below wx.heap.size wx w' ∧ True ∧ True ∧ w'.cell? ⟨wr.heap.size, 0, none⟩ = some (.int .i64 id) ∧ w'.cell? ⟨wr.heap.size, 1, none⟩ = some (.int .i64 rows) ∧ w'.cell? ⟨wr.heap.size, 2, none⟩ = some (.int .i64 live) ∧ w'.cell? ⟨wr.heap.size, 3, none⟩ = some (.bool ln) ∧ w'.cell? ⟨wr.heap.size, 4, none⟩ = some (.int .i64 li) ∧ w'.cell? ⟨wr.heap.size, 5, none⟩ = some (.string lz) ∧ w'.cell? ⟨wr.heap.size, 6, none⟩ = some (.int .i64 lq) ∧ w'.cell? ⟨wr.heap.size, 7, none⟩ = some (.bool hn) ∧ w'.cell? ⟨wr.heap.size, 8, none⟩ = some (.int .i64 hi) ∧ w'.cell? ⟨wr.heap.size, 9, none⟩ = some (.string hz) ∧ w'.cell? ⟨wr.heap.size, 10, none⟩ = some (.int .i64 hq) ∧ w'.cell? ⟨wr.heap.size, 11, none⟩ = some (.int .i64 del))) := fun w' h => by
            have hk := hE.call h
            exact ⟨h, trivial, trivial, hk.cellAt 0 rfl, hk.cellAt 1 rfl, hk.cellAt 2 rfl, hk.cellAt 3 rfl, hk.cellAt 4 rfl, hk.cellAt 5 rfl, hk.cellAt 6 rfl, hk.cellAt 7 rfl, hk.cellAt 8 rfl, hk.cellAt 9 rfl, hk.cellAt 10 rfl, hk.cellAt 11 rfl⟩
          refine wp_region_L (fun _ w' => Below wx.heap.size wx w' ∧ True ∧ True ∧ w'.cell? ⟨wr.heap.size, 0, none⟩ = some (.int .i64 id) ∧ w'.cell? ⟨wr.heap.size, 1, none⟩ = some (.int .i64 rows) ∧ w'.cell? ⟨wr.heap.size, 2, none⟩ = some (.int .i64 live) ∧ w'.cell? ⟨wr.heap.size, 3, none⟩ = some (.bool ln) ∧ w'.cell? ⟨wr.heap.size, 4, none⟩ = some (.int .i64 li) ∧ w'.cell? ⟨wr.heap.size, 5, none⟩ = some (.string lz) ∧ w'.cell? ⟨wr.heap.size, 6, none⟩ = some (.int .i64 lq) ∧ w'.cell? ⟨wr.heap.size, 7, none⟩ = some (.bool hn) ∧ w'.cell? ⟨wr.heap.size, 8, none⟩ = some (.int .i64 hi) ∧ w'.cell? ⟨wr.heap.size, 9, none⟩ = some (.string hz) ∧ w'.cell? ⟨wr.heap.size, 10, none⟩ = some (.int .i64 hq) ∧ w'.cell? ⟨wr.heap.size, 11, none⟩ = some (.int .i64 del)) (by kernel_rfl) ?_
          have hbp : Below wx.heap.size wx wx.drew := Below.drew (Below.refl _ _)
          generalize wx.drew = wy at *
          have HS := Lib.hid (MK.out _ hbp)
          refine wpAnyL_takeD (fun _ => True) (i := 0) (v := (.agg #[.int .i64 id, .int .i64 rows, .int .i64 live, .bool ln, .int .i64 li, .string lz, .int .i64 lq, .bool hn, .int .i64 hi, .string hz, .int .i64 hq, .int .i64 del])) (some 12) rfl rfl (by kernel_rfl) (by kernel_rfl) (by kernel_rfl) (fun _ _ _ h => h) (fun _ _ _ _ _ _ => trivial) (fun _ _ _ => Iff.rfl) trivial (Or.inl ⟨by rfl, fun w' hw' => by obtain ⟨l, _, hl⟩ := hw'; obtain ⟨_, kx, ky, k0, k1, k2, k3, k4, k5, k6, k7, k8, k9, ka, kb⟩ := hl; go_simp⟩) HS.out ?_
          simp only [Act.put, List.setIfInBounds_toArray, List.set_cons_zero, List.set_cons_succ]
          refine wpAnyL_one (i := 1) (by decide +kernel) ?_
          refine wpOp_go (o := _) rfl (fun K hK => ?_)
          go_simp
          go_at_call 18
          refine (HC.out _).mono ?_; rintro e wy ⟨rfl, hb3⟩
          replace hbp := bt hbp hb3
          refine hK _ _ ⟨MK.out _ hbp, ?_⟩
          replace HS := Lib.hid (MK.out _ hbp)
          clear hK K hb3
          refine wpAnyL_takeD (fun _ => True) (i := 2) (v := (.bool false)) (some 14) rfl rfl (by kernel_rfl) (by kernel_rfl) (by kernel_rfl) (fun _ _ _ h => h) (fun _ _ _ _ _ _ => trivial) (fun _ _ _ => Iff.rfl) trivial (Or.inl ⟨by rfl, fun w' hw' => by obtain ⟨l, _, hl⟩ := hw'; obtain ⟨_, kx, ky, k0, k1, k2, k3, k4, k5, k6, k7, k8, k9, ka, kb⟩ := hl; go_simp⟩) HS.out ?_
          simp only [Act.put, List.setIfInBounds_toArray, List.set_cons_zero, List.set_cons_succ]
          refine wpAnyL_takeD (fun _ => True) (i := 3) (v := (.bool false)) (some 15) rfl rfl (by kernel_rfl) (by kernel_rfl) (by kernel_rfl) (fun _ _ _ h => h) (fun _ _ _ _ _ _ => trivial) (fun _ _ _ => Iff.rfl) trivial (Or.inl ⟨by rfl, fun w' hw' => by obtain ⟨l, _, hl⟩ := hw'; obtain ⟨_, kx, ky, k0, k1, k2, k3, k4, k5, k6, k7, k8, k9, ka, kb⟩ := hl; go_simp⟩) HS.out ?_
          simp only [Act.put, List.setIfInBounds_toArray, List.set_cons_zero, List.set_cons_succ]
          refine wpAnyL_takeD (fun _ => True) (i := 4) (v := (.int .i64 0)) (some 16) rfl rfl (by kernel_rfl) (by kernel_rfl) (by kernel_rfl) (fun _ _ _ h => h) (fun _ _ _ _ _ _ => trivial) (fun _ _ _ => Iff.rfl) trivial (Or.inl ⟨by rfl, fun w' hw' => by obtain ⟨l, _, hl⟩ := hw'; obtain ⟨_, kx, ky, k0, k1, k2, k3, k4, k5, k6, k7, k8, k9, ka, kb⟩ := hl; go_simp⟩) HS.out ?_
          simp only [Act.put, List.setIfInBounds_toArray, List.set_cons_zero, List.set_cons_succ]
          refine wpAnyL_takeD (fun _ => True) (i := 5) (v := (.bool false)) (some 17) rfl rfl (by kernel_rfl) (by kernel_rfl) (by kernel_rfl) (fun _ _ _ h => h) (fun _ _ _ _ _ _ => trivial) (fun _ _ _ => Iff.rfl) trivial (Or.inl ⟨by rfl, fun w' hw' => by obtain ⟨l, _, hl⟩ := hw'; obtain ⟨_, kx, ky, k0, k1, k2, k3, k4, k5, k6, k7, k8, k9, ka, kb⟩ := hl; go_simp⟩) HS.out ?_
          simp only [Act.put, List.setIfInBounds_toArray, List.set_cons_zero, List.set_cons_succ]
          refine wpAnyL_takeD (fun _ => True) (i := 6) (v := (.bool false)) (some 18) rfl rfl (by kernel_rfl) (by kernel_rfl) (by kernel_rfl) (fun _ _ _ h => h) (fun _ _ _ _ _ _ => trivial) (fun _ _ _ => Iff.rfl) trivial (Or.inl ⟨by rfl, fun w' hw' => by obtain ⟨l, _, hl⟩ := hw'; obtain ⟨_, kx, ky, k0, k1, k2, k3, k4, k5, k6, k7, k8, k9, ka, kb⟩ := hl; go_simp⟩) HS.out ?_
          simp only [Act.put, List.setIfInBounds_toArray, List.set_cons_zero, List.set_cons_succ]
          refine wpAnyL_takeD (fun _ => True) (i := 7) (v := undef) (some 19) rfl rfl (by kernel_rfl) (by kernel_rfl) (by kernel_rfl) (fun _ _ _ h => h) (fun _ _ _ _ _ _ => trivial) (fun _ _ _ => Iff.rfl) trivial (Or.inr ⟨by rfl, rfl⟩) HS.out ?_
          simp only [Act.put, List.setIfInBounds_toArray, List.set_cons_zero, List.set_cons_succ]
          refine wpAnyL_takeD (fun _ => True) (i := 8) (v := undef) (some 20) rfl rfl (by kernel_rfl) (by kernel_rfl) (by kernel_rfl) (fun _ _ _ h => h) (fun _ _ _ _ _ _ => trivial) (fun _ _ _ => Iff.rfl) trivial (Or.inr ⟨by rfl, rfl⟩) HS.out ?_
          simp only [Act.put, List.setIfInBounds_toArray, List.set_cons_zero, List.set_cons_succ]
          refine wpAnyL_takeD (fun _ => True) (i := 9) (v := undef) (some 21) rfl rfl (by kernel_rfl) (by kernel_rfl) (by kernel_rfl) (fun _ _ _ h => h) (fun _ _ _ _ _ _ => trivial) (fun _ _ _ => Iff.rfl) trivial (Or.inr ⟨by rfl, rfl⟩) HS.out ?_
          simp only [Act.put, List.setIfInBounds_toArray, List.set_cons_zero, List.set_cons_succ]
          refine wpAnyL_takeD (fun _ => True) (i := 10) (v := undef) (some 22) rfl rfl (by kernel_rfl) (by kernel_rfl) (by kernel_rfl) (fun _ _ _ h => h) (fun _ _ _ _ _ _ => trivial) (fun _ _ _ => Iff.rfl) trivial (Or.inr ⟨by rfl, rfl⟩) HS.out ?_
          simp only [Act.put, List.setIfInBounds_toArray, List.set_cons_zero, List.set_cons_succ]
          refine wpAnyL_takeD (fun _ => True) (i := 11) (v := undef) (some 23) rfl rfl (by kernel_rfl) (by kernel_rfl) (by kernel_rfl) (fun _ _ _ h => h) (fun _ _ _ _ _ _ => trivial) (fun _ _ _ => Iff.rfl) trivial (Or.inr ⟨by rfl, rfl⟩) HS.out ?_
          simp only [Act.put, List.setIfInBounds_toArray, List.set_cons_zero, List.set_cons_succ]
          refine wpAnyL_takeD (fun _ => True) (i := 12) (v := undef) (some 24) rfl rfl (by kernel_rfl) (by kernel_rfl) (by kernel_rfl) (fun _ _ _ h => h) (fun _ _ _ _ _ _ => trivial) (fun _ _ _ => Iff.rfl) trivial (Or.inr ⟨by rfl, rfl⟩) HS.out ?_
          simp only [Act.put, List.setIfInBounds_toArray, List.set_cons_zero, List.set_cons_succ]
          refine wpAnyL_takeD (fun _ => True) (i := 13) (v := undef) (some 25) rfl rfl (by kernel_rfl) (by kernel_rfl) (by kernel_rfl) (fun _ _ _ h => h) (fun _ _ _ _ _ _ => trivial) (fun _ _ _ => Iff.rfl) trivial (Or.inr ⟨by rfl, rfl⟩) HS.out ?_
          simp only [Act.put, List.setIfInBounds_toArray, List.set_cons_zero, List.set_cons_succ]
          refine wpAnyL_takeD (fun _ => True) (i := 14) (v := undef) (some 26) rfl rfl (by kernel_rfl) (by kernel_rfl) (by kernel_rfl) (fun _ _ _ h => h) (fun _ _ _ _ _ _ => trivial) (fun _ _ _ => Iff.rfl) trivial (Or.inr ⟨by rfl, rfl⟩) HS.out ?_
          simp only [Act.put, List.setIfInBounds_toArray, List.set_cons_zero, List.set_cons_succ]
          refine wpAnyL_takeD (fun _ => True) (i := 15) (v := undef) (some 27) rfl rfl (by kernel_rfl) (by kernel_rfl) (by kernel_rfl) (fun _ _ _ h => h) (fun _ _ _ _ _ _ => trivial) (fun _ _ _ => Iff.rfl) trivial (Or.inr ⟨by rfl, rfl⟩) HS.out ?_
          simp only [Act.put, List.setIfInBounds_toArray, List.set_cons_zero, List.set_cons_succ]
          refine wpAnyL_takeD (fun _ => True) (i := 16) (v := (.bool false)) (some 28) rfl rfl (by kernel_rfl) (by kernel_rfl) (by kernel_rfl) (fun _ _ _ h => h) (fun _ _ _ _ _ _ => trivial) (fun _ _ _ => Iff.rfl) trivial (Or.inl ⟨by rfl, fun w' hw' => by obtain ⟨l, _, hl⟩ := hw'; obtain ⟨_, kx, ky, k0, k1, k2, k3, k4, k5, k6, k7, k8, k9, ka, kb⟩ := hl; go_simp⟩) HS.out ?_
          simp only [Act.put, List.setIfInBounds_toArray, List.set_cons_zero, List.set_cons_succ]
          refine wpAnyL_takeD (fun _ => True) (i := 17) (v := (.bool false)) (some 29) rfl rfl (by kernel_rfl) (by kernel_rfl) (by kernel_rfl) (fun _ _ _ h => h) (fun _ _ _ _ _ _ => trivial) (fun _ _ _ => Iff.rfl) trivial (Or.inl ⟨by rfl, fun w' hw' => by obtain ⟨l, _, hl⟩ := hw'; obtain ⟨_, kx, ky, k0, k1, k2, k3, k4, k5, k6, k7, k8, k9, ka, kb⟩ := hl; go_simp⟩) HS.out ?_
          simp only [Act.put, List.setIfInBounds_toArray, List.set_cons_zero, List.set_cons_succ]
          refine wpAnyL_done (by decide +kernel) ?_ _
          clear MK HS
          go_wp2
          go_roundw
          case rel => exact ⟨1, by go_num, by omega, good_next HG.out HGD.out, bt hb2 hbp⟩
          case measure => simp [intOf]; omega
        · have hd0 : decide ((0 : Int) < (i : Int)) = true := by simp; omega
          have q1 : (1 : Int) ≤ (i : Int) := by omega
          have q2 : ((i : Int) - 1).toNat = i - 1 := by omega
          have q3 : IntKind.i64.wrap ((i : Int) - 1) = (i : Int) - 1 := IntWalk.i64_in _ (by omega)
          have q4 : ¬ ((n : Int) ≤ (i : Int) - 1) := by omega
          have q5 : 0 < i := by omega
          obtain ⟨p, hp⟩ : ∃ p, L[i - 1]? = some p := ⟨_, List.getElem?_eq_getElem (by rw [HN.out]; omega)⟩
          obtain ⟨_, e1, _, pc, _⟩ := (hr.below hb2).ent hp
          cases e1
          have hplt : (ad.add ((i - 1) * 12)).block < wx.heap.size := by rw [block_of_add]; have := hb2.size; omega
          generalize hpid : p.id = pid at *
          by_cases hle : id ≤ pid
          · have HNO : Hid (¬ addOk L) := bad_asc (by omega) HE.out hp (by rw [hpid]; exact hle)
            clear hp hpid
            have hdl : decide (id ≤ pid) = true := by simpa using hle
            have MK : Hid (∀ w', Below wx.heap.size wx w' → (Below wx.heap.size wx w' ∧ w'.cell? (ad.add ((i - 1) * 12)) = some (.int .i64 pid) ∧ True ∧ w'.cell? ⟨wr.heap.size, 0, none⟩ = some (.int .i64 id) ∧ w'.cell? ⟨wr.heap.size, 1, none⟩ = some (.int .i64 rows) ∧ w'.cell? ⟨wr.heap.size, 2, none⟩ = some (.int .i64 live) ∧ w'.cell? ⟨wr.heap.size, 3, none⟩ = some (.bool ln) ∧ w'.cell? ⟨wr.heap.size, 4, none⟩ = some (.int .i64 li) ∧ w'.cell? ⟨wr.heap.size, 5, none⟩ = some (.string lz) ∧ w'.cell? ⟨wr.heap.size, 6, none⟩ = some (.int .i64 lq) ∧ w'.cell? ⟨wr.heap.size, 7, none⟩ = some (.bool hn) ∧ w'.cell? ⟨wr.heap.size, 8, none⟩ = some (.int .i64 hi) ∧ w'.cell? ⟨wr.heap.size, 9, none⟩ = some (.string hz) ∧ w'.cell? ⟨wr.heap.size, 10, none⟩ = some (.int .i64 hq) ∧ w'.cell? ⟨wr.heap.size, 11, none⟩ = some (.int .i64 del))) := fun w' h => by
              have hk := hE.call h
              exact ⟨h, (h.cell hplt).trans pc, trivial, hk.cellAt 0 rfl, hk.cellAt 1 rfl, hk.cellAt 2 rfl, hk.cellAt 3 rfl, hk.cellAt 4 rfl, hk.cellAt 5 rfl, hk.cellAt 6 rfl, hk.cellAt 7 rfl, hk.cellAt 8 rfl, hk.cellAt 9 rfl, hk.cellAt 10 rfl, hk.cellAt 11 rfl⟩
            refine wp_region_L (fun _ w' => Below wx.heap.size wx w' ∧ w'.cell? (ad.add ((i - 1) * 12)) = some (.int .i64 pid) ∧ True ∧ w'.cell? ⟨wr.heap.size, 0, none⟩ = some (.int .i64 id) ∧ w'.cell? ⟨wr.heap.size, 1, none⟩ = some (.int .i64 rows) ∧ w'.cell? ⟨wr.heap.size, 2, none⟩ = some (.int .i64 live) ∧ w'.cell? ⟨wr.heap.size, 3, none⟩ = some (.bool ln) ∧ w'.cell? ⟨wr.heap.size, 4, none⟩ = some (.int .i64 li) ∧ w'.cell? ⟨wr.heap.size, 5, none⟩ = some (.string lz) ∧ w'.cell? ⟨wr.heap.size, 6, none⟩ = some (.int .i64 lq) ∧ w'.cell? ⟨wr.heap.size, 7, none⟩ = some (.bool hn) ∧ w'.cell? ⟨wr.heap.size, 8, none⟩ = some (.int .i64 hi) ∧ w'.cell? ⟨wr.heap.size, 9, none⟩ = some (.string hz) ∧ w'.cell? ⟨wr.heap.size, 10, none⟩ = some (.int .i64 hq) ∧ w'.cell? ⟨wr.heap.size, 11, none⟩ = some (.int .i64 del)) (by kernel_rfl) ?_
            have hbp : Below wx.heap.size wx wx.drew := Below.drew (Below.refl _ _)
            generalize wx.drew = wy at *
            have HS := Lib.hid (MK.out _ hbp)
            refine wpAnyL_takeD (fun _ => True) (i := 0) (v := (.agg #[.int .i64 id, .int .i64 rows, .int .i64 live, .bool ln, .int .i64 li, .string lz, .int .i64 lq, .bool hn, .int .i64 hi, .string hz, .int .i64 hq, .int .i64 del])) (some 12) rfl rfl (by kernel_rfl) (by kernel_rfl) (by kernel_rfl) (fun _ _ _ h => h) (fun _ _ _ _ _ _ => trivial) (fun _ _ _ => Iff.rfl) trivial (Or.inl ⟨by rfl, fun w' hw' => by obtain ⟨l, _, hl⟩ := hw'; obtain ⟨_, kx, ky, k0, k1, k2, k3, k4, k5, k6, k7, k8, k9, ka, kb⟩ := hl; go_simp⟩) HS.out ?_
            simp only [Act.put, List.setIfInBounds_toArray, List.set_cons_zero, List.set_cons_succ]
            refine wpAnyL_one (i := 1) (by decide +kernel) ?_
            refine wpOp_go (o := _) rfl (fun K hK => ?_)
            go_simp
            go_at_call 18
            refine (HC.out _).mono ?_; rintro e wy ⟨rfl, hb3⟩
            replace hbp := bt hbp hb3
            refine hK _ _ ⟨MK.out _ hbp, ?_⟩
            replace HS := Lib.hid (MK.out _ hbp)
            clear hK K hb3
            refine wpAnyL_takeD (fun _ => True) (i := 2) (v := (.bool false)) (some 14) rfl rfl (by kernel_rfl) (by kernel_rfl) (by kernel_rfl) (fun _ _ _ h => h) (fun _ _ _ _ _ _ => trivial) (fun _ _ _ => Iff.rfl) trivial (Or.inl ⟨by rfl, fun w' hw' => by obtain ⟨l, _, hl⟩ := hw'; obtain ⟨_, kx, ky, k0, k1, k2, k3, k4, k5, k6, k7, k8, k9, ka, kb⟩ := hl; go_simp⟩) HS.out ?_
            simp only [Act.put, List.setIfInBounds_toArray, List.set_cons_zero, List.set_cons_succ]
            refine wpAnyL_takeD (fun _ => True) (i := 3) (v := (.bool false)) (some 15) rfl rfl (by kernel_rfl) (by kernel_rfl) (by kernel_rfl) (fun _ _ _ h => h) (fun _ _ _ _ _ _ => trivial) (fun _ _ _ => Iff.rfl) trivial (Or.inl ⟨by rfl, fun w' hw' => by obtain ⟨l, _, hl⟩ := hw'; obtain ⟨_, kx, ky, k0, k1, k2, k3, k4, k5, k6, k7, k8, k9, ka, kb⟩ := hl; go_simp⟩) HS.out ?_
            simp only [Act.put, List.setIfInBounds_toArray, List.set_cons_zero, List.set_cons_succ]
            refine wpAnyL_takeD (fun _ => True) (i := 4) (v := (.int .i64 (i : Int))) (some 16) rfl rfl (by kernel_rfl) (by kernel_rfl) (by kernel_rfl) (fun _ _ _ h => h) (fun _ _ _ _ _ _ => trivial) (fun _ _ _ => Iff.rfl) trivial (Or.inl ⟨by rfl, fun w' hw' => by obtain ⟨l, _, hl⟩ := hw'; obtain ⟨_, kx, ky, k0, k1, k2, k3, k4, k5, k6, k7, k8, k9, ka, kb⟩ := hl; go_simp⟩) HS.out ?_
            simp only [Act.put, List.setIfInBounds_toArray, List.set_cons_zero, List.set_cons_succ]
            refine wpAnyL_takeD (fun _ => True) (i := 5) (v := (.bool true)) (some 17) rfl rfl (by kernel_rfl) (by kernel_rfl) (by kernel_rfl) (fun _ _ _ h => h) (fun _ _ _ _ _ _ => trivial) (fun _ _ _ => Iff.rfl) trivial (Or.inl ⟨by rfl, fun w' hw' => by obtain ⟨l, _, hl⟩ := hw'; obtain ⟨_, kx, ky, k0, k1, k2, k3, k4, k5, k6, k7, k8, k9, ka, kb⟩ := hl; go_simp⟩) HS.out ?_
            simp only [Act.put, List.setIfInBounds_toArray, List.set_cons_zero, List.set_cons_succ]
            refine wpAnyL_takeD (fun _ => True) (i := 6) (v := (.bool true)) (some 18) rfl rfl (by kernel_rfl) (by kernel_rfl) (by kernel_rfl) (fun _ _ _ h => h) (fun _ _ _ _ _ _ => trivial) (fun _ _ _ => Iff.rfl) trivial (Or.inl ⟨by rfl, fun w' hw' => by obtain ⟨l, _, hl⟩ := hw'; obtain ⟨_, kx, ky, k0, k1, k2, k3, k4, k5, k6, k7, k8, k9, ka, kb⟩ := hl; go_simp⟩) HS.out ?_
            simp only [Act.put, List.setIfInBounds_toArray, List.set_cons_zero, List.set_cons_succ]
            refine wpAnyL_takeD (fun _ => True) (i := 7) (v := (.pointer (some ⟨wr.heap.size, 0, none⟩))) (some 19) rfl rfl (by kernel_rfl) (by kernel_rfl) (by kernel_rfl) (fun _ _ _ h => h) (fun _ _ _ _ _ _ => trivial) (fun _ _ _ => Iff.rfl) trivial (Or.inl ⟨by rfl, fun w' hw' => by obtain ⟨l, _, hl⟩ := hw'; obtain ⟨_, kx, ky, k0, k1, k2, k3, k4, k5, k6, k7, k8, k9, ka, kb⟩ := hl; go_simp⟩) HS.out ?_
            simp only [Act.put, List.setIfInBounds_toArray, List.set_cons_zero, List.set_cons_succ]
            refine wpAnyL_takeD (fun _ => True) (i := 8) (v := (.int .i64 id)) (some 20) rfl rfl (by kernel_rfl) (by kernel_rfl) (by kernel_rfl) (fun _ _ _ h => h) (fun _ _ _ _ _ _ => trivial) (fun _ _ _ => Iff.rfl) trivial (Or.inl ⟨by rfl, fun w' hw' => by obtain ⟨l, _, hl⟩ := hw'; obtain ⟨_, kx, ky, k0, k1, k2, k3, k4, k5, k6, k7, k8, k9, ka, kb⟩ := hl; go_simp⟩) HS.out ?_
            simp only [Act.put, List.setIfInBounds_toArray, List.set_cons_zero, List.set_cons_succ]
            refine wpAnyL_takeD (fun _ => True) (i := 9) (v := (.slice (some ad) n c)) (some 21) rfl rfl (by kernel_rfl) (by kernel_rfl) (by kernel_rfl) (fun _ _ _ h => h) (fun _ _ _ _ _ _ => trivial) (fun _ _ _ => Iff.rfl) trivial (Or.inl ⟨by rfl, fun w' hw' => by obtain ⟨l, _, hl⟩ := hw'; obtain ⟨_, kx, ky, k0, k1, k2, k3, k4, k5, k6, k7, k8, k9, ka, kb⟩ := hl; go_simp⟩) HS.out ?_
            simp only [Act.put, List.setIfInBounds_toArray, List.set_cons_zero, List.set_cons_succ]
            refine wpAnyL_takeD (fun _ => True) (i := 10) (v := (.int .i64 (i : Int))) (some 22) rfl rfl (by kernel_rfl) (by kernel_rfl) (by kernel_rfl) (fun _ _ _ h => h) (fun _ _ _ _ _ _ => trivial) (fun _ _ _ => Iff.rfl) trivial (Or.inl ⟨by rfl, fun w' hw' => by obtain ⟨l, _, hl⟩ := hw'; obtain ⟨_, kx, ky, k0, k1, k2, k3, k4, k5, k6, k7, k8, k9, ka, kb⟩ := hl; go_simp⟩) HS.out ?_
            simp only [Act.put, List.setIfInBounds_toArray, List.set_cons_zero, List.set_cons_succ]
            refine wpAnyL_takeD (fun _ => True) (i := 11) (v := (.int .i64 ((i : Int) - 1))) (some 23) rfl rfl (by kernel_rfl) (by kernel_rfl) (by kernel_rfl) (fun _ _ _ h => h) (fun _ _ _ _ _ _ => trivial) (fun _ _ _ => Iff.rfl) trivial (Or.inl ⟨by rfl, fun w' hw' => by obtain ⟨l, _, hl⟩ := hw'; obtain ⟨_, kx, ky, k0, k1, k2, k3, k4, k5, k6, k7, k8, k9, ka, kb⟩ := hl; go_simp⟩) HS.out ?_
            simp only [Act.put, List.setIfInBounds_toArray, List.set_cons_zero, List.set_cons_succ]
            refine wpAnyL_takeD (fun _ => True) (i := 12) (v := (.pointer (some (ad.add ((i - 1) * 12))))) (some 24) rfl rfl (by kernel_rfl) (by kernel_rfl) (by kernel_rfl) (fun _ _ _ h => h) (fun _ _ _ _ _ _ => trivial) (fun _ _ _ => Iff.rfl) trivial (Or.inl ⟨by rfl, fun w' hw' => by obtain ⟨l, _, hl⟩ := hw'; obtain ⟨_, kx, ky, k0, k1, k2, k3, k4, k5, k6, k7, k8, k9, ka, kb⟩ := hl; go_simp⟩) HS.out ?_
            simp only [Act.put, List.setIfInBounds_toArray, List.set_cons_zero, List.set_cons_succ]
            refine wpAnyL_takeD (fun _ => True) (i := 13) (v := (.pointer (some (ad.add ((i - 1) * 12))))) (some 25) rfl rfl (by kernel_rfl) (by kernel_rfl) (by kernel_rfl) (fun _ _ _ h => h) (fun _ _ _ _ _ _ => trivial) (fun _ _ _ => Iff.rfl) trivial (Or.inl ⟨by rfl, fun w' hw' => by obtain ⟨l, _, hl⟩ := hw'; obtain ⟨_, kx, ky, k0, k1, k2, k3, k4, k5, k6, k7, k8, k9, ka, kb⟩ := hl; go_simp⟩) HS.out ?_
            simp only [Act.put, List.setIfInBounds_toArray, List.set_cons_zero, List.set_cons_succ]
            refine wpAnyL_takeD (fun _ => True) (i := 14) (v := (.int .i64 pid)) (some 26) rfl rfl (by kernel_rfl) (by kernel_rfl) (by kernel_rfl) (fun _ _ _ h => h) (fun _ _ _ _ _ _ => trivial) (fun _ _ _ => Iff.rfl) trivial (Or.inl ⟨by rfl, fun w' hw' => by obtain ⟨l, _, hl⟩ := hw'; obtain ⟨_, kx, ky, k0, k1, k2, k3, k4, k5, k6, k7, k8, k9, ka, kb⟩ := hl; go_simp⟩) HS.out ?_
            simp only [Act.put, List.setIfInBounds_toArray, List.set_cons_zero, List.set_cons_succ]
            refine wpAnyL_takeD (fun _ => True) (i := 15) (v := (.bool true)) (some 27) rfl rfl (by kernel_rfl) (by kernel_rfl) (by kernel_rfl) (fun _ _ _ h => h) (fun _ _ _ _ _ _ => trivial) (fun _ _ _ => Iff.rfl) trivial (Or.inl ⟨by rfl, fun w' hw' => by obtain ⟨l, _, hl⟩ := hw'; obtain ⟨_, kx, ky, k0, k1, k2, k3, k4, k5, k6, k7, k8, k9, ka, kb⟩ := hl; go_simp⟩) HS.out ?_
            simp only [Act.put, List.setIfInBounds_toArray, List.set_cons_zero, List.set_cons_succ]
            refine wpAnyL_takeD (fun _ => True) (i := 16) (v := (.bool true)) (some 28) rfl rfl (by kernel_rfl) (by kernel_rfl) (by kernel_rfl) (fun _ _ _ h => h) (fun _ _ _ _ _ _ => trivial) (fun _ _ _ => Iff.rfl) trivial (Or.inl ⟨by rfl, fun w' hw' => by obtain ⟨l, _, hl⟩ := hw'; obtain ⟨_, kx, ky, k0, k1, k2, k3, k4, k5, k6, k7, k8, k9, ka, kb⟩ := hl; go_simp⟩) HS.out ?_
            simp only [Act.put, List.setIfInBounds_toArray, List.set_cons_zero, List.set_cons_succ]
            refine wpAnyL_takeD (fun _ => True) (i := 17) (v := (.bool true)) (some 29) rfl rfl (by kernel_rfl) (by kernel_rfl) (by kernel_rfl) (fun _ _ _ h => h) (fun _ _ _ _ _ _ => trivial) (fun _ _ _ => Iff.rfl) trivial (Or.inl ⟨by rfl, fun w' hw' => by obtain ⟨l, _, hl⟩ := hw'; obtain ⟨_, kx, ky, k0, k1, k2, k3, k4, k5, k6, k7, k8, k9, ka, kb⟩ := hl; go_simp⟩) HS.out ?_
            simp only [Act.put, List.setIfInBounds_toArray, List.set_cons_zero, List.set_cons_succ]
            refine wpAnyL_done (by decide +kernel) ?_ _
            clear MK HS q3 q4
            go_wp2
            go_ret
            exact ⟨false, rfl, ⟨fun h => (by cases h), fun h => absurd h HNO.out⟩, bt hb2 hbp⟩
          · have HGD : Hid (goodE L i) := good_more HE.out HBB.out.symm hp (by rw [hpid]; show pid < id; omega)
            clear hp hpid
            have hdl : decide (id ≤ pid) = false := by simpa using hle
            have MK : Hid (∀ w', Below wx.heap.size wx w' → (Below wx.heap.size wx w' ∧ w'.cell? (ad.add ((i - 1) * 12)) = some (.int .i64 pid) ∧ True ∧ w'.cell? ⟨wr.heap.size, 0, none⟩ = some (.int .i64 id) ∧ w'.cell? ⟨wr.heap.size, 1, none⟩ = some (.int .i64 rows) ∧ w'.cell? ⟨wr.heap.size, 2, none⟩ = some (.int .i64 live) ∧ w'.cell? ⟨wr.heap.size, 3, none⟩ = some (.bool ln) ∧ w'.cell? ⟨wr.heap.size, 4, none⟩ = some (.int .i64 li) ∧ w'.cell? ⟨wr.heap.size, 5, none⟩ = some (.string lz) ∧ w'.cell? ⟨wr.heap.size, 6, none⟩ = some (.int .i64 lq) ∧ w'.cell? ⟨wr.heap.size, 7, none⟩ = some (.bool hn) ∧ w'.cell? ⟨wr.heap.size, 8, none⟩ = some (.int .i64 hi) ∧ w'.cell? ⟨wr.heap.size, 9, none⟩ = some (.string hz) ∧ w'.cell? ⟨wr.heap.size, 10, none⟩ = some (.int .i64 hq) ∧ w'.cell? ⟨wr.heap.size, 11, none⟩ = some (.int .i64 del))) := fun w' h => by
              have hk := hE.call h
              exact ⟨h, (h.cell hplt).trans pc, trivial, hk.cellAt 0 rfl, hk.cellAt 1 rfl, hk.cellAt 2 rfl, hk.cellAt 3 rfl, hk.cellAt 4 rfl, hk.cellAt 5 rfl, hk.cellAt 6 rfl, hk.cellAt 7 rfl, hk.cellAt 8 rfl, hk.cellAt 9 rfl, hk.cellAt 10 rfl, hk.cellAt 11 rfl⟩
            refine wp_region_L (fun _ w' => Below wx.heap.size wx w' ∧ w'.cell? (ad.add ((i - 1) * 12)) = some (.int .i64 pid) ∧ True ∧ w'.cell? ⟨wr.heap.size, 0, none⟩ = some (.int .i64 id) ∧ w'.cell? ⟨wr.heap.size, 1, none⟩ = some (.int .i64 rows) ∧ w'.cell? ⟨wr.heap.size, 2, none⟩ = some (.int .i64 live) ∧ w'.cell? ⟨wr.heap.size, 3, none⟩ = some (.bool ln) ∧ w'.cell? ⟨wr.heap.size, 4, none⟩ = some (.int .i64 li) ∧ w'.cell? ⟨wr.heap.size, 5, none⟩ = some (.string lz) ∧ w'.cell? ⟨wr.heap.size, 6, none⟩ = some (.int .i64 lq) ∧ w'.cell? ⟨wr.heap.size, 7, none⟩ = some (.bool hn) ∧ w'.cell? ⟨wr.heap.size, 8, none⟩ = some (.int .i64 hi) ∧ w'.cell? ⟨wr.heap.size, 9, none⟩ = some (.string hz) ∧ w'.cell? ⟨wr.heap.size, 10, none⟩ = some (.int .i64 hq) ∧ w'.cell? ⟨wr.heap.size, 11, none⟩ = some (.int .i64 del)) (by kernel_rfl) ?_
            have hbp : Below wx.heap.size wx wx.drew := Below.drew (Below.refl _ _)
            generalize wx.drew = wy at *
            have HS := Lib.hid (MK.out _ hbp)
            refine wpAnyL_takeD (fun _ => True) (i := 0) (v := (.agg #[.int .i64 id, .int .i64 rows, .int .i64 live, .bool ln, .int .i64 li, .string lz, .int .i64 lq, .bool hn, .int .i64 hi, .string hz, .int .i64 hq, .int .i64 del])) (some 12) rfl rfl (by kernel_rfl) (by kernel_rfl) (by kernel_rfl) (fun _ _ _ h => h) (fun _ _ _ _ _ _ => trivial) (fun _ _ _ => Iff.rfl) trivial (Or.inl ⟨by rfl, fun w' hw' => by obtain ⟨l, _, hl⟩ := hw'; obtain ⟨_, kx, ky, k0, k1, k2, k3, k4, k5, k6, k7, k8, k9, ka, kb⟩ := hl; go_simp⟩) HS.out ?_
            simp only [Act.put, List.setIfInBounds_toArray, List.set_cons_zero, List.set_cons_succ]
            refine wpAnyL_one (i := 1) (by decide +kernel) ?_
            refine wpOp_go (o := _) rfl (fun K hK => ?_)
            go_simp
            go_at_call 18
            refine (HC.out _).mono ?_; rintro e wy ⟨rfl, hb3⟩
            replace hbp := bt hbp hb3
            refine hK _ _ ⟨MK.out _ hbp, ?_⟩
            replace HS := Lib.hid (MK.out _ hbp)
            clear hK K hb3
            refine wpAnyL_takeD (fun _ => True) (i := 2) (v := (.bool false)) (some 14) rfl rfl (by kernel_rfl) (by kernel_rfl) (by kernel_rfl) (fun _ _ _ h => h) (fun _ _ _ _ _ _ => trivial) (fun _ _ _ => Iff.rfl) trivial (Or.inl ⟨by rfl, fun w' hw' => by obtain ⟨l, _, hl⟩ := hw'; obtain ⟨_, kx, ky, k0, k1, k2, k3, k4, k5, k6, k7, k8, k9, ka, kb⟩ := hl; go_simp⟩) HS.out ?_
            simp only [Act.put, List.setIfInBounds_toArray, List.set_cons_zero, List.set_cons_succ]
            refine wpAnyL_takeD (fun _ => True) (i := 3) (v := (.bool false)) (some 15) rfl rfl (by kernel_rfl) (by kernel_rfl) (by kernel_rfl) (fun _ _ _ h => h) (fun _ _ _ _ _ _ => trivial) (fun _ _ _ => Iff.rfl) trivial (Or.inl ⟨by rfl, fun w' hw' => by obtain ⟨l, _, hl⟩ := hw'; obtain ⟨_, kx, ky, k0, k1, k2, k3, k4, k5, k6, k7, k8, k9, ka, kb⟩ := hl; go_simp⟩) HS.out ?_
            simp only [Act.put, List.setIfInBounds_toArray, List.set_cons_zero, List.set_cons_succ]
            refine wpAnyL_takeD (fun _ => True) (i := 4) (v := (.int .i64 (i : Int))) (some 16) rfl rfl (by kernel_rfl) (by kernel_rfl) (by kernel_rfl) (fun _ _ _ h => h) (fun _ _ _ _ _ _ => trivial) (fun _ _ _ => Iff.rfl) trivial (Or.inl ⟨by rfl, fun w' hw' => by obtain ⟨l, _, hl⟩ := hw'; obtain ⟨_, kx, ky, k0, k1, k2, k3, k4, k5, k6, k7, k8, k9, ka, kb⟩ := hl; go_simp⟩) HS.out ?_
            simp only [Act.put, List.setIfInBounds_toArray, List.set_cons_zero, List.set_cons_succ]
            refine wpAnyL_takeD (fun _ => True) (i := 5) (v := (.bool true)) (some 17) rfl rfl (by kernel_rfl) (by kernel_rfl) (by kernel_rfl) (fun _ _ _ h => h) (fun _ _ _ _ _ _ => trivial) (fun _ _ _ => Iff.rfl) trivial (Or.inl ⟨by rfl, fun w' hw' => by obtain ⟨l, _, hl⟩ := hw'; obtain ⟨_, kx, ky, k0, k1, k2, k3, k4, k5, k6, k7, k8, k9, ka, kb⟩ := hl; go_simp⟩) HS.out ?_
            simp only [Act.put, List.setIfInBounds_toArray, List.set_cons_zero, List.set_cons_succ]
            refine wpAnyL_takeD (fun _ => True) (i := 6) (v := (.bool true)) (some 18) rfl rfl (by kernel_rfl) (by kernel_rfl) (by kernel_rfl) (fun _ _ _ h => h) (fun _ _ _ _ _ _ => trivial) (fun _ _ _ => Iff.rfl) trivial (Or.inl ⟨by rfl, fun w' hw' => by obtain ⟨l, _, hl⟩ := hw'; obtain ⟨_, kx, ky, k0, k1, k2, k3, k4, k5, k6, k7, k8, k9, ka, kb⟩ := hl; go_simp⟩) HS.out ?_
            simp only [Act.put, List.setIfInBounds_toArray, List.set_cons_zero, List.set_cons_succ]
            refine wpAnyL_takeD (fun _ => True) (i := 7) (v := (.pointer (some ⟨wr.heap.size, 0, none⟩))) (some 19) rfl rfl (by kernel_rfl) (by kernel_rfl) (by kernel_rfl) (fun _ _ _ h => h) (fun _ _ _ _ _ _ => trivial) (fun _ _ _ => Iff.rfl) trivial (Or.inl ⟨by rfl, fun w' hw' => by obtain ⟨l, _, hl⟩ := hw'; obtain ⟨_, kx, ky, k0, k1, k2, k3, k4, k5, k6, k7, k8, k9, ka, kb⟩ := hl; go_simp⟩) HS.out ?_
            simp only [Act.put, List.setIfInBounds_toArray, List.set_cons_zero, List.set_cons_succ]
            refine wpAnyL_takeD (fun _ => True) (i := 8) (v := (.int .i64 id)) (some 20) rfl rfl (by kernel_rfl) (by kernel_rfl) (by kernel_rfl) (fun _ _ _ h => h) (fun _ _ _ _ _ _ => trivial) (fun _ _ _ => Iff.rfl) trivial (Or.inl ⟨by rfl, fun w' hw' => by obtain ⟨l, _, hl⟩ := hw'; obtain ⟨_, kx, ky, k0, k1, k2, k3, k4, k5, k6, k7, k8, k9, ka, kb⟩ := hl; go_simp⟩) HS.out ?_
            simp only [Act.put, List.setIfInBounds_toArray, List.set_cons_zero, List.set_cons_succ]
            refine wpAnyL_takeD (fun _ => True) (i := 9) (v := (.slice (some ad) n c)) (some 21) rfl rfl (by kernel_rfl) (by kernel_rfl) (by kernel_rfl) (fun _ _ _ h => h) (fun _ _ _ _ _ _ => trivial) (fun _ _ _ => Iff.rfl) trivial (Or.inl ⟨by rfl, fun w' hw' => by obtain ⟨l, _, hl⟩ := hw'; obtain ⟨_, kx, ky, k0, k1, k2, k3, k4, k5, k6, k7, k8, k9, ka, kb⟩ := hl; go_simp⟩) HS.out ?_
            simp only [Act.put, List.setIfInBounds_toArray, List.set_cons_zero, List.set_cons_succ]
            refine wpAnyL_takeD (fun _ => True) (i := 10) (v := (.int .i64 (i : Int))) (some 22) rfl rfl (by kernel_rfl) (by kernel_rfl) (by kernel_rfl) (fun _ _ _ h => h) (fun _ _ _ _ _ _ => trivial) (fun _ _ _ => Iff.rfl) trivial (Or.inl ⟨by rfl, fun w' hw' => by obtain ⟨l, _, hl⟩ := hw'; obtain ⟨_, kx, ky, k0, k1, k2, k3, k4, k5, k6, k7, k8, k9, ka, kb⟩ := hl; go_simp⟩) HS.out ?_
            simp only [Act.put, List.setIfInBounds_toArray, List.set_cons_zero, List.set_cons_succ]
            refine wpAnyL_takeD (fun _ => True) (i := 11) (v := (.int .i64 ((i : Int) - 1))) (some 23) rfl rfl (by kernel_rfl) (by kernel_rfl) (by kernel_rfl) (fun _ _ _ h => h) (fun _ _ _ _ _ _ => trivial) (fun _ _ _ => Iff.rfl) trivial (Or.inl ⟨by rfl, fun w' hw' => by obtain ⟨l, _, hl⟩ := hw'; obtain ⟨_, kx, ky, k0, k1, k2, k3, k4, k5, k6, k7, k8, k9, ka, kb⟩ := hl; go_simp⟩) HS.out ?_
            simp only [Act.put, List.setIfInBounds_toArray, List.set_cons_zero, List.set_cons_succ]
            refine wpAnyL_takeD (fun _ => True) (i := 12) (v := (.pointer (some (ad.add ((i - 1) * 12))))) (some 24) rfl rfl (by kernel_rfl) (by kernel_rfl) (by kernel_rfl) (fun _ _ _ h => h) (fun _ _ _ _ _ _ => trivial) (fun _ _ _ => Iff.rfl) trivial (Or.inl ⟨by rfl, fun w' hw' => by obtain ⟨l, _, hl⟩ := hw'; obtain ⟨_, kx, ky, k0, k1, k2, k3, k4, k5, k6, k7, k8, k9, ka, kb⟩ := hl; go_simp⟩) HS.out ?_
            simp only [Act.put, List.setIfInBounds_toArray, List.set_cons_zero, List.set_cons_succ]
            refine wpAnyL_takeD (fun _ => True) (i := 13) (v := (.pointer (some (ad.add ((i - 1) * 12))))) (some 25) rfl rfl (by kernel_rfl) (by kernel_rfl) (by kernel_rfl) (fun _ _ _ h => h) (fun _ _ _ _ _ _ => trivial) (fun _ _ _ => Iff.rfl) trivial (Or.inl ⟨by rfl, fun w' hw' => by obtain ⟨l, _, hl⟩ := hw'; obtain ⟨_, kx, ky, k0, k1, k2, k3, k4, k5, k6, k7, k8, k9, ka, kb⟩ := hl; go_simp⟩) HS.out ?_
            simp only [Act.put, List.setIfInBounds_toArray, List.set_cons_zero, List.set_cons_succ]
            refine wpAnyL_takeD (fun _ => True) (i := 14) (v := (.int .i64 pid)) (some 26) rfl rfl (by kernel_rfl) (by kernel_rfl) (by kernel_rfl) (fun _ _ _ h => h) (fun _ _ _ _ _ _ => trivial) (fun _ _ _ => Iff.rfl) trivial (Or.inl ⟨by rfl, fun w' hw' => by obtain ⟨l, _, hl⟩ := hw'; obtain ⟨_, kx, ky, k0, k1, k2, k3, k4, k5, k6, k7, k8, k9, ka, kb⟩ := hl; go_simp⟩) HS.out ?_
            simp only [Act.put, List.setIfInBounds_toArray, List.set_cons_zero, List.set_cons_succ]
            refine wpAnyL_takeD (fun _ => True) (i := 15) (v := (.bool false)) (some 27) rfl rfl (by kernel_rfl) (by kernel_rfl) (by kernel_rfl) (fun _ _ _ h => h) (fun _ _ _ _ _ _ => trivial) (fun _ _ _ => Iff.rfl) trivial (Or.inl ⟨by rfl, fun w' hw' => by obtain ⟨l, _, hl⟩ := hw'; obtain ⟨_, kx, ky, k0, k1, k2, k3, k4, k5, k6, k7, k8, k9, ka, kb⟩ := hl; go_simp⟩) HS.out ?_
            simp only [Act.put, List.setIfInBounds_toArray, List.set_cons_zero, List.set_cons_succ]
            refine wpAnyL_takeD (fun _ => True) (i := 16) (v := (.bool false)) (some 28) rfl rfl (by kernel_rfl) (by kernel_rfl) (by kernel_rfl) (fun _ _ _ h => h) (fun _ _ _ _ _ _ => trivial) (fun _ _ _ => Iff.rfl) trivial (Or.inl ⟨by rfl, fun w' hw' => by obtain ⟨l, _, hl⟩ := hw'; obtain ⟨_, kx, ky, k0, k1, k2, k3, k4, k5, k6, k7, k8, k9, ka, kb⟩ := hl; go_simp⟩) HS.out ?_
            simp only [Act.put, List.setIfInBounds_toArray, List.set_cons_zero, List.set_cons_succ]
            refine wpAnyL_takeD (fun _ => True) (i := 17) (v := (.bool false)) (some 29) rfl rfl (by kernel_rfl) (by kernel_rfl) (by kernel_rfl) (fun _ _ _ h => h) (fun _ _ _ _ _ _ => trivial) (fun _ _ _ => Iff.rfl) trivial (Or.inl ⟨by rfl, fun w' hw' => by obtain ⟨l, _, hl⟩ := hw'; obtain ⟨_, kx, ky, k0, k1, k2, k3, k4, k5, k6, k7, k8, k9, ka, kb⟩ := hl; go_simp⟩) HS.out ?_
            simp only [Act.put, List.setIfInBounds_toArray, List.set_cons_zero, List.set_cons_succ]
            refine wpAnyL_done (by decide +kernel) ?_ _
            clear MK HS q3 q4
            go_wp2
            go_roundw
            case rel => exact ⟨i + 1, by go_num, by omega, good_next HG.out HGD.out, bt hb2 hbp⟩
            case measure => simp [intOf]; omega
    · have hin2 : i = n := by omega
      subst hin2
      have HOK : Hid (addOk L) := fun j hj => HG.out j (by rw [← HN.out]; exact hj)
      go_wp2
      go_ret
      exact ⟨true, rfl, ⟨fun _ => HOK.out, fun _ => rfl⟩, hb⟩

end Go.Proofs.Ytgacjpkgpegcdaa
