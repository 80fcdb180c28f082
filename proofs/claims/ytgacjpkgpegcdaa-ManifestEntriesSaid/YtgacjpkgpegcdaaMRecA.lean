/-
  MRecA: texts of layer 19 in one.
-/
import Derived.Test.YtgacjpkgpegcdaaOMake3
import Derived.Test.YtgacjpkgpegcdaaMDec
import Derived.Test.YtgacjpkgpegcdaaMScanB
/-! keep.Entries: what it returns. -/
namespace Go.Proofs.Ytgacjpkgpegcdaa
open Go.RowKit

/-- The slice at A holds the cells ys, below the block B and in another one than g. -/
def RdB (w : World) (g B : Nat) (A : Option Addr) (ys : List Value) : Prop :=
  ys = [] ∨ ∃ ad, A = some ad ∧ ad.block < B ∧ ad.block ≠ g ∧ ad.block < w.heap.size ∧ ∀ (j : Nat) (u : Value), ys[j]? = some u → w.cell? (ad.add j) = some u
theorem RdB.rd {w : World} {g B : Nat} {A : Option Addr} {ys : List Value} (h : RdB w g B A ys) : Rd w w.heap.size A ys := by
  rcases h with h | ⟨ad, e, _, _, hb, hc⟩
  · exact .inl h
  · exact .inr ⟨ad, e, hb, hc⟩
theorem RdB.grown {w w' : World} {g B : Nat} {A : Option Addr} {ys : List Value} {row : Option Nat} (h : RdB w g B A ys) (hg : w.grownBy w' row) (hr : ∀ k, row = some k → k = g ∨ B ≤ k) : RdB w' g B A ys := by
  rcases h with h | ⟨ad, e, h1, h2, hb, hc⟩
  · exact .inl h
  · refine .inr ⟨ad, e, h1, h2, by have := hg.size; omega, fun j u hj => ?_⟩
    rw [← hc j u hj]
    exact World.cell?_of_block (hg.block (ad.add j).block (by rw [block_of_add]; exact hb) (fun e' => by
      rw [block_of_add] at e'
      rcases hr _ e'.symm with h3 | h3
      · exact h2 h3
      · omega))
theorem RdB.new {w w' : World} {g B : Nat} {e : TypeId} {size n q c : Nat} {A : Option Addr} {ys : List Value} (hr : w'.ownsRow w.heap.size e size (.slice A q c) n ys) (hg : g < w.heap.size) (hB : w'.heap.size ≤ B) : RdB w' g B A ys := by
  rcases hr.2 with ⟨hv, h0⟩ | ⟨k, cap, cur, hv, hb, hk, _⟩
  · exact .inl (List.eq_nil_of_length_eq_zero (by rw [hr.1, h0]; omega))
  · injection hv with hA
    subst hA
    have hlt : k < w'.heap.size := (Array.getElem?_eq_some_iff.1 hk).1
    exact .inr ⟨_, rfl, by simp only; omega, by simp only; omega, hlt, fun j u hj => hr.cells (g := k) rfl j u hj⟩
/-- The maker of entries at work: the source at g, the ranges below B, the row of its own from B on. -/
structure EG (w wr : World) (g B : Nat) (A : Option Addr) (n c i : Nat) (v : Value) (es : List En) (R : Option Addr) (rs : List Rg) : Prop where
  src : Src wr g A n c i
  own : wr.ownsRow B 40 12 v es.length (es.flatMap entC)
  rng : RdB wr g B R (rs.flatMap rangeC)
  bel : Below w.heap.size w wr
  o1 : w.heap.size ≤ g
  o2 : g < B
  o3 : B ≤ wr.heap.size
section
variable {w wr w' : World} {g B : Nat} {A R : Option Addr} {n c i i' : Nat} {v v' : Value} {es : List En} {rs : List Rg}
theorem EG.take (h : EG w wr g B A n c i v es R rs) (hs : Src w' g A n c i') (hg : wr.grownBy w' (some g)) : EG w w' g B A n c i' v es R rs :=
  ⟨hs, kept_ne h.own hg (fresh_of h.own h.o2), h.rng.grown hg (fun k e => by injection e with e; exact .inl e.symm), h.bel.grown hg h.bel.size (fun j e => by have := h.o1; injection e; omega), h.o1, h.o2, Nat.le_trans h.o3 hg.size⟩
theorem EG.side {k : Nat} (h : EG w wr g B A n c i v es R rs) (hg : wr.grownBy w' (some k)) (hk : B ≤ k) (hv : v.ownBlock ≠ some k) : EG w w' g B A n c i v es R rs :=
  ⟨h.src.grown hg (fun j e => by have := h.o2; injection e; omega), kept_ne h.own hg hv, h.rng.grown hg (fun j e => by injection e with e; exact .inr (by omega)), h.bel.grown hg h.bel.size (fun j e => by have := h.o1; have := h.o2; injection e; omega), h.o1, h.o2, Nat.le_trans h.o3 hg.size⟩
theorem EG.call (h : EG w wr g B A n c i v es R rs) (hb : Below wr.heap.size wr w') : EG w w' g B A n c i v es R rs :=
  ⟨h.src.below hb, DS.call.kept_below h.own hb, h.rng.grown (row := none) ⟨hb.os, hb.tape, hb.output, hb.size, fun k hk _ => hb.block k hk⟩ (fun k e => by cases e), h.bel.trans (hb.mono h.bel.size), h.o1, h.o2, Nat.le_trans h.o3 hb.size⟩
theorem EG.alloc (h : EG w wr g B A n c i v es R rs) (o : Obj) : EG w (wr.alloc o) g B A n c i v es R rs := h.call ((Below.refl _ _).alloc (Nat.le_refl _) o)
theorem EG.drew (h : EG w wr g B A n c i v es R rs) : EG w wr.drew g B A n c i v es R rs := h.call (Below.drew (Below.refl _ _))
theorem EG.fresh (h : EG w wr g B A n c i v es R rs) {k : Nat} (hk : wr.heap.size ≤ k) : v.ownBlock ≠ some k := fun e => by have := (h.own.lt k e).2; omega
/-- 'out = append(out, e)'. -/
theorem EG.one (h : EG w wr g B A n c i v es R rs) (e : En) (hm : es.length ≤ 1000000) {ds : Array Value} (hds : ds.toList = entC e)
    {ops : Array Oper} {rest : List Oper} {o : Oper} {a : Act} {Q : Exit → Act → World → Prop}
    (hK : ∀ v' w', EG w w' g B A n c i v' (es ++ [e]) R rs → wpList Try.prog ops Q rest (a.put o.dst v') w')
    (hgd : o.guard = none) (so xo : Operand) (ho : o.op = .call { callee := .builtin .append, args := #[so, xo], argTypes := #[28, 28] })
    (hs : a.eval so = v) (hx : a.eval xo = .slice (some ⟨wr.heap.size, 0, none⟩) 1 1) : wpList Try.prog ops Q (o :: rest) a (wr.alloc (.cells ds 40)) := by
  obtain ⟨ht, j, hi, hz, hs1, hs2⟩ := ments
  have ha := h.alloc (.cells ds 40)
  refine wpList_append_own_at _ hgd so xo _ ho B 40 j _ 12 112 ht hi hz hs1 hs2 rfl (by decide) v es.length _ hs ha.own ⟨wr.heap.size, 0, none⟩ 1 1 (entC e) hx rfl ?_ (one_en e) (by unfold maxLen; omega) (by omega) ha.o3 ?_
  · intro j u hj
    have e0 : (⟨wr.heap.size, 0, none⟩ : Addr).add j = ⟨wr.heap.size, j, none⟩ := by unfold Addr.add; split <;> simp_all
    rw [e0, World.cell?_alloc_mark, ← Array.getElem?_toList, hds]
    exact hj
  · intro v' w' ho' hg _ hat
    have l2 := ha.o2; have l1 := ha.o1
    have hlow : ∀ k, v.ownBlock = some k → B ≤ k := fun k hk => (ha.own.lt k hk).1
    exact hK v' w' ⟨ha.src.grown hg (fun k hk => by have := hlow k hk; omega), by rw [List.length_append, List.flatMap_append]; simpa using ho', ha.rng.grown hg (fun k hk => .inr (hlow k hk)), ha.bel.grown hg ha.bel.size (fun j e => by have := hlow j e; omega), ha.o1, ha.o2, Nat.le_trans ha.o3 hg.size⟩
end
theorem snoc_all' {α : Type} {p : α → Prop} {xs : List α} {z : α} (h : ∀ x ∈ xs, p x) (hz : p z) : ∀ x ∈ xs ++ [z], p x := by
  intro x hx
  rcases List.mem_append.1 hx with h1 | h1
  · exact h x h1
  · rw [List.mem_singleton.1 h1]; exact hz
/-- A valid entry with its keys in range. -/
def GenE (e : En) : Prop := entB e = true ∧ keysI e
theorem gen_rank {k : Rk} (h : GenR k) : rankB k = true ∧ I64 k.key.n := by
  obtain ⟨a, b, ha, hb, rfl⟩ := h
  refine ⟨rank_iff.2 ⟨?_, by dsimp only; omega, by dsimp only; omega⟩, by unfold I64; dsimp only; omega⟩
  unfold plainB
  simp
  exact Nat.zero_le 64
theorem set12 {w : World} {g : Nat} {T : TypeId} {u0 u1 u2 u3 u4 u5 u6 u7 u8 u9 u10 u11 : Value} (h : Blk w g T [u0, u1, u2, u3, u4, u5, u6, u7, u8, u9, u10, u11]) (v0 v1 v2 v3 v4 v5 v6 v7 v8 v9 v10 v11 : Value) : Blk ((((((((((((w.setCell ⟨g, 0, none⟩ v0).setCell ⟨g, 1, none⟩ v1).setCell ⟨g, 2, none⟩ v2).setCell ⟨g, 3, none⟩ v3).setCell ⟨g, 4, none⟩ v4).setCell ⟨g, 5, none⟩ v5).setCell ⟨g, 6, none⟩ v6).setCell ⟨g, 7, none⟩ v7).setCell ⟨g, 8, none⟩ v8).setCell ⟨g, 9, none⟩ v9).setCell ⟨g, 10, none⟩ v10).setCell ⟨g, 11, none⟩ v11) g T [v0, v1, v2, v3, v4, v5, v6, v7, v8, v9, v10, v11] :=
  (((((((((((h.set_ 0 v0).set_ 1 v1).set_ 2 v2).set_ 3 v3).set_ 4 v4).set_ 5 v5).set_ 6 v6).set_ 7 v7).set_ 8 v8).set_ 9 v9).set_ 10 v10).set_ 11 v11
theorem grown12 (w : World) (g : Nat) (v0 v1 v2 v3 v4 v5 v6 v7 v8 v9 v10 v11 : Value) : w.grownBy ((((((((((((w.setCell ⟨g, 0, none⟩ v0).setCell ⟨g, 1, none⟩ v1).setCell ⟨g, 2, none⟩ v2).setCell ⟨g, 3, none⟩ v3).setCell ⟨g, 4, none⟩ v4).setCell ⟨g, 5, none⟩ v5).setCell ⟨g, 6, none⟩ v6).setCell ⟨g, 7, none⟩ v7).setCell ⟨g, 8, none⟩ v8).setCell ⟨g, 9, none⟩ v9).setCell ⟨g, 10, none⟩ v10).setCell ⟨g, 11, none⟩ v11) (some g) :=
  Lib.grownBy_setB (Lib.grownBy_setB (Lib.grownBy_setB (Lib.grownBy_setB (Lib.grownBy_setB (Lib.grownBy_setB (Lib.grownBy_setB (Lib.grownBy_setB (Lib.grownBy_setB (Lib.grownBy_setB (Lib.grownBy_setB (Lib.grownBy_setCell _ _ _ _) _ _) _ _) _ _) _ _) _ _) _ _) _ _) _ _) _ _) _ _) _ _
def EntsPost (w : World) (m : Nat) (e : Ending) (w' : World) : Prop :=
  ∃ (v : Value) (es : List En), e = .returned v ∧ w'.ownsRow w.heap.size 40 12 v es.length (es.flatMap entC) ∧ (∀ p ∈ es, GenE p) ∧ es.length ≤ m ∧ Below w.heap.size w w'
set_option maxRecDepth 100000 in
set_option maxHeartbeats 2000000 in
theorem entries_any (A : Option Addr) (n c m : Nat) (zs : List Int) (w : World) (hr : Rd w w.heap.size A (zs.map Iv)) (hn : zs.length = n) (hz : ∀ z ∈ zs, I64 z) (hm : n ≤ 17592186044416) (hm2 : m ≤ 1000) :
    Calls Try.prog 14 #[.slice A n c, .int .i64 (m : Int)] w (EntsPost w m) := by
  have hs0 := Src.new hr hn hz hm (c := c)
  have hb0 : Below w.heap.size w (w.alloc (.cells #[.slice A n c, .int .i64 0] 113)) := (Below.refl _ _).alloc (Nat.le_refl _) _
  have HR := Lib.hid (ranges_any A n c m zs _ (hr.call hb0) hn hz hm hm2)
  have hsz0 : (w.alloc (.cells #[.slice A n c, .int .i64 0] 113)).heap.size = w.heap.size + 1 := by simp
  clear hr hz hn
  go_enter Try.func14, Try.ntmps14
  go_wp2_with fail
  refine (from_any A n c w).mono ?_; rintro e w' ⟨rfl, rfl⟩
  generalize w.alloc (.cells #[.slice A n c, .int .i64 0] 113) = w1 at *
  go_wp2_with fail
  refine HR.out.mono ?_; rintro e w2 ⟨vr, rs, rfl, hor, hgr, hlr, hbr⟩
  clear HR
  obtain ⟨R, cr, rfl, hcr⟩ := own_form hor
  have hE : EG w w2 w.heap.size w2.heap.size A n c 0 (.slice none 0 0) [] R rs := ⟨hs0.below hbr, World.ownsRow_nil _ _ _ _, RdB.new hor (by omega) (Nat.le_refl _), hb0.trans (hbr.mono (by omega)), Nat.le_refl _, by have := hbr.size; omega, Nat.le_refl _⟩
  have HG := Lib.hid hgr
  clear hgr hor hbr hs0 hb0 hsz0
  generalize w.heap.size = g at *
  generalize w2.heap.size = B at *
  go_wp2_with fail
  go_loopw [7, 8, 19] (fun a b k wr => ∃ (j i x : Nat) (es : List En), k = .int .i64 (j : Int) ∧ b = .int .i64 (x : Int) ∧ j ≤ rs.length ∧ x ≤ 3 * j ∧ es.length = j ∧ EG w wr g B A n c i a es R rs ∧ Hid (∀ p ∈ es, GenE p)) (fun _ _ k _ => rs.length - (intOf k).toNat)
  case atStart => exact ⟨0, _, 0, [], rfl, rfl, by omega, by omega, rfl, hE, (fun p hp => by cases hp)⟩
  case round =>
    clear hE
    obtain ⟨j, i, x, es, rfl, rfl, hj, hx, hl, hE, HP⟩ := hrel
    subst hl
    obtain ⟨Ae, ce, hve, _⟩ := own_form hE.own
    subst hve
    by_cases hjl : es.length < rs.length
    · obtain ⟨r, hrj⟩ : ∃ r, rs[es.length]? = some r := ⟨_, List.getElem?_eq_getElem hjl⟩
      have HGR := Lib.hid (HG.out r (List.mem_of_getElem? hrj))
      obtain ⟨ad, rfl, _, c0, c1, c2, c3, c4, c5, c6, c7⟩ := hE.rng.rd.range hrj
      clear hrj
      obtain ⟨⟨⟨ln, li, lz⟩, lq⟩, ⟨⟨hn, hi, hz⟩, hq⟩⟩ := r
      dsimp only at c0 c1 c2 c3 c4 c5 c6 c7
      have hK1 := Blk.new' wr 87 #[.bool ln, .int .i64 li, .string lz, .int .i64 lq, .bool hn, .int .i64 hi, .string hz, .int .i64 hq]
      have hE2 := hE.alloc (.cells #[.bool ln, .int .i64 li, .string lz, .int .i64 lq, .bool hn, .int .i64 hi, .string hz, .int .i64 hq] 87)
      have hf1 := hE.fresh (Nat.le_refl _)
      have hB1 := hE.o3
      have hgB := hE.o2
      go_upto_region 8 with fail
      clear c0 c1 c2 c3 c4 c5 c6 c7 hE
      generalize wr.alloc (.cells #[.bool ln, .int .i64 li, .string lz, .int .i64 lq, .bool hn, .int .i64 hi, .string hz, .int .i64 hq] 87) = w3 at *
      generalize wr.heap.size = g1 at *
      go_wp2_with fail
      refine (next_any _ A n c i 3 _ hE2.src (by omega) (by omega)).mono ?_; rintro e w4 ⟨k3, hk3, rfl, hs, hg⟩
      obtain ⟨i4, hE4⟩ : ∃ i4, EG w w4 g B A n c i4 (.slice Ae es.length ce) es (some ad) rs := ⟨min (i + 1) n, hE2.take hs hg⟩
      replace hK1 := hK1.grownB hg (by omega)
      clear hs hg hE2
      go_upto_region 9 with fail
      obtain ⟨x4, hx4, hx5⟩ : ∃ x4 : Nat, ((x : Int) + (1 + (k3 : Int))) = (x4 : Int) ∧ x4 = x + (1 + k3) := ⟨x + (1 + k3), by omega, rfl⟩
      rw [hx4]
      have HX4 := Lib.hid hx5
      clear hx4 hx5
      go_cut [11] (fun y wy => ∃ ge rwn i', y = .pointer (some ⟨ge, 0, none⟩) ∧ B ≤ ge ∧ 1 ≤ rwn ∧ rwn ≤ 8 ∧ Blk wy ge 40 [.int .i64 (x4 : Int), .int .i64 ((rwn : Nat) : Int), .int .i64 0, .bool ln, .int .i64 li, .string lz, .int .i64 lq, .bool hn, .int .i64 hi, .string hz, .int .i64 hq, .int .i64 0] ∧ Hid ((Value.slice Ae es.length ce).ownBlock ≠ some ge) ∧ EG w wy g B A n c i' (.slice Ae es.length ce) es (some ad) rs)
      case first =>
        refine wp_region_L (fun _ w' => Blk w' g1 87 [.bool ln, .int .i64 li, .string lz, .int .i64 lq, .bool hn, .int .i64 hi, .string hz, .int .i64 hq]) (by kernel_rfl) ?_
        replace hE4 := hE4.drew
        replace hK1 : Blk w4.drew g1 87 [.bool ln, .int .i64 li, .string lz, .int .i64 lq, .bool hn, .int .i64 hi, .string hz, .int .i64 hq] := hK1
        generalize w4.drew = wy at *
        refine wpAnyL_takeD (fun _ => True) (i := 0) (v := (.int .i64 (x4 : Int))) (some 28) rfl rfl (by kernel_rfl) (by kernel_rfl) (by kernel_rfl) (fun _ _ _ h => h) (fun _ _ _ _ _ _ => trivial) (fun _ _ _ => Iff.rfl) trivial (Or.inl ⟨by rfl, fun w' hw' => by obtain ⟨l, _, hl⟩ := hw'; have k0 := hl.cellAt 0 rfl; have k1 := hl.cellAt 1 rfl; have k2 := hl.cellAt 2 rfl; have k3 := hl.cellAt 3 rfl; have k4 := hl.cellAt 4 rfl; have k5 := hl.cellAt 5 rfl; have k6 := hl.cellAt 6 rfl; have k7 := hl.cellAt 7 rfl; go_simp⟩) hK1 ?_
        simp only [Act.put, List.setIfInBounds_toArray, List.set_cons_zero, List.set_cons_succ]
        refine wpAnyL_takeD (fun _ => True) (i := 1) (v := (.pointer (some ⟨g, 0, none⟩))) (some 29) rfl rfl (by kernel_rfl) (by kernel_rfl) (by kernel_rfl) (fun _ _ _ h => h) (fun _ _ _ _ _ _ => trivial) (fun _ _ _ => Iff.rfl) trivial (Or.inl ⟨by rfl, fun w' hw' => by obtain ⟨l, _, hl⟩ := hw'; have k0 := hl.cellAt 0 rfl; have k1 := hl.cellAt 1 rfl; have k2 := hl.cellAt 2 rfl; have k3 := hl.cellAt 3 rfl; have k4 := hl.cellAt 4 rfl; have k5 := hl.cellAt 5 rfl; have k6 := hl.cellAt 6 rfl; have k7 := hl.cellAt 7 rfl; go_simp⟩) hK1 ?_
        simp only [Act.put, List.setIfInBounds_toArray, List.set_cons_zero, List.set_cons_succ]
        refine wpAnyL_takeD (fun _ => True) (i := 4) (v := (.pointer (some ⟨g1, 0, none⟩))) (some 32) rfl rfl (by kernel_rfl) (by kernel_rfl) (by kernel_rfl) (fun _ _ _ h => h) (fun _ _ _ _ _ _ => trivial) (fun _ _ _ => Iff.rfl) trivial (Or.inl ⟨by rfl, fun w' hw' => by obtain ⟨l, _, hl⟩ := hw'; have k0 := hl.cellAt 0 rfl; have k1 := hl.cellAt 1 rfl; have k2 := hl.cellAt 2 rfl; have k3 := hl.cellAt 3 rfl; have k4 := hl.cellAt 4 rfl; have k5 := hl.cellAt 5 rfl; have k6 := hl.cellAt 6 rfl; have k7 := hl.cellAt 7 rfl; go_simp⟩) hK1 ?_
        simp only [Act.put, List.setIfInBounds_toArray, List.set_cons_zero, List.set_cons_succ]
        refine wpAnyL_takeD (fun _ => True) (i := 6) (v := (.pointer (some ⟨g1, 4, none⟩))) (some 34) rfl rfl (by kernel_rfl) (by kernel_rfl) (by kernel_rfl) (fun _ _ _ h => h) (fun _ _ _ _ _ _ => trivial) (fun _ _ _ => Iff.rfl) trivial (Or.inl ⟨by rfl, fun w' hw' => by obtain ⟨l, _, hl⟩ := hw'; have k0 := hl.cellAt 0 rfl; have k1 := hl.cellAt 1 rfl; have k2 := hl.cellAt 2 rfl; have k3 := hl.cellAt 3 rfl; have k4 := hl.cellAt 4 rfl; have k5 := hl.cellAt 5 rfl; have k6 := hl.cellAt 6 rfl; have k7 := hl.cellAt 7 rfl; go_simp⟩) hK1 ?_
        simp only [Act.put, List.setIfInBounds_toArray, List.set_cons_zero, List.set_cons_succ]
        refine wpAnyL_takeD (fun _ => True) (i := 5) (v := (.agg #[.bool ln, .int .i64 li, .string lz, .int .i64 lq])) (some 33) rfl rfl (by kernel_rfl) (by kernel_rfl) (by kernel_rfl) (fun _ _ _ h => h) (fun _ _ _ _ _ _ => trivial) (fun _ _ _ => Iff.rfl) trivial (Or.inl ⟨by rfl, fun w' hw' => by obtain ⟨l, _, hl⟩ := hw'; have k0 := hl.cellAt 0 rfl; have k1 := hl.cellAt 1 rfl; have k2 := hl.cellAt 2 rfl; have k3 := hl.cellAt 3 rfl; have k4 := hl.cellAt 4 rfl; have k5 := hl.cellAt 5 rfl; have k6 := hl.cellAt 6 rfl; have k7 := hl.cellAt 7 rfl; go_simp⟩) hK1 ?_
        simp only [Act.put, List.setIfInBounds_toArray, List.set_cons_zero, List.set_cons_succ]
        refine wpAnyL_takeD (fun _ => True) (i := 7) (v := (.agg #[.bool hn, .int .i64 hi, .string hz, .int .i64 hq])) (some 35) rfl rfl (by kernel_rfl) (by kernel_rfl) (by kernel_rfl) (fun _ _ _ h => h) (fun _ _ _ _ _ _ => trivial) (fun _ _ _ => Iff.rfl) trivial (Or.inl ⟨by rfl, fun w' hw' => by obtain ⟨l, _, hl⟩ := hw'; have k0 := hl.cellAt 0 rfl; have k1 := hl.cellAt 1 rfl; have k2 := hl.cellAt 2 rfl; have k3 := hl.cellAt 3 rfl; have k4 := hl.cellAt 4 rfl; have k5 := hl.cellAt 5 rfl; have k6 := hl.cellAt 6 rfl; have k7 := hl.cellAt 7 rfl; go_simp⟩) hK1 ?_
        simp only [Act.put, List.setIfInBounds_toArray, List.set_cons_zero, List.set_cons_succ]
        refine wpAnyL_lst (rs := [2, 9]) (by decide +kernel) ⟨by simp, ?_⟩
        simp only [List.forall_mem_cons, List.not_mem_nil, false_implies, implies_true, and_true]
        refine ⟨?_, ?_⟩
        · refine wpOp_go (o := _) rfl (fun K hK => ?_)
          go_simp
          go_at_call 46
          refine (next_any _ A n c i4 8 _ hE4.src (by omega) (by omega)).mono ?_; rintro _ wy ⟨k2, hk2, rfl, hs, hg⟩
          obtain ⟨i5, hE5⟩ : ∃ i5, EG w wy g B A n c i5 (.slice Ae es.length ce) es (some ad) rs := ⟨min (i4 + 1) n, hE4.take hs hg⟩
          replace hK1 := hK1.grownB hg (by omega)
          try replace hN1 := hN1.grownB hg (by omega)
          have hw2 : IntKind.i64.wrap (1 + (k2 : Int)) = 1 + (k2 : Int) := IntWalk.i64_in _ (by omega)
          refine hK _ _ ⟨hK1, ?_⟩
          clear hK K hs hg hE4
          have hE4 := hE5
          clear hE5
          refine wpAnyL_takeD (fun _ => True) (i := 3) (v := (.int .i64 (1 + (k2 : Int)))) (some 31) rfl rfl (by kernel_rfl) (by kernel_rfl) (by kernel_rfl) (fun _ _ _ h => h) (fun _ _ _ _ _ _ => trivial) (fun _ _ _ => Iff.rfl) trivial (Or.inl ⟨by rfl, fun w' hw' => by obtain ⟨l, _, hl⟩ := hw'; have k0 := hl.cellAt 0 rfl; have k1 := hl.cellAt 1 rfl; have k2 := hl.cellAt 2 rfl; have k3 := hl.cellAt 3 rfl; have k4 := hl.cellAt 4 rfl; have k5 := hl.cellAt 5 rfl; have k6 := hl.cellAt 6 rfl; have k7 := hl.cellAt 7 rfl; go_simp⟩) hK1 ?_
          simp only [Act.put, List.setIfInBounds_toArray, List.set_cons_zero, List.set_cons_succ]
          refine wpAnyL_takeD (fun _ => True) (i := 8) (v := (.agg #[.int .i64 (x4 : Int), .int .i64 (1 + (k2 : Int)), .int .i64 0, .bool ln, .int .i64 li, .string lz, .int .i64 lq, .bool hn, .int .i64 hi, .string hz, .int .i64 hq, .int .i64 0])) (some 36) rfl rfl (by kernel_rfl) (by kernel_rfl) (by kernel_rfl) (fun _ _ _ h => h) (fun _ _ _ _ _ _ => trivial) (fun _ _ _ => Iff.rfl) trivial (Or.inl ⟨by rfl, fun w' hw' => by obtain ⟨l, _, hl⟩ := hw'; have k0 := hl.cellAt 0 rfl; have k1 := hl.cellAt 1 rfl; have k2 := hl.cellAt 2 rfl; have k3 := hl.cellAt 3 rfl; have k4 := hl.cellAt 4 rfl; have k5 := hl.cellAt 5 rfl; have k6 := hl.cellAt 6 rfl; have k7 := hl.cellAt 7 rfl; go_simp⟩) hK1 ?_
          simp only [Act.put, List.setIfInBounds_toArray, List.set_cons_zero, List.set_cons_succ]
          refine wpAnyL_one (i := 9) (by decide +kernel) ?_
          refine wpOp_go (o := _) rfl (fun K hK => ?_)
          go_simp
          have hN1 := Blk.new' wy 40 #[.int .i64 0, .int .i64 0, .int .i64 0, .bool false, .int .i64 0, .string ⟨#[]⟩, .int .i64 0, .bool false, .int .i64 0, .string ⟨#[]⟩, .int .i64 0, .int .i64 0]
          have hv1 := hE4.fresh (Nat.le_refl _)
          have hge1 := hE4.o3
          have hlt1 := Blk.lt hK1
          have hE5 := hE4.alloc (.cells #[.int .i64 0, .int .i64 0, .int .i64 0, .bool false, .int .i64 0, .string ⟨#[]⟩, .int .i64 0, .bool false, .int .i64 0, .string ⟨#[]⟩, .int .i64 0, .int .i64 0] 40)
          have hK5 := hK1.alloc (.cells #[.int .i64 0, .int .i64 0, .int .i64 0, .bool false, .int .i64 0, .string ⟨#[]⟩, .int .i64 0, .bool false, .int .i64 0, .string ⟨#[]⟩, .int .i64 0, .int .i64 0] 40)
          refine hK _ _ ⟨hK5, ?_⟩
          clear hK K hE4 hK1
          generalize wy.heap.size = ge at *
          generalize wy.alloc (.cells #[.int .i64 0, .int .i64 0, .int .i64 0, .bool false, .int .i64 0, .string ⟨#[]⟩, .int .i64 0, .bool false, .int .i64 0, .string ⟨#[]⟩, .int .i64 0, .int .i64 0] 40) = wz at *
          have hE4 := hE5
          have hK1 := hK5
          clear hE5 hK5
          refine wpAnyL_one (i := 10) (by decide +kernel) ?_
          refine wpOp_go (o := _) rfl (fun K hK => ?_)
          have e0 := hN1.cellAt 0 rfl
          have e1 := hN1.cellAt 1 rfl
          have e2 := hN1.cellAt 2 rfl
          have e3 := hN1.cellAt 3 rfl
          have e4 := hN1.cellAt 4 rfl
          have e5 := hN1.cellAt 5 rfl
          have e6 := hN1.cellAt 6 rfl
          have e7 := hN1.cellAt 7 rfl
          have e8 := hN1.cellAt 8 rfl
          have e9 := hN1.cellAt 9 rfl
          have e10 := hN1.cellAt 10 rfl
          have e11 := hN1.cellAt 11 rfl
          have ef := hN1.frozen
          go_simp
          have hgw := grown12 wz ge (.int .i64 (x4 : Int)) (.int .i64 (1 + (k2 : Int))) (.int .i64 0) (.bool ln) (.int .i64 li) (.string lz) (.int .i64 lq) (.bool hn) (.int .i64 hi) (.string hz) (.int .i64 hq) (.int .i64 0)
          refine hK _ _ ⟨hK1.grownB hgw (by omega), ?_⟩
          clear hK K e0 e1 e2 e3 e4 e5 e6 e7 e8 e9 e10 e11 ef
          have hS := hE4.side hgw hge1 hv1
          have hNS := set12 hN1 (.int .i64 (x4 : Int)) (.int .i64 (1 + (k2 : Int))) (.int .i64 0) (.bool ln) (.int .i64 li) (.string lz) (.int .i64 lq) (.bool hn) (.int .i64 hi) (.string hz) (.int .i64 hq) (.int .i64 0)
          clear hE4 hN1 hK1 hgw
          refine wpAnyL_done (by decide +kernel) ?_ _
          go_wp2_with fail
          go_meet
          exact ⟨ge, 1 + k2, i5, rfl, hge1, by omega, by omega, by rw [show ((1 + k2 : Nat) : Int) = 1 + (k2 : Int) from by omega]; exact hNS, hv1, hS⟩
        · refine wpOp_go (o := _) rfl (fun K hK => ?_)
          go_simp
          have hN1 := Blk.new' wy 40 #[.int .i64 0, .int .i64 0, .int .i64 0, .bool false, .int .i64 0, .string ⟨#[]⟩, .int .i64 0, .bool false, .int .i64 0, .string ⟨#[]⟩, .int .i64 0, .int .i64 0]
          have hv1 := hE4.fresh (Nat.le_refl _)
          have hge1 := hE4.o3
          have hlt1 := Blk.lt hK1
          have hE5 := hE4.alloc (.cells #[.int .i64 0, .int .i64 0, .int .i64 0, .bool false, .int .i64 0, .string ⟨#[]⟩, .int .i64 0, .bool false, .int .i64 0, .string ⟨#[]⟩, .int .i64 0, .int .i64 0] 40)
          have hK5 := hK1.alloc (.cells #[.int .i64 0, .int .i64 0, .int .i64 0, .bool false, .int .i64 0, .string ⟨#[]⟩, .int .i64 0, .bool false, .int .i64 0, .string ⟨#[]⟩, .int .i64 0, .int .i64 0] 40)
          refine hK _ _ ⟨hK5, ?_⟩
          clear hK K hE4 hK1
          generalize wy.heap.size = ge at *
          generalize wy.alloc (.cells #[.int .i64 0, .int .i64 0, .int .i64 0, .bool false, .int .i64 0, .string ⟨#[]⟩, .int .i64 0, .bool false, .int .i64 0, .string ⟨#[]⟩, .int .i64 0, .int .i64 0] 40) = wz at *
          have hE4 := hE5
          have hK1 := hK5
          clear hE5 hK5
          refine wpAnyL_one (i := 2) (by decide +kernel) ?_
          refine wpOp_go (o := _) rfl (fun K hK => ?_)
          go_simp
          go_at_call 46
          refine (next_any _ A n c i4 8 _ hE4.src (by omega) (by omega)).mono ?_; rintro _ wy ⟨k2, hk2, rfl, hs, hg⟩
          obtain ⟨i5, hE5⟩ : ∃ i5, EG w wy g B A n c i5 (.slice Ae es.length ce) es (some ad) rs := ⟨min (i4 + 1) n, hE4.take hs hg⟩
          replace hK1 := hK1.grownB hg (by omega)
          try replace hN1 := hN1.grownB hg (by omega)
          have hw2 : IntKind.i64.wrap (1 + (k2 : Int)) = 1 + (k2 : Int) := IntWalk.i64_in _ (by omega)
          refine hK _ _ ⟨hK1, ?_⟩
          clear hK K hs hg hE4
          have hE4 := hE5
          clear hE5
          refine wpAnyL_takeD (fun _ => True) (i := 3) (v := (.int .i64 (1 + (k2 : Int)))) (some 31) rfl rfl (by kernel_rfl) (by kernel_rfl) (by kernel_rfl) (fun _ _ _ h => h) (fun _ _ _ _ _ _ => trivial) (fun _ _ _ => Iff.rfl) trivial (Or.inl ⟨by rfl, fun w' hw' => by obtain ⟨l, _, hl⟩ := hw'; have k0 := hl.cellAt 0 rfl; have k1 := hl.cellAt 1 rfl; have k2 := hl.cellAt 2 rfl; have k3 := hl.cellAt 3 rfl; have k4 := hl.cellAt 4 rfl; have k5 := hl.cellAt 5 rfl; have k6 := hl.cellAt 6 rfl; have k7 := hl.cellAt 7 rfl; go_simp⟩) hK1 ?_
          simp only [Act.put, List.setIfInBounds_toArray, List.set_cons_zero, List.set_cons_succ]
          refine wpAnyL_takeD (fun _ => True) (i := 8) (v := (.agg #[.int .i64 (x4 : Int), .int .i64 (1 + (k2 : Int)), .int .i64 0, .bool ln, .int .i64 li, .string lz, .int .i64 lq, .bool hn, .int .i64 hi, .string hz, .int .i64 hq, .int .i64 0])) (some 36) rfl rfl (by kernel_rfl) (by kernel_rfl) (by kernel_rfl) (fun _ _ _ h => h) (fun _ _ _ _ _ _ => trivial) (fun _ _ _ => Iff.rfl) trivial (Or.inl ⟨by rfl, fun w' hw' => by obtain ⟨l, _, hl⟩ := hw'; have k0 := hl.cellAt 0 rfl; have k1 := hl.cellAt 1 rfl; have k2 := hl.cellAt 2 rfl; have k3 := hl.cellAt 3 rfl; have k4 := hl.cellAt 4 rfl; have k5 := hl.cellAt 5 rfl; have k6 := hl.cellAt 6 rfl; have k7 := hl.cellAt 7 rfl; go_simp⟩) hK1 ?_
          simp only [Act.put, List.setIfInBounds_toArray, List.set_cons_zero, List.set_cons_succ]
          refine wpAnyL_one (i := 10) (by decide +kernel) ?_
          refine wpOp_go (o := _) rfl (fun K hK => ?_)
          have e0 := hN1.cellAt 0 rfl
          have e1 := hN1.cellAt 1 rfl
          have e2 := hN1.cellAt 2 rfl
          have e3 := hN1.cellAt 3 rfl
          have e4 := hN1.cellAt 4 rfl
          have e5 := hN1.cellAt 5 rfl
          have e6 := hN1.cellAt 6 rfl
          have e7 := hN1.cellAt 7 rfl
          have e8 := hN1.cellAt 8 rfl
          have e9 := hN1.cellAt 9 rfl
          have e10 := hN1.cellAt 10 rfl
          have e11 := hN1.cellAt 11 rfl
          have ef := hN1.frozen
          go_simp
          have hgw := grown12 wy ge (.int .i64 (x4 : Int)) (.int .i64 (1 + (k2 : Int))) (.int .i64 0) (.bool ln) (.int .i64 li) (.string lz) (.int .i64 lq) (.bool hn) (.int .i64 hi) (.string hz) (.int .i64 hq) (.int .i64 0)
          refine hK _ _ ⟨hK1.grownB hgw (by omega), ?_⟩
          clear hK K e0 e1 e2 e3 e4 e5 e6 e7 e8 e9 e10 e11 ef
          have hS := hE4.side hgw hge1 hv1
          have hNS := set12 hN1 (.int .i64 (x4 : Int)) (.int .i64 (1 + (k2 : Int))) (.int .i64 0) (.bool ln) (.int .i64 li) (.string lz) (.int .i64 lq) (.bool hn) (.int .i64 hi) (.string hz) (.int .i64 hq) (.int .i64 0)
          clear hE4 hN1 hK1 hgw
          refine wpAnyL_done (by decide +kernel) ?_ _
          go_wp2_with fail
          go_meet
          exact ⟨ge, 1 + k2, i5, rfl, hge1, by omega, by omega, by rw [show ((1 + k2 : Nat) : Int) = 1 + (k2 : Int) from by omega]; exact hNS, hv1, hS⟩
      case rest =>
        obtain ⟨ge, rwn, i5, rfl, hge, hrw1, hrw2, hBe, hne, hE5⟩ := hcut
        clear hE4 hK1
        have e1 : wc.cell? ⟨ge, 1, none⟩ = some (.int .i64 (rwn : Int)) := hBe.cellAt 1 rfl
        have ef := hBe.frozen
        have hgl := hE5.src.lt
        go_wp2_with fail
        refine (next_any _ A n c i5 rwn _ hE5.src (by omega) (by omega)).mono ?_; rintro _ wd ⟨k6, hk6, rfl, hs, hg⟩
        obtain ⟨i6, hE6⟩ : ∃ i6, EG w wd g B A n c i6 (.slice Ae es.length ce) es (some ad) rs := ⟨min (i5 + 1) n, hE5.take hs hg⟩
        replace hBe := hBe.grownB hg (by omega)
        clear hs hg hE5 e1 ef
        have hw6 : IntKind.i64.wrap (1 + (k6 : Int)) = 1 + (k6 : Int) := IntWalk.i64_in _ (by omega)
        have ef := hBe.frozen
        have es2 := hBe.cellAt 2 rfl
        have hE7 := hE6.side (grown_set wd ge 2 (.int .i64 (1 + (k6 : Int)))) hge hne.out
        have hB7 : Blk (wd.setCell ⟨ge, 2, none⟩ (.int .i64 (1 + (k6 : Int)))) ge 40 [.int .i64 (x4 : Int), .int .i64 (rwn : Int), .int .i64 (1 + (k6 : Int)), .bool ln, .int .i64 li, .string lz, .int .i64 lq, .bool hn, .int .i64 hi, .string hz, .int .i64 hq, .int .i64 0] := hBe.set_ 2 _
        go_upto_region 11 with fail
        clear hE6 hBe ef es2
        generalize wd.setCell ⟨ge, 2, none⟩ (.int .i64 (1 + (k6 : Int))) = we at *
        have e1 : we.cell? ⟨ge, 1, none⟩ = some (.int .i64 (rwn : Int)) := hB7.cellAt 1 rfl
        have e2 : we.cell? ⟨ge, 2, none⟩ = some (.int .i64 (1 + (k6 : Int))) := hB7.cellAt 2 rfl
        by_cases hlr : 1 + k6 < rwn
        · have hd : decide (1 + (k6 : Int) < (rwn : Int)) = true := decide_eq_true (by omega)
          go_wp2_with fail
          refine (next_any _ A n c i6 20 _ hE7.src (by omega) (by omega)).mono ?_; rintro _ wf ⟨k7, hk7, rfl, hs, hg⟩
          obtain ⟨i7, hE8⟩ : ∃ i7, EG w wf g B A n c i7 (.slice Ae es.length ce) es (some ad) rs := ⟨min (i6 + 1) n, hE7.take hs hg⟩
          replace hB7 := hB7.grownB hg (by omega)
          clear hs hg hE7 e1 e2
          have hw7 : IntKind.i64.wrap (1 + (k7 : Int)) = 1 + (k7 : Int) := IntWalk.i64_in _ (by omega)
          have ef := hB7.frozen
          have es11 := hB7.cellAt 11 rfl
          have hE9 := hE8.side (grown_set wf ge 11 (.int .i64 (1 + (k7 : Int)))) hge hne.out
          have hB9 : Blk (wf.setCell ⟨ge, 11, none⟩ (.int .i64 (1 + (k7 : Int)))) ge 40 [.int .i64 (x4 : Int), .int .i64 (rwn : Int), .int .i64 (1 + (k6 : Int)), .bool ln, .int .i64 li, .string lz, .int .i64 lq, .bool hn, .int .i64 hi, .string hz, .int .i64 hq, .int .i64 (1 + (k7 : Int))] := hB7.set_ 11 _
          go_upto_region 13 with fail
          clear hE8 hB7 ef es11
          generalize wf.setCell ⟨ge, 11, none⟩ (.int .i64 (1 + (k7 : Int))) = wg at *
          have e0 := hB9.cellAt 0 rfl
          have e1 := hB9.cellAt 1 rfl
          have e2 := hB9.cellAt 2 rfl
          have e3 := hB9.cellAt 3 rfl
          have e4 := hB9.cellAt 4 rfl
          have e5 := hB9.cellAt 5 rfl
          have e6 := hB9.cellAt 6 rfl
          have e7 := hB9.cellAt 7 rfl
          have e8 := hB9.cellAt 8 rfl
          have e9 := hB9.cellAt 9 rfl
          have e10 := hB9.cellAt 10 rfl
          have e11 := hB9.cellAt 11 rfl
          go_wp2_with (at_builtin; refine hE9.one ⟨(x4 : Int), (rwn : Int), 1 + (k6 : Int), ⟨⟨ln, li, lz⟩, lq⟩, ⟨⟨hn, hi, hz⟩, hq⟩, (1 + (k7 : Int))⟩ (by omega) (ds := #[.int .i64 (x4 : Int), .int .i64 (rwn : Int), .int .i64 (1 + (k6 : Int)), .bool ln, .int .i64 li, .string lz, .int .i64 lq, .bool hn, .int .i64 hi, .string hz, .int .i64 hq, .int .i64 ((1 + (k7 : Int)))]) rfl ?_ rfl _ _ rfl rfl rfl)
          intro v9 w9 hE10
          clear e0 e1 e2 e3 e4 e5 e6 e7 e8 e9 e10 e11
          have hx5 := HX4.out
          go_wp2
          go_roundw
          case rel => exact ⟨es.length + 1, _, x4, _, by go_num, rfl, by omega, by omega, by simp, hE10, snoc_all' HP.out ⟨ent_iff.2 ⟨⟨by dsimp only; omega, by dsimp only; omega⟩, ⟨by dsimp only; omega, by dsimp only; omega⟩, ⟨by dsimp only; omega, by dsimp only; omega⟩, (gen_rank HGR.out.1).1, (gen_rank HGR.out.2.1).1, ⟨by dsimp only; omega, by dsimp only; omega⟩⟩, (gen_rank HGR.out.1).2, (gen_rank HGR.out.2.1).2⟩⟩
          case measure => simp [intOf]; omega
        · have hd : decide (1 + (k6 : Int) < (rwn : Int)) = false := decide_eq_false (by omega)
          go_upto_region 13 with fail
          clear e1 e2
          have e0 := hB7.cellAt 0 rfl
          have e1 := hB7.cellAt 1 rfl
          have e2 := hB7.cellAt 2 rfl
          have e3 := hB7.cellAt 3 rfl
          have e4 := hB7.cellAt 4 rfl
          have e5 := hB7.cellAt 5 rfl
          have e6 := hB7.cellAt 6 rfl
          have e7 := hB7.cellAt 7 rfl
          have e8 := hB7.cellAt 8 rfl
          have e9 := hB7.cellAt 9 rfl
          have e10 := hB7.cellAt 10 rfl
          have e11 := hB7.cellAt 11 rfl
          go_wp2_with (at_builtin; refine hE7.one ⟨(x4 : Int), (rwn : Int), 1 + (k6 : Int), ⟨⟨ln, li, lz⟩, lq⟩, ⟨⟨hn, hi, hz⟩, hq⟩, 0⟩ (by omega) (ds := #[.int .i64 (x4 : Int), .int .i64 (rwn : Int), .int .i64 (1 + (k6 : Int)), .bool ln, .int .i64 li, .string lz, .int .i64 lq, .bool hn, .int .i64 hi, .string hz, .int .i64 hq, .int .i64 (0)]) rfl ?_ rfl _ _ rfl rfl rfl)
          intro v9 w9 hE10
          clear e0 e1 e2 e3 e4 e5 e6 e7 e8 e9 e10 e11
          have hx5 := HX4.out
          go_wp2
          go_roundw
          case rel => exact ⟨es.length + 1, _, x4, _, by go_num, rfl, by omega, by omega, by simp, hE10, snoc_all' HP.out ⟨ent_iff.2 ⟨⟨by dsimp only; omega, by dsimp only; omega⟩, ⟨by dsimp only; omega, by dsimp only; omega⟩, ⟨by dsimp only; omega, by dsimp only; omega⟩, (gen_rank HGR.out.1).1, (gen_rank HGR.out.2.1).1, ⟨by dsimp only; omega, by dsimp only; omega⟩⟩, (gen_rank HGR.out.1).2, (gen_rank HGR.out.2.1).2⟩⟩
          case measure => simp [intOf]; omega
    · have hj2 : es.length = rs.length := by omega
      go_wp2
      go_ret
      exact ⟨_, es, rfl, hE.own.mono (by have := hE.o1; have := hE.o2; omega), HP.out, by omega, hE.bel⟩

end Go.Proofs.Ytgacjpkgpegcdaa
/-! A record in a variable whose two lists grow. -/
namespace Go.Proofs.Ytgacjpkgpegcdaa
open Go.RowKit

/-- A record at work: its block at gx, the rows of its lists from B on; nothing else of w0 turned. -/
structure RW (w0 w : World) (gx B : Nat) (cs : List Value) (v : Value) (xs : List En) (v2 : Value) (ys : List Int) : Prop where
  rc : Blk w gx 31 cs
  add : w.ownsRow B 40 12 v xs.length (xs.flatMap entC)
  rem : w.ownsRow B 3 1 v2 ys.length (ys.map Iv)
  dis : ∀ k, v.ownBlock = some k → v2.ownBlock ≠ some k
  bel : Below w0.heap.size w0 w
  o2 : w0.heap.size ≤ gx
  o3 : gx < B
  o4 : B ≤ w.heap.size
section
variable {w0 w w' : World} {gx B : Nat} {cs : List Value} {v v2 v' : Value} {xs : List En} {ys : List Int}
theorem RW.start {w0 w : World} (hb : Below w0.heap.size w0 w) (cs : Array Value) : RW w0 (w.alloc (.cells cs 31)) w.heap.size (w.heap.size + 1) cs.toList (.slice none 0 0) [] (.slice none 0 0) [] :=
  ⟨Blk.new' w _ cs, World.ownsRow_nil _ _ _ _, World.ownsRow_nil _ _ _ _, (fun k h => by simp [Value.ownBlock] at h), hb.alloc hb.size _, hb.size, Nat.lt_succ_self _, by simp⟩
/-- A step that may have turned the block k alone, which is none of its own. -/
theorem RW.side {k : Nat} (h : RW w0 w gx B cs v xs v2 ys) (hg : w.grownBy w' (some k)) (hk : w0.heap.size ≤ k) (hx : gx ≠ k) (h1 : v.ownBlock ≠ some k) (h2 : v2.ownBlock ≠ some k) : RW w0 w' gx B cs v xs v2 ys :=
  ⟨h.rc.grownBy hg (fun e => hx (by injection e)), kept_ne h.add hg h1, kept_ne h.rem hg h2, h.dis, h.bel.grown hg h.bel.size (fun j e => by injection e; omega), h.o2, h.o3, Nat.le_trans h.o4 hg.size⟩
theorem RW.low (h : RW w0 w gx B cs v xs v2 ys) {k : Nat} (hk : k < B) : v.ownBlock ≠ some k ∧ v2.ownBlock ≠ some k := ⟨fresh_of h.add hk, fresh_of h.rem hk⟩
theorem RW.fresh (h : RW w0 w gx B cs v xs v2 ys) {k : Nat} (hk : w.heap.size ≤ k) : v.ownBlock ≠ some k ∧ v2.ownBlock ≠ some k := ⟨fun e => by have := (h.add.lt k e).2; omega, fun e => by have := (h.rem.lt k e).2; omega⟩
/-- A step that turns nothing that is there. -/
theorem RW.call (h : RW w0 w gx B cs v xs v2 ys) (hb : Below w.heap.size w w') : RW w0 w' gx B cs v xs v2 ys :=
  ⟨h.rc.call hb, DS.call.kept_below h.add hb, DS.call.kept_below h.rem hb, h.dis, h.bel.trans (hb.mono h.bel.size), h.o2, h.o3, Nat.le_trans h.o4 hb.size⟩
theorem RW.alloc (h : RW w0 w gx B cs v xs v2 ys) (o : Obj) : RW w0 (w.alloc o) gx B cs v xs v2 ys := h.call ((Below.refl _ _).alloc (Nat.le_refl _) o)
theorem RW.drew (h : RW w0 w gx B cs v xs v2 ys) : RW w0 w.drew gx B cs v xs v2 ys := h.call (Below.drew (Below.refl _ _))
/-- A store into the record. -/
theorem RW.set (h : RW w0 w gx B cs v xs v2 ys) (i : Nat) (u : Value) : RW w0 (w.setCell ⟨gx, i, none⟩ u) gx B (cs.set i u) v xs v2 ys := by
  have hg := Lib.grownBy_setCell w gx i u
  have hl := h.low h.o3
  exact ⟨h.rc.set_ i u, kept_ne h.add hg hl.1, kept_ne h.rem hg hl.2, h.dis, h.bel.grown hg h.bel.size (fun j e => by have := h.o2; injection e; omega), h.o2, h.o3, Nat.le_trans h.o4 hg.size⟩
/-- A new row for the entries. -/
theorem RW.grow {xs' : List En} (h : RW w0 w gx B cs v xs v2 ys) (ho : w'.ownsRow B 40 12 v' xs'.length (xs'.flatMap entC)) (hg : w.grownBy w' v.ownBlock) (hat : v'.ownBlock = v.ownBlock ∨ v'.ownBlock = some w.heap.size) : RW w0 w' gx B cs v' xs' v2 ys := by
  have l2 := h.o2; have l3 := h.o3
  have hlow : ∀ k, k < B → some k ≠ v.ownBlock := fun k hk e => by have := (h.add.lt k e.symm).1; omega
  refine ⟨h.rc.grownBy hg (hlow _ (by omega)), ho, ?_, ?_, h.bel.grown hg h.bel.size (fun j e => by have := (h.add.lt j e).1; omega), h.o2, h.o3, Nat.le_trans h.o4 hg.size⟩
  · refine h.rem.kept hg ?_
    cases h2 : v2.ownBlock with
    | none => exact .inl rfl
    | some k => exact .inr (fun e => h.dis k e.symm h2)
  · intro k hk h2
    rcases hat with e | e
    · exact h.dis k (e.symm.trans hk) h2
    · have := (h.rem.lt k h2).2
      rw [e] at hk
      injection hk
      omega
/-- A new row for the numbers. -/
theorem RW.growR {ys' : List Int} (h : RW w0 w gx B cs v xs v2 ys) (ho : w'.ownsRow B 3 1 v' ys'.length (ys'.map Iv)) (hg : w.grownBy w' v2.ownBlock) (hat : v'.ownBlock = v2.ownBlock ∨ v'.ownBlock = some w.heap.size) : RW w0 w' gx B cs v xs v' ys' := by
  have l2 := h.o2; have l3 := h.o3
  have hlow : ∀ k, k < B → some k ≠ v2.ownBlock := fun k hk e => by have := (h.rem.lt k e.symm).1; omega
  refine ⟨h.rc.grownBy hg (hlow _ (by omega)), ?_, ho, ?_, h.bel.grown hg h.bel.size (fun j e => by have := (h.rem.lt j e).1; omega), h.o2, h.o3, Nat.le_trans h.o4 hg.size⟩
  · refine h.add.kept hg ?_
    cases h2 : v.ownBlock with
    | none => exact .inl rfl
    | some k => exact .inr (fun e => h.dis k h2 e.symm)
  · intro k hk h2
    rcases hat with e | e
    · exact h.dis k hk (e.symm.trans h2)
    · have := (h.add.lt k hk).2
      rw [e] at h2
      injection h2
      omega
theorem grown_of_alloc {o : Obj} {row : Option Nat} (hg : (w.alloc o).grownBy w' row) : w.grownBy w' row :=
  ⟨hg.os, hg.tape, hg.output, by have := hg.size; simp at this; omega, fun k hk hne => (hg.block k (by simp; omega) hne).trans (((Below.refl _ _).alloc (Nat.le_refl w.heap.size) o).block k hk)⟩
theorem own_other {o : Obj} {u u' : Value} (hat : u'.ownBlock = u.ownBlock ∨ u'.ownBlock = some (w.alloc o).heap.size) : ∀ k, k < w.heap.size → u.ownBlock ≠ some k → u'.ownBlock ≠ some k := by
  intro k hk h1 h2
  rcases hat with h | h
  · exact h1 (h.symm.trans h2)
  · rw [h] at h2
    simp at h2
    omega
/-- 'x.Add = append(x.Add, e)'. -/
theorem RW.one (h : RW w0 w gx B cs v xs v2 ys) (e : En) (hm : xs.length ≤ 1000000) {ds : Array Value} (hds : ds.toList = entC e)
    {ops : Array Oper} {rest : List Oper} {o : Oper} {a : Act} {Q : Exit → Act → World → Prop}
    (hK : ∀ v' w', RW w0 w' gx B cs v' (xs ++ [e]) v2 ys → w.grownBy w' v.ownBlock → (∀ k, k < w.heap.size → v.ownBlock ≠ some k → v'.ownBlock ≠ some k) → wpList Try.prog ops Q rest (a.put o.dst v') w')
    (hgd : o.guard = none) (so xo : Operand) (ho : o.op = .call { callee := .builtin .append, args := #[so, xo], argTypes := #[28, 28] })
    (hs : a.eval so = v) (hx : a.eval xo = .slice (some ⟨w.heap.size, 0, none⟩) 1 1) : wpList Try.prog ops Q (o :: rest) a (w.alloc (.cells ds 40)) := by
  obtain ⟨ht, i, hi, hz, hs1, hs2⟩ := ments
  have ha := h.alloc (.cells ds 40)
  refine wpList_append_own_at _ hgd so xo _ ho B 40 i _ 12 112 ht hi hz hs1 hs2 rfl (by decide) v xs.length _ hs ha.add ⟨w.heap.size, 0, none⟩ 1 1 (entC e) hx rfl ?_ (one_en e) (by unfold maxLen; omega) (by omega) ha.o4 ?_
  · intro j u hj
    have e0 : (⟨w.heap.size, 0, none⟩ : Addr).add j = ⟨w.heap.size, j, none⟩ := by unfold Addr.add; split <;> simp_all
    rw [e0, World.cell?_alloc_mark, ← Array.getElem?_toList, hds]
    exact hj
  · intro v' w' ho' hg _ hat
    exact hK v' w' (ha.grow (xs' := xs ++ [e]) (by rw [List.length_append, List.flatMap_append]; simpa using ho') hg hat) (grown_of_alloc hg) (own_other hat)
/-- The same as a step of a region that draws. -/
theorem RW.stepE (h : RW w0 w gx B cs v xs v2 ys) (e : En) (hm : xs.length ≤ 1000000) {ds : Array Value} (hds : ds.toList = entC e)
    {ops : Array Oper} {o : Oper} {a : Act} {K : Act → World → Prop} {Q : Exit → Act → World → Prop} {E : Prop}
    (hgd : o.guard = none) (so xo : Operand) (ho : o.op = .call { callee := .builtin .append, args := #[so, xo], argTypes := #[28, 28] })
    (hs : a.eval so = v) (hx : a.eval xo = .slice (some ⟨w.heap.size, 0, none⟩) 1 1) (hK : ∀ v' w', RW w0 w' gx B cs v' (xs ++ [e]) v2 ys → w.grownBy w' v.ownBlock → (∀ k, k < w.heap.size → v.ownBlock ≠ some k → v'.ownBlock ≠ some k) → K (a.put o.dst v') w') :
    if Region.wanted o (yielded ops a.tmps) = true then Oper.wp Try.prog o a (w.alloc (.cells ds 40)) K Q else E := by
  obtain ⟨ht, i, hi, hz, hs1, hs2⟩ := ments
  have ha := h.alloc (.cells ds 40)
  have hnews : ∀ (j : Nat) (u : Value), (entC e)[j]? = some u → (w.alloc (.cells ds 40)).cell? ((⟨w.heap.size, 0, none⟩ : Addr).add j) = some u := by
    intro j u hj
    have e0 : (⟨w.heap.size, 0, none⟩ : Addr).add j = ⟨w.heap.size, j, none⟩ := by unfold Addr.add; split <;> simp_all
    rw [e0, World.cell?_alloc_mark, ← Array.getElem?_toList, hds]
    exact hj
  rw [if_pos (by simp [Region.wanted, hgd])]
  obtain ⟨v', w', hr, ho', hg, _, hat⟩ := run_append_own_at (P := Try.prog) (w.alloc (.cells ds 40)) B 28 o.type 40 i _ 12 112 ht hi hz hs1 hs2 rfl (by decide) v xs.length _ ha.add ⟨w.heap.size, 0, none⟩ 1 1 (entC e) rfl hnews (one_en e) (by unfold maxLen; omega) (by omega) ha.o4
  unfold Oper.wp execOp
  simp only [ho, resolve, invoke, builtin, Sem.run_bind, Sem.run_pure, Result.andThen_ok, List.map_toArray, List.map_cons, List.map_nil, hs, hx, hr]
  exact hK v' w' (ha.grow (xs' := xs ++ [e]) (by rw [List.length_append, List.flatMap_append]; simpa using ho') hg hat) (grown_of_alloc hg) (own_other hat)
/-- 'x.Remove = append(x.Remove, n)'. -/
theorem RW.oneR (h : RW w0 w gx B cs v xs v2 ys) (z : Int) (hm : ys.length ≤ 1000000)
    {ops : Array Oper} {rest : List Oper} {o : Oper} {a : Act} {Q : Exit → Act → World → Prop}
    (hK : ∀ v' w', RW w0 w' gx B cs v xs v' (ys ++ [z]) → w.grownBy w' v2.ownBlock → (∀ k, k < w.heap.size → v2.ownBlock ≠ some k → v'.ownBlock ≠ some k) → wpList Try.prog ops Q rest (a.put o.dst v') w')
    (hgd : o.guard = none) (so xo : Operand) (ho : o.op = .call { callee := .builtin .append, args := #[so, xo], argTypes := #[29, 29] })
    (hs : a.eval so = v2) (hx : a.eval xo = .slice (some ⟨w.heap.size, 0, none⟩) 1 1) : wpList Try.prog ops Q (o :: rest) a (w.alloc (.cells #[.int .i64 z] 3)) := by
  obtain ⟨ht, i, hi, hz, hs1, hs2⟩ := mints
  have ha := h.alloc (.cells #[.int .i64 z] 3)
  refine wpList_append_own_at _ hgd so xo _ ho B 3 i _ 1 8 ht hi hz hs1 hs2 rfl (by decide) v2 ys.length _ hs ha.rem ⟨w.heap.size, 0, none⟩ 1 1 [Iv z] hx rfl ?_ (by intro u hu; simp at hu; subst hu; rfl) (by unfold maxLen; omega) (by omega) ha.o4 ?_
  · intro j u hj
    have e0 : (⟨w.heap.size, 0, none⟩ : Addr).add j = ⟨w.heap.size, j, none⟩ := by unfold Addr.add; split <;> simp_all
    rw [e0, World.cell?_alloc_mark]
    simpa using hj
  · intro v' w' ho' hg _ hat
    exact hK v' w' (ha.growR (ys' := ys ++ [z]) (by rw [List.length_append, List.map_append]; simpa using ho') hg hat) (grown_of_alloc hg) (own_other hat)
/-- The record as an argument. -/
theorem RW.rcat {kd ve ns ni : Int} {A A2 : Option Addr} {q c q2 c2 : Nat} (h : RW w0 w gx B cs (.slice A q c) xs (.slice A2 q2 c2) ys) (h1 : xs.length ≤ 1000000) (h2 : ys.length ≤ 1000000) : RcAt w ⟨kd, ve, ns, ni, xs, ys⟩ A q c A2 q2 c2 := by
  obtain ⟨rfl, l1⟩ := own_len h.add
  obtain ⟨rfl, l2⟩ := own_len h.rem
  exact ⟨Rd.of_own h.add, Rd.of_own h.rem, rfl, rfl, l1, l2, by omega, by omega⟩
end

end Go.Proofs.Ytgacjpkgpegcdaa
/-! keep.Snapshot. -/
namespace Go.Proofs.Ytgacjpkgpegcdaa
open Go.RowKit

theorem Rd.grown {w w' : World} {B : Nat} {A : Option Addr} {xs : List Value} {row : Option Nat} (h : Rd w B A xs) (hB : B ≤ w.heap.size) (hg : w.grownBy w' row) (hr : ∀ k, row = some k → B ≤ k) : Rd w' B A xs :=
  h.keep fun p hp => World.cell?_of_block (hg.block p.block (by omega) (fun e => by have := hr _ e.symm; omega))
theorem RdB.call {w w' : World} {g B : Nat} {A : Option Addr} {ys : List Value} (h : RdB w g B A ys) (hb : Below w.heap.size w w') : RdB w' g B A ys := h.grown (row := none) ⟨hb.os, hb.tape, hb.output, hb.size, fun k hk _ => hb.block k hk⟩ (fun k e => by cases e)
/-- The slice at A holds the cells ys, in a block from lo on and below hi. -/
def RdI (w : World) (lo hi : Nat) (A : Option Addr) (ys : List Value) : Prop :=
  ys = [] ∨ ∃ ad, A = some ad ∧ lo ≤ ad.block ∧ ad.block < hi ∧ hi ≤ w.heap.size ∧ ∀ (j : Nat) (u : Value), ys[j]? = some u → w.cell? (ad.add j) = some u
theorem RdI.rd {w : World} {lo hi : Nat} {A : Option Addr} {ys : List Value} (h : RdI w lo hi A ys) : Rd w w.heap.size A ys := by
  rcases h with h | ⟨ad, e, _, h2, h3, hc⟩
  · exact .inl h
  · exact .inr ⟨ad, e, by omega, hc⟩
theorem RdI.grown {w w' : World} {lo hi : Nat} {A : Option Addr} {ys : List Value} {row : Option Nat} (h : RdI w lo hi A ys) (hg : w.grownBy w' row) (hr : ∀ k, row = some k → k < lo ∨ hi ≤ k) : RdI w' lo hi A ys := by
  rcases h with h | ⟨ad, e, h1, h2, h3, hc⟩
  · exact .inl h
  · refine .inr ⟨ad, e, h1, h2, Nat.le_trans h3 hg.size, fun j u hj => ?_⟩
    rw [← hc j u hj]
    exact World.cell?_of_block (hg.block (ad.add j).block (by rw [block_of_add]; omega) (fun e' => by
      rw [block_of_add] at e'
      have := hr _ e'.symm
      omega))
theorem RdI.call {w w' : World} {lo hi : Nat} {A : Option Addr} {ys : List Value} (h : RdI w lo hi A ys) (hb : Below w.heap.size w w') : RdI w' lo hi A ys := h.grown (row := none) ⟨hb.os, hb.tape, hb.output, hb.size, fun k hk _ => hb.block k hk⟩ (fun k e => by cases e)
theorem RdI.mono {w : World} {lo hi lo' hi' : Nat} {A : Option Addr} {ys : List Value} (h : RdI w lo hi A ys) (h1 : lo' ≤ lo) (h2 : hi ≤ hi') (h3 : hi' ≤ w.heap.size) : RdI w lo' hi' A ys := by
  rcases h with h | ⟨ad, e, k1, k2, k3, hc⟩
  · exact .inl h
  · exact .inr ⟨ad, e, by omega, by omega, h3, hc⟩
theorem RdI.of_own {w : World} {base : Nat} {e : TypeId} {size n q c : Nat} {A : Option Addr} {ys : List Value} (h : w.ownsRow base e size (.slice A q c) n ys) : RdI w base w.heap.size A ys := by
  rcases h.2 with ⟨hv, h0⟩ | ⟨k, cap, cur, hv, hb, hk, _⟩
  · exact .inl (List.eq_nil_of_length_eq_zero (by rw [h.1, h0]; omega))
  · injection hv with hA
    subst hA
    exact .inr ⟨_, rfl, hb, (Array.getElem?_eq_some_iff.1 hk).1, Nat.le_refl _, fun j u hj => h.cells (g := k) rfl j u hj⟩
/-- 'v = append(v, l...)', l a slice that is read. -/
theorem append_rd {P : Program} {w : World} {base : Nat} {e : TypeId} {size bytes : Nat} {v : Value} {n : Nat} {xs : List Value} (hown : w.ownsRow base e size v n xs) (hbase : base ≤ w.heap.size)
    {t : TypeId} {z : Value} (hT : SlTy P t e z size bytes) (hzs : z.cells.size = size) (hsz : 0 < size) {A : Option Addr} {m c : Nat} {ys : List Value} (hr : Rd w w.heap.size A ys) (hl : ys.length = m * size) (h1 : ∀ u ∈ ys, u.oneCell' = true)
    (h63 : n + m ≤ maxLen) (hfit : (n + m) * bytes ≤ 140737488355328)
    {ops : Array Oper} {rest : List Oper} {o : Oper} {a : Act} {Q : Exit → Act → World → Prop}
    (hK : ∀ v' w', w'.ownsRow base e size v' (n + m) (xs ++ ys) → w.grownBy w' v.ownBlock → wpList P ops Q rest (a.put o.dst v') w')
    (hgd : o.guard = none) (so xo : Operand) (ho : o.op = .call { callee := .builtin .append, args := #[so, xo], argTypes := #[t, t] })
    (hs : a.eval so = v) (hx : a.eval xo = .slice A m c) : wpList P ops Q (o :: rest) a w := by
  obtain ⟨ht, i, hi, hz, hs1, hs2⟩ := hT
  cases A with
  | some ad =>
    refine wpList_append_own_at _ hgd so xo t ho base e i z size bytes ht hi hz hs1 hs2 hzs hsz v n xs hs hown ad m c ys hx hl ?_ h1 h63 hfit hbase ?_
    · intro j u hj
      rcases hr with hr | ⟨ad', e1, _, hc⟩
      · rw [hr] at hj; simp at hj
      · cases e1
        exact hc j u hj
    · intro v' w' h2 h3 _ _
      exact hK v' w' h2 h3
  | none =>
    have hy : ys = [] := by
      rcases hr with hr | ⟨ad', e1, _, _⟩
      · exact hr
      · cases e1
    subst hy
    have hm : m = 0 := by
      rcases Nat.eq_zero_or_pos m with h | h
      · exact h
      · have := Nat.mul_pos h hsz
        simp at hl
        omega
    subst hm
    obtain ⟨A', c', hv, hc'⟩ := own_form hown
    refine wpList_plain hgd fun K hK2 => ?_
    have hrun := run_append_nothing (P := P) w t t o.type e i ht hi A' n c' hc' (.slice none 0 c) (Go.Src.ofNil w ht c)
    unfold Oper.wp execOp
    simp only [ho, resolve, invoke, builtin, Sem.run_bind, Sem.run_pure, Result.andThen_ok, List.map_toArray, List.map_cons, List.map_nil, hs, hx, hv, hrun]
    exact hK2 _ _ (hK _ _ (by rw [hv] at hown; simpa using hown) ⟨rfl, rfl, rfl, Nat.le_refl _, fun _ _ _ => rfl⟩)
/-- What Snapshot returns. -/
def SnapP (w : World) (e : Ending) (w' : World) : Prop :=
  ∃ (A : Option Addr) (c : Nat) (es : List En) (ve ns ni : Nat), e = .returned (.agg #[.int .i64 (ve : Int), .int .i64 (ns : Int), .int .i64 (ni : Int), .slice A es.length c]) ∧ es.length ≤ c ∧ RdI w' w.heap.size w'.heap.size A (es.flatMap entC) ∧ (∀ p ∈ es, GenE p) ∧ es.length ≤ 6 ∧ ve < 50 ∧ ns < 12 ∧ ni < 39 ∧ Below w.heap.size w w'
theorem set4s {w : World} {g : Nat} {T : TypeId} {u0 u1 u2 u3 : Value} (h : Blk w g T [u0, u1, u2, u3]) (v0 v1 v2 v3 : Value) : Blk ((((w.setCell ⟨g, 0, none⟩ v0).setCell ⟨g, 1, none⟩ v1).setCell ⟨g, 2, none⟩ v2).setCell ⟨g, 3, none⟩ v3) g T [v0, v1, v2, v3] := (((h.set_ 0 v0).set_ 1 v1).set_ 2 v2).set_ 3 v3
theorem grown4s (w : World) (g : Nat) (v0 v1 v2 v3 : Value) : w.grownBy ((((w.setCell ⟨g, 0, none⟩ v0).setCell ⟨g, 1, none⟩ v1).setCell ⟨g, 2, none⟩ v2).setCell ⟨g, 3, none⟩ v3) (some g) :=
  Lib.grownBy_setB (Lib.grownBy_setB (Lib.grownBy_setB (Lib.grownBy_setCell _ _ _ _) _ _) _ _) _ _
set_option maxRecDepth 100000 in
set_option maxHeartbeats 2000000 in
theorem snapshot_any (A : Option Addr) (n c : Nat) (zs : List Int) (w : World) (hr : Rd w w.heap.size A (zs.map Iv)) (hn : zs.length = n) (hz : ∀ z ∈ zs, I64 z) (hm : n ≤ 17592186044416) :
    Calls Try.prog 57 #[.slice A n c] w (SnapP w) := by
  have hR := Blk.new' w 99 #[.int .i64 0, .int .i64 0, .int .i64 0, .slice none 0 0]
  have hb0 := (Below.refl w.heap.size w).alloc (Nat.le_refl _) (.cells #[.int .i64 0, .int .i64 0, .int .i64 0, .slice none 0 0] 99)
  have HE := Lib.hid (fun (w1 : World) (hb : Below w.heap.size w w1) => entries_any A n c 6 zs w1 (hr.call hb) hn hz hm (by omega))
  have HS := Lib.hid (fun (w1 : World) (hb : Below w.heap.size w w1) => Src.new (c := c) (hr.call hb) hn hz hm)
  clear hr hn hz
  go_enter Try.func57, Try.ntmps57
  go_upto_region 1 with fail
  generalize w.alloc (.cells #[.int .i64 0, .int .i64 0, .int .i64 0, .slice none 0 0] 99) = w1 at *
  go_wp2_with fail
  refine (HE.out _ hb0).mono ?_; rintro _ w2 ⟨v, es, rfl, ho, hg, hl, hb2⟩
  obtain ⟨A2, c2, rfl, hc2⟩ := own_form ho
  have hw1 := hR.lt
  have hE : RdI w2 w1.heap.size w2.heap.size A2 (es.flatMap entC) := RdI.of_own ho
  have hs := HS.out _ (bt hb0 hb2)
  have hR3 := (hR.call hb2).alloc (.cells #[.slice A n c, .int .i64 0] 113)
  have hb3 := (bt hb0 hb2).trans (((Below.refl w2.heap.size w2).alloc (Nat.le_refl _) (.cells #[.slice A n c, .int .i64 0] 113)).mono (bt hb0 hb2).size)
  have hE3 : RdI (w2.alloc (.cells #[.slice A n c, .int .i64 0] 113)) w1.heap.size w2.heap.size A2 (es.flatMap entC) := hE.call ((Below.refl w2.heap.size w2).alloc (Nat.le_refl _) _)
  have HG := Lib.hid hg
  have hlt : w.heap.size < w2.heap.size := Nat.lt_of_lt_of_le hR.lt hb2.size
  have hsz : w2.heap.size ≤ (w2.alloc (.cells #[.slice A n c, .int .i64 0] 113)).heap.size := by simp
  have hwl := (bt hb0 hb2).size
  clear ho hg hE hR hb0 hb2 HE HS
  go_wp2_with fail
  refine (from_any A n c w2).mono ?_; rintro e w' ⟨rfl, rfl⟩
  generalize w2.alloc (.cells #[.slice A n c, .int .i64 0] 113) = w3 at *
  generalize w2.heap.size = g at *
  go_wp2_with fail
  refine (next_any g A n c 0 50 _ hs (by omega) (by omega)).mono ?_; rintro _ w4 ⟨k1, hk1, rfl, hs4, hg4⟩
  replace hR3 := hR3.grownB hg4 (by omega)
  replace hE3 := hE3.grown hg4 (fun k e => by injection e; exact .inr (by omega))
  replace hb3 := hb3.grown hg4 (by omega) (fun j e => by injection e; omega)
  replace hsz := Nat.le_trans hsz hg4.size
  clear hg4 hs
  go_wp2_with fail
  refine (next_any g A n c _ 9 _ hs4 (by omega) (by omega)).mono ?_; rintro _ w5 ⟨k2, hk2, rfl, hs5, hg5⟩
  replace hR3 := hR3.grownB hg5 (by omega)
  replace hE3 := hE3.grown hg5 (fun k e => by injection e; exact .inr (by omega))
  replace hb3 := hb3.grown hg5 (by omega) (fun j e => by injection e; omega)
  replace hsz := Nat.le_trans hsz hg5.size
  clear hg5 hs4
  go_wp2_with fail
  refine (next_any g A n c _ 9 _ hs5 (by omega) (by omega)).mono ?_; rintro _ w6 ⟨k3, hk3, rfl, hs6, hg6⟩
  replace hR3 := hR3.grownB hg6 (by omega)
  replace hE3 := hE3.grown hg6 (fun k e => by injection e; exact .inr (by omega))
  replace hb3 := hb3.grown hg6 (by omega) (fun j e => by injection e; omega)
  replace hsz := Nat.le_trans hsz hg6.size
  clear hg6 hs5 hs6
  have hw2 : IntKind.i64.wrap (3 + (k2 : Int)) = 3 + (k2 : Int) := IntWalk.i64_in _ (by omega)
  have hw3 : IntKind.i64.wrap (30 + (k3 : Int)) = 30 + (k3 : Int) := IntWalk.i64_in _ (by omega)
  have r0 := hR3.cellAt 0 rfl
  have r1 := hR3.cellAt 1 rfl
  have r2 := hR3.cellAt 2 rfl
  have r3 := hR3.cellAt 3 rfl
  have rf := hR3.frozen
  have hF := set4s hR3 (.int .i64 (k1 : Int)) (.int .i64 (3 + (k2 : Int))) (.int .i64 (30 + (k3 : Int))) (.slice A2 es.length c2)
  have hgF := grown4s w6 w.heap.size (.int .i64 (k1 : Int)) (.int .i64 (3 + (k2 : Int))) (.int .i64 (30 + (k3 : Int))) (.slice A2 es.length c2)
  have hE7 := (hE3.grown hgF (fun k e => by injection e; exact .inl (by omega))).mono (lo' := w.heap.size) (by omega) (Nat.le_trans hsz hgF.size) (Nat.le_refl _)
  have hb7 := hb3.grown hgF (by omega) (fun j e => by injection e; omega)
  go_wp2
  clear r0 r1 r2 r3 rf hR3 hE3 hb3 hgF
  generalize (((w6.setCell ⟨w.heap.size, 0, none⟩ (.int .i64 (k1 : Int))).setCell ⟨w.heap.size, 1, none⟩ (.int .i64 (3 + (k2 : Int)))).setCell ⟨w.heap.size, 2, none⟩ (.int .i64 (30 + (k3 : Int)))).setCell ⟨w.heap.size, 3, none⟩ (.slice A2 es.length c2) = w7 at *
  have r0 := hF.cellAt 0 rfl
  have r1 := hF.cellAt 1 rfl
  have r2 := hF.cellAt 2 rfl
  have r3 := hF.cellAt 3 rfl
  exact bodyPost_ret (v := .agg #[.int .i64 (k1 : Int), .int .i64 (3 + (k2 : Int)), .int .i64 (30 + (k3 : Int)), .slice A2 es.length c2]) (by simp [results, Try.results57, go_sem, r0, r1, r2, r3]) rfl ⟨A2, c2, es, k1, 3 + k2, 30 + k3, by simp, hc2, hE7, HG.out, hl, hk1, by omega, by omega, hb7⟩

end Go.Proofs.Ytgacjpkgpegcdaa
/-! keep.Record at work: a source, the record, its lists. -/
namespace Go.Proofs.Ytgacjpkgpegcdaa
open Go.RowKit

/-- Ahead of the record. -/
structure R0 (w0 w : World) (g : Nat) (A : Option Addr) (n c : Nat) (sc : List Value) : Prop where
  src : ∃ i, Src w g A n c i
  box : Blk w w0.heap.size 99 sc
  res : Blk w (w0.heap.size + 1) 31 zeroRcC
  bel : Below w0.heap.size w0 w
  p0 : w0.heap.size + 1 < g
/-- keep.Record at work. -/
structure RS (w0 w : World) (g gx B : Nat) (A : Option Addr) (n c : Nat) (sc cs : List Value) (v : Value) (xs : List En) (v2 : Value) (ys : List Int) : Prop where
  rw : RW w0 w gx B cs v xs v2 ys
  src : ∃ i, Src w g A n c i
  box : Blk w w0.heap.size 99 sc
  res : Blk w (w0.heap.size + 1) 31 zeroRcC
  p0 : w0.heap.size + 1 < g
  p1 : g < gx
section
variable {w0 w w' : World} {g gx B : Nat} {A : Option Addr} {n c : Nat} {sc cs cs' : List Value} {v v2 v' v2' : Value} {xs xs' : List En} {ys ys' : List Int}
theorem R0.take (h : R0 w0 w g A n c sc) (hs : ∃ i, Src w' g A n c i) (hg : w.grownBy w' (some g)) : R0 w0 w' g A n c sc :=
  have l := h.p0
  ⟨hs, h.box.grownB hg (by omega), h.res.grownB hg (by omega), h.bel.grown hg h.bel.size (fun j e => by injection e; omega), h.p0⟩
theorem R0.drew (h : R0 w0 w g A n c sc) : R0 w0 w.drew g A n c sc := by
  obtain ⟨i, hs⟩ := h.src
  exact ⟨⟨i, hs.drewN 1⟩, h.box, h.res, h.bel.drew, h.p0⟩
theorem RS.take (h : RS w0 w g gx B A n c sc cs v xs v2 ys) (hs : ∃ i, Src w' g A n c i) (hg : w.grownBy w' (some g)) : RS w0 w' g gx B A n c sc cs v xs v2 ys :=
  have l := h.p0; have l1 := h.p1; have l3 := h.rw.o3
  ⟨h.rw.side hg (by omega) (by omega) (h.rw.low (by omega)).1 (h.rw.low (by omega)).2, hs, h.box.grownB hg (by omega), h.res.grownB hg (by omega), h.p0, h.p1⟩
theorem RS.call (h : RS w0 w g gx B A n c sc cs v xs v2 ys) (hb : Below w.heap.size w w') : RS w0 w' g gx B A n c sc cs v xs v2 ys := by
  obtain ⟨i, hs⟩ := h.src
  exact ⟨h.rw.call hb, ⟨i, hs.below hb⟩, h.box.call hb, h.res.call hb, h.p0, h.p1⟩
theorem RS.alloc (h : RS w0 w g gx B A n c sc cs v xs v2 ys) (o : Obj) : RS w0 (w.alloc o) g gx B A n c sc cs v xs v2 ys := h.call ((Below.refl _ _).alloc (Nat.le_refl _) o)
theorem RS.drew (h : RS w0 w g gx B A n c sc cs v xs v2 ys) : RS w0 w.drew g gx B A n c sc cs v xs v2 ys := h.call (Below.drew (Below.refl _ _))
/-- A step behind which the record stands as told, and which has turned the row 'row' alone. -/
theorem RS.turn {row : Option Nat} (h : RS w0 w g gx B A n c sc cs v xs v2 ys) (hn : RW w0 w' gx B cs' v' xs' v2' ys') (hg : w.grownBy w' row) (hr : ∀ k, row = some k → gx ≤ k) : RS w0 w' g gx B A n c sc cs' v' xs' v2' ys' := by
  obtain ⟨i, hs⟩ := h.src
  have l := h.p0; have l1 := h.p1
  exact ⟨hn, ⟨i, hs.grown hg (fun k e => by have := hr k e; omega)⟩, h.box.grownBy hg (fun e => by have := hr _ e.symm; omega), h.res.grownBy hg (fun e => by have := hr _ e.symm; omega), h.p0, h.p1⟩
theorem RS.set (h : RS w0 w g gx B A n c sc cs v xs v2 ys) (i : Nat) (u : Value) : RS w0 (w.setCell ⟨gx, i, none⟩ u) g gx B A n c sc (cs.set i u) v xs v2 ys :=
  h.turn (h.rw.set i u) (Lib.grownBy_setCell w gx i u) (fun k e => by injection e; omega)
theorem RS.side {k : Nat} (h : RS w0 w g gx B A n c sc cs v xs v2 ys) (hg : w.grownBy w' (some k)) (hk : B ≤ k) (h1 : v.ownBlock ≠ some k) (h2 : v2.ownBlock ≠ some k) : RS w0 w' g gx B A n c sc cs v xs v2 ys :=
  have l := h.rw.o3; have l2 := h.rw.o2
  h.turn (h.rw.side hg (by omega) (by omega) h1 h2) hg (fun j e => by injection e; omega)
theorem RS.rowE (h : RS w0 w g gx B A n c sc cs v xs v2 ys) (hn : RW w0 w' gx B cs v' xs' v2 ys) (hg : w.grownBy w' v.ownBlock) : RS w0 w' g gx B A n c sc cs v' xs' v2 ys :=
  h.turn hn hg (fun k e => by have := (h.rw.add.lt k e).1; have := h.rw.o3; omega)
theorem RS.rowR (h : RS w0 w g gx B A n c sc cs v xs v2 ys) (hn : RW w0 w' gx B cs v xs v2' ys') (hg : w.grownBy w' v2.ownBlock) : RS w0 w' g gx B A n c sc cs v xs v2' ys' :=
  h.turn hn hg (fun k e => by have := (h.rw.rem.lt k e).1; have := h.rw.o3; omega)
/-- A variable's block beside it is kept when a row grows. -/
theorem RS.keepE {T : TypeId} {k : Nat} {ds : List Value} (hg : w.grownBy w' v.ownBlock) (hk : Blk w k T ds) (h1 : v.ownBlock ≠ some k) : Blk w' k T ds := hk.grownBy hg (fun e => h1 e.symm)
/-- The record made: the lists begin. -/
theorem R0.new (h : R0 w0 w g A n c sc) (ds : Array Value) : R0 w0 (w.alloc (.cells ds 31)) g A n c sc ∧ Blk (w.alloc (.cells ds 31)) w.heap.size 31 ds.toList ∧ g < w.heap.size := by
  obtain ⟨i, hs⟩ := h.src
  have hb : Below w.heap.size w (w.alloc (.cells ds 31)) := (Below.refl _ _).alloc (Nat.le_refl _) _
  exact ⟨⟨⟨i, hs.below hb⟩, h.box.call hb, h.res.call hb, h.bel.trans (hb.mono h.bel.size), h.p0⟩, Blk.new' w _ ds, hs.lt⟩
theorem R0.begin {u0 u1 u2 u3 u4 u5 : Value} (h : R0 w0 w g A n c sc) (hx : Blk w gx 31 [u0, u1, u2, u3, u4, u5]) (hgx : g < gx) (v0 v1 v2 v3 : Value) :
    RS w0 ((((((w.setCell ⟨gx, 0, none⟩ v0).setCell ⟨gx, 1, none⟩ v1).setCell ⟨gx, 2, none⟩ v2).setCell ⟨gx, 3, none⟩ v3).setCell ⟨gx, 4, none⟩ (.slice none 0 0)).setCell ⟨gx, 5, none⟩ (.slice none 0 0)) g gx w.heap.size A n c sc [v0, v1, v2, v3, .slice none 0 0, .slice none 0 0] (.slice none 0 0) [] (.slice none 0 0) [] := by
  have hg := grown6 w gx v0 v1 v2 v3 (.slice none 0 0) (.slice none 0 0)
  obtain ⟨i, hs⟩ := h.src
  have l := h.p0
  exact ⟨⟨set6 hx _ _ _ _ _ _, World.ownsRow_nil _ _ _ _, World.ownsRow_nil _ _ _ _, (fun k h => by simp [Value.ownBlock] at h), h.bel.grown hg h.bel.size (fun j e => by injection e; omega), by omega, hx.lt, hg.size⟩,
    ⟨i, hs.grown hg (fun k e => by injection e; omega)⟩, h.box.grownBy hg (fun e => by injection e; omega), h.res.grownBy hg (fun e => by injection e; omega), h.p0, hgx⟩
end
/-- As long as number k has not come up, F holds. -/
def SB (k : Nat) (F : World → Prop) (l : Array Bool) (w' : World) : Prop := l.getD k false = false → F w'
theorem SB.set {k : Nat} {F : World → Prop} {l : Array Bool} {w' : World} {j : Nat} (h : j ≠ k) : SB k F (l.setIfInBounds j true) w' ↔ SB k F l w' := by
  unfold SB; rw [getD_set_ne false h]
def SB2 (k k' : Nat) (F : World → Prop) (l : Array Bool) (w' : World) : Prop := (l.getD k false = false ∨ l.getD k' false = false) → F w'
theorem SB2.set {k k' : Nat} {F : World → Prop} {l : Array Bool} {w' : World} {j : Nat} (h : j ≠ k) (h' : j ≠ k') : SB2 k k' F (l.setIfInBounds j true) w' ↔ SB2 k k' F l w' := by
  unfold SB2; rw [getD_set_ne false h, getD_set_ne false h']
theorem own_blockK {w : World} {base size : Nat} {e : TypeId} {n c : Nat} {A : Option Addr} {xs : List Value} (h : w.ownsRow base e size (.slice A n c) n xs) (hn : 0 < n) :
    ∃ g, A = some ⟨g, 0, none⟩ ∧ base ≤ g ∧ g < w.heap.size ∧ (∀ j, w.frozen? ⟨g, j, none⟩ = false) ∧ (∀ j u, xs[j]? = some u → w.cell? ⟨g, j, none⟩ = some u) := by
  obtain ⟨hlen, h2⟩ := h
  rcases h2 with ⟨h2, h0⟩ | ⟨g, cap, cur, hv, hg, hblk, hnc, hcm, hcs, htk⟩
  · omega
  · cases hv
    have hlt : g < w.heap.size := (Array.getElem?_eq_some_iff.1 hblk).1
    refine ⟨g, rfl, hg, hlt, fun j => by simp [World.frozen?, hblk], fun j u hj => ?_⟩
    rw [cell_of_row w g j _ e (0, 0) hblk]
    rw [← htk] at hj
    have hlt2 : j < n * size := by
      have := (List.getElem?_eq_some_iff.1 hj).1
      simp at this; omega
    rw [List.getElem?_take_of_lt hlt2, Array.getElem?_toList] at hj
    exact hj
/-- Twelve cells of an entry at the head of a block. -/
def E12 (w : World) (g : Nat) (e : En) : Prop :=
  w.cell? ⟨g, 0, none⟩ = some (.int .i64 e.id) ∧ w.cell? ⟨g, 1, none⟩ = some (.int .i64 e.rows) ∧ w.cell? ⟨g, 2, none⟩ = some (.int .i64 e.live) ∧ w.cell? ⟨g, 3, none⟩ = some (.bool e.lo.key.null) ∧ w.cell? ⟨g, 4, none⟩ = some (.int .i64 e.lo.key.n) ∧ w.cell? ⟨g, 5, none⟩ = some (.string e.lo.key.s) ∧ w.cell? ⟨g, 6, none⟩ = some (.int .i64 e.lo.seq) ∧
  w.cell? ⟨g, 7, none⟩ = some (.bool e.hi.key.null) ∧ w.cell? ⟨g, 8, none⟩ = some (.int .i64 e.hi.key.n) ∧ w.cell? ⟨g, 9, none⟩ = some (.string e.hi.key.s) ∧ w.cell? ⟨g, 10, none⟩ = some (.int .i64 e.hi.seq) ∧ w.cell? ⟨g, 11, none⟩ = some (.int .i64 e.del)
theorem E12.of {w : World} {g : Nat} {e : En} {L : List Value} (h : ∀ j u, (entC e ++ L)[j]? = some u → w.cell? ⟨g, j, none⟩ = some u) : E12 w g e :=
  ⟨h 0 _ rfl, h 1 _ rfl, h 2 _ rfl, h 3 _ rfl, h 4 _ rfl, h 5 _ rfl, h 6 _ rfl, h 7 _ rfl, h 8 _ rfl, h 9 _ rfl, h 10 _ rfl, h 11 _ rfl⟩
theorem E12.call {w w' : World} {g : Nat} {e : En} (h : E12 w g e) (hl : g < w.heap.size) (hb : Below w.heap.size w w') : E12 w' g e := by
  obtain ⟨h0, h1, h2, h3, h4, h5, h6, h7, h8, h9, h10, h11⟩ := h
  have k : ∀ j, w'.cell? ⟨g, j, none⟩ = w.cell? ⟨g, j, none⟩ := fun j => hb.cell (p := ⟨g, j, none⟩) hl
  exact ⟨(k 0).trans h0, (k 1).trans h1, (k 2).trans h2, (k 3).trans h3, (k 4).trans h4, (k 5).trans h5, (k 6).trans h6, (k 7).trans h7, (k 8).trans h8, (k 9).trans h9, (k 10).trans h10, (k 11).trans h11⟩
theorem cell_set_ne {w : World} {g i j : Nat} {u : Value} (h : j ≠ i) : (w.setCell ⟨g, i, none⟩ u).cell? ⟨g, j, none⟩ = w.cell? ⟨g, j, none⟩ := by
  apply World.cell?_setCell_other
  intro e
  injection e with _ e _
  exact h e.symm
theorem E12.setId {w : World} {g : Nat} {e : En} (h : E12 w g e) (z : Int) : E12 (w.setCell ⟨g, 0, none⟩ (.int .i64 z)) g { e with id := z } := by
  obtain ⟨h0, h1, h2, h3, h4, h5, h6, h7, h8, h9, h10, h11⟩ := h
  exact ⟨by apply World.cell?_setCell_same; exact h0, (cell_set_ne (by omega)).trans h1, (cell_set_ne (by omega)).trans h2, (cell_set_ne (by omega)).trans h3, (cell_set_ne (by omega)).trans h4, (cell_set_ne (by omega)).trans h5, (cell_set_ne (by omega)).trans h6, (cell_set_ne (by omega)).trans h7, (cell_set_ne (by omega)).trans h8, (cell_set_ne (by omega)).trans h9, (cell_set_ne (by omega)).trans h10, (cell_set_ne (by omega)).trans h11⟩
/-- A record whose lists lie from lo on and below hi. -/
structure RcI (w : World) (lo hi : Nat) (r : Rc) (A : Option Addr) (q c : Nat) (A2 : Option Addr) (q2 c2 : Nat) : Prop where
  add : RdI w lo hi A (r.add.flatMap entC)
  rem : RdI w lo hi A2 (r.rem.map Iv)
  ln : r.add.length = q
  ln2 : r.rem.length = q2
  lc : q ≤ c
  lc2 : q2 ≤ c2
theorem RcI.rcat {w : World} {lo hi : Nat} {r : Rc} {A A2 : Option Addr} {q c q2 c2 : Nat} (h : RcI w lo hi r A q c A2 q2 c2) (h1 : q ≤ 1000000) (h2 : q2 ≤ 1000000) : RcAt w r A q c A2 q2 c2 :=
  ⟨h.add.rd, h.rem.rd, h.ln, h.ln2, h.lc, h.lc2, by omega, by omega⟩
/-- What Record returns. -/
def RecP (m : Nat) (w : World) (e : Ending) (w' : World) : Prop :=
  ∃ (r : Rc) (A : Option Addr) (c : Nat) (A2 : Option Addr) (c2 : Nat), e = .returned (Kv r A r.add.length c A2 r.rem.length c2) ∧ RcI w' w.heap.size w'.heap.size r A r.add.length c A2 r.rem.length c2 ∧ keysOk r ∧ r.add.length ≤ m ∧ r.rem.length ≤ m ∧ Below w.heap.size w w'
theorem recP_mk {m : Nat} {w w' : World} {kd ve ns ni : Int} {xs : List En} {ys : List Int} {A A2 : Option Addr} {q c q2 c2 : Nat} (h : RcI w' w.heap.size w'.heap.size ⟨kd, ve, ns, ni, xs, ys⟩ A q c A2 q2 c2) (hk : ∀ e ∈ xs, keysI e) (h1 : xs.length ≤ m) (h2 : ys.length ≤ m) (hb : Below w.heap.size w w') :
    RecP m w (.returned (.agg #[.int .i64 kd, .int .i64 ve, .int .i64 ns, .int .i64 ni, .slice A q c, .slice A2 q2 c2])) w' := by
  have e1 : xs.length = q := h.ln
  have e2 : ys.length = q2 := h.ln2
  subst e1
  subst e2
  exact ⟨⟨kd, ve, ns, ni, xs, ys⟩, A, c, A2, c2, rfl, h, hk, h1, h2, hb⟩
/-- The end: the record is stored into the result and handed out. -/
theorem RS.done {w0 w : World} {g gx B : Nat} {A : Option Addr} {n c : Nat} {sc cs : List Value} {A1 A2 : Option Addr} {q1 c1 q2 c2 : Nat} {xs : List En} {ys : List Int} (h : RS w0 w g gx B A n c sc cs (.slice A1 q1 c1) xs (.slice A2 q2 c2) ys) (kd ve ns ni : Int) :
    RcI ((((((w.setCell ⟨w0.heap.size + 1, 0, none⟩ (.int .i64 kd)).setCell ⟨w0.heap.size + 1, 1, none⟩ (.int .i64 ve)).setCell ⟨w0.heap.size + 1, 2, none⟩ (.int .i64 ns)).setCell ⟨w0.heap.size + 1, 3, none⟩ (.int .i64 ni)).setCell ⟨w0.heap.size + 1, 4, none⟩ (.slice A1 q1 c1)).setCell ⟨w0.heap.size + 1, 5, none⟩ (.slice A2 q2 c2)) w0.heap.size ((((((w.setCell ⟨w0.heap.size + 1, 0, none⟩ (.int .i64 kd)).setCell ⟨w0.heap.size + 1, 1, none⟩ (.int .i64 ve)).setCell ⟨w0.heap.size + 1, 2, none⟩ (.int .i64 ns)).setCell ⟨w0.heap.size + 1, 3, none⟩ (.int .i64 ni)).setCell ⟨w0.heap.size + 1, 4, none⟩ (.slice A1 q1 c1)).setCell ⟨w0.heap.size + 1, 5, none⟩ (.slice A2 q2 c2)).heap.size ⟨kd, ve, ns, ni, xs, ys⟩ A1 q1 c1 A2 q2 c2 ∧
    Blk ((((((w.setCell ⟨w0.heap.size + 1, 0, none⟩ (.int .i64 kd)).setCell ⟨w0.heap.size + 1, 1, none⟩ (.int .i64 ve)).setCell ⟨w0.heap.size + 1, 2, none⟩ (.int .i64 ns)).setCell ⟨w0.heap.size + 1, 3, none⟩ (.int .i64 ni)).setCell ⟨w0.heap.size + 1, 4, none⟩ (.slice A1 q1 c1)).setCell ⟨w0.heap.size + 1, 5, none⟩ (.slice A2 q2 c2)) (w0.heap.size + 1) 31 [.int .i64 kd, .int .i64 ve, .int .i64 ns, .int .i64 ni, .slice A1 q1 c1, .slice A2 q2 c2] ∧
    Below w0.heap.size w0 ((((((w.setCell ⟨w0.heap.size + 1, 0, none⟩ (.int .i64 kd)).setCell ⟨w0.heap.size + 1, 1, none⟩ (.int .i64 ve)).setCell ⟨w0.heap.size + 1, 2, none⟩ (.int .i64 ns)).setCell ⟨w0.heap.size + 1, 3, none⟩ (.int .i64 ni)).setCell ⟨w0.heap.size + 1, 4, none⟩ (.slice A1 q1 c1)).setCell ⟨w0.heap.size + 1, 5, none⟩ (.slice A2 q2 c2)) := by
  have hg := grown6 w (w0.heap.size + 1) (.int .i64 kd) (.int .i64 ve) (.int .i64 ns) (.int .i64 ni) (.slice A1 q1 c1) (.slice A2 q2 c2)
  have l := h.p0; have l1 := h.p1; have l3 := h.rw.o3
  have hl := h.rw.low (k := w0.heap.size + 1) (by omega)
  have hR := h.rw.side hg (by omega) (by omega) hl.1 hl.2
  obtain ⟨e1, k1⟩ := own_len hR.add
  obtain ⟨e2, k2⟩ := own_len hR.rem
  have l2 := h.rw.o2
  exact ⟨⟨(RdI.of_own hR.add).mono (by omega) (Nat.le_refl _) (Nat.le_refl _), (RdI.of_own hR.rem).mono (by omega) (Nat.le_refl _) (Nat.le_refl _), e1.symm, e2.symm, by omega, by omega⟩, set6 h.res _ _ _ _ _ _, hR.bel⟩

end Go.Proofs.Ytgacjpkgpegcdaa
/-! law19.record at work. -/
namespace Go.Proofs.Ytgacjpkgpegcdaa
open Go.RowKit

theorem I64_wrap64' (x : Int) : I64 (wrap64 x) := by unfold I64 wrap64; omega
/-- The slice at A holds the cells ys, below hi, and in another block than g0 and gr. -/
def RdX (w : World) (g0 gr hi : Nat) (A : Option Addr) (ys : List Value) : Prop :=
  ys = [] ∨ ∃ ad, A = some ad ∧ ad.block ≠ g0 ∧ ad.block ≠ gr ∧ ad.block < hi ∧ hi ≤ w.heap.size ∧ ∀ (j : Nat) (u : Value), ys[j]? = some u → w.cell? (ad.add j) = some u
theorem RdX.rd {w : World} {g0 gr hi : Nat} {A : Option Addr} {ys : List Value} (h : RdX w g0 gr hi A ys) : Rd w w.heap.size A ys := by
  rcases h with h | ⟨ad, e, _, _, h2, h3, hc⟩
  · exact .inl h
  · exact .inr ⟨ad, e, by omega, hc⟩
theorem RdX.grown {w w' : World} {g0 gr hi : Nat} {A : Option Addr} {ys : List Value} {row : Option Nat} (h : RdX w g0 gr hi A ys) (hg : w.grownBy w' row) (hr : ∀ k, row = some k → k = g0 ∨ k = gr ∨ hi ≤ k) : RdX w' g0 gr hi A ys := by
  rcases h with h | ⟨ad, e, h0, h1, h2, h3, hc⟩
  · exact .inl h
  · refine .inr ⟨ad, e, h0, h1, h2, Nat.le_trans h3 hg.size, fun j u hj => ?_⟩
    rw [← hc j u hj]
    exact World.cell?_of_block (hg.block (ad.add j).block (by rw [block_of_add]; omega) (fun e' => by
      rw [block_of_add] at e'
      have := hr _ e'.symm
      omega))
theorem RdX.raise {w : World} {g0 gr hi hi' : Nat} {A : Option Addr} {ys : List Value} (h : RdX w g0 gr hi A ys) (h1 : hi ≤ hi') (h2 : hi' ≤ w.heap.size) : RdX w g0 gr hi' A ys := by
  rcases h with h | ⟨ad, e, k0, k1, k2, k3, hc⟩
  · exact .inl h
  · exact .inr ⟨ad, e, k0, k1, by omega, h2, hc⟩
theorem RdX.of {w : World} {lo hi g0 gr hi' : Nat} {A : Option Addr} {ys : List Value} (h : RdI w lo hi A ys) (h0 : g0 < lo) (h1 : hi ≤ gr ∨ gr < lo) (h2 : hi ≤ hi') (h3 : hi' ≤ w.heap.size) : RdX w g0 gr hi' A ys := by
  rcases h with h | ⟨ad, e, k1, k2, k3, hc⟩
  · exact .inl h
  · exact .inr ⟨ad, e, by omega, by omega, by omega, h3, hc⟩
def recV (r : Rc) (A : Option Addr) (q c : Nat) (A2 : Option Addr) (q2 c2 : Nat) : List Value := [.int .i64 r.kind, .int .i64 r.version, .int .i64 r.nextSeq, .int .i64 r.nextId, .slice A q c, .slice A2 q2 c2]
/-- law19.record at work: the record at gr. -/
structure LS (w0 w : World) (gr hi : Nat) (r : Rc) (A : Option Addr) (q c : Nat) (A2 : Option Addr) (q2 c2 : Nat) : Prop where
  res : Blk w w0.heap.size 31 zeroRcC
  blk : Blk w gr 31 (recV r A q c A2 q2 c2)
  add : RdX w w0.heap.size gr hi A (r.add.flatMap entC)
  rem : RdX w w0.heap.size gr hi A2 (r.rem.map Iv)
  ln : r.add.length = q
  ln2 : r.rem.length = q2
  lc : q ≤ c
  lc2 : q2 ≤ c2
  keys : keysOk r
  s1 : q ≤ 50
  s2 : q2 ≤ 50
  bel : Below w0.heap.size w0 w
  p0 : w0.heap.size < gr
  p1 : gr < hi
  p2 : hi ≤ w.heap.size
section
variable {w0 w w' : World} {gr hi : Nat} {r r' : Rc} {A A2 : Option Addr} {q c q2 c2 : Nat}
theorem LS.grown {row : Option Nat} (h : LS w0 w gr hi r A q c A2 q2 c2) (hg : w.grownBy w' row) (hr : ∀ k, row = some k → hi ≤ k) : LS w0 w' gr hi r A q c A2 q2 c2 :=
  have l0 := h.p0; have l1 := h.p1
  ⟨h.res.grownBy hg (fun e => by have := hr _ e.symm; omega), h.blk.grownBy hg (fun e => by have := hr _ e.symm; omega), h.add.grown hg (fun k e => .inr (.inr (hr k e))), h.rem.grown hg (fun k e => .inr (.inr (hr k e))), h.ln, h.ln2, h.lc, h.lc2, h.keys, h.s1, h.s2, h.bel.grown hg h.bel.size (fun j e => by have := hr _ e; omega), h.p0, h.p1, Nat.le_trans h.p2 hg.size⟩
theorem LS.call (h : LS w0 w gr hi r A q c A2 q2 c2) (hb : Below w.heap.size w w') : LS w0 w' gr hi r A q c A2 q2 c2 :=
  h.grown (row := none) ⟨hb.os, hb.tape, hb.output, hb.size, fun k hk _ => hb.block k hk⟩ (fun k e => by cases e)
theorem LS.alloc (h : LS w0 w gr hi r A q c A2 q2 c2) (o : Obj) : LS w0 (w.alloc o) gr hi r A q c A2 q2 c2 := h.call ((Below.refl _ _).alloc (Nat.le_refl _) o)
/-- A number of the record is stored. -/
theorem LS.setN (h : LS w0 w gr hi r A q c A2 q2 c2) (j : Nat) (u : Value) (hcs : (recV r A q c A2 q2 c2).set j u = recV r' A q c A2 q2 c2) (ha : r'.add = r.add) (hm : r'.rem = r.rem) : LS w0 (w.setCell ⟨gr, j, none⟩ u) gr hi r' A q c A2 q2 c2 := by
  have hg := grown_set w gr j u
  have l0 := h.p0; have l1 := h.p1
  have hb := h.blk.set_ j u
  rw [hcs] at hb
  exact ⟨h.res.grownB hg (by omega), hb, by rw [ha]; exact h.add.grown hg (fun k e => by injection e with e; exact .inr (.inl e.symm)), by rw [hm]; exact h.rem.grown hg (fun k e => by injection e with e; exact .inr (.inl e.symm)), by rw [ha]; exact h.ln, by rw [hm]; exact h.ln2, h.lc, h.lc2, by unfold keysOk; rw [ha]; exact h.keys, h.s1, h.s2, h.bel.grown hg h.bel.size (fun j e => by injection e; omega), h.p0, h.p1, Nat.le_trans h.p2 hg.size⟩
/-- New removals are stored. -/
theorem LS.setR {A3 : Option Addr} {q3 c3 : Nat} {ys : List Int} {base : Nat} (h : LS w0 w gr hi r A q c A2 q2 c2) (ho : w.ownsRow base 3 1 (.slice A3 q3 c3) q3 (ys.map Iv)) (hb : hi ≤ base) (hq : q3 ≤ 50) :
    LS w0 (w.setCell ⟨gr, 5, none⟩ (.slice A3 q3 c3)) gr w.heap.size ⟨r.kind, r.version, r.nextSeq, r.nextId, r.add, ys⟩ A q c A3 q3 c3 := by
  have hg := grown_set w gr 5 (.slice A3 q3 c3)
  have l0 := h.p0; have l1 := h.p1; have l2 := h.p2
  obtain ⟨_, k1⟩ := own_len ho
  have hX : RdX w w0.heap.size gr w.heap.size A3 (ys.map Iv) := RdX.of (RdI.of_own ho) (by omega) (.inr (by omega)) (Nat.le_refl _) (Nat.le_refl _)
  have he : ys.length = q3 := by have := ho.1; simpa using this
  exact ⟨h.res.grownB hg (by omega), h.blk.set_ 5 _, (h.add.raise l2 (Nat.le_refl _)).grown hg (fun k e => by injection e with e; exact .inr (.inl e.symm)), hX.grown hg (fun k e => by injection e with e; exact .inr (.inl e.symm)), h.ln, he, h.lc, k1, h.keys, h.s1, hq, h.bel.grown hg h.bel.size (fun j e => by injection e; omega), h.p0, by omega, hg.size⟩
/-- New entries are stored. -/
theorem LS.setA {A3 : Option Addr} {q3 c3 : Nat} {xs : List En} {base : Nat} (h : LS w0 w gr hi r A q c A2 q2 c2) (ho : w.ownsRow base 40 12 (.slice A3 q3 c3) q3 (xs.flatMap entC)) (hx : xs.length = q3) (hk : ∀ e ∈ xs, keysI e) (hb : hi ≤ base) (hq : q3 ≤ 50) :
    LS w0 (w.setCell ⟨gr, 4, none⟩ (.slice A3 q3 c3)) gr w.heap.size ⟨r.kind, r.version, r.nextSeq, r.nextId, xs, r.rem⟩ A3 q3 c3 A2 q2 c2 := by
  have hg := grown_set w gr 4 (.slice A3 q3 c3)
  have l0 := h.p0; have l1 := h.p1; have l2 := h.p2
  obtain ⟨_, k1⟩ := own_len ho
  have hX : RdX w w0.heap.size gr w.heap.size A3 (xs.flatMap entC) := RdX.of (RdI.of_own ho) (by omega) (.inr (by omega)) (Nat.le_refl _) (Nat.le_refl _)
  exact ⟨h.res.grownB hg (by omega), h.blk.set_ 4 _, hX.grown hg (fun k e => by injection e with e; exact .inr (.inl e.symm)), (h.rem.raise l2 (Nat.le_refl _)).grown hg (fun k e => by injection e with e; exact .inr (.inl e.symm)), hx, h.ln2, k1, h.lc2, hk, hq, h.s2, h.bel.grown hg h.bel.size (fun j e => by injection e; omega), h.p0, by omega, hg.size⟩
/-- The whole record is stored: an empty version's with entries. -/
theorem LS.base {E : Option Addr} {ce : Nat} {es : List En} (h : LS w0 w gr hi r A q c A2 q2 c2) (hE : RdX w w0.heap.size gr hi E (es.flatMap entC)) (hce : es.length ≤ ce) (hk : ∀ e ∈ es, keysI e) (hl : es.length ≤ 50) (ve ns ni : Int) :
    LS w0 ((((((w.setCell ⟨gr, 0, none⟩ (.int .i64 1)).setCell ⟨gr, 1, none⟩ (.int .i64 ve)).setCell ⟨gr, 2, none⟩ (.int .i64 ns)).setCell ⟨gr, 3, none⟩ (.int .i64 ni)).setCell ⟨gr, 4, none⟩ (.slice E es.length ce)).setCell ⟨gr, 5, none⟩ (.slice none 0 0)) gr hi ⟨1, ve, ns, ni, es, []⟩ E es.length ce none 0 0 := by
  have hg := grown6 w gr (.int .i64 1) (.int .i64 ve) (.int .i64 ns) (.int .i64 ni) (.slice E es.length ce) (.slice none 0 0)
  have l0 := h.p0; have l1 := h.p1
  exact ⟨h.res.grownB hg (by omega), set6 h.blk _ _ _ _ _ _, hE.grown hg (fun k e => by injection e with e; exact .inr (.inl e.symm)), .inl rfl, rfl, rfl, hce, Nat.le_refl _, hk, hl, by omega, h.bel.grown hg h.bel.size (fun j e => by injection e; omega), h.p0, h.p1, Nat.le_trans h.p2 hg.size⟩
end
theorem get4 {a b c d : Int} {k : Nat} (h : k < 4) : ∃ z : Int, ([Value.int .i64 a, .int .i64 b, .int .i64 c, .int .i64 d] : List Value)[k]? = some (.int .i64 z) := by
  have : k = 0 ∨ k = 1 ∨ k = 2 ∨ k = 3 := by omega
  rcases this with rfl | rfl | rfl | rfl <;> exact ⟨_, rfl⟩
/-- What law19.record returns. -/
def RecQ (w : World) (e : Ending) (w' : World) : Prop :=
  ∃ (r : Rc) (A : Option Addr) (q c : Nat) (A2 : Option Addr) (q2 c2 : Nat), e = .returned (Kv r A q c A2 q2 c2) ∧ RcAt w' r A q c A2 q2 c2 ∧ keysOk r ∧ q ≤ 50 ∧ q2 ≤ 50 ∧ Below w.heap.size w w'
/-- The end: the record is stored into the result. -/
theorem LS.done {w0 w : World} {gr hi : Nat} {r : Rc} {A A2 : Option Addr} {q c q2 c2 : Nat} (h : LS w0 w gr hi r A q c A2 q2 c2) :
    RecQ w0 (.returned (Kv r A q c A2 q2 c2)) ((((((w.setCell ⟨w0.heap.size, 0, none⟩ (.int .i64 r.kind)).setCell ⟨w0.heap.size, 1, none⟩ (.int .i64 r.version)).setCell ⟨w0.heap.size, 2, none⟩ (.int .i64 r.nextSeq)).setCell ⟨w0.heap.size, 3, none⟩ (.int .i64 r.nextId)).setCell ⟨w0.heap.size, 4, none⟩ (.slice A q c)).setCell ⟨w0.heap.size, 5, none⟩ (.slice A2 q2 c2)) ∧
    Blk ((((((w.setCell ⟨w0.heap.size, 0, none⟩ (.int .i64 r.kind)).setCell ⟨w0.heap.size, 1, none⟩ (.int .i64 r.version)).setCell ⟨w0.heap.size, 2, none⟩ (.int .i64 r.nextSeq)).setCell ⟨w0.heap.size, 3, none⟩ (.int .i64 r.nextId)).setCell ⟨w0.heap.size, 4, none⟩ (.slice A q c)).setCell ⟨w0.heap.size, 5, none⟩ (.slice A2 q2 c2)) w0.heap.size 31 (recV r A q c A2 q2 c2) := by
  have hg := grown6 w w0.heap.size (.int .i64 r.kind) (.int .i64 r.version) (.int .i64 r.nextSeq) (.int .i64 r.nextId) (.slice A q c) (.slice A2 q2 c2)
  have k1 := h.s1; have k2 := h.s2
  exact ⟨⟨r, A, q, c, A2, q2, c2, rfl, ⟨(h.add.grown hg (fun k e => by injection e with e; exact .inl e.symm)).rd, (h.rem.grown hg (fun k e => by injection e with e; exact .inl e.symm)).rd, h.ln, h.ln2, h.lc, h.lc2, by omega, by omega⟩, h.keys, h.s1, h.s2, h.bel.grown hg h.bel.size (fun j e => by injection e; omega)⟩, set6 h.res _ _ _ _ _ _⟩

end Go.Proofs.Ytgacjpkgpegcdaa
