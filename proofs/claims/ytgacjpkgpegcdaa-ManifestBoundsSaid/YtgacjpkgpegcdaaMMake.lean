/-
  keep.Entries: what it returns.
-/
import Derived.Test.YtgacjpkgpegcdaaOMake3
import Derived.Test.YtgacjpkgpegcdaaMDec
namespace Go.Proofs.Ytgacjpkgpegcdaa
open Go.RowKit

/-- The slice at A holds the cells ys, below the block B and in another one than g. -/
def RdB (w : World) (g B : Nat) (A : Option Addr) (ys : List Value) : Prop :=
  ys = [] ∨ ∃ ad, A = some ad ∧ ad.block < B ∧ ad.block ≠ g ∧ ad.block < w.heap.size ∧ ∀ (j : Nat) (u : Value), ys[j]? = some u → w.cell? (ad.add j) = some u
theorem RdB.rd {w : World} {g B : Nat} {A : Option Addr} {ys : List Value} (h : RdB w g B A ys) : Rd w w.heap.size A ys := by
  rcases h with h | ⟨ad, e, _, _, hb, hc⟩
  · exact .inl h
  · exact .inr ⟨ad, e, hb, hc⟩
theorem RdB.grown {w w' : World} {g B : Nat} {A : Option Addr} {ys : List Value} {row : Option Nat} (h : RdB w g B A ys) (hg : w.grownBy w' row) (hr : ∀ k, row = some k → k = g ∨ B ≤ k) : RdB w' g B A ys := by
  rcases h with h | ⟨ad, e, h1, h2, hb, hc⟩
  · exact .inl h
  · refine .inr ⟨ad, e, h1, h2, by have := hg.size; omega, fun j u hj => ?_⟩
    rw [← hc j u hj]
    exact World.cell?_of_block (hg.block (ad.add j).block (by rw [block_of_add]; exact hb) (fun e' => by
      rw [block_of_add] at e'
      rcases hr _ e'.symm with h3 | h3
      · exact h2 h3
      · omega))
theorem RdB.new {w w' : World} {g B : Nat} {e : TypeId} {size n q c : Nat} {A : Option Addr} {ys : List Value} (hr : w'.ownsRow w.heap.size e size (.slice A q c) n ys) (hg : g < w.heap.size) (hB : w'.heap.size ≤ B) : RdB w' g B A ys := by
  rcases hr.2 with ⟨hv, h0⟩ | ⟨k, cap, cur, hv, hb, hk, _⟩
  · exact .inl (List.eq_nil_of_length_eq_zero (by rw [hr.1, h0]; omega))
  · injection hv with hA
    subst hA
    have hlt : k < w'.heap.size := (Array.getElem?_eq_some_iff.1 hk).1
    exact .inr ⟨_, rfl, by simp only; omega, by simp only; omega, hlt, fun j u hj => hr.cells (g := k) rfl j u hj⟩
/-- The maker of entries at work: the source at g, the ranges below B, the row of its own from B on. -/
structure EG (w wr : World) (g B : Nat) (A : Option Addr) (n c i : Nat) (v : Value) (es : List En) (R : Option Addr) (rs : List Rg) : Prop where
  src : Src wr g A n c i
  own : wr.ownsRow B 40 12 v es.length (es.flatMap entC)
  rng : RdB wr g B R (rs.flatMap rangeC)
  bel : Below w.heap.size w wr
  o1 : w.heap.size ≤ g
  o2 : g < B
  o3 : B ≤ wr.heap.size
section
variable {w wr w' : World} {g B : Nat} {A R : Option Addr} {n c i i' : Nat} {v v' : Value} {es : List En} {rs : List Rg}
theorem EG.take (h : EG w wr g B A n c i v es R rs) (hs : Src w' g A n c i') (hg : wr.grownBy w' (some g)) : EG w w' g B A n c i' v es R rs :=
  ⟨hs, kept_ne h.own hg (fresh_of h.own h.o2), h.rng.grown hg (fun k e => by injection e with e; exact .inl e.symm), h.bel.grown hg h.bel.size (fun j e => by have := h.o1; injection e; omega), h.o1, h.o2, Nat.le_trans h.o3 hg.size⟩
theorem EG.side {k : Nat} (h : EG w wr g B A n c i v es R rs) (hg : wr.grownBy w' (some k)) (hk : B ≤ k) (hv : v.ownBlock ≠ some k) : EG w w' g B A n c i v es R rs :=
  ⟨h.src.grown hg (fun j e => by have := h.o2; injection e; omega), kept_ne h.own hg hv, h.rng.grown hg (fun j e => by injection e with e; exact .inr (by omega)), h.bel.grown hg h.bel.size (fun j e => by have := h.o1; have := h.o2; injection e; omega), h.o1, h.o2, Nat.le_trans h.o3 hg.size⟩
theorem EG.call (h : EG w wr g B A n c i v es R rs) (hb : Below wr.heap.size wr w') : EG w w' g B A n c i v es R rs :=
  ⟨h.src.below hb, DS.call.kept_below h.own hb, h.rng.grown (row := none) ⟨hb.os, hb.tape, hb.output, hb.size, fun k hk _ => hb.block k hk⟩ (fun k e => by cases e), h.bel.trans (hb.mono h.bel.size), h.o1, h.o2, Nat.le_trans h.o3 hb.size⟩
theorem EG.alloc (h : EG w wr g B A n c i v es R rs) (o : Obj) : EG w (wr.alloc o) g B A n c i v es R rs := h.call ((Below.refl _ _).alloc (Nat.le_refl _) o)
theorem EG.drew (h : EG w wr g B A n c i v es R rs) : EG w wr.drew g B A n c i v es R rs := h.call (Below.drew (Below.refl _ _))
theorem EG.fresh (h : EG w wr g B A n c i v es R rs) {k : Nat} (hk : wr.heap.size ≤ k) : v.ownBlock ≠ some k := fun e => by have := (h.own.lt k e).2; omega
/-- 'out = append(out, e)'. -/
theorem EG.one (h : EG w wr g B A n c i v es R rs) (e : En) (hm : es.length ≤ 1000000) {ds : Array Value} (hds : ds.toList = entC e)
    {ops : Array Oper} {rest : List Oper} {o : Oper} {a : Act} {Q : Exit → Act → World → Prop}
    (hK : ∀ v' w', EG w w' g B A n c i v' (es ++ [e]) R rs → wpList Try.prog ops Q rest (a.put o.dst v') w')
    (hgd : o.guard = none) (so xo : Operand) (ho : o.op = .call { callee := .builtin .append, args := #[so, xo], argTypes := #[28, 28] })
    (hs : a.eval so = v) (hx : a.eval xo = .slice (some ⟨wr.heap.size, 0, none⟩) 1 1) : wpList Try.prog ops Q (o :: rest) a (wr.alloc (.cells ds 40)) := by
  obtain ⟨ht, j, hi, hz, hs1, hs2⟩ := ments
  have ha := h.alloc (.cells ds 40)
  refine wpList_append_own_at _ hgd so xo _ ho B 40 j _ 12 112 ht hi hz hs1 hs2 rfl (by decide) v es.length _ hs ha.own ⟨wr.heap.size, 0, none⟩ 1 1 (entC e) hx rfl ?_ (one_en e) (by unfold maxLen; omega) (by omega) ha.o3 ?_
  · intro j u hj
    have e0 : (⟨wr.heap.size, 0, none⟩ : Addr).add j = ⟨wr.heap.size, j, none⟩ := by unfold Addr.add; split <;> simp_all
    rw [e0, World.cell?_alloc_mark, ← Array.getElem?_toList, hds]
    exact hj
  · intro v' w' ho' hg _ hat
    have l2 := ha.o2; have l1 := ha.o1
    have hlow : ∀ k, v.ownBlock = some k → B ≤ k := fun k hk => (ha.own.lt k hk).1
    exact hK v' w' ⟨ha.src.grown hg (fun k hk => by have := hlow k hk; omega), by rw [List.length_append, List.flatMap_append]; simpa using ho', ha.rng.grown hg (fun k hk => .inr (hlow k hk)), ha.bel.grown hg ha.bel.size (fun j e => by have := hlow j e; omega), ha.o1, ha.o2, Nat.le_trans ha.o3 hg.size⟩
end
theorem snoc_all' {α : Type} {p : α → Prop} {xs : List α} {z : α} (h : ∀ x ∈ xs, p x) (hz : p z) : ∀ x ∈ xs ++ [z], p x := by
  intro x hx
  rcases List.mem_append.1 hx with h1 | h1
  · exact h x h1
  · rw [List.mem_singleton.1 h1]; exact hz
/-- A valid entry with its keys in range. -/
def GenE (e : En) : Prop := entB e = true ∧ keysI e
theorem gen_rank {k : Rk} (h : GenR k) : rankB k = true ∧ I64 k.key.n := by
  obtain ⟨a, b, ha, hb, rfl⟩ := h
  refine ⟨rank_iff.2 ⟨?_, by dsimp only; omega, by dsimp only; omega⟩, by unfold I64; dsimp only; omega⟩
  unfold plainB
  simp
  exact Nat.zero_le 64
theorem set12 {w : World} {g : Nat} {T : TypeId} {u0 u1 u2 u3 u4 u5 u6 u7 u8 u9 u10 u11 : Value} (h : Blk w g T [u0, u1, u2, u3, u4, u5, u6, u7, u8, u9, u10, u11]) (v0 v1 v2 v3 v4 v5 v6 v7 v8 v9 v10 v11 : Value) : Blk ((((((((((((w.setCell ⟨g, 0, none⟩ v0).setCell ⟨g, 1, none⟩ v1).setCell ⟨g, 2, none⟩ v2).setCell ⟨g, 3, none⟩ v3).setCell ⟨g, 4, none⟩ v4).setCell ⟨g, 5, none⟩ v5).setCell ⟨g, 6, none⟩ v6).setCell ⟨g, 7, none⟩ v7).setCell ⟨g, 8, none⟩ v8).setCell ⟨g, 9, none⟩ v9).setCell ⟨g, 10, none⟩ v10).setCell ⟨g, 11, none⟩ v11) g T [v0, v1, v2, v3, v4, v5, v6, v7, v8, v9, v10, v11] :=
  (((((((((((h.set_ 0 v0).set_ 1 v1).set_ 2 v2).set_ 3 v3).set_ 4 v4).set_ 5 v5).set_ 6 v6).set_ 7 v7).set_ 8 v8).set_ 9 v9).set_ 10 v10).set_ 11 v11
theorem grown12 (w : World) (g : Nat) (v0 v1 v2 v3 v4 v5 v6 v7 v8 v9 v10 v11 : Value) : w.grownBy ((((((((((((w.setCell ⟨g, 0, none⟩ v0).setCell ⟨g, 1, none⟩ v1).setCell ⟨g, 2, none⟩ v2).setCell ⟨g, 3, none⟩ v3).setCell ⟨g, 4, none⟩ v4).setCell ⟨g, 5, none⟩ v5).setCell ⟨g, 6, none⟩ v6).setCell ⟨g, 7, none⟩ v7).setCell ⟨g, 8, none⟩ v8).setCell ⟨g, 9, none⟩ v9).setCell ⟨g, 10, none⟩ v10).setCell ⟨g, 11, none⟩ v11) (some g) :=
  Lib.grownBy_setB (Lib.grownBy_setB (Lib.grownBy_setB (Lib.grownBy_setB (Lib.grownBy_setB (Lib.grownBy_setB (Lib.grownBy_setB (Lib.grownBy_setB (Lib.grownBy_setB (Lib.grownBy_setB (Lib.grownBy_setB (Lib.grownBy_setCell _ _ _ _) _ _) _ _) _ _) _ _) _ _) _ _) _ _) _ _) _ _) _ _) _ _
def EntsPost (w : World) (m : Nat) (e : Ending) (w' : World) : Prop :=
  ∃ (v : Value) (es : List En), e = .returned v ∧ w'.ownsRow w.heap.size 40 12 v es.length (es.flatMap entC) ∧ (∀ p ∈ es, GenE p) ∧ es.length ≤ m ∧ Below w.heap.size w w'
set_option maxRecDepth 100000 in
set_option maxHeartbeats 2000000 in
theorem entries_any (A : Option Addr) (n c m : Nat) (zs : List Int) (w : World) (hr : Rd w w.heap.size A (zs.map Iv)) (hn : zs.length = n) (hz : ∀ z ∈ zs, I64 z) (hm : n ≤ 17592186044416) (hm2 : m ≤ 1000) :
    Calls Try.prog 14 #[.slice A n c, .int .i64 (m : Int)] w (EntsPost w m) := by
  have hs0 := Src.new hr hn hz hm (c := c)
  have hb0 : Below w.heap.size w (w.alloc (.cells #[.slice A n c, .int .i64 0] 113)) := (Below.refl _ _).alloc (Nat.le_refl _) _
  have HR := Lib.hid (ranges_any A n c m zs _ (hr.call hb0) hn hz hm hm2)
  have hsz0 : (w.alloc (.cells #[.slice A n c, .int .i64 0] 113)).heap.size = w.heap.size + 1 := by simp
  clear hr hz hn
  go_enter Try.func14, Try.ntmps14
  go_wp2_with fail
  refine (from_any A n c w).mono ?_; rintro e w' ⟨rfl, rfl⟩
  generalize w.alloc (.cells #[.slice A n c, .int .i64 0] 113) = w1 at *
  go_wp2_with fail
  refine HR.out.mono ?_; rintro e w2 ⟨vr, rs, rfl, hor, hgr, hlr, hbr⟩
  clear HR
  obtain ⟨R, cr, rfl, hcr⟩ := own_form hor
  have hE : EG w w2 w.heap.size w2.heap.size A n c 0 (.slice none 0 0) [] R rs := ⟨hs0.below hbr, World.ownsRow_nil _ _ _ _, RdB.new hor (by omega) (Nat.le_refl _), hb0.trans (hbr.mono (by omega)), Nat.le_refl _, by have := hbr.size; omega, Nat.le_refl _⟩
  have HG := Lib.hid hgr
  clear hgr hor hbr hs0 hb0 hsz0
  generalize w.heap.size = g at *
  generalize w2.heap.size = B at *
  go_wp2_with fail
  go_loopw [7, 8, 19] (fun a b k wr => ∃ (j i x : Nat) (es : List En), k = .int .i64 (j : Int) ∧ b = .int .i64 (x : Int) ∧ j ≤ rs.length ∧ x ≤ 3 * j ∧ es.length = j ∧ EG w wr g B A n c i a es R rs ∧ Hid (∀ p ∈ es, GenE p)) (fun _ _ k _ => rs.length - (intOf k).toNat)
  case atStart => exact ⟨0, _, 0, [], rfl, rfl, by omega, by omega, rfl, hE, (fun p hp => by cases hp)⟩
  case round =>
    clear hE
    obtain ⟨j, i, x, es, rfl, rfl, hj, hx, hl, hE, HP⟩ := hrel
    subst hl
    obtain ⟨Ae, ce, hve, _⟩ := own_form hE.own
    subst hve
    by_cases hjl : es.length < rs.length
    · obtain ⟨r, hrj⟩ : ∃ r, rs[es.length]? = some r := ⟨_, List.getElem?_eq_getElem hjl⟩
      have HGR := Lib.hid (HG.out r (List.mem_of_getElem? hrj))
      obtain ⟨ad, rfl, _, c0, c1, c2, c3, c4, c5, c6, c7⟩ := hE.rng.rd.range hrj
      clear hrj
      obtain ⟨⟨⟨ln, li, lz⟩, lq⟩, ⟨⟨hn, hi, hz⟩, hq⟩⟩ := r
      dsimp only at c0 c1 c2 c3 c4 c5 c6 c7
      have hK1 := Blk.new' wr 87 #[.bool ln, .int .i64 li, .string lz, .int .i64 lq, .bool hn, .int .i64 hi, .string hz, .int .i64 hq]
      have hE2 := hE.alloc (.cells #[.bool ln, .int .i64 li, .string lz, .int .i64 lq, .bool hn, .int .i64 hi, .string hz, .int .i64 hq] 87)
      have hf1 := hE.fresh (Nat.le_refl _)
      have hB1 := hE.o3
      have hgB := hE.o2
      go_upto_region 8 with fail
      clear c0 c1 c2 c3 c4 c5 c6 c7 hE
      generalize wr.alloc (.cells #[.bool ln, .int .i64 li, .string lz, .int .i64 lq, .bool hn, .int .i64 hi, .string hz, .int .i64 hq] 87) = w3 at *
      generalize wr.heap.size = g1 at *
      go_wp2_with fail
      refine (next_any _ A n c i 3 _ hE2.src (by omega) (by omega)).mono ?_; rintro e w4 ⟨k3, hk3, rfl, hs, hg⟩
      obtain ⟨i4, hE4⟩ : ∃ i4, EG w w4 g B A n c i4 (.slice Ae es.length ce) es (some ad) rs := ⟨min (i + 1) n, hE2.take hs hg⟩
      replace hK1 := hK1.grownB hg (by omega)
      clear hs hg hE2
      go_upto_region 9 with fail
      obtain ⟨x4, hx4, hx5⟩ : ∃ x4 : Nat, ((x : Int) + (1 + (k3 : Int))) = (x4 : Int) ∧ x4 = x + (1 + k3) := ⟨x + (1 + k3), by omega, rfl⟩
      rw [hx4]
      have HX4 := Lib.hid hx5
      clear hx4 hx5
      go_cut [11] (fun y wy => ∃ ge rwn i', y = .pointer (some ⟨ge, 0, none⟩) ∧ B ≤ ge ∧ 1 ≤ rwn ∧ rwn ≤ 8 ∧ Blk wy ge 40 [.int .i64 (x4 : Int), .int .i64 ((rwn : Nat) : Int), .int .i64 0, .bool ln, .int .i64 li, .string lz, .int .i64 lq, .bool hn, .int .i64 hi, .string hz, .int .i64 hq, .int .i64 0] ∧ Hid ((Value.slice Ae es.length ce).ownBlock ≠ some ge) ∧ EG w wy g B A n c i' (.slice Ae es.length ce) es (some ad) rs)
      case first =>
        refine wp_region_L (fun _ w' => Blk w' g1 87 [.bool ln, .int .i64 li, .string lz, .int .i64 lq, .bool hn, .int .i64 hi, .string hz, .int .i64 hq]) (by kernel_rfl) ?_
        replace hE4 := hE4.drew
        replace hK1 : Blk w4.drew g1 87 [.bool ln, .int .i64 li, .string lz, .int .i64 lq, .bool hn, .int .i64 hi, .string hz, .int .i64 hq] := hK1
        generalize w4.drew = wy at *
        refine wpAnyL_takeD (fun _ => True) (i := 0) (v := (.int .i64 (x4 : Int))) (some 28) rfl rfl (by kernel_rfl) (by kernel_rfl) (by kernel_rfl) (fun _ _ _ h => h) (fun _ _ _ _ _ _ => trivial) (fun _ _ _ => Iff.rfl) trivial (Or.inl ⟨by rfl, fun w' hw' => by obtain ⟨l, _, hl⟩ := hw'; have k0 := hl.cellAt 0 rfl; have k1 := hl.cellAt 1 rfl; have k2 := hl.cellAt 2 rfl; have k3 := hl.cellAt 3 rfl; have k4 := hl.cellAt 4 rfl; have k5 := hl.cellAt 5 rfl; have k6 := hl.cellAt 6 rfl; have k7 := hl.cellAt 7 rfl; go_simp⟩) hK1 ?_
        simp only [Act.put, List.setIfInBounds_toArray, List.set_cons_zero, List.set_cons_succ]
        refine wpAnyL_takeD (fun _ => True) (i := 1) (v := (.pointer (some ⟨g, 0, none⟩))) (some 29) rfl rfl (by kernel_rfl) (by kernel_rfl) (by kernel_rfl) (fun _ _ _ h => h) (fun _ _ _ _ _ _ => trivial) (fun _ _ _ => Iff.rfl) trivial (Or.inl ⟨by rfl, fun w' hw' => by obtain ⟨l, _, hl⟩ := hw'; have k0 := hl.cellAt 0 rfl; have k1 := hl.cellAt 1 rfl; have k2 := hl.cellAt 2 rfl; have k3 := hl.cellAt 3 rfl; have k4 := hl.cellAt 4 rfl; have k5 := hl.cellAt 5 rfl; have k6 := hl.cellAt 6 rfl; have k7 := hl.cellAt 7 rfl; go_simp⟩) hK1 ?_
        simp only [Act.put, List.setIfInBounds_toArray, List.set_cons_zero, List.set_cons_succ]
        refine wpAnyL_takeD (fun _ => True) (i := 4) (v := (.pointer (some ⟨g1, 0, none⟩))) (some 32) rfl rfl (by kernel_rfl) (by kernel_rfl) (by kernel_rfl) (fun _ _ _ h => h) (fun _ _ _ _ _ _ => trivial) (fun _ _ _ => Iff.rfl) trivial (Or.inl ⟨by rfl, fun w' hw' => by obtain ⟨l, _, hl⟩ := hw'; have k0 := hl.cellAt 0 rfl; have k1 := hl.cellAt 1 rfl; have k2 := hl.cellAt 2 rfl; have k3 := hl.cellAt 3 rfl; have k4 := hl.cellAt 4 rfl; have k5 := hl.cellAt 5 rfl; have k6 := hl.cellAt 6 rfl; have k7 := hl.cellAt 7 rfl; go_simp⟩) hK1 ?_
        simp only [Act.put, List.setIfInBounds_toArray, List.set_cons_zero, List.set_cons_succ]
        refine wpAnyL_takeD (fun _ => True) (i := 6) (v := (.pointer (some ⟨g1, 4, none⟩))) (some 34) rfl rfl (by kernel_rfl) (by kernel_rfl) (by kernel_rfl) (fun _ _ _ h => h) (fun _ _ _ _ _ _ => trivial) (fun _ _ _ => Iff.rfl) trivial (Or.inl ⟨by rfl, fun w' hw' => by obtain ⟨l, _, hl⟩ := hw'; have k0 := hl.cellAt 0 rfl; have k1 := hl.cellAt 1 rfl; have k2 := hl.cellAt 2 rfl; have k3 := hl.cellAt 3 rfl; have k4 := hl.cellAt 4 rfl; have k5 := hl.cellAt 5 rfl; have k6 := hl.cellAt 6 rfl; have k7 := hl.cellAt 7 rfl; go_simp⟩) hK1 ?_
        simp only [Act.put, List.setIfInBounds_toArray, List.set_cons_zero, List.set_cons_succ]
        refine wpAnyL_takeD (fun _ => True) (i := 5) (v := (.agg #[.bool ln, .int .i64 li, .string lz, .int .i64 lq])) (some 33) rfl rfl (by kernel_rfl) (by kernel_rfl) (by kernel_rfl) (fun _ _ _ h => h) (fun _ _ _ _ _ _ => trivial) (fun _ _ _ => Iff.rfl) trivial (Or.inl ⟨by rfl, fun w' hw' => by obtain ⟨l, _, hl⟩ := hw'; have k0 := hl.cellAt 0 rfl; have k1 := hl.cellAt 1 rfl; have k2 := hl.cellAt 2 rfl; have k3 := hl.cellAt 3 rfl; have k4 := hl.cellAt 4 rfl; have k5 := hl.cellAt 5 rfl; have k6 := hl.cellAt 6 rfl; have k7 := hl.cellAt 7 rfl; go_simp⟩) hK1 ?_
        simp only [Act.put, List.setIfInBounds_toArray, List.set_cons_zero, List.set_cons_succ]
        refine wpAnyL_takeD (fun _ => True) (i := 7) (v := (.agg #[.bool hn, .int .i64 hi, .string hz, .int .i64 hq])) (some 35) rfl rfl (by kernel_rfl) (by kernel_rfl) (by kernel_rfl) (fun _ _ _ h => h) (fun _ _ _ _ _ _ => trivial) (fun _ _ _ => Iff.rfl) trivial (Or.inl ⟨by rfl, fun w' hw' => by obtain ⟨l, _, hl⟩ := hw'; have k0 := hl.cellAt 0 rfl; have k1 := hl.cellAt 1 rfl; have k2 := hl.cellAt 2 rfl; have k3 := hl.cellAt 3 rfl; have k4 := hl.cellAt 4 rfl; have k5 := hl.cellAt 5 rfl; have k6 := hl.cellAt 6 rfl; have k7 := hl.cellAt 7 rfl; go_simp⟩) hK1 ?_
        simp only [Act.put, List.setIfInBounds_toArray, List.set_cons_zero, List.set_cons_succ]
        refine wpAnyL_lst (rs := [2, 9]) (by decide +kernel) ⟨by simp, ?_⟩
        simp only [List.forall_mem_cons, List.not_mem_nil, false_implies, implies_true, and_true]
        refine ⟨?_, ?_⟩
        · refine wpOp_go (o := _) rfl (fun K hK => ?_)
          go_simp
          go_at_call 46
          refine (next_any _ A n c i4 8 _ hE4.src (by omega) (by omega)).mono ?_; rintro _ wy ⟨k2, hk2, rfl, hs, hg⟩
          obtain ⟨i5, hE5⟩ : ∃ i5, EG w wy g B A n c i5 (.slice Ae es.length ce) es (some ad) rs := ⟨min (i4 + 1) n, hE4.take hs hg⟩
          replace hK1 := hK1.grownB hg (by omega)
          try replace hN1 := hN1.grownB hg (by omega)
          have hw2 : IntKind.i64.wrap (1 + (k2 : Int)) = 1 + (k2 : Int) := IntWalk.i64_in _ (by omega)
          refine hK _ _ ⟨hK1, ?_⟩
          clear hK K hs hg hE4
          have hE4 := hE5
          clear hE5
          refine wpAnyL_takeD (fun _ => True) (i := 3) (v := (.int .i64 (1 + (k2 : Int)))) (some 31) rfl rfl (by kernel_rfl) (by kernel_rfl) (by kernel_rfl) (fun _ _ _ h => h) (fun _ _ _ _ _ _ => trivial) (fun _ _ _ => Iff.rfl) trivial (Or.inl ⟨by rfl, fun w' hw' => by obtain ⟨l, _, hl⟩ := hw'; have k0 := hl.cellAt 0 rfl; have k1 := hl.cellAt 1 rfl; have k2 := hl.cellAt 2 rfl; have k3 := hl.cellAt 3 rfl; have k4 := hl.cellAt 4 rfl; have k5 := hl.cellAt 5 rfl; have k6 := hl.cellAt 6 rfl; have k7 := hl.cellAt 7 rfl; go_simp⟩) hK1 ?_
          simp only [Act.put, List.setIfInBounds_toArray, List.set_cons_zero, List.set_cons_succ]
          refine wpAnyL_takeD (fun _ => True) (i := 8) (v := (.agg #[.int .i64 (x4 : Int), .int .i64 (1 + (k2 : Int)), .int .i64 0, .bool ln, .int .i64 li, .string lz, .int .i64 lq, .bool hn, .int .i64 hi, .string hz, .int .i64 hq, .int .i64 0])) (some 36) rfl rfl (by kernel_rfl) (by kernel_rfl) (by kernel_rfl) (fun _ _ _ h => h) (fun _ _ _ _ _ _ => trivial) (fun _ _ _ => Iff.rfl) trivial (Or.inl ⟨by rfl, fun w' hw' => by obtain ⟨l, _, hl⟩ := hw'; have k0 := hl.cellAt 0 rfl; have k1 := hl.cellAt 1 rfl; have k2 := hl.cellAt 2 rfl; have k3 := hl.cellAt 3 rfl; have k4 := hl.cellAt 4 rfl; have k5 := hl.cellAt 5 rfl; have k6 := hl.cellAt 6 rfl; have k7 := hl.cellAt 7 rfl; go_simp⟩) hK1 ?_
          simp only [Act.put, List.setIfInBounds_toArray, List.set_cons_zero, List.set_cons_succ]
          refine wpAnyL_one (i := 9) (by decide +kernel) ?_
          refine wpOp_go (o := _) rfl (fun K hK => ?_)
          go_simp
          have hN1 := Blk.new' wy 40 #[.int .i64 0, .int .i64 0, .int .i64 0, .bool false, .int .i64 0, .string ⟨#[]⟩, .int .i64 0, .bool false, .int .i64 0, .string ⟨#[]⟩, .int .i64 0, .int .i64 0]
          have hv1 := hE4.fresh (Nat.le_refl _)
          have hge1 := hE4.o3
          have hlt1 := Blk.lt hK1
          have hE5 := hE4.alloc (.cells #[.int .i64 0, .int .i64 0, .int .i64 0, .bool false, .int .i64 0, .string ⟨#[]⟩, .int .i64 0, .bool false, .int .i64 0, .string ⟨#[]⟩, .int .i64 0, .int .i64 0] 40)
          have hK5 := hK1.alloc (.cells #[.int .i64 0, .int .i64 0, .int .i64 0, .bool false, .int .i64 0, .string ⟨#[]⟩, .int .i64 0, .bool false, .int .i64 0, .string ⟨#[]⟩, .int .i64 0, .int .i64 0] 40)
          refine hK _ _ ⟨hK5, ?_⟩
          clear hK K hE4 hK1
          generalize wy.heap.size = ge at *
          generalize wy.alloc (.cells #[.int .i64 0, .int .i64 0, .int .i64 0, .bool false, .int .i64 0, .string ⟨#[]⟩, .int .i64 0, .bool false, .int .i64 0, .string ⟨#[]⟩, .int .i64 0, .int .i64 0] 40) = wz at *
          have hE4 := hE5
          have hK1 := hK5
          clear hE5 hK5
          refine wpAnyL_one (i := 10) (by decide +kernel) ?_
          refine wpOp_go (o := _) rfl (fun K hK => ?_)
          have e0 := hN1.cellAt 0 rfl
          have e1 := hN1.cellAt 1 rfl
          have e2 := hN1.cellAt 2 rfl
          have e3 := hN1.cellAt 3 rfl
          have e4 := hN1.cellAt 4 rfl
          have e5 := hN1.cellAt 5 rfl
          have e6 := hN1.cellAt 6 rfl
          have e7 := hN1.cellAt 7 rfl
          have e8 := hN1.cellAt 8 rfl
          have e9 := hN1.cellAt 9 rfl
          have e10 := hN1.cellAt 10 rfl
          have e11 := hN1.cellAt 11 rfl
          have ef := hN1.frozen
          go_simp
          have hgw := grown12 wz ge (.int .i64 (x4 : Int)) (.int .i64 (1 + (k2 : Int))) (.int .i64 0) (.bool ln) (.int .i64 li) (.string lz) (.int .i64 lq) (.bool hn) (.int .i64 hi) (.string hz) (.int .i64 hq) (.int .i64 0)
          refine hK _ _ ⟨hK1.grownB hgw (by omega), ?_⟩
          clear hK K e0 e1 e2 e3 e4 e5 e6 e7 e8 e9 e10 e11 ef
          have hS := hE4.side hgw hge1 hv1
          have hNS := set12 hN1 (.int .i64 (x4 : Int)) (.int .i64 (1 + (k2 : Int))) (.int .i64 0) (.bool ln) (.int .i64 li) (.string lz) (.int .i64 lq) (.bool hn) (.int .i64 hi) (.string hz) (.int .i64 hq) (.int .i64 0)
          clear hE4 hN1 hK1 hgw
          refine wpAnyL_done (by decide +kernel) ?_ _
          go_wp2_with fail
          go_meet
          exact ⟨ge, 1 + k2, i5, rfl, hge1, by omega, by omega, by rw [show ((1 + k2 : Nat) : Int) = 1 + (k2 : Int) from by omega]; exact hNS, hv1, hS⟩
        · refine wpOp_go (o := _) rfl (fun K hK => ?_)
          go_simp
          have hN1 := Blk.new' wy 40 #[.int .i64 0, .int .i64 0, .int .i64 0, .bool false, .int .i64 0, .string ⟨#[]⟩, .int .i64 0, .bool false, .int .i64 0, .string ⟨#[]⟩, .int .i64 0, .int .i64 0]
          have hv1 := hE4.fresh (Nat.le_refl _)
          have hge1 := hE4.o3
          have hlt1 := Blk.lt hK1
          have hE5 := hE4.alloc (.cells #[.int .i64 0, .int .i64 0, .int .i64 0, .bool false, .int .i64 0, .string ⟨#[]⟩, .int .i64 0, .bool false, .int .i64 0, .string ⟨#[]⟩, .int .i64 0, .int .i64 0] 40)
          have hK5 := hK1.alloc (.cells #[.int .i64 0, .int .i64 0, .int .i64 0, .bool false, .int .i64 0, .string ⟨#[]⟩, .int .i64 0, .bool false, .int .i64 0, .string ⟨#[]⟩, .int .i64 0, .int .i64 0] 40)
          refine hK _ _ ⟨hK5, ?_⟩
          clear hK K hE4 hK1
          generalize wy.heap.size = ge at *
          generalize wy.alloc (.cells #[.int .i64 0, .int .i64 0, .int .i64 0, .bool false, .int .i64 0, .string ⟨#[]⟩, .int .i64 0, .bool false, .int .i64 0, .string ⟨#[]⟩, .int .i64 0, .int .i64 0] 40) = wz at *
          have hE4 := hE5
          have hK1 := hK5
          clear hE5 hK5
          refine wpAnyL_one (i := 2) (by decide +kernel) ?_
          refine wpOp_go (o := _) rfl (fun K hK => ?_)
          go_simp
          go_at_call 46
          refine (next_any _ A n c i4 8 _ hE4.src (by omega) (by omega)).mono ?_; rintro _ wy ⟨k2, hk2, rfl, hs, hg⟩
          obtain ⟨i5, hE5⟩ : ∃ i5, EG w wy g B A n c i5 (.slice Ae es.length ce) es (some ad) rs := ⟨min (i4 + 1) n, hE4.take hs hg⟩
          replace hK1 := hK1.grownB hg (by omega)
          try replace hN1 := hN1.grownB hg (by omega)
          have hw2 : IntKind.i64.wrap (1 + (k2 : Int)) = 1 + (k2 : Int) := IntWalk.i64_in _ (by omega)
          refine hK _ _ ⟨hK1, ?_⟩
          clear hK K hs hg hE4
          have hE4 := hE5
          clear hE5
          refine wpAnyL_takeD (fun _ => True) (i := 3) (v := (.int .i64 (1 + (k2 : Int)))) (some 31) rfl rfl (by kernel_rfl) (by kernel_rfl) (by kernel_rfl) (fun _ _ _ h => h) (fun _ _ _ _ _ _ => trivial) (fun _ _ _ => Iff.rfl) trivial (Or.inl ⟨by rfl, fun w' hw' => by obtain ⟨l, _, hl⟩ := hw'; have k0 := hl.cellAt 0 rfl; have k1 := hl.cellAt 1 rfl; have k2 := hl.cellAt 2 rfl; have k3 := hl.cellAt 3 rfl; have k4 := hl.cellAt 4 rfl; have k5 := hl.cellAt 5 rfl; have k6 := hl.cellAt 6 rfl; have k7 := hl.cellAt 7 rfl; go_simp⟩) hK1 ?_
          simp only [Act.put, List.setIfInBounds_toArray, List.set_cons_zero, List.set_cons_succ]
          refine wpAnyL_takeD (fun _ => True) (i := 8) (v := (.agg #[.int .i64 (x4 : Int), .int .i64 (1 + (k2 : Int)), .int .i64 0, .bool ln, .int .i64 li, .string lz, .int .i64 lq, .bool hn, .int .i64 hi, .string hz, .int .i64 hq, .int .i64 0])) (some 36) rfl rfl (by kernel_rfl) (by kernel_rfl) (by kernel_rfl) (fun _ _ _ h => h) (fun _ _ _ _ _ _ => trivial) (fun _ _ _ => Iff.rfl) trivial (Or.inl ⟨by rfl, fun w' hw' => by obtain ⟨l, _, hl⟩ := hw'; have k0 := hl.cellAt 0 rfl; have k1 := hl.cellAt 1 rfl; have k2 := hl.cellAt 2 rfl; have k3 := hl.cellAt 3 rfl; have k4 := hl.cellAt 4 rfl; have k5 := hl.cellAt 5 rfl; have k6 := hl.cellAt 6 rfl; have k7 := hl.cellAt 7 rfl; go_simp⟩) hK1 ?_
          simp only [Act.put, List.setIfInBounds_toArray, List.set_cons_zero, List.set_cons_succ]
          refine wpAnyL_one (i := 10) (by decide +kernel) ?_
          refine wpOp_go (o := _) rfl (fun K hK => ?_)
          have e0 := hN1.cellAt 0 rfl
          have e1 := hN1.cellAt 1 rfl
          have e2 := hN1.cellAt 2 rfl
          have e3 := hN1.cellAt 3 rfl
          have e4 := hN1.cellAt 4 rfl
          have e5 := hN1.cellAt 5 rfl
          have e6 := hN1.cellAt 6 rfl
          have e7 := hN1.cellAt 7 rfl
          have e8 := hN1.cellAt 8 rfl
          have e9 := hN1.cellAt 9 rfl
          have e10 := hN1.cellAt 10 rfl
          have e11 := hN1.cellAt 11 rfl
          have ef := hN1.frozen
          go_simp
          have hgw := grown12 wy ge (.int .i64 (x4 : Int)) (.int .i64 (1 + (k2 : Int))) (.int .i64 0) (.bool ln) (.int .i64 li) (.string lz) (.int .i64 lq) (.bool hn) (.int .i64 hi) (.string hz) (.int .i64 hq) (.int .i64 0)
          refine hK _ _ ⟨hK1.grownB hgw (by omega), ?_⟩
          clear hK K e0 e1 e2 e3 e4 e5 e6 e7 e8 e9 e10 e11 ef
          have hS := hE4.side hgw hge1 hv1
          have hNS := set12 hN1 (.int .i64 (x4 : Int)) (.int .i64 (1 + (k2 : Int))) (.int .i64 0) (.bool ln) (.int .i64 li) (.string lz) (.int .i64 lq) (.bool hn) (.int .i64 hi) (.string hz) (.int .i64 hq) (.int .i64 0)
          clear hE4 hN1 hK1 hgw
          refine wpAnyL_done (by decide +kernel) ?_ _
          go_wp2_with fail
          go_meet
          exact ⟨ge, 1 + k2, i5, rfl, hge1, by omega, by omega, by rw [show ((1 + k2 : Nat) : Int) = 1 + (k2 : Int) from by omega]; exact hNS, hv1, hS⟩
      case rest =>
        obtain ⟨ge, rwn, i5, rfl, hge, hrw1, hrw2, hBe, hne, hE5⟩ := hcut
        clear hE4 hK1
        have e1 : wc.cell? ⟨ge, 1, none⟩ = some (.int .i64 (rwn : Int)) := hBe.cellAt 1 rfl
        have ef := hBe.frozen
        have hgl := hE5.src.lt
        go_wp2_with fail
        refine (next_any _ A n c i5 rwn _ hE5.src (by omega) (by omega)).mono ?_; rintro _ wd ⟨k6, hk6, rfl, hs, hg⟩
        obtain ⟨i6, hE6⟩ : ∃ i6, EG w wd g B A n c i6 (.slice Ae es.length ce) es (some ad) rs := ⟨min (i5 + 1) n, hE5.take hs hg⟩
        replace hBe := hBe.grownB hg (by omega)
        clear hs hg hE5 e1 ef
        have hw6 : IntKind.i64.wrap (1 + (k6 : Int)) = 1 + (k6 : Int) := IntWalk.i64_in _ (by omega)
        have ef := hBe.frozen
        have es2 := hBe.cellAt 2 rfl
        have hE7 := hE6.side (grown_set wd ge 2 (.int .i64 (1 + (k6 : Int)))) hge hne.out
        have hB7 : Blk (wd.setCell ⟨ge, 2, none⟩ (.int .i64 (1 + (k6 : Int)))) ge 40 [.int .i64 (x4 : Int), .int .i64 (rwn : Int), .int .i64 (1 + (k6 : Int)), .bool ln, .int .i64 li, .string lz, .int .i64 lq, .bool hn, .int .i64 hi, .string hz, .int .i64 hq, .int .i64 0] := hBe.set_ 2 _
        go_upto_region 11 with fail
        clear hE6 hBe ef es2
        generalize wd.setCell ⟨ge, 2, none⟩ (.int .i64 (1 + (k6 : Int))) = we at *
        have e1 : we.cell? ⟨ge, 1, none⟩ = some (.int .i64 (rwn : Int)) := hB7.cellAt 1 rfl
        have e2 : we.cell? ⟨ge, 2, none⟩ = some (.int .i64 (1 + (k6 : Int))) := hB7.cellAt 2 rfl
        by_cases hlr : 1 + k6 < rwn
        · have hd : decide (1 + (k6 : Int) < (rwn : Int)) = true := decide_eq_true (by omega)
          go_wp2_with fail
          refine (next_any _ A n c i6 20 _ hE7.src (by omega) (by omega)).mono ?_; rintro _ wf ⟨k7, hk7, rfl, hs, hg⟩
          obtain ⟨i7, hE8⟩ : ∃ i7, EG w wf g B A n c i7 (.slice Ae es.length ce) es (some ad) rs := ⟨min (i6 + 1) n, hE7.take hs hg⟩
          replace hB7 := hB7.grownB hg (by omega)
          clear hs hg hE7 e1 e2
          have hw7 : IntKind.i64.wrap (1 + (k7 : Int)) = 1 + (k7 : Int) := IntWalk.i64_in _ (by omega)
          have ef := hB7.frozen
          have es11 := hB7.cellAt 11 rfl
          have hE9 := hE8.side (grown_set wf ge 11 (.int .i64 (1 + (k7 : Int)))) hge hne.out
          have hB9 : Blk (wf.setCell ⟨ge, 11, none⟩ (.int .i64 (1 + (k7 : Int)))) ge 40 [.int .i64 (x4 : Int), .int .i64 (rwn : Int), .int .i64 (1 + (k6 : Int)), .bool ln, .int .i64 li, .string lz, .int .i64 lq, .bool hn, .int .i64 hi, .string hz, .int .i64 hq, .int .i64 (1 + (k7 : Int))] := hB7.set_ 11 _
          go_upto_region 13 with fail
          clear hE8 hB7 ef es11
          generalize wf.setCell ⟨ge, 11, none⟩ (.int .i64 (1 + (k7 : Int))) = wg at *
          have e0 := hB9.cellAt 0 rfl
          have e1 := hB9.cellAt 1 rfl
          have e2 := hB9.cellAt 2 rfl
          have e3 := hB9.cellAt 3 rfl
          have e4 := hB9.cellAt 4 rfl
          have e5 := hB9.cellAt 5 rfl
          have e6 := hB9.cellAt 6 rfl
          have e7 := hB9.cellAt 7 rfl
          have e8 := hB9.cellAt 8 rfl
          have e9 := hB9.cellAt 9 rfl
          have e10 := hB9.cellAt 10 rfl
          have e11 := hB9.cellAt 11 rfl
          go_wp2_with (at_builtin; refine hE9.one ⟨(x4 : Int), (rwn : Int), 1 + (k6 : Int), ⟨⟨ln, li, lz⟩, lq⟩, ⟨⟨hn, hi, hz⟩, hq⟩, (1 + (k7 : Int))⟩ (by omega) (ds := #[.int .i64 (x4 : Int), .int .i64 (rwn : Int), .int .i64 (1 + (k6 : Int)), .bool ln, .int .i64 li, .string lz, .int .i64 lq, .bool hn, .int .i64 hi, .string hz, .int .i64 hq, .int .i64 ((1 + (k7 : Int)))]) rfl ?_ rfl _ _ rfl rfl rfl)
          intro v9 w9 hE10
          clear e0 e1 e2 e3 e4 e5 e6 e7 e8 e9 e10 e11
          have hx5 := HX4.out
          go_wp2
          go_roundw
          case rel => exact ⟨es.length + 1, _, x4, _, by go_num, rfl, by omega, by omega, by simp, hE10, snoc_all' HP.out ⟨ent_iff.2 ⟨⟨by dsimp only; omega, by dsimp only; omega⟩, ⟨by dsimp only; omega, by dsimp only; omega⟩, ⟨by dsimp only; omega, by dsimp only; omega⟩, (gen_rank HGR.out.1).1, (gen_rank HGR.out.2.1).1, ⟨by dsimp only; omega, by dsimp only; omega⟩⟩, (gen_rank HGR.out.1).2, (gen_rank HGR.out.2.1).2⟩⟩
          case measure => simp [intOf]; omega
        · have hd : decide (1 + (k6 : Int) < (rwn : Int)) = false := decide_eq_false (by omega)
          go_upto_region 13 with fail
          clear e1 e2
          have e0 := hB7.cellAt 0 rfl
          have e1 := hB7.cellAt 1 rfl
          have e2 := hB7.cellAt 2 rfl
          have e3 := hB7.cellAt 3 rfl
          have e4 := hB7.cellAt 4 rfl
          have e5 := hB7.cellAt 5 rfl
          have e6 := hB7.cellAt 6 rfl
          have e7 := hB7.cellAt 7 rfl
          have e8 := hB7.cellAt 8 rfl
          have e9 := hB7.cellAt 9 rfl
          have e10 := hB7.cellAt 10 rfl
          have e11 := hB7.cellAt 11 rfl
          go_wp2_with (at_builtin; refine hE7.one ⟨(x4 : Int), (rwn : Int), 1 + (k6 : Int), ⟨⟨ln, li, lz⟩, lq⟩, ⟨⟨hn, hi, hz⟩, hq⟩, 0⟩ (by omega) (ds := #[.int .i64 (x4 : Int), .int .i64 (rwn : Int), .int .i64 (1 + (k6 : Int)), .bool ln, .int .i64 li, .string lz, .int .i64 lq, .bool hn, .int .i64 hi, .string hz, .int .i64 hq, .int .i64 (0)]) rfl ?_ rfl _ _ rfl rfl rfl)
          intro v9 w9 hE10
          clear e0 e1 e2 e3 e4 e5 e6 e7 e8 e9 e10 e11
          have hx5 := HX4.out
          go_wp2
          go_roundw
          case rel => exact ⟨es.length + 1, _, x4, _, by go_num, rfl, by omega, by omega, by simp, hE10, snoc_all' HP.out ⟨ent_iff.2 ⟨⟨by dsimp only; omega, by dsimp only; omega⟩, ⟨by dsimp only; omega, by dsimp only; omega⟩, ⟨by dsimp only; omega, by dsimp only; omega⟩, (gen_rank HGR.out.1).1, (gen_rank HGR.out.2.1).1, ⟨by dsimp only; omega, by dsimp only; omega⟩⟩, (gen_rank HGR.out.1).2, (gen_rank HGR.out.2.1).2⟩⟩
          case measure => simp [intOf]; omega
    · have hj2 : es.length = rs.length := by omega
      go_wp2
      go_ret
      exact ⟨_, es, rfl, hE.own.mono (by have := hE.o1; have := hE.o2; omega), HP.out, by omega, hE.bel⟩

end Go.Proofs.Ytgacjpkgpegcdaa
