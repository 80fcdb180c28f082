/-
  The helpers of the statements: Pick, and the source of arbitrary numbers.
-/
import Derived.Test.YtgacjpkgpegcdaaWide
namespace Go.Proofs.Ytgacjpkgpegcdaa
open Go.RowKit

/-- What Pick returns. -/
def pickN (v : Int) (n : Nat) : Nat := (v % 18446744073709551616).toNat % n
theorem pickN_lt (v : Int) {n : Nat} (h : 0 < n) : pickN v n < n := Nat.mod_lt _ h
theorem pick_wrap (v : Int) {n : Nat} (h0 : 0 < n) (h : n ≤ 4611686018427387904) : wrap64 ((IntKind.u64.wrap v).tmod (n : Int)) = (pickN v n : Int) := by
  have w1 : ∀ m : Int, IntKind.u64.wrap m = m % 18446744073709551616 := fun m => by simp [IntKind.wrap, IntKind.bits, IntKind.signed]
  have e1 : v % 18446744073709551616 = (((v % 18446744073709551616).toNat : Nat) : Int) := by omega
  have hl := pickN_lt v h0
  rw [w1, e1, Int.tmod_eq_emod_of_nonneg (by omega)]
  have e3 : (((v % 18446744073709551616).toNat : Nat) : Int) % (n : Int) = (pickN v n : Int) := by unfold pickN; simp
  rw [e3]
  unfold wrap64
  omega

set_option maxRecDepth 100000 in
set_option maxHeartbeats 400000 in
theorem pick_any (v : Int) (n : Nat) (w : World) (h0 : 0 < n) (h : n ≤ 1000000000000000) :
    Calls Try.prog 16 #[.int .i64 v, .int .i64 n] w fun e w' => e = .returned (.int .i64 (pickN v n)) ∧ w = w' := by
  have hp := Lib.hid (pick_wrap v h0 (by omega))
  go_enter Try.func16, Try.ntmps16
  go_wp2
  go_ret
  exact ⟨by rw [← hp.out]; rfl, rfl⟩

theorem quiet_same {P : Program} {f : FuncId} {args : Array Value} {w : World} {v : Value} (h : Calls P f args w fun e w' => e = .returned v ∧ w = w') : Calls P f args w fun e w'' => e = .returned v ∧ ∃ m, w'' = w.drewN m :=
  h.mono fun _ _ ⟨he, hm⟩ => ⟨he, 0, by rw [← hm]; rfl⟩
theorem quiet_same' {P : Program} {f : FuncId} {args : Array Value} {w : World} {n : Nat} {v : Value} (h : Calls P f args (w.drewN n) fun e w' => e = .returned v ∧ w.drewN n = w') : Calls P f args (w.drewN n) fun e w'' => e = .returned v ∧ ∃ m, w'' = w.drewN m :=
  h.mono fun _ _ ⟨he, hm⟩ => ⟨he, n, hm.symm⟩
/-- A source at block g: what is left of the list at A begins at i. -/
structure Src (w : World) (g : Nat) (A : Option Addr) (n c i : Nat) : Prop where
  blk : w.heap[g]? = some (.cells #[.slice A n c, .int .i64 (i : Int)] 113 (0, 0))
  le : i ≤ n
  sm : n ≤ 17592186044416
  rd : ∀ j, j < n → ∃ (ad : Addr) (z : Int), A = some ad ∧ ad.block < g ∧ I64 z ∧ w.cell? (ad.add j) = some (.int .i64 z)
theorem Src.lt {w : World} {g : Nat} {A : Option Addr} {n c i : Nat} (h : Src w g A n c i) : g < w.heap.size := (Array.getElem?_eq_some_iff.1 h.blk).1
theorem Src.c0 {w : World} {g : Nat} {A : Option Addr} {n c i : Nat} (h : Src w g A n c i) : w.cell? ⟨g, 0, none⟩ = some (.slice A n c) := by rw [cell_of_row w g 0 _ _ _ h.blk]; rfl
theorem Src.c1 {w : World} {g : Nat} {A : Option Addr} {n c i : Nat} (h : Src w g A n c i) : w.cell? ⟨g, 1, none⟩ = some (.int .i64 (i : Int)) := by rw [cell_of_row w g 1 _ _ _ h.blk]; rfl
theorem Src.f1 {w : World} {g : Nat} {A : Option Addr} {n c i : Nat} (h : Src w g A n c i) : w.frozen? ⟨g, 1, none⟩ = false := by simp [World.frozen?, h.blk]
theorem Src.below {w w' : World} {g : Nat} {A : Option Addr} {n c i : Nat} (h : Src w g A n c i) (hb : Below w.heap.size w w') : Src w' g A n c i :=
  ⟨(hb.block g h.lt).trans h.blk, h.le, h.sm, fun j hj => by
    obtain ⟨ad, z, e, hl, hz, hc⟩ := h.rd j hj
    exact ⟨ad, z, e, hl, hz, (hb.cell (by rw [block_of_add]; have := h.lt; omega)).trans hc⟩⟩
theorem Src.drewN {w : World} {g : Nat} {A : Option Addr} {n c i : Nat} (h : Src w g A n c i) (q : Nat) : Src (w.drewN q) g A n c i := ⟨h.blk, h.le, h.sm, h.rd⟩
/-- Behind a step that may have turned the row 'row' alone, another one. -/
theorem Src.grown {w w' : World} {g : Nat} {A : Option Addr} {n c i : Nat} {row : Option Nat} (h : Src w g A n c i) (hg : w.grownBy w' row) (hr : ∀ k, row = some k → g < k) : Src w' g A n c i :=
  ⟨(hg.block g h.lt (fun e => by have := hr g e.symm; omega)).trans h.blk, h.le, h.sm, fun j hj => by
    obtain ⟨ad, z, e, hl, hz, hc⟩ := h.rd j hj
    have hlt := h.lt
    exact ⟨ad, z, e, hl, hz, (World.cell?_of_block (hg.block (ad.add j).block (by rw [block_of_add]; omega) (fun e' => by have := hr _ e'.symm; rw [block_of_add] at this; omega))).trans hc⟩⟩
/-- One number has been taken. -/
theorem Src.step {w : World} {g : Nat} {A : Option Addr} {n c i : Nat} (h : Src w g A n c i) (hi : i < n) (q : Nat) :
    Src ((w.drewN q).setCell ⟨g, 1, none⟩ (.int .i64 ((i : Int) + 1))) g A n c (i + 1) ∧ w.grownBy ((w.drewN q).setCell ⟨g, 1, none⟩ (.int .i64 ((i : Int) + 1))) (some g) := by
  have hgb : w.grownBy ((w.drewN q).setCell ⟨g, 1, none⟩ (.int .i64 ((i : Int) + 1))) (some g) :=
    ⟨rfl, rfl, rfl, by simp [World.setCell], fun k _ hne => Below.heap_setCell (w.drewN q) _ _ k (fun e => hne (by rw [e]))⟩
  refine ⟨⟨?_, hi, h.sm, fun j hj => ?_⟩, hgb⟩
  · have hb := h.blk
    simp [World.setCell, Array.getElem?_modify, hb]
  · obtain ⟨ad, z, e, hl, hz, hc⟩ := h.rd j hj
    exact ⟨ad, z, e, hl, hz, (World.cell?_of_block (hgb.block (ad.add j).block (by rw [block_of_add]; have := h.lt; omega) (fun e' => by rw [block_of_add] at e'; injection e' with e'; omega))).trans hc⟩

theorem from_any (A : Option Addr) (n c : Nat) (w : World) :
    Calls Try.prog 44 #[.slice A n c] w fun e w' => e = .returned (.pointer (some ⟨w.heap.size, 0, none⟩)) ∧ w.alloc (.cells #[.slice A n c, .int .i64 0] 113) = w' := by
  go_enter Try.func44, Try.ntmps44
  go_wp2
  go_ret
  exact ⟨rfl, rfl⟩
/-- A source of a list that came in. -/
theorem Src.new {w : World} {A : Option Addr} {n c : Nat} {zs : List Int} (hr : Rd w w.heap.size A (zs.map Iv)) (hn : zs.length = n) (hz : ∀ z ∈ zs, I64 z) (hm : n ≤ 17592186044416) :
    Src (w.alloc (.cells #[.slice A n c, .int .i64 0] 113)) w.heap.size A n c 0 := by
  refine ⟨heap_alloc_new w _, Nat.zero_le _, hm, fun j hj => ?_⟩
  have hj' : j < zs.length := by omega
  obtain ⟨ad, e, hb, hc⟩ := hr.at_ (j := j) (u := Iv zs[j]) (by simp [List.getElem?_eq_getElem hj'])
  exact ⟨ad, zs[j], e, hb, hz _ (List.getElem_mem hj'), by rw [World.cell?_alloc_lt w _ _ (by rw [block_of_add]; exact hb)]; exact hc⟩

/-- Next and Raw. -/
def NextPost (w : World) (g : Nat) (A : Option Addr) (n c i m : Nat) (e : Ending) (w' : World) : Prop :=
  ∃ k : Nat, k < m ∧ e = .returned (.int .i64 (k : Int)) ∧ Src w' g A n c (min (i + 1) n) ∧ w.grownBy w' (some g)
def RawPost (w : World) (g : Nat) (A : Option Addr) (n c i : Nat) (e : Ending) (w' : World) : Prop :=
  ∃ z : Int, I64 z ∧ e = .returned (.int .i64 z) ∧ Src w' g A n c (min (i + 1) n) ∧ w.grownBy w' (some g)
theorem only_drewN {a : World} (n : Nat) (row : Option Nat) : a.grownBy (a.drewN n) row := ⟨rfl, rfl, rfl, Nat.le_refl _, fun _ _ _ => rfl⟩

set_option maxRecDepth 100000 in
set_option maxHeartbeats 400000 in
theorem next_any (g : Nat) (A : Option Addr) (n c i m : Nat) (w : World) (h : Src w g A n c i) (hm0 : 0 < m) (hm : m ≤ 1000000000000000) :
    Calls Try.prog 46 #[.pointer (some ⟨g, 0, none⟩), .int .i64 (m : Int)] w (NextPost w g A n c i m) := by
  have h0 := h.c0
  have h1 := h.c1
  have hf := h.f1
  have hle := h.le
  have hsm := h.sm
  have H := Lib.hid h
  clear h
  by_cases hi : i < n
  · obtain ⟨ad, z, rfl, hl, hz, hc⟩ := H.out.rd i hi
    have hcs : ∀ (q : Nat) (v : Value), ((w.drewN q).setCell ⟨g, 1, none⟩ v).cell? (ad.add i) = some (.int .i64 z) := fun q v => by
      rw [World.cell?_setCell_other _ _ _ _ (fun e => by have := congrArg Addr.block e; rw [block_of_add] at this; simp at this; omega)]
      exact hc
    have H0 : ∀ (q : Nat) (v : Value), ((w.drewN q).setCell ⟨g, 1, none⟩ v).cell? ⟨g, 0, none⟩ = some (.slice (some ad) n c) := fun q v => by
      rw [World.cell?_setCell_other _ _ _ _ (by simp)]; exact h0
    have H1 : ∀ (q : Nat) (v : Value), ((w.drewN q).setCell ⟨g, 1, none⟩ v).cell? ⟨g, 1, none⟩ = some v := fun q v => World.cell?_setCell_same _ _ _ h1
    have hst := fun q => Lib.hid (H.out.step hi q)
    have hmin : min (i + 1) n = i + 1 := by omega
    have hd : decide (n ≤ i) = false := by simp; omega
    have hw : IntKind.i64.wrap (i : Int) = (i : Int) := IntWalk.i64_in _ (by omega)
    go_enter Try.func46, Try.ntmps46
    go_wp2
    go_quiet (fail)
    go_wp2
    go_quiet ((go_at_call 16; exact quiet_same' (pick_any z m _ hm0 hm)))
    go_wp2
    go_ret
    obtain ⟨s1, s2⟩ := (hst _).out
    exact ⟨pickN z m, pickN_lt z hm0, rfl, by rw [hmin]; exact s1.drewN _, ⟨s2.os, s2.tape, s2.output, s2.size, s2.block⟩⟩
  · have hd : decide (n ≤ i) = true := by simp; omega
    have hmin : min (i + 1) n = i := by omega
    go_enter Try.func46, Try.ntmps46
    go_wp2
    go_quiet (fail)
    go_wp2
    go_ret
    exact ⟨0, hm0, rfl, by rw [hmin]; exact H.out.drewN _, only_drewN _ _⟩

set_option maxRecDepth 100000 in
set_option maxHeartbeats 400000 in
theorem raw_any (g : Nat) (A : Option Addr) (n c i : Nat) (w : World) (h : Src w g A n c i) :
    Calls Try.prog 51 #[.pointer (some ⟨g, 0, none⟩)] w (RawPost w g A n c i) := by
  have h0 := h.c0
  have h1 := h.c1
  have hf := h.f1
  have hle := h.le
  have hsm := h.sm
  have H := Lib.hid h
  clear h
  by_cases hi : i < n
  · obtain ⟨ad, z, rfl, hl, hz, hc⟩ := H.out.rd i hi
    have hcs : ∀ (q : Nat) (v : Value), ((w.drewN q).setCell ⟨g, 1, none⟩ v).cell? (ad.add i) = some (.int .i64 z) := fun q v => by
      rw [World.cell?_setCell_other _ _ _ _ (fun e => by have := congrArg Addr.block e; rw [block_of_add] at this; simp at this; omega)]
      exact hc
    have H0 : ∀ (q : Nat) (v : Value), ((w.drewN q).setCell ⟨g, 1, none⟩ v).cell? ⟨g, 0, none⟩ = some (.slice (some ad) n c) := fun q v => by
      rw [World.cell?_setCell_other _ _ _ _ (by simp)]; exact h0
    have H1 : ∀ (q : Nat) (v : Value), ((w.drewN q).setCell ⟨g, 1, none⟩ v).cell? ⟨g, 1, none⟩ = some v := fun q v => World.cell?_setCell_same _ _ _ h1
    have hst := fun q => Lib.hid (H.out.step hi q)
    have hmin : min (i + 1) n = i + 1 := by omega
    have hd : decide (n ≤ i) = false := by simp; omega
    have hw : IntKind.i64.wrap (i : Int) = (i : Int) := IntWalk.i64_in _ (by omega)
    go_enter Try.func51, Try.ntmps51
    go_wp2
    go_quiet (fail)
    go_wp2
    go_quiet (fail)
    go_wp2
    go_ret
    obtain ⟨s1, s2⟩ := (hst _).out
    exact ⟨z, hz, rfl, by rw [hmin]; exact s1.drewN _, ⟨s2.os, s2.tape, s2.output, s2.size, s2.block⟩⟩
  · have hd : decide (n ≤ i) = true := by simp; omega
    have hmin : min (i + 1) n = i := by omega
    go_enter Try.func51, Try.ntmps51
    go_wp2
    go_quiet (fail)
    go_wp2
    go_ret
    exact ⟨0, by unfold I64; omega, rfl, by rw [hmin]; exact H.out.drewN _, only_drewN _ _⟩
/-- What a maker of a list has done: a source at block g, a row of its own behind it, nothing turned below g. -/
structure Gen (w : World) (e : TypeId) (size g : Nat) (A : Option Addr) (n c i : Nat) (wr : World) (v : Value) (m : Nat) (xs : List Value) : Prop where
  src : Src wr g A n c i
  own : wr.ownsRow (g + 1) e size v m xs
  bel : Below g w wr
theorem Gen.start {w : World} {A : Option Addr} {n c : Nat} (e : TypeId) (size : Nat) {zs : List Int} (hr : Rd w w.heap.size A (zs.map Iv)) (hn : zs.length = n) (hz : ∀ z ∈ zs, I64 z) (hm : n ≤ 17592186044416) :
    Gen w e size w.heap.size A n c 0 (w.alloc (.cells #[.slice A n c, .int .i64 0] 113)) (.slice none 0 0) 0 [] :=
  ⟨Src.new hr hn hz hm, World.ownsRow_nil _ _ _ _, (Below.refl _ _).alloc (Nat.le_refl _) _⟩
section
variable {w wr w' : World} {e : TypeId} {size g n c i i' m : Nat} {A : Option Addr} {v : Value} {xs : List Value}
theorem Gen.take (h : Gen w e size g A n c i wr v m xs) (hs : Src w' g A n c i') (hg : wr.grownBy w' (some g)) : Gen w e size g A n c i' w' v m xs :=
  ⟨hs, h.own.kept hg (by
    cases h1 : v.ownBlock with
    | none => exact .inl rfl
    | some k => exact .inr (fun e => by injection e with e; have := (h.own.lt k h1).1; omega)), h.bel.trans ⟨hg.os, hg.tape, hg.output, hg.size, fun k hk => hg.block k (by have := h.src.lt; omega) (fun e => by injection e with e; omega)⟩⟩
theorem Gen.drewN (h : Gen w e size g A n c i wr v m xs) (q : Nat) : Gen w e size g A n c i (wr.drewN q) v m xs := ⟨h.src.drewN q, h.own, ⟨h.bel.os, h.bel.tape, h.bel.output, h.bel.size, h.bel.block⟩⟩
theorem Gen.call (h : Gen w e size g A n c i wr v m xs) (hb : Below wr.heap.size wr w') : Gen w e size g A n c i w' v m xs :=
  ⟨h.src.below hb, h.own.kept (row := none) ⟨hb.os, hb.tape, hb.output, hb.size, fun k hk _ => hb.block k hk⟩ (by
    cases h1 : v.ownBlock
    · exact .inl rfl
    · exact .inr (by simp)), h.bel.trans (hb.mono (Nat.le_of_lt h.src.lt))⟩
/-- 'out = append(out, x)' of one element. -/
theorem Gen.one {P : Program} (h : Gen w e size g A n c i wr v m xs) {bytes : Nat}
    {t : TypeId} {z : Value} (hT : SlTy P t e z size bytes) (hzs : z.cells.size = size) (hsz : 0 < size) {cs : Array Value} (hcs : cs.size = size) (h1 : ∀ u ∈ cs.toList, u.oneCell' = true)
    (hfit : (m + 1 + (m + 1) / 4 + 192) * bytes ≤ 281474976710656) (h63 : m + 1 ≤ maxLen)
    {ops : Array Oper} {rest : List Oper} {o : Oper} {a : Act} {Q : Exit → Act → World → Prop}
    (hK : ∀ v' w', Gen w e size g A n c i w' v' (m + 1) (xs ++ cs.toList) → wpList P ops Q rest (a.put o.dst v') w')
    (hgd : o.guard = none) (s x : Operand) (ho : o.op = .call { callee := .builtin .append, args := #[s, x], argTypes := #[t, t] })
    (hs : a.eval s = v) (hx : a.eval x = .slice (some ⟨wr.heap.size, 0, none⟩) 1 1) : wpList P ops Q (o :: rest) a (wr.alloc (.cells cs e)) := by
  obtain ⟨ht, j, hi, hz, hs1, hs2⟩ := hT
  have hg' : Gen w e size g A n c i (wr.alloc (.cells cs e)) v m xs := h.call ((Below.refl _ _).alloc (Nat.le_refl _) _)
  have hlt := hg'.src.lt
  refine wpList_append_own_wide _ hgd s x t ho (g + 1) e j z size bytes ht hi hz hs1 hs2 hzs hsz v m xs hs hg'.own ⟨wr.heap.size, 0, none⟩ 1 1 cs.toList hx (by simp [hcs]) ?_ h1 h63 hfit hlt ?_
  · intro j u hj
    have e0 : (⟨wr.heap.size, 0, none⟩ : Addr).add j = ⟨wr.heap.size, j, none⟩ := by unfold Addr.add; split <;> simp_all
    rw [e0, World.cell?_alloc_mark]
    simpa using hj
  · intro v' w2 ho' hgr _
    exact hK v' w2 ⟨hg'.src.grown hgr (fun k hk => by have := (hg'.own.lt k hk).1; omega), ho', hg'.bel.grown hgr (Nat.le_of_lt hlt) (fun k hk => by have := (hg'.own.lt k hk).1; omega)⟩
end
theorem _root_.Go.World.ownsRow.mono {w : World} {base base' : Nat} {e : TypeId} {size : Nat} {v : Value} {n : Nat} {xs : List Value} (h : w.ownsRow base e size v n xs) (hb : base' ≤ base) : w.ownsRow base' e size v n xs := by
  refine ⟨h.1, ?_⟩
  rcases h.2 with h2 | ⟨g, cap, cur, hv, hg, r⟩
  · exact .inl h2
  · exact .inr ⟨g, cap, cur, hv, Nat.le_trans hb hg, r⟩
/-- Where a source stands. -/
def srcAt (g : Nat) (w : World) : Nat := match w.cell? ⟨g, 1, none⟩ with | some (.int _ q) => q.toNat | _ => 0
theorem Src.at_ {w : World} {g : Nat} {A : Option Addr} {n c i : Nat} (h : Src w g A n c i) : srcAt g w = i := by unfold srcAt; rw [h.c1]; simp

end Go.Proofs.Ytgacjpkgpegcdaa
