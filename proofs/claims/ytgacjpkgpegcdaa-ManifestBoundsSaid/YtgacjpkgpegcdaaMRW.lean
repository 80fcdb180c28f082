/-
  A record in a variable whose two lists grow.
-/
import Derived.Test.YtgacjpkgpegcdaaMMake
import Derived.Test.YtgacjpkgpegcdaaMAwake
namespace Go.Proofs.Ytgacjpkgpegcdaa
open Go.RowKit

/-- A record at work: its block at gx, the rows of its lists from B on; nothing else of w0 turned. -/
structure RW (w0 w : World) (gx B : Nat) (cs : List Value) (v : Value) (xs : List En) (v2 : Value) (ys : List Int) : Prop where
  rc : Blk w gx 31 cs
  add : w.ownsRow B 40 12 v xs.length (xs.flatMap entC)
  rem : w.ownsRow B 3 1 v2 ys.length (ys.map Iv)
  dis : ∀ k, v.ownBlock = some k → v2.ownBlock ≠ some k
  bel : Below w0.heap.size w0 w
  o2 : w0.heap.size ≤ gx
  o3 : gx < B
  o4 : B ≤ w.heap.size
section
variable {w0 w w' : World} {gx B : Nat} {cs : List Value} {v v2 v' : Value} {xs : List En} {ys : List Int}
theorem RW.start {w0 w : World} (hb : Below w0.heap.size w0 w) (cs : Array Value) : RW w0 (w.alloc (.cells cs 31)) w.heap.size (w.heap.size + 1) cs.toList (.slice none 0 0) [] (.slice none 0 0) [] :=
  ⟨Blk.new' w _ cs, World.ownsRow_nil _ _ _ _, World.ownsRow_nil _ _ _ _, (fun k h => by simp [Value.ownBlock] at h), hb.alloc hb.size _, hb.size, Nat.lt_succ_self _, by simp⟩
/-- A step that may have turned the block k alone, which is none of its own. -/
theorem RW.side {k : Nat} (h : RW w0 w gx B cs v xs v2 ys) (hg : w.grownBy w' (some k)) (hk : w0.heap.size ≤ k) (hx : gx ≠ k) (h1 : v.ownBlock ≠ some k) (h2 : v2.ownBlock ≠ some k) : RW w0 w' gx B cs v xs v2 ys :=
  ⟨h.rc.grownBy hg (fun e => hx (by injection e)), kept_ne h.add hg h1, kept_ne h.rem hg h2, h.dis, h.bel.grown hg h.bel.size (fun j e => by injection e; omega), h.o2, h.o3, Nat.le_trans h.o4 hg.size⟩
theorem RW.low (h : RW w0 w gx B cs v xs v2 ys) {k : Nat} (hk : k < B) : v.ownBlock ≠ some k ∧ v2.ownBlock ≠ some k := ⟨fresh_of h.add hk, fresh_of h.rem hk⟩
theorem RW.fresh (h : RW w0 w gx B cs v xs v2 ys) {k : Nat} (hk : w.heap.size ≤ k) : v.ownBlock ≠ some k ∧ v2.ownBlock ≠ some k := ⟨fun e => by have := (h.add.lt k e).2; omega, fun e => by have := (h.rem.lt k e).2; omega⟩
/-- A step that turns nothing that is there. -/
theorem RW.call (h : RW w0 w gx B cs v xs v2 ys) (hb : Below w.heap.size w w') : RW w0 w' gx B cs v xs v2 ys :=
  ⟨h.rc.call hb, DS.call.kept_below h.add hb, DS.call.kept_below h.rem hb, h.dis, h.bel.trans (hb.mono h.bel.size), h.o2, h.o3, Nat.le_trans h.o4 hb.size⟩
theorem RW.alloc (h : RW w0 w gx B cs v xs v2 ys) (o : Obj) : RW w0 (w.alloc o) gx B cs v xs v2 ys := h.call ((Below.refl _ _).alloc (Nat.le_refl _) o)
theorem RW.drew (h : RW w0 w gx B cs v xs v2 ys) : RW w0 w.drew gx B cs v xs v2 ys := h.call (Below.drew (Below.refl _ _))
/-- A store into the record. -/
theorem RW.set (h : RW w0 w gx B cs v xs v2 ys) (i : Nat) (u : Value) : RW w0 (w.setCell ⟨gx, i, none⟩ u) gx B (cs.set i u) v xs v2 ys := by
  have hg := Lib.grownBy_setCell w gx i u
  have hl := h.low h.o3
  exact ⟨h.rc.set_ i u, kept_ne h.add hg hl.1, kept_ne h.rem hg hl.2, h.dis, h.bel.grown hg h.bel.size (fun j e => by have := h.o2; injection e; omega), h.o2, h.o3, Nat.le_trans h.o4 hg.size⟩
/-- A new row for the entries. -/
theorem RW.grow {xs' : List En} (h : RW w0 w gx B cs v xs v2 ys) (ho : w'.ownsRow B 40 12 v' xs'.length (xs'.flatMap entC)) (hg : w.grownBy w' v.ownBlock) (hat : v'.ownBlock = v.ownBlock ∨ v'.ownBlock = some w.heap.size) : RW w0 w' gx B cs v' xs' v2 ys := by
  have l2 := h.o2; have l3 := h.o3
  have hlow : ∀ k, k < B → some k ≠ v.ownBlock := fun k hk e => by have := (h.add.lt k e.symm).1; omega
  refine ⟨h.rc.grownBy hg (hlow _ (by omega)), ho, ?_, ?_, h.bel.grown hg h.bel.size (fun j e => by have := (h.add.lt j e).1; omega), h.o2, h.o3, Nat.le_trans h.o4 hg.size⟩
  · refine h.rem.kept hg ?_
    cases h2 : v2.ownBlock with
    | none => exact .inl rfl
    | some k => exact .inr (fun e => h.dis k e.symm h2)
  · intro k hk h2
    rcases hat with e | e
    · exact h.dis k (e.symm.trans hk) h2
    · have := (h.rem.lt k h2).2
      rw [e] at hk
      injection hk
      omega
/-- A new row for the numbers. -/
theorem RW.growR {ys' : List Int} (h : RW w0 w gx B cs v xs v2 ys) (ho : w'.ownsRow B 3 1 v' ys'.length (ys'.map Iv)) (hg : w.grownBy w' v2.ownBlock) (hat : v'.ownBlock = v2.ownBlock ∨ v'.ownBlock = some w.heap.size) : RW w0 w' gx B cs v xs v' ys' := by
  have l2 := h.o2; have l3 := h.o3
  have hlow : ∀ k, k < B → some k ≠ v2.ownBlock := fun k hk e => by have := (h.rem.lt k e.symm).1; omega
  refine ⟨h.rc.grownBy hg (hlow _ (by omega)), ?_, ho, ?_, h.bel.grown hg h.bel.size (fun j e => by have := (h.rem.lt j e).1; omega), h.o2, h.o3, Nat.le_trans h.o4 hg.size⟩
  · refine h.add.kept hg ?_
    cases h2 : v.ownBlock with
    | none => exact .inl rfl
    | some k => exact .inr (fun e => h.dis k h2 e.symm)
  · intro k hk h2
    rcases hat with e | e
    · exact h.dis k hk (e.symm.trans h2)
    · have := (h.add.lt k hk).2
      rw [e] at h2
      injection h2
      omega
theorem grown_of_alloc {o : Obj} {row : Option Nat} (hg : (w.alloc o).grownBy w' row) : w.grownBy w' row :=
  ⟨hg.os, hg.tape, hg.output, by have := hg.size; simp at this; omega, fun k hk hne => (hg.block k (by simp; omega) hne).trans (((Below.refl _ _).alloc (Nat.le_refl w.heap.size) o).block k hk)⟩
/-- 'x.Add = append(x.Add, e)'. -/
theorem RW.one (h : RW w0 w gx B cs v xs v2 ys) (e : En) (hm : xs.length ≤ 1000000) {ds : Array Value} (hds : ds.toList = entC e)
    {ops : Array Oper} {rest : List Oper} {o : Oper} {a : Act} {Q : Exit → Act → World → Prop}
    (hK : ∀ v' w', RW w0 w' gx B cs v' (xs ++ [e]) v2 ys → w.grownBy w' v.ownBlock → wpList Try.prog ops Q rest (a.put o.dst v') w')
    (hgd : o.guard = none) (so xo : Operand) (ho : o.op = .call { callee := .builtin .append, args := #[so, xo], argTypes := #[28, 28] })
    (hs : a.eval so = v) (hx : a.eval xo = .slice (some ⟨w.heap.size, 0, none⟩) 1 1) : wpList Try.prog ops Q (o :: rest) a (w.alloc (.cells ds 40)) := by
  obtain ⟨ht, i, hi, hz, hs1, hs2⟩ := ments
  have ha := h.alloc (.cells ds 40)
  refine wpList_append_own_at _ hgd so xo _ ho B 40 i _ 12 112 ht hi hz hs1 hs2 rfl (by decide) v xs.length _ hs ha.add ⟨w.heap.size, 0, none⟩ 1 1 (entC e) hx rfl ?_ (one_en e) (by unfold maxLen; omega) (by omega) ha.o4 ?_
  · intro j u hj
    have e0 : (⟨w.heap.size, 0, none⟩ : Addr).add j = ⟨w.heap.size, j, none⟩ := by unfold Addr.add; split <;> simp_all
    rw [e0, World.cell?_alloc_mark, ← Array.getElem?_toList, hds]
    exact hj
  · intro v' w' ho' hg _ hat
    exact hK v' w' (ha.grow (xs' := xs ++ [e]) (by rw [List.length_append, List.flatMap_append]; simpa using ho') hg hat) (grown_of_alloc hg)
/-- The same as a step of a region that draws. -/
theorem RW.stepE (h : RW w0 w gx B cs v xs v2 ys) (e : En) (hm : xs.length ≤ 1000000) {ds : Array Value} (hds : ds.toList = entC e)
    {ops : Array Oper} {o : Oper} {a : Act} {K : Act → World → Prop} {Q : Exit → Act → World → Prop} {E : Prop}
    (hgd : o.guard = none) (so xo : Operand) (ho : o.op = .call { callee := .builtin .append, args := #[so, xo], argTypes := #[28, 28] })
    (hs : a.eval so = v) (hx : a.eval xo = .slice (some ⟨w.heap.size, 0, none⟩) 1 1) (hK : ∀ v' w', RW w0 w' gx B cs v' (xs ++ [e]) v2 ys → w.grownBy w' v.ownBlock → K (a.put o.dst v') w') :
    if Region.wanted o (yielded ops a.tmps) = true then Oper.wp Try.prog o a (w.alloc (.cells ds 40)) K Q else E := by
  obtain ⟨ht, i, hi, hz, hs1, hs2⟩ := ments
  have ha := h.alloc (.cells ds 40)
  have hnews : ∀ (j : Nat) (u : Value), (entC e)[j]? = some u → (w.alloc (.cells ds 40)).cell? ((⟨w.heap.size, 0, none⟩ : Addr).add j) = some u := by
    intro j u hj
    have e0 : (⟨w.heap.size, 0, none⟩ : Addr).add j = ⟨w.heap.size, j, none⟩ := by unfold Addr.add; split <;> simp_all
    rw [e0, World.cell?_alloc_mark, ← Array.getElem?_toList, hds]
    exact hj
  rw [if_pos (by simp [Region.wanted, hgd])]
  obtain ⟨v', w', hr, ho', hg, _, hat⟩ := run_append_own_at (P := Try.prog) (w.alloc (.cells ds 40)) B 28 o.type 40 i _ 12 112 ht hi hz hs1 hs2 rfl (by decide) v xs.length _ ha.add ⟨w.heap.size, 0, none⟩ 1 1 (entC e) rfl hnews (one_en e) (by unfold maxLen; omega) (by omega) ha.o4
  unfold Oper.wp execOp
  simp only [ho, resolve, invoke, builtin, Sem.run_bind, Sem.run_pure, Result.andThen_ok, List.map_toArray, List.map_cons, List.map_nil, hs, hx, hr]
  exact hK v' w' (ha.grow (xs' := xs ++ [e]) (by rw [List.length_append, List.flatMap_append]; simpa using ho') hg hat) (grown_of_alloc hg)
/-- 'x.Remove = append(x.Remove, n)'. -/
theorem RW.oneR (h : RW w0 w gx B cs v xs v2 ys) (z : Int) (hm : ys.length ≤ 1000000)
    {ops : Array Oper} {rest : List Oper} {o : Oper} {a : Act} {Q : Exit → Act → World → Prop}
    (hK : ∀ v' w', RW w0 w' gx B cs v xs v' (ys ++ [z]) → w.grownBy w' v2.ownBlock → wpList Try.prog ops Q rest (a.put o.dst v') w')
    (hgd : o.guard = none) (so xo : Operand) (ho : o.op = .call { callee := .builtin .append, args := #[so, xo], argTypes := #[29, 29] })
    (hs : a.eval so = v2) (hx : a.eval xo = .slice (some ⟨w.heap.size, 0, none⟩) 1 1) : wpList Try.prog ops Q (o :: rest) a (w.alloc (.cells #[.int .i64 z] 3)) := by
  obtain ⟨ht, i, hi, hz, hs1, hs2⟩ := mints
  have ha := h.alloc (.cells #[.int .i64 z] 3)
  refine wpList_append_own_at _ hgd so xo _ ho B 3 i _ 1 8 ht hi hz hs1 hs2 rfl (by decide) v2 ys.length _ hs ha.rem ⟨w.heap.size, 0, none⟩ 1 1 [Iv z] hx rfl ?_ (by intro u hu; simp at hu; subst hu; rfl) (by unfold maxLen; omega) (by omega) ha.o4 ?_
  · intro j u hj
    have e0 : (⟨w.heap.size, 0, none⟩ : Addr).add j = ⟨w.heap.size, j, none⟩ := by unfold Addr.add; split <;> simp_all
    rw [e0, World.cell?_alloc_mark]
    simpa using hj
  · intro v' w' ho' hg _ hat
    exact hK v' w' (ha.growR (ys' := ys ++ [z]) (by rw [List.length_append, List.map_append]; simpa using ho') hg hat) (grown_of_alloc hg)
/-- The record as an argument. -/
theorem RW.rcat {kd ve ns ni : Int} {A A2 : Option Addr} {q c q2 c2 : Nat} (h : RW w0 w gx B cs (.slice A q c) xs (.slice A2 q2 c2) ys) (h1 : xs.length ≤ 1000000) (h2 : ys.length ≤ 1000000) : RcAt w ⟨kd, ve, ns, ni, xs, ys⟩ A q c A2 q2 c2 := by
  obtain ⟨rfl, l1⟩ := own_len h.add
  obtain ⟨rfl, l2⟩ := own_len h.rem
  exact ⟨Rd.of_own h.add, Rd.of_own h.rem, rfl, rfl, l1, l2, by omega, by omega⟩
end

end Go.Proofs.Ytgacjpkgpegcdaa
