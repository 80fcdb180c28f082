/-
  What a decoder holds: its reader, its record, the rows of its lists.
-/
import Derived.Test.YtgacjpkgpegcdaaMRdr2
import Derived.Test.YtgacjpkgpegcdaaMChk2
import Derived.Test.YtgacjpkgpegcdaaTwo
namespace Go.Proofs.Ytgacjpkgpegcdaa
open Go.RowKit

abbrev zeroEv : Value := .agg #[.int .i64 0, .int .i64 0, .int .i64 0, .bool false, .int .i64 0, .string ⟨#[]⟩, .int .i64 0, .bool false, .int .i64 0, .string ⟨#[]⟩, .int .i64 0, .int .i64 0]
theorem infoEn : (Try.prog.info? 40).map (fun i => (i.zero, i.size, i.bytes)) = some (some zeroEv, 12, 112) := by kernel_rfl
theorem ments : SlTy Try.prog 28 40 zeroEv 12 112 := ⟨Try.underlying28, info_parts infoEn⟩
theorem infoIn : (Try.prog.info? 3).map (fun i => (i.zero, i.size, i.bytes)) = some (some (.int .i64 0), 1, 8) := by kernel_rfl
theorem mints : SlTy Try.prog 29 3 (.int .i64 0) 1 8 := ⟨Try.underlying29, info_parts infoIn⟩
theorem one_en (e : En) : ∀ u ∈ entC e, u.oneCell' = true := by
  intro u hu; simp [entC] at hu; rcases hu with rfl | rfl | rfl | rfl | rfl | rfl | rfl | rfl | rfl | rfl | rfl | rfl <;> rfl
def zeroRcC : List Value := [.int .i64 0, .int .i64 0, .int .i64 0, .int .i64 0, .slice none 0 0, .slice none 0 0]

/-- A decoder at work: the reader at g, the record at gx, the rows of its lists from B on; nothing else of w0 turned. -/
structure DS (w0 w : World) (T : TypeId) (g gx B : Nat) (s : ByteArray) (st : St) (cs : List Value) (v : Value) (xs : List En) (v2 : Value) (ys : List Int) : Prop where
  rdr : RdrAt w T g s st
  rc : Blk w gx 31 cs
  res : Blk w w0.heap.size 31 zeroRcC
  add : w.ownsRow B 40 12 v xs.length (xs.flatMap entC)
  rem : w.ownsRow B 3 1 v2 ys.length (ys.map Iv)
  dis : ∀ k, v.ownBlock = some k → v2.ownBlock ≠ some k
  bel : Below w0.heap.size w0 w
  o1 : w0.heap.size < g
  o2 : g < gx
  o3 : gx < B
  o4 : B ≤ w.heap.size
section
variable {w0 w w' : World} {T : TypeId} {g gx B : Nat} {s : ByteArray} {st st' : St} {cs : List Value} {v v2 v' : Value} {xs : List En} {ys : List Int}
theorem fresh_of {e : TypeId} {size n k : Nat} {L : List Value} (h : w.ownsRow B e size v n L) (hk : k < B) : v.ownBlock ≠ some k := fun e => by have := (h.lt k e).1; omega
theorem kept_ne {e : TypeId} {size n k : Nat} {L : List Value} (h : w.ownsRow B e size v n L) (hg : w.grownBy w' (some k)) (hne : v.ownBlock ≠ some k) : w'.ownsRow B e size v n L := h.kept hg (.inr hne)
/-- A step that may have turned the block k alone, which is none of its own. -/
theorem DS.side {k : Nat} (h : DS w0 w T g gx B s st cs v xs v2 ys) (hg : w.grownBy w' (some k)) (hk : B ≤ k) (h1 : v.ownBlock ≠ some k) (h2 : v2.ownBlock ≠ some k) : DS w0 w' T g gx B s st cs v xs v2 ys :=
  ⟨h.rdr.grownBy hg (fun e => by have := h.o2; have := h.o3; injection e; omega), h.rc.grownBy hg (fun e => by have := h.o3; injection e; omega), h.res.grownBy hg (fun e => by have := h.o1; have := h.o2; have := h.o3; injection e; omega), kept_ne h.add hg h1, kept_ne h.rem hg h2, h.dis,
    h.bel.grown hg h.bel.size (fun j e => by have := h.o1; have := h.o2; have := h.o3; injection e; omega), h.o1, h.o2, h.o3, Nat.le_trans h.o4 hg.size⟩
/-- A step of the reader. -/
theorem DS.step (h : DS w0 w T g gx B s st cs v xs v2 ys) (hr : RdrAt w' T g s st') (hg : w.grownBy w' (some g)) : DS w0 w' T g gx B s st' cs v xs v2 ys :=
  ⟨hr, h.rc.grownBy hg (fun e => by have := h.o2; injection e; omega), h.res.grownBy hg (fun e => by have := h.o1; injection e; omega), kept_ne h.add hg (fresh_of h.add (by have := h.o2; have := h.o3; omega)), kept_ne h.rem hg (fresh_of h.rem (by have := h.o2; have := h.o3; omega)), h.dis,
    h.bel.grown hg h.bel.size (fun j e => by have := h.o1; injection e; omega), h.o1, h.o2, h.o3, Nat.le_trans h.o4 hg.size⟩
/-- A step that turns nothing that is there. -/
theorem DS.call (h : DS w0 w T g gx B s st cs v xs v2 ys) (hb : Below w.heap.size w w') : DS w0 w' T g gx B s st cs v xs v2 ys :=
  ⟨Blk.call h.rdr hb, h.rc.call hb, h.res.call hb, kept_below h.add hb, kept_below h.rem hb, h.dis, h.bel.trans (hb.mono h.bel.size), h.o1, h.o2, h.o3, Nat.le_trans h.o4 hb.size⟩
where kept_below {e : TypeId} {size n : Nat} {L : List Value} {v : Value} (h : w.ownsRow B e size v n L) (hb : Below w.heap.size w w') : w'.ownsRow B e size v n L :=
  h.kept (row := none) ⟨hb.os, hb.tape, hb.output, hb.size, fun k hk _ => hb.block k hk⟩ (by
    cases h1 : v.ownBlock
    · exact .inl rfl
    · exact .inr (by simp))
theorem DS.alloc (h : DS w0 w T g gx B s st cs v xs v2 ys) (o : Obj) : DS w0 (w.alloc o) T g gx B s st cs v xs v2 ys := h.call ((Below.refl _ _).alloc (Nat.le_refl _) o)
theorem DS.drew (h : DS w0 w T g gx B s st cs v xs v2 ys) : DS w0 w.drew T g gx B s st cs v xs v2 ys := h.call (Below.drew (Below.refl _ _))
/-- A store into the record. -/
theorem DS.set (h : DS w0 w T g gx B s st cs v xs v2 ys) (i : Nat) (u : Value) : DS w0 (w.setCell ⟨gx, i, none⟩ u) T g gx B s st (cs.set i u) v xs v2 ys := by
  have hg := Lib.grownBy_setCell w gx i u
  exact ⟨h.rdr.grownBy hg (fun e => by have := h.o2; injection e; omega), h.rc.set_ i u, h.res.grownBy hg (fun e => by have := h.o1; have := h.o2; injection e; omega), kept_ne h.add hg (fresh_of h.add h.o3), kept_ne h.rem hg (fresh_of h.rem h.o3), h.dis,
    h.bel.grown hg h.bel.size (fun j e => by have := h.o1; have := h.o2; injection e; omega), h.o1, h.o2, h.o3, Nat.le_trans h.o4 hg.size⟩
/-- A new row for the entries. -/
theorem DS.grow {xs' : List En} (h : DS w0 w T g gx B s st cs v xs v2 ys) (ho : w'.ownsRow B 40 12 v' xs'.length (xs'.flatMap entC)) (hg : w.grownBy w' v.ownBlock) (hat : v'.ownBlock = v.ownBlock ∨ v'.ownBlock = some w.heap.size) : DS w0 w' T g gx B s st cs v' xs' v2 ys := by
  have l1 := h.o1; have l2 := h.o2; have l3 := h.o3
  have hlow : ∀ k, k < B → some k ≠ v.ownBlock := fun k hk e => by have := (h.add.lt k e.symm).1; omega
  refine ⟨h.rdr.grownBy hg (hlow _ (by omega)), h.rc.grownBy hg (hlow _ (by omega)), h.res.grownBy hg (hlow _ (by omega)), ho, ?_, ?_, h.bel.grown hg h.bel.size (fun j e => by have := (h.add.lt j e).1; omega), h.o1, h.o2, h.o3, Nat.le_trans h.o4 hg.size⟩
  · refine h.rem.kept hg ?_
    cases h2 : v2.ownBlock with
    | none => exact .inl rfl
    | some k => exact .inr (fun e => h.dis k e.symm h2)
  · intro k hk h2
    rcases hat with e | e
    · exact h.dis k (e.symm.trans hk) h2
    · have := (h.rem.lt k h2).2
      rw [e] at hk
      injection hk
      omega
/-- A new row for the numbers. -/
theorem DS.growR {ys' : List Int} (h : DS w0 w T g gx B s st cs v xs v2 ys) (ho : w'.ownsRow B 3 1 v' ys'.length (ys'.map Iv)) (hg : w.grownBy w' v2.ownBlock) (hat : v'.ownBlock = v2.ownBlock ∨ v'.ownBlock = some w.heap.size) : DS w0 w' T g gx B s st cs v xs v' ys' := by
  have l1 := h.o1; have l2 := h.o2; have l3 := h.o3
  have hlow : ∀ k, k < B → some k ≠ v2.ownBlock := fun k hk e => by have := (h.rem.lt k e.symm).1; omega
  refine ⟨h.rdr.grownBy hg (hlow _ (by omega)), h.rc.grownBy hg (hlow _ (by omega)), h.res.grownBy hg (hlow _ (by omega)), ?_, ho, ?_, h.bel.grown hg h.bel.size (fun j e => by have := (h.rem.lt j e).1; omega), h.o1, h.o2, h.o3, Nat.le_trans h.o4 hg.size⟩
  · refine h.add.kept hg ?_
    cases h2 : v.ownBlock with
    | none => exact .inl rfl
    | some k => exact .inr (fun e => h.dis k h2 e.symm)
  · intro k hk h2
    rcases hat with e | e
    · exact h.dis k hk (e.symm.trans h2)
    · have := (h.add.lt k hk).2
      rw [e] at h2
      injection h2
      omega
/-- 'x.Add = append(x.Add, e)'. -/
theorem DS.one (h : DS w0 w T g gx B s st cs v xs v2 ys) (e : En) (hm : xs.length ≤ 1000000) {ds : Array Value} (hds : ds.toList = entC e)
    {ops : Array Oper} {rest : List Oper} {o : Oper} {a : Act} {Q : Exit → Act → World → Prop}
    (hK : ∀ v' w', DS w0 w' T g gx B s st cs v' (xs ++ [e]) v2 ys → wpList Try.prog ops Q rest (a.put o.dst v') w')
    (hgd : o.guard = none) (so xo : Operand) (ho : o.op = .call { callee := .builtin .append, args := #[so, xo], argTypes := #[28, 28] })
    (hs : a.eval so = v) (hx : a.eval xo = .slice (some ⟨w.heap.size, 0, none⟩) 1 1) : wpList Try.prog ops Q (o :: rest) a (w.alloc (.cells ds 40)) := by
  obtain ⟨ht, i, hi, hz, hs1, hs2⟩ := ments
  have ha := h.alloc (.cells ds 40)
  refine wpList_append_own_at _ hgd so xo _ ho B 40 i _ 12 112 ht hi hz hs1 hs2 rfl (by decide) v xs.length _ hs ha.add ⟨w.heap.size, 0, none⟩ 1 1 (entC e) hx rfl ?_ (one_en e) (by unfold maxLen; omega) (by omega) ha.o4 ?_
  · intro j u hj
    have e0 : (⟨w.heap.size, 0, none⟩ : Addr).add j = ⟨w.heap.size, j, none⟩ := by unfold Addr.add; split <;> simp_all
    rw [e0, World.cell?_alloc_mark, ← Array.getElem?_toList, hds]
    exact hj
  · intro v' w' ho' hg _ hat
    exact hK v' w' (ha.grow (xs' := xs ++ [e]) (by rw [List.length_append, List.flatMap_append]; simpa using ho') hg hat)
/-- 'x.Remove = append(x.Remove, n)' as a step of a region that draws. -/
theorem DS.stepR (h : DS w0 w T g gx B s st cs v xs v2 ys) (z : Int) (hm : ys.length ≤ 1000000)
    {ops : Array Oper} {o : Oper} {a : Act} {K : Act → World → Prop} {Q : Exit → Act → World → Prop} {E : Prop}
    (hgd : o.guard = none) (so xo : Operand) (ho : o.op = .call { callee := .builtin .append, args := #[so, xo], argTypes := #[29, 29] })
    (hs : a.eval so = v2) (hx : a.eval xo = .slice (some ⟨w.heap.size, 0, none⟩) 1 1) (hK : ∀ v' w', DS w0 w' T g gx B s st cs v xs v' (ys ++ [z]) → K (a.put o.dst v') w') :
    if Region.wanted o (yielded ops a.tmps) = true then Oper.wp Try.prog o a (w.alloc (.cells #[.int .i64 z] 3)) K Q else E := by
  obtain ⟨ht, i, hi, hz, hs1, hs2⟩ := mints
  have ha := h.alloc (.cells #[.int .i64 z] 3)
  have hnews : ∀ (j : Nat) (u : Value), [Iv z][j]? = some u → (w.alloc (.cells #[.int .i64 z] 3)).cell? ((⟨w.heap.size, 0, none⟩ : Addr).add j) = some u := by
    intro j u hj
    have e0 : (⟨w.heap.size, 0, none⟩ : Addr).add j = ⟨w.heap.size, j, none⟩ := by unfold Addr.add; split <;> simp_all
    rw [e0, World.cell?_alloc_mark]
    simpa using hj
  rw [if_pos (by simp [Region.wanted, hgd])]
  obtain ⟨v', w', hr, ho', hg, _, hat⟩ := run_append_own_at (P := Try.prog) (w.alloc (.cells #[.int .i64 z] 3)) B 29 o.type 3 i _ 1 8 ht hi hz hs1 hs2 rfl (by decide) v2 ys.length _ ha.rem ⟨w.heap.size, 0, none⟩ 1 1 [Iv z] rfl hnews (by intro u hu; simp at hu; subst hu; rfl) (by unfold maxLen; omega) (by omega) ha.o4
  unfold Oper.wp execOp
  simp only [ho, resolve, invoke, builtin, Sem.run_bind, Sem.run_pure, Result.andThen_ok, List.map_toArray, List.map_cons, List.map_nil, hs, hx, hr]
  exact hK v' w' (ha.growR (ys' := ys ++ [z]) (by rw [List.length_append, List.map_append]; simpa using ho') hg hat)
end

end Go.Proofs.Ytgacjpkgpegcdaa
