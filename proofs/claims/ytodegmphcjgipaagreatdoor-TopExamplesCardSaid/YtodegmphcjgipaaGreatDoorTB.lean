/-
  TB: texts of the evaluator in one.
-/
import Derived.Test.YtodegmphcjgipaaGreatDoorTA
import Derived.IntWalk
import Derived.Laws.MakeOwn
import Derived.Deep.AppendSrc
import Derived.Lib.SliceRun
import Derived.Tactics
import Derived.LoopN
import Derived.Scope
import Derived.Orders
/-! Operations that act: stores, new blocks, clear, copy. -/
namespace Go.Proofs.YtodegmphcjgipaaGreatDoor
namespace Ev
open Go Go.RowKit

section
variable {P : Program} {T : Tab} {W : Base} {ρ : Map} {st : St} {w : World}

theorem get_wr : ∀ (l : List V) (o : Nat) (c : Tr V) (i : Nat), (wr l o c).get i = if o ≤ i ∧ i < o + l.length then l[i - o]? else c.get i
  | [], o, c, i => by
    show c.get i = _
    rw [if_neg (by simp only [List.length_nil]; omega)]
  | v :: r, o, c, i => by
    show (wr r (o + 1) (c.set o v)).get i = _
    rw [get_wr r (o + 1) (c.set o v) i, Tr.get_set]
    simp only [List.length_cons]
    by_cases h1 : o + 1 ≤ i ∧ i < o + 1 + r.length
    · rw [if_pos h1, if_pos (by omega), show i - o = (i - (o + 1)) + 1 by omega]
      rfl
    · rw [if_neg h1]
      by_cases h2 : i = o
      · subst h2
        rw [if_pos rfl, if_pos (by omega), Nat.sub_self]
        rfl
      · rw [if_neg h2, if_neg (by omega)]

/-- what an operation does -/
def Acts (P : Program) (T : Tab) (W : Base) (ρ : Map) (k : Nat) (o : Oper) (a : Act) (w : World) (v : V) (st' : St) : Prop :=
  ∃ x w' ρ', ((execOp a.eval o).run P w = .ok (.value x) w' ∨ ((execOp a.eval o).run P w = .ok .skip w' ∧ x = undef)) ∧ Grow k st'.nxt ρ ρ' ∧ Rel T W ρ' st' w' ∧ Rl ρ' v x
theorem Gives.acts {o : Oper} {a : Act} {v : V} (h : Gives P ρ o a w v) (hr : Rel T W ρ st w) : Acts P T W ρ st.nxt o a w v st := by
  obtain ⟨x, h1, h2⟩ := h
  exact ⟨x, w, ρ, .inl h1, Grow.refl _ ρ, hr, h2⟩

theorem store_some {b o : Nat} {vs : List V} {st' : St} (h : st.store T b o vs = some st') : ∃ bl, st.heap.get b = some bl ∧ T.globals ≤ b ∧ bl.wf ≤ o ∧ o + vs.length ≤ bl.n ∧ ones vs = true ∧ st' = ⟨st.heap.set b ⟨wr vs o bl.cells, bl.n, bl.wf, bl.ty, bl.hd⟩, st.nxt⟩ := by
  obtain ⟨bl, h1, h2⟩ := ob_some h
  obtain ⟨h3, h4⟩ := none_bi h2
  obtain ⟨h5, h6⟩ := none_bi h4
  obtain ⟨h7, h8⟩ := none_bi h6
  obtain ⟨h9, h10⟩ := bi_none h8
  have := blt_f h7
  rw [len_eq] at this
  exact ⟨bl, h1, blt_f h3, blt_f h5, this, h9, (Option.some.inj h10).symm⟩
theorem store_nxt {b o : Nat} {vs : List V} {st' : St} (h : st.store T b o vs = some st') : st'.nxt = st.nxt := by
  obtain ⟨bl, -, -, -, -, -, rfl⟩ := store_some h
  rfl
/-- a store of cells, and what it leaves -/
theorem storeCells_ok (h : Rel T W ρ st w) {b o : Nat} {vs : List V} {xs : List Value} {st' : St} {L : Loc} (hL : ρ b = some L) (hs : st.store T b o vs = some st') (hv : Rls ρ vs xs) :
    (storeCells ⟨L.r, L.d + o, none⟩ xs).run P w = .ok () (w.setCells L.r (L.d + o) xs) ∧ Rel T W ρ st' (w.setCells L.r (L.d + o) xs) := by
  obtain ⟨bl, h1, h2, h3, h4, h5, rfl⟩ := store_some hs
  obtain ⟨hsh, hsz⟩ := h.shape b bl L h1 hL
  have hlen := hv.length
  refine ⟨?_, ?_⟩
  · have := run_storeCells_cells (P := P) L.r (L.d + o) xs 0 w (fun j hj => cell_of_shape hsh (by omega)) (fun j hj => by
      rw [show L.d + o + 0 + j = L.d + (o + j) by omega]
      exact h.free b bl L h1 hL (o + j) (by omega)) (hv.ones h5)
    simpa using this
  · refine h.setCells h2 hL h1 h4 hv rfl (bl' := ⟨wr vs o bl.cells, bl.n, bl.wf, bl.ty, bl.hd⟩) ?_ ?_ rfl rfl rfl rfl ?_
    · show (st.heap.set b _).get b = _
      rw [Tr.get_set, if_pos rfl]
    · intro x hx
      show (st.heap.set b _).get x = _
      rw [Tr.get_set, if_neg hx]
    · intro i v hv'
      rw [get_wr] at hv'
      by_cases hc : o ≤ i ∧ i < o + vs.length
      · rw [if_pos hc] at hv'; exact .inl ⟨hc.1, hv'⟩
      · rw [if_neg hc] at hv'; exact .inr ⟨by omega, hv'⟩

theorem rs_val {x : Option St} {v : V} {st' : St} (h : rs x = .val v st') : x = some st' ∧ v = .tup [] := by
  cases x with
  | none => have h' : R.fail = R.val v st' := h; cases h'
  | some y => have h' : R.val (.tup []) y = R.val v st' := h; cases h'; exact ⟨rfl, rfl⟩
theorem rr_val {x : Option R} {r : R} (h : rr x = r) (hf : r ≠ .fail) : x = some r := by
  cases x with
  | none => exact absurd h.symm hf
  | some y => exact congrArg some h

theorem acts_store (H : Tys P T) (h : Rel T W ρ st w) {o : Oper} {fr : F} {a : Act} {t : TypeId} {x y : Operand} {v : V} {st' : St} (ho : o.op = .store t x y) (hO : Opd T ρ fr a [x, y])
    (hv : rs (ty T t fun ti => ob (evO x T fr) fun p => p.onPtr fun b o => ob (evO y T fr) fun v => bi (Nat.beq (len v.cells) ti.size) (st.store T b o v.cells) none) = .val v st') : Acts P T W ρ st.nxt o a w v st' := by
  obtain ⟨h0, rfl⟩ := rs_val hv
  obtain ⟨ti, h1, h2⟩ := ty_some h0
  obtain ⟨p, h3, h4⟩ := ob_some h2
  obtain ⟨b, q, rfl, h5⟩ := V.onPtr_some h4
  obtain ⟨u, h6, h7⟩ := ob_some h5
  obtain ⟨h8, h9⟩ := bi_none h7
  obtain ⟨L, hL, hx⟩ := ptr_inv (opd_of hO (x := x) (by simp) h3)
  have hy := (opd_of hO (x := y) (by simp) h6).cells
  obtain ⟨e1, e2⟩ := storeCells_ok (P := P) h hL h9 hy
  have hs := (H.ty t ti h1).size (w := w)
  have hlen := hy.length
  have hsz : (a.eval y).cells.size = ti.size := by
    have := beq_t h8
    rw [len_eq] at this
    simp at hlen
    omega
  refine ⟨undef, _, ρ, .inr ⟨?_, rfl⟩, Grow.same ρ (by rw [store_nxt h9]; exact Nat.le_refl _), e2, .tup _ _ .nil⟩
  rw [execOp, ho]
  simp [Instr.storeAt, hx, Instr.sureAddr, storeVar, hs, hsz, e1]

/-- a new block of cells -/
theorem new_ok (h : Rel T W ρ st w) {t : TypeId} {vs : List V} {c : Array Value} (hg : T.globals ≤ st.nxt) (hv : Rls ρ vs c.toList) :
    Rel T W (ρ.put st.nxt ⟨w.heap.size, 0, c.size⟩) (st.new t vs) (w.alloc (.cells c t)) := by
  have hlen := hv.length
  have := h.alloc (st' := st.new t vs) (b := st.nxt) (bl := ⟨wr vs 0 .nil, len vs, 0, t, true⟩) (c := c) (h.fresh st.nxt (Nat.le_refl _)).1 hg (Nat.lt_succ_self _) (Nat.le_succ _)
    (by show (st.heap.set st.nxt _).get st.nxt = _; rw [Tr.get_set, if_pos rfl])
    (fun b' bl' hne e => by
      have e' : (st.heap.set st.nxt ⟨wr vs 0 .nil, len vs, 0, t, true⟩).get b' = some bl' := e
      rw [Tr.get_set, if_neg hne] at e'; exact e')
    (by show len vs ≤ c.size; rw [len_eq]; simp at hlen; omega)
    (fun i v e => by
      rw [show (⟨wr vs 0 .nil, len vs, 0, t, true⟩ : Blk).cells = wr vs 0 .nil from rfl, get_wr] at e
      by_cases hc : 0 ≤ i ∧ i < 0 + vs.length
      · rw [if_pos hc, Nat.sub_zero] at e
        obtain ⟨x, h1, h2⟩ := hv.get e
        exact ⟨by show i < len vs; rw [len_eq]; omega, x, by simpa using h1, h2⟩
      · rw [if_neg hc, Tr.get_nil] at e; cases e)
  exact this
theorem glob_nxt (h : Rel T W ρ st w) : T.globals ≤ st.nxt := by
  rcases Nat.lt_or_ge st.nxt T.globals with q | q
  · obtain ⟨n, hn⟩ := h.glob st.nxt q
    rw [(h.fresh st.nxt (Nat.le_refl _)).1] at hn; cases hn
  · exact q
/-- the value that leads to a new block -/
def New.val (x : New) (r : Nat) : Value := if x.es = 0 then .pointer (some ⟨r, 0, none⟩) else .slice (some ⟨r, 0, none⟩) x.len x.cap
theorem New.rl {x : New} {b r n : Nat} (hl : x.es ≠ 0 → x.len ≤ x.cap ∧ x.cap * x.es ≤ n) (hb : ρ b = some ⟨r, 0, n⟩) : Rl ρ (x.v b) (x.val r) := by
  show Rl ρ (bi (Nat.beq x.es 0) (.ptr b 0) (.slice b 0 x.len x.cap x.es)) _
  unfold New.val
  by_cases h : x.es = 0
  · rw [if_pos h, show Nat.beq x.es 0 = true by rw [h]; rfl, bi_t]
    exact .ptr b 0 ⟨r, 0, n⟩ hb
  · rw [if_neg h, beq_ne h, bi_f]
    obtain ⟨h1, h2⟩ := hl h
    exact .slice b 0 x.len x.cap x.es ⟨r, 0, n⟩ 0 x.cap hb (.inl rfl) h1 (Nat.le_refl _) (fun _ => by simpa using h2)
/-- an operation that makes a block, in whatever world -/
structure Makes (P : Program) (ρ : Map) (o : Oper) (a : Act) (x : New) : Prop where
  run : ∃ c : Array Value, Rls ρ x.cells c.toList ∧ (x.es ≠ 0 → x.len ≤ x.cap ∧ x.cap * x.es ≤ c.size) ∧ ∀ w, (execOp a.eval o).run P w = .ok (.value (x.val w.heap.size)) (w.alloc (.cells c x.ty))
theorem run_newRow (t : TypeId) (c : Array Value) (w : World) : (newRow t c).run P w = .ok ⟨w.heap.size, 0, none⟩ (w.alloc (.cells c t)) := rfl
theorem makes_alloc (H : Tys P T) {o : Oper} {fr : F} {a : Act} {e : TypeId} {x : New} (ho : o.op = .alloc e) (hv : oAlloc e T fr = some x) : Makes P ρ o a x := by
  obtain ⟨ti, h1, h2⟩ := ty_some (show ty T e _ = some x from hv)
  cases h2
  have ok := H.ty e ti h1
  obtain ⟨i, hi1, hi2, hi3, z, hz1, hz2⟩ := ok.info
  refine ⟨z.cells, hz2 ρ, fun h => absurd rfl h, fun w => ?_⟩
  have hz : (zeroValue e).run P w = .ok z w := by simp [zeroValue, typeInfo, hi1, hz1]
  rw [execOp, ho]
  simp [Instr.alloc, hz, newVar, run_newRow, New.val]
theorem makes_box {o : Oper} {fr : F} {a : Act} {e : TypeId} {y : Operand} {x : New} (ho : o.op = .box e y) (hO : Opd T ρ fr a [y]) (hv : oBox e y T fr = some x) : Makes P ρ o a x := by
  obtain ⟨v, h1, h2⟩ := ob_some (show ob (evO y T fr) _ = some x from hv)
  cases h2
  refine ⟨(a.eval y).cells, (opd_of hO (by simp) h1).cells, fun h => absurd rfl h, fun w => ?_⟩
  rw [execOp, ho]
  simp [Instr.box, newVar, run_newRow, New.val]
theorem rep_get : ∀ (n : Nat) (z : List V) (i : Nat), i < n * z.length → (rep z n)[i]? = z[i % z.length]?
  | 0, z, i, h => by omega
  | n + 1, z, i, h => by
    show (Ev.app z (rep z n))[i]? = _
    rw [app_eq]
    by_cases hi : i < z.length
    · rw [List.getElem?_append_left hi, Nat.mod_eq_of_lt hi]
    · have h2 := h
      rw [Nat.add_mul, Nat.one_mul] at h2
      rw [List.getElem?_append_right (by omega), rep_get n z (i - z.length) (by omega), ← Nat.mod_eq_sub_mod (show z.length ≤ i by omega)]
theorem rep_len : ∀ (n : Nat) (z : List V), (rep z n).length = n * z.length
  | 0, z => by show ([] : List V).length = _; simp
  | n + 1, z => by
    show (Ev.app z (rep z n)).length = _
    rw [app_eq, List.length_append, rep_len n z, Nat.add_mul]; omega
theorem rep_rl {z : List V} {zs : Array Value} (hz : Rls ρ z zs.toList) (n : Nat) (hp : 0 < n * z.length) : Rls ρ (rep z n) ((Array.range (n * z.length)).map (zs[· % zs.size]!)).toList := by
  have hl := hz.length
  have hl' : z.length = zs.size := by simpa using hl
  refine Rls.of (by rw [rep_len]; simp) fun i v x hv hx => ?_
  have hi : i < n * z.length := by
    rcases Nat.lt_or_ge i (n * z.length) with q | q
    · exact q
    · rw [List.getElem?_eq_none (by rw [rep_len]; exact q)] at hv; cases hv
  have hzl : 0 < z.length := by
    rcases Nat.eq_zero_or_pos z.length with q | q
    · rw [q] at hp; omega
    · exact q
  rw [rep_get n z i hi] at hv
  obtain ⟨y, h1, h2⟩ := hz.get hv
  have hm : i % zs.size < zs.size := Nat.mod_lt _ (by omega)
  simp [hi] at hx
  have h3 : zs[i % zs.size]? = some y := by rw [← hl']; simpa using h1
  rw [getElem!_pos zs _ hm] at hx
  rw [getElem?_pos zs _ hm] at h3
  have := Option.some.inj h3
  rw [this] at hx
  subst hx
  exact h2
theorem places_get : ∀ (n size o i : Nat), i < n → (places n size o)[i]? = some (o + i * size, size)
  | 0, _, _, i, h => by omega
  | n + 1, size, o, 0, _ => by show some (o, size) = _; simp
  | n + 1, size, o, i + 1, h => by
    show (places n size (o + size))[i]? = _
    rw [places_get n size (o + size) i (by omega), Nat.add_mul]
    congr 2
    omega
theorem places_none : ∀ (n size o i : Nat), n ≤ i → (places n size o)[i]? = none
  | 0, _, _, i, _ => by show ([] : List (Nat × Nat))[i]? = none; simp
  | n + 1, size, o, 0, h => by omega
  | n + 1, size, o, i + 1, h => by
    show (places n size (o + size))[i]? = _
    exact places_none n size _ i (by omega)
theorem build_len {fs : List (Nat × Nat)} : ∀ {ps : List (Nat × V)} {z r : List V}, evBuild fs ps z = some r → r.length = z.length
  | [], z, r, h => by cases (show some z = some r from h); rfl
  | p :: ps, z, r, h => by
    obtain ⟨f, h1, h2⟩ := ob_some (show ob (lget fs p.1) _ = some r from h)
    obtain ⟨h3, h4⟩ := bi_none h2
    obtain ⟨h5, h6⟩ := bi_none h4
    rw [build_len (show evBuild fs ps (putPart z f.1 p.2.cells) = some r from h6), putPart_eq]
    have e1 := beq_t h3
    have e2 := ble_t h5
    rw [len_eq] at e1 e2
    have e3 : f.1 + f.2 ≤ z.length := e2
    simp
    omega
theorem makes_buildSlice (H : Tys P T) {o : Oper} {fr : F} {a : Act} {t : TypeId} {n : Nat} {parts : Array (Nat × Operand)} {x : New} (ho : o.op = .buildSlice t n parts) (hO : Opd T ρ fr a (parts.toList.map (·.2)))
    (hv : oBuildSlice t n parts T fr = some x) : Makes P ρ o a x := by
  obtain ⟨ti, h1, h2⟩ := ty_some (show ty T t _ = some x from hv)
  obtain ⟨e, h3, h4⟩ := TD.onSlice_some h2
  obtain ⟨ei, h5, h6⟩ := ty_some h4
  obtain ⟨ps, h7, h8⟩ := ob_some h6
  obtain ⟨cs, h9, h10⟩ := ob_some h8
  obtain ⟨h11, h12⟩ := none_bi h10
  obtain ⟨h13, h14⟩ := bi_none h12
  cases h14
  obtain ⟨u, hu, hu'⟩ := und_of (H.ty t ti h1) h3
  subst hu'
  have oke := H.ty e ei h5
  obtain ⟨i, hi1, hi2, hi3, z, hz1, hz2⟩ := oke.info
  have hsz : ei.size ≠ 0 := beq_f h11
  have hle : n * ei.size ≤ 16777216 := ble_t h13
  have hzl := oke.len
  have hz : ∀ w, (zeroValue e).run P w = .ok z w := fun w => by simp [zeroValue, typeInfo, hi1, hz1]
  let c0 : Array Value := (Array.range (n * ei.size)).map ((if n * ei.size = 0 then #[] else z.cells)[· % (if n * ei.size = 0 then #[] else z.cells).size]!)
  have h0 : Rls ρ (rep ei.zero n) c0.toList := by
    by_cases hn : n * ei.size = 0
    · have : n = 0 := by
        rcases Nat.mul_eq_zero.1 hn with q | q
        · exact q
        · exact absurd q hsz
      subst this
      have : c0.toList = [] := by simp [c0]
      rw [this]
      exact .nil
    · have := rep_rl (hz2 ρ) n (by rw [hzl]; omega)
      rw [hzl] at this
      simpa only [c0, if_neg hn] using this
  obtain ⟨out, h15, h16⟩ := fill_ok (place := fun i => some (i * ei.size, ei.size)) (cells := c0) (fs := places n ei.size 0) (fun i f e => by
      rcases Nat.lt_or_ge i n with q | q
      · rw [places_get n ei.size 0 i q] at e; cases e; simp
      · rw [places_none n ei.size 0 i q] at e; cases e) parts.toList hO h7 h0 h9
  have hol : out.size = n * ei.size := by
    have q1 := h16.length
    have q2 := build_len h9
    rw [rep_len, hzl] at q2
    simp at q1
    omega
  refine ⟨out, h16, fun _ => ⟨Nat.le_refl _, by rw [hol]; exact Nat.le_refl _⟩, fun w => ?_⟩
  rw [execOp, ho]
  have hm : (parts.map fun (i, x) => (i, a.eval x)).toList = parts.toList.map fun (i, x) => (i, a.eval x) := by rw [Array.toList_map]
  have h15' : Instr.fill (fun i => some (i * ei.size, ei.size)) c0 (parts.map fun (i, x) => (i, a.eval x)).toList = some out := by rw [hm]; exact h15
  have hs := oke.size (w := w)
  have hval : (⟨e, cs, n, n, ei.size⟩ : New).val w.heap.size = .slice (some ⟨w.heap.size, 0, none⟩) n n := by unfold New.val; rw [if_neg hsz]
  rw [hval]
  have hx : (Instr.buildSlice t n (parts.map fun (i, x) => (i, a.eval x))).run P w = .ok (.slice (some ⟨w.heap.size, 0, none⟩) n n) (w.alloc (.cells out e)) := by
    by_cases hn : n * ei.size = 0
    · have h15'' := h15'
      simp only [c0, if_pos hn] at h15''
      simp only [Instr.buildSlice, Sem.run_bind, run_underlying hu, hs, Result.andThen_ok, if_pos hn]
      rw [if_neg (show ¬ n * ei.size > 2 ^ 24 by omega)]
      simp only [Sem.run_bind, Sem.run_pure, Result.andThen_ok]
      simp only [h15'']
      rfl
    · have h15'' := h15'
      simp only [c0, if_neg hn] at h15''
      simp only [Instr.buildSlice, Sem.run_bind, run_underlying hu, hs, Result.andThen_ok, if_neg hn]
      rw [if_neg (show ¬ n * ei.size > 2 ^ 24 by omega)]
      simp only [Sem.run_bind, Sem.run_pure, Result.andThen_ok, hz]
      simp only [h15'']
      rfl
  simp [hx]
end
end Ev
end Go.Proofs.YtodegmphcjgipaaGreatDoor
/-! Operations that act, continued: make of a slice, append, clear, copy, strings of bytes without a copy. -/
namespace Go.Proofs.YtodegmphcjgipaaGreatDoor
namespace Ev
open Go Go.RowKit

section
variable {P : Program} {T : Tab} {W : Base} {ρ : Map} {st : St} {w : World}

theorem wrap_small {n : Nat} (h : n ≤ 1099511627776) : IntKind.i64.wrap (n : Int) = (n : Int) := wrap_nat .i64 n (by simp only [kmax]; omega)
theorem askRoom_run (n : Nat) (w : World) : (askRoom n).run P w = .ok () w := by
  unfold askRoom
  split <;> rfl
theorem makes_makeSlice (H : Tys P T) {o : Oper} {fr : F} {a : Act} {t : TypeId} {y z : Operand} {x : New} (ho : o.op = .makeSlice t y z) (hO : Opd T ρ fr a [y, z]) (hv : oMkSlice t y z T fr = some x) : Makes P ρ o a x := by
  obtain ⟨ti, h1, h2⟩ := ty_some (show ty T t _ = some x from hv)
  obtain ⟨e, h3, h4⟩ := TD.onSlice_some h2
  obtain ⟨ei, h5, h6⟩ := ty_some h4
  obtain ⟨u, h7, h8⟩ := ob_some h6
  obtain ⟨v, h9, h10⟩ := ob_some h8
  obtain ⟨k1, l, e1, rfl, h11⟩ := ix_inv h10 (opd_of hO (x := y) (by simp) h7)
  obtain ⟨k2, c, e2, rfl, h12⟩ := ix_inv h11 (opd_of hO (x := z) (by simp) h9)
  obtain ⟨q1, h13⟩ := bi_none h12
  obtain ⟨q2, h14⟩ := bi_none h13
  obtain ⟨q3, h15⟩ := bi_none h14
  obtain ⟨q4, h16⟩ := none_bi h15
  cases h16
  have r1 : l ≤ c := ble_t q1
  have r2 : c * ei.bytes ≤ 1099511627776 := ble_t q2
  have r3 : c ≤ 1099511627776 := ble_t q3
  have r4 : ei.size ≠ 0 := beq_f q4
  obtain ⟨d, hu, hu'⟩ := und_of (H.ty t ti h1) h3
  subst hu'
  have oke := H.ty e ei h5
  obtain ⟨i, hi1, hi2, hi3, zv, hz1, hz2⟩ := oke.info
  have hzl := oke.len
  have hz : ∀ w, (zeroValue e).run P w = .ok zv w := fun w => by simp [zeroValue, typeInfo, hi1, hz1]
  have h0 : Rls ρ (rep ei.zero c) (madeCells zv.cells (c * ei.size)).toList := by
    by_cases hn : c * ei.size = 0
    · have : c = 0 := by
        rcases Nat.mul_eq_zero.1 hn with q | q
        · exact q
        · exact absurd q r4
      subst this
      have : (madeCells zv.cells (0 * ei.size)).toList = [] := by simp [madeCells]
      rw [this]
      exact .nil
    · have := rep_rl (hz2 ρ) c (by rw [hzl]; omega)
      rw [hzl] at this
      exact this
  have hcs : (madeCells zv.cells (c * ei.size)).size = c * ei.size := by simp [madeCells]
  refine ⟨madeCells zv.cells (c * ei.size), h0, fun _ => ⟨r1, by rw [hcs]; exact Nat.le_refl _⟩, fun w => ?_⟩
  have hval : (⟨e, rep ei.zero c, l, c, ei.size⟩ : New).val w.heap.size = .slice (some ⟨w.heap.size, 0, none⟩) l c := by unfold New.val; rw [if_neg r4]
  have hb : (i.bytes : Int) * (c : Int) ≤ 281474976710656 := by
    have : ((c * ei.bytes : Nat) : Int) ≤ 1099511627776 := by omega
    rw [Int.natCast_mul, Int.mul_comm] at this
    rw [hi3]; omega
  have hx := run_make (P := P) w t e i zv hu hi1 hz1 k1 k2 (l : Int) (c : Int) (by omega) (by omega) hb (by omega)
  rw [hval, execOp, ho]
  simp only [Int.toNat_natCast, hi2] at hx
  simp [e1, e2, hx]
end
end Ev
end Go.Proofs.YtodegmphcjgipaaGreatDoor
/-! append. -/
namespace Go.Proofs.YtodegmphcjgipaaGreatDoor
namespace Ev
open Go Go.RowKit

section
variable {P : Program} {T : Tab} {W : Base} {ρ : Map} {st : St} {w : World}

theorem append_two {at_ : Array TypeId} {xs : Array Value} {t tx : TypeId} {s x : Value} (h0 : at_[0]? = some t) (h1 : at_[1]? = some tx) (h2 : xs[0]? = some s) (h3 : xs[1]? = some x) (ty : TypeId) :
    Builtin.append_ at_ ty xs = Builtin.append_ #[t, tx] ty #[s, x] := by
  unfold Builtin.append_
  simp only [h0, h1, h2, h3]
  rfl

theorem bytesV_rl (ρ : Map) : ∀ l : List UInt8, Rls ρ (bytesV (l.map UInt8.toNat)) (l.map fun b => Value.int .u8 b.toNat)
  | [] => .nil
  | b :: l => .cons (.int .u8 (b.toNat : Int)) (bytesV_rl ρ l)
theorem bytesV_len : ∀ l : List Nat, (bytesV l).length = l.length
  | [] => rfl
  | b :: l => by show (bytesV l).length + 1 = _; rw [bytesV_len l]; rfl

/-- the first cells of a slice or a string -/
theorem contents_ok (h : Rel T W ρ st w) {x : V} {X : Value} {n m size : Nat} {c : List V} (hx : Rl ρ x X) (hl : lenV x = some m) (hnm : n ≤ m) (hc : contents st x n = some c) (hn : c.length = n * size) :
    (∀ w', (Builtin.lenOf X).run P w' = .ok m w') ∧ ∃ xs : List Value, Rls ρ c xs ∧ (Builtin.firstCells size n X).run P w = .ok xs.toArray w ∧ (Builtin.firstCells size n X).run P w.drew = .ok xs.toArray w.drew := by
  cases x with
  | str s =>
    cases (show some (len s) = some m from hl)
    cases (show some (bytesV (ltake n s)) = some c from hc)
    obtain ⟨s', rfl, hs'⟩ := str_eq hx
    have hsz : len s = s'.size := by rw [len_eq, ← hs', ← size_eq]
    refine ⟨fun w' => by rw [hsz]; rfl, (s'.data.toList.take n).map fun b => Value.int .u8 b.toNat, ?_, ?_, ?_⟩
    · rw [ltake_eq, ← hs', ← List.map_take]
      exact bytesV_rl ρ _
    all_goals
      simp [Builtin.firstCells]
      apply Array.ext'
      simp
  | slice b o l c' es =>
    cases (show some l = some m from hl)
    obtain ⟨L, y, c2, hL, hy, hnc, hcc, hb, rfl⟩ := slice_inv hx
    obtain ⟨bl, h1, h2⟩ := ob_some (show (ob (st.heap.get b) fun bl => rd (Nat.mul n es) bl.cells o) = some c from hc)
    obtain ⟨xs, e1, e2, e3, -⟩ := h.read h1 hL h2
    have e2l := e2.length
    have hxl : xs.length = n * size := by omega
    have hcell : ∀ j v, xs[j]? = some v → w.cell? ((⟨L.r, y, none⟩ : Addr).add j) = some v := fun j v hj => by
      rw [add_none _ rfl]
      have hjl : j < xs.length := by
        rcases Nat.lt_or_ge j xs.length with q | q
        · exact q
        · rw [List.getElem?_eq_none q] at hj; cases hj
      have : c2 ≠ 0 := fun hz => by
        have : n = 0 := by omega
        subst this
        simp at hxl
        omega
      rw [show y = L.d + o from hy.resolve_right this]
      exact e3 j v hj
    exact ⟨fun w' => rfl, xs, e2, run_firstCells_some (P := P) w size n _ m c2 xs hxl hcell, run_firstCells_some (P := P) w.drew size n _ m c2 xs hxl (by simpa using hcell)⟩
  | nils =>
    cases (show some 0 = some m from hl)
    cases hx
    obtain ⟨h1, h2⟩ := bi_none (show bi (Nat.beq n 0) (some []) none = some c from hc)
    cases h2
    exact ⟨fun w' => rfl, [], .nil, by simp [Builtin.firstCells], by simp [Builtin.firstCells]⟩
  | _ => cases (show none = some m from hl)

/-- what is appended -/
theorem src_ok (H : Tys P T) (h : Rel T W ρ st w) {tx : TypeId} {xi : TI} {x : V} {X : Value} {m size : Nat} {c : List V} (ht : T.types.get tx = some xi) (hk : bi (Nat.beq (kindT xi.d) 2) true (isStr xi.d) = true) (hx : Rl ρ x X) (hl : lenV x = some m)
    (hc : contents st x m = some c) (hn : c.length = m * size) (ho : ones c = true) : ∃ news : List Value, Rls ρ c news ∧ Src P size tx X m news w := by
  obtain ⟨h1, xs, h2, h3, h4⟩ := contents_ok (P := P) h hx hl (Nat.le_refl _) hc hn
  refine ⟨xs, h2, ?_, h1, h3, h4, by rw [← h2.length, hn], h2.ones ho⟩
  have ok := H.ty tx xi ht
  cases hd : xi.d <;> rw [hd] at hk <;> first
    | (obtain ⟨u, hu, hu'⟩ := und_of ok hd
       subst hu'
       first
        | exact .inl ⟨_, hu⟩
        | exact .inr hu)
    | (cases hk; done)

theorem run_append_room_zeros (t tx ty e : TypeId) (k k' : IntKind) (i : TypeInfo) (z : Value) (ht : P.underlying t = some (.slice e)) (hx : P.underlying tx = some (.int k)) (hi : P.info? e = some i) (hz : i.zero = some z) (hzs : z.cells.size = i.size) (b off sLen sCap n : Nat)
    (hn : n ≤ 1099511627776) (hb : n * i.bytes ≤ 1099511627776) (hroom : sLen + n ≤ sCap) (h1 : ∀ u ∈ (Builtin.zeroCells z.cells n).toList, u.oneCell' = true)
    (hc : ∀ j, j < n * i.size → (w.cell? ⟨b, off + sLen * i.size + j, none⟩).isSome = true) (hf : ∀ j, j < n * i.size → w.frozen? ⟨b, off + sLen * i.size + j, none⟩ = false) :
    (Builtin.append_ #[t, tx] ty #[.slice (some ⟨b, off, none⟩) sLen sCap, .int k' n]).run P w = .ok (.slice (some ⟨b, off, none⟩) (sLen + n) sCap) (w.setCells b (off + sLen * i.size) (Builtin.zeroCells z.cells n).toList) := by
  have hlen : (Builtin.zeroCells z.cells n).toList.length = n * i.size := by simp [Builtin.zeroCells, hzs]
  have hst := run_storeCells_cells (P := P) b (off + sLen * i.size) (Builtin.zeroCells z.cells n).toList 0 w (by rw [hlen]; simpa using hc) (by rw [hlen]; simpa using hf) h1
  simp only [Nat.add_zero] at hst
  have hw : IntKind.i64.wrap (n : Int) = (n : Int) := wrap_small hn
  have h2 : ¬ ((n : Int) < 0) := by omega
  have h3 : ¬ ((n : Int) * (i.bytes : Int) > 281474976710656) := by
    have : ((n * i.bytes : Nat) : Int) ≤ 1099511627776 := by omega
    rw [Int.natCast_mul] at this
    omega
  by_cases h0 : n * i.size = 0
  · have : (Builtin.zeroCells z.cells n).toList = [] := List.length_eq_zero_iff.1 (by rw [hlen, h0])
    rw [this] at hst ⊢
    simp [Builtin.append_, run_underlying ht, run_underlying hx, sizeOf, typeInfo, hi, asInt, asIntOf, hw, h2, h3, hroom, h0, Addr.add_lit, storeCells, World.setCells]
  · simp [Builtin.append_, run_underlying ht, run_underlying hx, sizeOf, typeInfo, zeroValue, hi, hz, asInt, asIntOf, hw, h2, h3, hroom, h0, Addr.add_lit, hst]
theorem run_append_grow_zeros (t tx ty e : TypeId) (k k' : IntKind) (i : TypeInfo) (z : Value) (ht : P.underlying t = some (.slice e)) (hx : P.underlying tx = some (.int k)) (hi : P.info? e = some i) (hz : i.zero = some z) (hzs : z.cells.size = i.size) (base : Option Addr) (sLen sCap n : Nat) (olds : List Value)
    (hold : (Builtin.firstCells i.size sLen (.slice base sLen sCap)).run P w.drew = .ok olds.toArray w.drew)
    (hn : n ≤ 1099511627776) (hb : n * i.bytes ≤ 1099511627776) (hg : sCap < sLen + n) (h63 : ((sLen + n : Nat) : Int) ≤ 9223372036854775807) (hfit : Builtin.nextslicecap (sLen + n) sCap * i.bytes ≤ 281474976710656) :
    (Builtin.append_ #[t, tx] ty #[.slice base sLen sCap, .int k' n]).run P w =
      .ok (.slice (some ⟨w.heap.size, 0, none⟩) (sLen + n) (grownCap w (sLen + n) sCap e))
        (w.drew.alloc (.cells ((olds ++ (Builtin.zeroCells z.cells n).toList).toArray ++ Builtin.zeroCells z.cells (grownCap w (sLen + n) sCap e - (sLen + n))) e)) := by
  have hlen : (Builtin.zeroCells z.cells n).toList.length = n * i.size := by simp [Builtin.zeroCells, hzs]
  have hw : IntKind.i64.wrap (n : Int) = (n : Int) := wrap_small hn
  have h2 : ¬ ((n : Int) < 0) := by omega
  have h3 : ¬ ((n : Int) * (i.bytes : Int) > 281474976710656) := by
    have : ((n * i.bytes : Nat) : Int) ≤ 1099511627776 := by omega
    rw [Int.natCast_mul] at this
    omega
  have hn' : ¬ (sLen + n ≤ sCap) := by omega
  have h63' : ¬ (9223372036854775807 < ((sLen : Int) + (n : Int))) := by omega
  have h48' : ¬ (281474976710656 < Builtin.nextslicecap (sLen + n) sCap * i.bytes) := by omega
  by_cases h0 : n * i.size = 0
  · have he : Builtin.zeroCells z.cells n = #[] := by
      apply Array.ext'
      exact List.length_eq_zero_iff.1 (by rw [hlen, h0])
    simp [Builtin.append_, run_underlying ht, run_underlying hx, sizeOf, typeInfo, zeroValue, hi, hz, asInt, asIntOf, hw, h2, h3, hn', h63', h48', he, Question.forced, hold, newRow, grownCap]
  · simp [Builtin.append_, run_underlying ht, run_underlying hx, sizeOf, typeInfo, zeroValue, hi, hz, asInt, asIntOf, hw, h2, h3, hn', h63', h48', h0, Question.forced, hold, newRow, grownCap]
    congr 2
    apply Array.ext'
    simp [List.append_assoc]
end
end Ev
end Go.Proofs.YtodegmphcjgipaaGreatDoor
/-! append, continued. -/
namespace Go.Proofs.YtodegmphcjgipaaGreatDoor
namespace Ev
open Go Go.RowKit

/-- a run that gives a value, and what it leaves -/
def Done (P : Program) (T : Tab) (W : Base) (ρ : Map) (k : Nat) (s : Sem Value) (w : World) (v : V) (st' : St) : Prop := ∃ x w' ρ', s.run P w = .ok x w' ∧ Grow k st'.nxt ρ ρ' ∧ Rel T W ρ' st' w' ∧ Rl ρ' v x

/-- what an append does with what it is to append -/
structure Yld (P : Program) (t tx ty e : TypeId) (i : TypeInfo) (z X : Value) (n : Nat) (news : List Value) (w : World) : Prop where
  len : news.length = n * i.size
  room : ∀ b off sLen sCap, sLen + n ≤ sCap → (∀ j, j < news.length → (w.cell? ⟨b, off + sLen * i.size + j, none⟩).isSome = true) → (∀ j, j < news.length → w.frozen? ⟨b, off + sLen * i.size + j, none⟩ = false) →
    (Builtin.append_ #[t, tx] ty #[.slice (some ⟨b, off, none⟩) sLen sCap, X]).run P w = .ok (.slice (some ⟨b, off, none⟩) (sLen + n) sCap) (w.setCells b (off + sLen * i.size) news)
  grow : ∀ base sLen sCap olds, (Builtin.firstCells i.size sLen (.slice base sLen sCap)).run P w.drew = .ok olds.toArray w.drew → sCap < sLen + n → ((sLen + n : Nat) : Int) ≤ 9223372036854775807 → Builtin.nextslicecap (sLen + n) sCap * i.bytes ≤ 281474976710656 →
    (Builtin.append_ #[t, tx] ty #[.slice base sLen sCap, X]).run P w =
      .ok (.slice (some ⟨w.heap.size, 0, none⟩) (sLen + n) (grownCap w (sLen + n) sCap e))
        (w.drew.alloc (.cells ((olds ++ news).toArray ++ Builtin.zeroCells z.cells (grownCap w (sLen + n) sCap e - (sLen + n))) e))
  zero : n = 0 → (Builtin.append_ #[t, tx] ty #[.slice none 0 0, X]).run P w = .ok (.slice none 0 0) w

section
variable {P : Program} {T : Tab} {W : Base} {ρ : Map} {st : St} {w : World}

theorem yld_src {t tx ty e : TypeId} {i : TypeInfo} {z X : Value} {n : Nat} {news : List Value} (ht : P.underlying t = some (.slice e)) (hi : P.info? e = some i) (hz : i.zero = some z) (hs : Src P i.size tx X n news w) : Yld P t tx ty e i z X n news w where
  len := hs.newsLen
  room := fun b off sLen sCap => run_append_room_src w t tx ty e i ht hi b off sLen sCap X n news hs
  grow := fun base sLen sCap olds hold => run_append_grow_src w t tx ty e i z ht hi hz base sLen sCap olds hold X n news hs
  zero := fun h0 => by
    subst h0
    rcases hs.kind with ⟨e', hk⟩ | hk <;> simp [Builtin.append_, run_underlying ht, run_underlying hk, sizeOf, typeInfo, hi, hs.len, hs.cells]
theorem yld_zeros {t tx ty e : TypeId} {k k' : IntKind} {i : TypeInfo} {z : Value} {n : Nat} (ht : P.underlying t = some (.slice e)) (hx : P.underlying tx = some (.int k)) (hi : P.info? e = some i) (hz : i.zero = some z) (hzs : z.cells.size = i.size)
    (hn : n ≤ 1099511627776) (hb : n * i.bytes ≤ 1099511627776) (h1 : ∀ u ∈ (Builtin.zeroCells z.cells n).toList, u.oneCell' = true) : Yld P t tx ty e i z (.int k' n) n (Builtin.zeroCells z.cells n).toList w where
  len := by simp [Builtin.zeroCells, hzs]
  room := fun b off sLen sCap hr hc hf => run_append_room_zeros t tx ty e k k' i z ht hx hi hz hzs b off sLen sCap n hn hb hr h1 (by simpa [Builtin.zeroCells, hzs] using hc) (by simpa [Builtin.zeroCells, hzs] using hf)
  grow := fun base sLen sCap olds hold hg h63 hfit => run_append_grow_zeros t tx ty e k k' i z ht hx hi hz hzs base sLen sCap n olds hold hn hb hg h63 hfit
  zero := fun h0 => by
    subst h0
    have hw : IntKind.i64.wrap 0 = 0 := wrap_small (n := 0) (by omega)
    simp [Builtin.append_, run_underlying ht, run_underlying hx, sizeOf, typeInfo, hi, asInt, asIntOf, hw]

/-- the cells of a slice that are there, whatever they are -/
theorem olds_run {L : Loc} {ty : TypeId} (hsh : w.shape? L.r = some (ty, L.n)) (x n size len cap : Nat) (hb : x + n * size ≤ L.n) :
    ∃ olds : List Value, olds.length = n * size ∧ (∀ j, j < n * size → w.cell? ⟨L.r, x + j, none⟩ = olds[j]?) ∧ (Builtin.firstCells size n (.slice (some ⟨L.r, x, none⟩) len cap)).run P w.drew = .ok olds.toArray w.drew := by
  have hc : ∀ j, j < n * size → w.cell? ⟨L.r, x + j, none⟩ = some ((w.cell? ⟨L.r, x + j, none⟩).getD undef) := fun j hj => by
    have := cell_of_shape hsh (j := x + j) (by omega)
    cases e : w.cell? ⟨L.r, x + j, none⟩ with
    | none => rw [e] at this; cases this
    | some v => rfl
  refine ⟨(List.range (n * size)).map fun j => (w.cell? ⟨L.r, x + j, none⟩).getD undef, by simp, fun j hj => ?_, ?_⟩
  · simp [hj]
    exact hc j hj
  · refine run_firstCells_some (P := P) w.drew size n _ len cap _ (by simp) fun j v hj => ?_
    rw [add_none _ rfl]
    have hj' : j < n * size := by
      rcases Nat.lt_or_ge j (n * size) with q | q
      · exact q
      · rw [List.getElem?_eq_none (by simpa using q)] at hj; cases hj
    simp [hj'] at hj
    show w.drew.cell? ⟨L.r, x + j, none⟩ = some v
    rw [show w.drew.cell? ⟨L.r, x + j, none⟩ = w.cell? ⟨L.r, x + j, none⟩ from rfl, hc j hj', hj]

theorem get_wr_nil (l : List V) (i : Nat) : (wr l 0 .nil).get i = l[i]? := by
  rw [get_wr]
  by_cases h : 0 ≤ i ∧ i < 0 + l.length
  · rw [if_pos h, Nat.sub_zero]
  · rw [if_neg h, Tr.get_nil, List.getElem?_eq_none (by omega)]
theorem lt_of_get {α : Type} {l : List α} {i : Nat} {x : α} (h : l[i]? = some x) : i < l.length := by
  rcases Nat.lt_or_ge i l.length with q | q
  · exact q
  · rw [List.getElem?_eq_none q] at h; cases h

theorem appNil_ok (h : Rel T W ρ st w) {t tx ty e : TypeId} {i : TypeInfo} {z X : Value} {m : Nat} {new : List V} {news : List Value} {ei : TI} (hY : Yld P t tx ty e i z X m news w) (hs : i.size = ei.size) (hb : i.bytes = ei.bytes) (hzs : z.cells.size = i.size)
    (hr : Rls ρ new news) {v : V} {st' : St} (hv : appNil e ei st m new = some (.val v st')) : Done P T W ρ st.nxt (Builtin.append_ #[t, tx] ty #[.slice none 0 0, X]) w v st' := by
  by_cases h0 : m = 0
  · have hv' : some (R.val .nils st) = some (.val v st') := by
      have e1 : appNil e ei st m new = some (.val .nils st) := by rw [h0]; rfl
      rw [e1] at hv; exact hv
    cases hv'
    exact ⟨_, w, ρ, hY.zero h0, Grow.refl _ ρ, h, .nils⟩
  · have hv' : bi (Nat.ble m maxCells) (bi (Nat.ble (Nat.mul m ei.bytes) maxCells) (some (R.val (.slice st.nxt 0 m m ei.size) (st.new e new))) none) none = some (.val v st') := by
      have e1 : appNil e ei st m new = bi (Nat.ble m maxCells) (bi (Nat.ble (Nat.mul m ei.bytes) maxCells) (some (R.val (.slice st.nxt 0 m m ei.size) (st.new e new))) none) none := by
        unfold appNil; rw [beq_ne h0, bi_f]
      rw [e1] at hv; exact hv
    obtain ⟨h1, h2⟩ := bi_none hv'
    obtain ⟨h3, h4⟩ := bi_none h2
    cases h4
    have q1 : m ≤ 1099511627776 := ble_t h1
    have q2 : m * ei.bytes ≤ 1099511627776 := ble_t h3
    have hrun := hY.grow none 0 0 [] (by simp [Builtin.firstCells]) (by omega) (by omega) (growslice_fits (by omega) (by rw [hb, Nat.zero_add]; omega))
    simp only [Nat.zero_add, List.nil_append] at hrun
    have hge := grownCap_ge w m 0 e
    generalize hc : news.toArray ++ Builtin.zeroCells z.cells (grownCap w m 0 e - m) = c at hrun
    have hlen := hr.length
    have hnl := hY.len
    have hcs : c.size = grownCap w m 0 e * ei.size := by
      rw [← hc]
      simp [Builtin.zeroCells, hnl, hzs, hs]
      rw [← Nat.add_mul]; congr 1; omega
    have hd := h.drew
    have hp := hd.alloc (st' := st.new e new) (b := st.nxt) (bl := ⟨wr new 0 .nil, len new, 0, e, true⟩) (c := c) (h.fresh st.nxt (Nat.le_refl _)).1 (glob_nxt h) (Nat.lt_succ_self _) (Nat.le_succ _)
      (by show (st.heap.set st.nxt _).get st.nxt = _; rw [Tr.get_set, if_pos rfl])
      (fun b' bl' hne e1 => by
        have e' : (st.heap.set st.nxt ⟨wr new 0 .nil, len new, 0, e, true⟩).get b' = some bl' := e1
        rw [Tr.get_set, if_neg hne] at e'; exact e')
      (by show len new ≤ c.size; rw [len_eq, hlen, ← hc]; simp)
      (fun j u e1 => by
        rw [show (⟨wr new 0 .nil, len new, 0, e, true⟩ : Blk).cells = wr new 0 .nil from rfl, get_wr_nil] at e1
        obtain ⟨x, h5, h6⟩ := hr.get e1
        refine ⟨by show j < len new; rw [len_eq]; exact lt_of_get e1, x, ?_, h6⟩
        rw [← hc, Array.getElem?_append_left (by simpa using lt_of_get h5)]
        simpa using h5)
    refine ⟨_, _, _, hrun, Grow.put (h.fresh st.nxt (Nat.le_refl _)).1, hp, .slice _ _ _ _ _ ⟨_, 0, c.size⟩ 0 _ (Map.put_same _ _ _) (.inl rfl) (Nat.le_refl _) hge (fun _ => ?_)⟩
    rw [hcs]; simp
end
end Ev
end Go.Proofs.YtodegmphcjgipaaGreatDoor
/-! append to a slice. -/
namespace Go.Proofs.YtodegmphcjgipaaGreatDoor
namespace Ev
open Go Go.RowKit

section
variable {P : Program} {T : Tab} {W : Base} {ρ : Map} {st : St} {w : World}

/-- the block that an append leaves, where it goes into the row that is there -/
theorem move_here (h : Rel T W ρ st w) {b o n m es : Nat} {bl : Blk} {L : Loc} {new : List V} {news : List Value} {cs0 : Tr V} {wf : Nat} {hd : Bool} (hg : T.globals ≤ b) (hL : ρ b = some L) (hb : st.heap.get b = some bl)
    (hsz : L.d + o + (n + m) * es ≤ L.n) (hwf : bl.wf ≤ o + wf) (hhd : hd = true → bl.hd = true ∧ o = 0) (hlen : new.length = m * es) (hr : Rls ρ new news)
    (hc : ∀ i v, cs0.get i = some v → i < (n + m) * es ∧ bl.cells.get (o + i) = some v) :
    Rel T W (ρ.put st.nxt ⟨L.r, L.d + o, L.n⟩) ⟨(st.heap.del b).set st.nxt ⟨wr new (n * es) cs0, (n + m) * es, wf, bl.ty, hd⟩, Nat.succ st.nxt⟩ (w.setCells L.r (L.d + o + n * es) news) := by
  have hf := (h.fresh st.nxt (Nat.le_refl _)).1
  have h1 := h.rename (st' := ⟨(st.heap.del b).set st.nxt ⟨cs0, (n + m) * es, wf, bl.ty, hd⟩, Nat.succ st.nxt⟩) (b := b) (b' := st.nxt) (bl := bl) (bl' := ⟨cs0, (n + m) * es, wf, bl.ty, hd⟩) (L := L) (o := o) hg (glob_nxt h) hL hb hf (Nat.lt_succ_self _) (Nat.le_succ _)
    (by show Tr.get (Tr.set _ st.nxt _) st.nxt = _; rw [Tr.get_set, if_pos rfl])
    (fun x bx hne e => by
      have e' : ((st.heap.del b).set st.nxt ⟨cs0, (n + m) * es, wf, bl.ty, hd⟩).get x = some bx := e
      rw [Tr.get_set, if_neg hne, Tr.get_del] at e'
      by_cases hx : x = b
      · rw [if_pos hx] at e'; cases e'
      · rw [if_neg hx] at e'; exact ⟨hx, e'⟩)
    rfl hhd hsz hwf hc
  have hle : ρ.le (ρ.put st.nxt ⟨L.r, L.d + o, L.n⟩) := Map.le_put hf
  refine h1.setCells (b := st.nxt) (bl := ⟨cs0, (n + m) * es, wf, bl.ty, hd⟩) (bl' := ⟨wr new (n * es) cs0, (n + m) * es, wf, bl.ty, hd⟩) (L := ⟨L.r, L.d + o, L.n⟩) (o := n * es) (vs := new) (glob_nxt h) (Map.put_same _ _ _)
    (by show Tr.get (Tr.set _ st.nxt _) st.nxt = _; rw [Tr.get_set, if_pos rfl]) (by show n * es + new.length ≤ (n + m) * es; rw [hlen, Nat.add_mul]; exact Nat.le_refl _) (hr.mono hle) rfl
    (by show Tr.get (Tr.set _ st.nxt _) st.nxt = _; rw [Tr.get_set, if_pos rfl])
    (fun x hx => by
      show Tr.get (Tr.set _ st.nxt _) x = Tr.get (Tr.set _ st.nxt _) x
      rw [Tr.get_set, Tr.get_set, if_neg hx, if_neg hx]) rfl rfl rfl rfl (fun i v hv => ?_)
  have hv' : (wr new (n * es) cs0).get i = some v := hv
  rw [get_wr] at hv'
  by_cases hi : n * es ≤ i ∧ i < n * es + new.length
  · rw [if_pos hi] at hv'; exact .inl ⟨hi.1, hv'⟩
  · rw [if_neg hi] at hv'; exact .inr ⟨by omega, hv'⟩

/-- the block that an append leaves, where it makes a new row -/
theorem move_new (h : Rel T W ρ st w) {b n m es : Nat} {e : TypeId} {new : List V} {news : List Value} {cs0 : Tr V} {wf : Nat} {hd : Bool} {olds : List Value} {c : Array Value} (hlen : new.length = m * es) (hr : Rls ρ new news)
    (hol : olds.length = n * es) (hcs : c.size = n * es + m * es + (c.size - (n * es + m * es))) (hcl : (n + m) * es ≤ c.size) (hc : ∀ (j : Nat) (x : Value), (olds ++ news)[j]? = some x → c[j]? = some x)
    (hc0 : ∀ i v, cs0.get i = some v → i < (n + m) * es ∧ (i < n * es → ∃ x, olds[i]? = some x ∧ Rl ρ v x)) :
    Rel T W (ρ.put st.nxt ⟨w.heap.size, 0, c.size⟩) ⟨(st.heap.del b).set st.nxt ⟨wr new (n * es) cs0, (n + m) * es, wf, e, hd⟩, Nat.succ st.nxt⟩ (w.drew.alloc (.cells c e)) := by
  refine h.drew.alloc (b := st.nxt) (bl := ⟨wr new (n * es) cs0, (n + m) * es, wf, e, hd⟩) (c := c) (h.fresh st.nxt (Nat.le_refl _)).1 (glob_nxt h) (Nat.lt_succ_self _) (Nat.le_succ _)
    (by show Tr.get (Tr.set _ st.nxt _) st.nxt = _; rw [Tr.get_set, if_pos rfl])
    (fun x bx hne e1 => by
      have e' : ((st.heap.del b).set st.nxt ⟨wr new (n * es) cs0, (n + m) * es, wf, e, hd⟩).get x = some bx := e1
      rw [Tr.get_set, if_neg hne, Tr.get_del] at e'
      by_cases hx : x = b
      · rw [if_pos hx] at e'; cases e'
      · rw [if_neg hx] at e'; exact e')
    hcl (fun i v hv => ?_)
  have hv' : (wr new (n * es) cs0).get i = some v := hv
  have hnl := hr.length
  have hmul : (n + m) * es = n * es + m * es := Nat.add_mul _ _ _
  rw [get_wr] at hv'
  by_cases hi : n * es ≤ i ∧ i < n * es + new.length
  · rw [if_pos hi] at hv'
    obtain ⟨x, h1, h2⟩ := hr.get hv'
    refine ⟨by show i < (n + m) * es; omega, x, hc i x ?_, h2⟩
    rw [List.getElem?_append_right (by omega), hol]
    exact h1
  · rw [if_neg hi] at hv'
    obtain ⟨h1, h2⟩ := hc0 i v hv'
    obtain ⟨x, h3, h4⟩ := h2 (by omega)
    refine ⟨h1, x, hc i x ?_, h4⟩
    rw [List.getElem?_append_left (by omega)]
    exact h3

theorem appMove_some {e : TypeId} {b o n m es : Nat} {new : List V} {bl : Blk} {v : V} {st' : St} (h : appMove e st b o n m es new bl = some (.val v st')) :
    v = .slice st.nxt 0 (n + m) (n + m) es ∧ ∃ cs0 wf hd, st' = ⟨(st.heap.del b).set st.nxt ⟨wr new (n * es) cs0, (n + m) * es, wf, e, hd⟩, Nat.succ st.nxt⟩ ∧ bl.wf ≤ o + wf ∧ (hd = true → bl.hd = true ∧ o = 0) ∧
      ((o = 0 ∧ bl.n ≤ (n + m) * es ∧ cs0 = bl.cells) ∨ ∃ old, rd (n * es) bl.cells o = some old ∧ cs0 = wr old 0 .nil) := by
  have slow : appSlow e st b o n m es new bl = some (.val v st') → v = .slice st.nxt 0 (n + m) (n + m) es ∧ ∃ cs0 wf hd, st' = ⟨(st.heap.del b).set st.nxt ⟨wr new (n * es) cs0, (n + m) * es, wf, e, hd⟩, Nat.succ st.nxt⟩ ∧ bl.wf ≤ o + wf ∧ (hd = true → bl.hd = true ∧ o = 0) ∧
      ((o = 0 ∧ bl.n ≤ (n + m) * es ∧ cs0 = bl.cells) ∨ ∃ old, rd (n * es) bl.cells o = some old ∧ cs0 = wr old 0 .nil) := fun h => by
    obtain ⟨old, h1, h2⟩ := ob_some h
    cases h2
    exact ⟨rfl, wr old 0 .nil, bl.wf - o, false, rfl, by omega, (fun e => by cases e), .inr ⟨old, h1, rfl⟩⟩
  unfold appMove at h
  cases h1 : Nat.beq o 0 with
  | false => rw [h1, bi_f] at h; exact slow h
  | true =>
    rw [h1, bi_t] at h
    cases h2 : Nat.ble bl.n (Nat.mul (Nat.add n m) es) with
    | false => rw [h2, bi_f] at h; exact slow h
    | true =>
      rw [h2, bi_t] at h
      have ho := beq_t h1
      cases (show some (R.val (.slice st.nxt 0 (n + m) (n + m) es) ⟨(st.heap.del b).set st.nxt ⟨wr new (n * es) bl.cells, (n + m) * es, bl.wf, e, bl.hd⟩, Nat.succ st.nxt⟩) = some (.val v st') from h)
      exact ⟨rfl, bl.cells, bl.wf, bl.hd, rfl, by omega, fun e => ⟨e, ho⟩, .inl ⟨ho, ble_t h2, rfl⟩⟩

theorem appSl_ok (h : Rel T W ρ st w) {t tx ty e : TypeId} {i : TypeInfo} {z X : Value} {m : Nat} {new : List V} {news : List Value} {ei : TI} (hY : Yld P t tx ty e i z X m news w) (hs : i.size = ei.size) (hb : i.bytes = ei.bytes) (hzs : z.cells.size = i.size)
    (hr : Rls ρ new news) {b o n c es : Nat} {S : Value} (hS : Rl ρ (.slice b o n c es) S) {v : V} {st' : St} (hv : appSl T e ei st m new b o n c es = some (.val v st')) : Done P T W ρ st.nxt (Builtin.append_ #[t, tx] ty #[S, X]) w v st' := by
  obtain ⟨L, x, c2, hL, hx, hnc, hcc, hbd, rfl⟩ := slice_inv hS
  obtain ⟨h1, h2⟩ := bi_none hv
  have hes : es = i.size := by rw [hs]; exact beq_t h1
  have hlen := hr.length
  have hnl := hY.len
  rw [← hes] at hnl
  have hmul : (n + m) * es = n * es + m * es := Nat.add_mul _ _ _
  cases h3 : Nat.ble (Nat.add n m) c with
  | true =>
    rw [h3, bi_t] at h2
    obtain ⟨s1, h4, h5⟩ := ob_some h2
    cases h5
    have hle : n + m ≤ c := ble_t h3
    obtain ⟨bl, q1, q2, q3, q4, q5, -⟩ := store_some h4
    obtain ⟨hsh, hsz⟩ := h.shape b bl L q1 hL
    have hle2 : (n + m) * es ≤ c2 * es := Nat.mul_le_mul_right _ (by omega)
    obtain ⟨-, e2⟩ := storeCells_ok (P := P) h hL h4 hr
    have haddr : ∀ j, j < news.length → x + n * es + j = L.d + (o + n * es + j) := fun j hj => by
      have : c2 ≠ 0 := fun hz => by
        have : m = 0 := by omega
        subst this
        rw [hnl] at hj; omega
      have := hx.resolve_right this
      omega
    have hrun := hY.room L.r x n c2 (by omega) (fun j hj => by
      rw [← hes, haddr j hj]
      have := haddr j hj
      have q4' : o + n * es + new.length ≤ bl.n := q4
      exact cell_of_shape hsh (by omega)) (fun j hj => by
      rw [← hes, haddr j hj]
      have q3' : bl.wf ≤ o + n * es := q3
      exact h.free b bl L q1 hL (o + n * es + j) (by omega))
    rw [← hes] at hrun
    have hw : w.setCells L.r (x + n * es) news = w.setCells L.r (L.d + (o + n * es)) news := by
      rcases hx with q | q
      · rw [q, Nat.add_assoc]
      · have : m = 0 := by omega
        subst this
        have : news = [] := List.length_eq_zero_iff.1 (by rw [hnl]; simp)
        rw [this]; rfl
    rw [hw] at hrun
    exact ⟨_, _, ρ, hrun, Grow.same ρ (by rw [store_nxt h4]; exact Nat.le_refl _), e2, .slice b o (n + m) c es L x c2 hL hx (by omega) hcc hbd⟩
  | false =>
    rw [h3, bi_f] at h2
    have hgt : c < n + m := ble_f h3
    obtain ⟨h4, h5⟩ := bi_none h2
    obtain ⟨h6, h7⟩ := bi_none h5
    obtain ⟨bl, h8, h9⟩ := ob_some h7
    obtain ⟨h10, h11⟩ := none_bi h9
    obtain ⟨h12, h13⟩ := none_bi h11
    obtain ⟨h14, h15⟩ := bi_none h13
    have q1 : n + m ≤ 1099511627776 := ble_t h4
    have q2 : (n + m) * ei.bytes ≤ 1099511627776 := ble_t h6
    have q3 : T.globals ≤ b := blt_f h10
    have q4 : bl.wf ≤ o + n * es := blt_f h12
    have q5 : bl.ty = e := beq_t h14
    obtain ⟨rfl, cs0, wf, hd, rfl, h16, h17, h18⟩ := appMove_some h15
    obtain ⟨hsh, hsz⟩ := h.shape b bl L h8 hL
    have hf := (h.fresh st.nxt (Nat.le_refl _)).1
    have hcells : ∀ j u, cs0.get j = some u → j < (n + m) * es ∧ bl.cells.get (o + j) = some u := fun j u e1 => by
      rcases h18 with ⟨r1, r2, r3⟩ | ⟨old, r1, r2⟩
      · subst r3; subst r1
        have := (h.cells b bl L h8 hL j u e1).1
        exact ⟨by omega, by rw [Nat.zero_add]; exact e1⟩
      · subst r2
        rw [get_wr_nil] at e1
        obtain ⟨r3, r4⟩ := rd_some _ r1
        have hj := lt_of_get e1
        obtain ⟨u', r5, r6⟩ := r4 j (by omega)
        rw [e1] at r6; cases r6
        exact ⟨by omega, r5⟩
    by_cases hroom : n + m ≤ c2
    · have hc2 : c2 ≠ 0 := by omega
      have hx' := hx.resolve_right hc2
      subst hx'
      have hbd' := hbd hc2
      have hle2 : (n + m) * es ≤ c2 * es := Nat.mul_le_mul_right _ hroom
      have hrun := hY.room L.r (L.d + o) n c2 hroom (fun j hj => by
        rw [← hes]
        exact cell_of_shape hsh (by omega)) (fun j hj => by
        rw [← hes, show L.d + o + n * es + j = L.d + (o + n * es + j) by omega]
        exact h.free b bl L h8 hL _ (by omega))
      rw [← hes] at hrun
      have hrel := move_here h (new := new) (news := news) (n := n) (m := m) (es := es) (o := o) (cs0 := cs0) (wf := wf) (hd := hd) q3 hL h8 (by omega) h16 h17 (by omega) hr hcells
      rw [q5] at hrel
      exact ⟨_, _, _, hrun, Grow.put hf, hrel, .slice _ _ _ _ _ ⟨L.r, L.d + o, L.n⟩ (L.d + o) c2 (Map.put_same _ _ _) (.inl rfl) (Nat.le_refl _) hroom (fun _ => by simpa using hbd')⟩
    · have hxn : x + n * i.size ≤ L.n ∨ n = 0 := by
        by_cases hc2 : c2 = 0
        · exact .inr (by omega)
        · have hx' := hx.resolve_right hc2
          have hbd' := hbd hc2
          have hle2 : n * es ≤ c2 * es := Nat.mul_le_mul_right _ (by omega)
          rw [← hes]
          exact .inl (by omega)
      have holds : ∃ olds : List Value, olds.length = n * i.size ∧ (∀ j, j < n * i.size → w.cell? ⟨L.r, x + j, none⟩ = olds[j]?) ∧ (Builtin.firstCells i.size n (.slice (some ⟨L.r, x, none⟩) n c2)).run P w.drew = .ok olds.toArray w.drew := by
        rcases hxn with q | q
        · exact olds_run hsh x n i.size n c2 q
        · subst q
          exact ⟨[], by simp, fun j hj => by omega, run_firstCells_some (P := P) w.drew i.size 0 _ 0 c2 [] (by simp) (fun j u e => by simp at e)⟩
      obtain ⟨olds, o1, o2, o3⟩ := holds
      have hrun := hY.grow (some ⟨L.r, x, none⟩) n c2 olds o3 (by omega) (by omega) (growslice_fits (by omega) (by rw [hb]; omega))
      have hge := grownCap_ge w (n + m) c2 e
      generalize hc : (olds ++ news).toArray ++ Builtin.zeroCells z.cells (grownCap w (n + m) c2 e - (n + m)) = arr at hrun
      rw [← hes] at o1 o2
      have hsz2 : arr.size = grownCap w (n + m) c2 e * es := by
        rw [← hc]
        simp only [Builtin.zeroCells, Array.size_append, List.size_toArray, List.length_append, Array.size_map, Array.size_range, o1, hnl, hzs, ← hes]
        rw [← Nat.add_mul, ← Nat.add_mul]; congr 1; omega
      have hle3 : (n + m) * es ≤ arr.size := by rw [hsz2]; exact Nat.mul_le_mul_right _ hge
      have hrel := move_new h (b := b) (e := e) (new := new) (news := news) (n := n) (m := m) (es := es) (cs0 := cs0) (wf := wf) (hd := hd) (olds := olds) (c := arr) (by omega) hr o1 (by omega) hle3 (fun j y e1 => by
          rw [← hc, Array.getElem?_append_left (by simpa using lt_of_get e1)]
          simpa using e1) (fun j u e1 => by
          obtain ⟨r1, r2⟩ := hcells j u e1
          refine ⟨r1, fun hj => ?_⟩
          obtain ⟨-, y, r3, r4⟩ := h.cells b bl L h8 hL (o + j) u r2
          have hc2 : c2 ≠ 0 := fun hz => by
            have : n = 0 := by omega
            subst this; omega
          have hx' := hx.resolve_right hc2
          refine ⟨y, ?_, r4⟩
          rw [← o2 j hj, hx', ← r3]
          congr 2
          omega)
      exact ⟨_, _, _, hrun, Grow.put hf, hrel, .slice _ _ _ _ _ ⟨w.heap.size, 0, arr.size⟩ 0 _ (Map.put_same _ _ _) (.inl rfl) (Nat.le_refl _) hge (fun _ => by simp [hsz2])⟩
end
end Ev
end Go.Proofs.YtodegmphcjgipaaGreatDoor
/-! append, clear and copy, from their arguments. -/
namespace Go.Proofs.YtodegmphcjgipaaGreatDoor
namespace Ev
open Go Go.RowKit

section
variable {P : Program} {T : Tab} {W : Base} {ρ : Map} {st : St} {w : World}

theorem zeros_rl {z : List V} {zs : Array Value} (hz : Rls ρ z zs.toList) (n : Nat) : Rls ρ (rep z n) (Builtin.zeroCells zs n).toList := by
  have hl := hz.length
  have hl' : z.length = zs.size := by simpa using hl
  by_cases h0 : n * z.length = 0
  · have h1 : rep z n = [] := List.length_eq_zero_iff.1 (by rw [rep_len, h0])
    have h2 : (Builtin.zeroCells zs n).toList = [] := List.length_eq_zero_iff.1 (by simp [Builtin.zeroCells, ← hl', h0])
    rw [h1, h2]; exact .nil
  · have := rep_rl hz n (by omega)
    rw [hl'] at this
    exact this

theorem append_ok (H : Tys P T) (h : Rel T W ρ st w) {at_ : Array TypeId} {args : List V} {xs : Array Value} (hr : Rls ρ args xs.toList) {v : V} {st' : St} (hv : bAppend T at_.toList args st = .val v st') (ty : TypeId) :
    Done P T W ρ st.nxt (Builtin.append_ at_ ty xs) w v st' := by
  have h0 := rr_val hv (by intro e; cases e)
  obtain ⟨t, h1, h2⟩ := ob_some h0
  obtain ⟨tx, h3, h4⟩ := ob_some h2
  obtain ⟨s, h5, h6⟩ := ob_some h4
  obtain ⟨x, h7, h8⟩ := ob_some h6
  obtain ⟨si, h9, h10⟩ := ty_some h8
  obtain ⟨e, h11, h12⟩ := TD.onSlice_some h10
  obtain ⟨ei, h13, h14⟩ := ty_some h12
  obtain ⟨xi, h15, h16⟩ := ty_some h14
  obtain ⟨S, hS, hsS⟩ := arg_ok hr h5
  obtain ⟨X, hX, hxX⟩ := arg_ok hr h7
  rw [append_two (type_ok h1) (type_ok h3) hS hX]
  obtain ⟨u, hu, hu'⟩ := und_of (H.ty t si h9) h11
  subst hu'
  have oke := H.ty e ei h13
  obtain ⟨i, hi1, hi2, hi3, z, hz1, hz2⟩ := oke.info
  have hzs : z.cells.size = i.size := by
    have := (hz2 ρ).length
    rw [oke.len] at this
    simp at this
    omega
  -- what is appended
  have main : ∀ m new, bi (Nat.beq (len new) (Nat.mul m ei.size)) (bi (ones new) (appV s T e ei st m new) none) none = some (.val v st') → (∀ (_ : new.length = m * ei.size) (_ : ones new = true), ∃ news, Rls ρ new news ∧ Yld P t tx ty e i z X m news w) →
      Done P T W ρ st.nxt (Builtin.append_ #[t, tx] ty #[S, X]) w v st' := fun m new q hy => by
    obtain ⟨q1, q2⟩ := bi_none q
    obtain ⟨q3, q4⟩ := bi_none q2
    have q1' := beq_t q1
    rw [len_eq] at q1'
    obtain ⟨news, hn, hY⟩ := hy q1' q3
    cases s with
    | slice b o n c es => exact appSl_ok h hY hi2 hi3 hzs hn hsS q4
    | nils =>
      cases hsS
      exact appNil_ok h hY hi2 hi3 hzs hn q4
    | _ => cases (show none = some (R.val v st') from q4)
  cases hint : isIntT xi.d with
  | true =>
    obtain ⟨k, hk⟩ : ∃ k, xi.d = .int k := by
      cases hd : xi.d <;> rw [hd] at hint <;> first
        | exact ⟨_, rfl⟩
        | (cases hint; done)
    obtain ⟨u2, hu2, hu2'⟩ := und_of (H.ty tx xi h15) hk
    subst hu2'
    have h17 : x.onIx (fun n => bi (Nat.ble n maxCells) (bi (Nat.ble (Nat.mul n ei.bytes) maxCells) (bi (Nat.beq (len (rep ei.zero n)) (Nat.mul n ei.size)) (bi (ones (rep ei.zero n)) (appV s T e ei st n (rep ei.zero n)) none) none) none) none) = some (.val v st') := by
      unfold many at h16; rw [hint, bi_t] at h16; exact h16
    obtain ⟨k', n, rfl, h18⟩ := V.onIx_some h17
    obtain ⟨q1, h19⟩ := bi_none h18
    obtain ⟨q2, h20⟩ := bi_none h19
    refine main n _ h20 fun e1 e2 => ⟨(Builtin.zeroCells z.cells n).toList, zeros_rl (hz2 ρ) n, ?_⟩
    have := int_inv hxX
    subst this
    exact yld_zeros hu hu2 hi1 hz1 hzs (ble_t q1) (by rw [hi3]; exact ble_t q2) ((zeros_rl (hz2 ρ) n).ones e2)
  | false =>
    have h17 : bi (bi (Nat.beq (kindT xi.d) 2) true (isStr xi.d)) (ob (lenV x) fun n => ob (contents st x n) fun c => bi (Nat.beq (len c) (Nat.mul n ei.size)) (bi (ones c) (appV s T e ei st n c) none) none) none = some (.val v st') := by
      unfold many at h16; rw [hint, bi_f] at h16; exact h16
    obtain ⟨q1, h18⟩ := bi_none h17
    obtain ⟨m, q2, h19⟩ := ob_some h18
    obtain ⟨c, q3, h20⟩ := ob_some h19
    refine main m c h20 fun e1 e2 => ?_
    obtain ⟨news, hn, hs⟩ := src_ok H h (size := i.size) h15 q1 hxX q2 q3 (by rw [hi2]; exact e1) e2
    exact ⟨news, hn, yld_src hu hi1 hz1 hs⟩

theorem clear_two {at_ : Array TypeId} {xs : Array Value} {t : TypeId} {x : Value} (h0 : at_[0]? = some t) (h1 : xs[0]? = some x) (ty : TypeId) : Builtin.clear_ at_ ty xs = Builtin.clear_ #[t] ty #[x] := by
  unfold Builtin.clear_
  simp only [h0, h1]
  rfl
theorem clear_ok (H : Tys P T) (h : Rel T W ρ st w) {at_ : Array TypeId} {args : List V} {xs : Array Value} (hr : Rls ρ args xs.toList) {v : V} {st' : St} (hv : bClear T at_.toList args st = .val v st') (t' : TypeId) :
    Done P T W ρ st.nxt (Builtin.clear_ at_ t' xs) w v st' := by
  obtain ⟨h0, rfl⟩ := rs_val hv
  obtain ⟨t, h1, h2⟩ := ob_some h0
  obtain ⟨x, h3, h4⟩ := ob_some h2
  obtain ⟨X, hX, hxX⟩ := arg_ok hr h3
  rw [clear_two (type_ok h1) hX]
  cases x with
  | slice b o n c es =>
    obtain ⟨ti, h5, h6⟩ := ty_some (show ty T t _ = some st' from h4)
    obtain ⟨e, h7, h8⟩ := TD.onSlice_some h6
    obtain ⟨ei, h9, h10⟩ := ty_some h8
    obtain ⟨L, y, c2, hL, hy, hnc, hcc, hb, rfl⟩ := slice_inv hxX
    obtain ⟨u, hu, hu'⟩ := und_of (H.ty t ti h5) h7
    subst hu'
    by_cases hn : n = 0
    · subst hn
      have h11 : bi (Nat.beq 0 0) (some st) (bi (Nat.beq es ei.size) (st.store T b o (rep ei.zero 0)) none) = some st' := h10
      rw [show Nat.beq 0 0 = true from rfl, bi_t] at h11
      cases h11
      exact ⟨.tuple #[], w, ρ, by simp [Builtin.clear_, run_underlying hu], Grow.refl _ ρ, h, .tup _ _ .nil⟩
    · rw [beq_ne hn, bi_f] at h10
      obtain ⟨h11, h12⟩ := bi_none h10
      obtain ⟨z, hz1, hz2⟩ := (H.ty e ei h9).zero (w := w)
      obtain ⟨e1, e2⟩ := storeCells_ok (P := P) h hL h12 (zeros_rl (hz2 ρ) n)
      have hy' : y = L.d + o := hy.resolve_right (by omega)
      subst hy'
      refine ⟨.tuple #[], _, ρ, ?_, Grow.same ρ (by rw [store_nxt h12]; exact Nat.le_refl _), e2, .tup _ _ .nil⟩
      obtain ⟨k, rfl⟩ : ∃ k, n = k + 1 := ⟨n - 1, by omega⟩
      simp [Builtin.clear_, run_underlying hu, hz1, e1]
  | nils =>
    obtain ⟨ti, h5, h6⟩ := ty_some (show ty T t _ = some st' from h4)
    cases h6
    cases hxX
    obtain ⟨u, hu, -⟩ := (H.ty t ti h5).und
    exact ⟨.tuple #[], w, ρ, by simp [Builtin.clear_, run_underlying hu], Grow.refl _ ρ, h, .tup _ _ .nil⟩
  | _ => cases (show none = some st' from h4)

theorem copy_ok (H : Tys P T) (h : Rel T W ρ st w) {at_ : Array TypeId} {args : List V} {xs : Array Value} (hr : Rls ρ args xs.toList) {v : V} {st' : St} (hv : bCopy T at_.toList args st = .val v st') (t' : TypeId) :
    Done P T W ρ st.nxt (Builtin.copy_ at_ t' xs) w v st' := by
  have h0 := rr_val hv (by intro e; cases e)
  obtain ⟨t, h1, h2⟩ := ob_some h0
  obtain ⟨d, h3, h4⟩ := ob_some h2
  obtain ⟨x, h5, h6⟩ := ob_some h4
  obtain ⟨ti, h7, h8⟩ := ty_some h6
  obtain ⟨e, h9, h10⟩ := TD.onSlice_some h8
  obtain ⟨ei, h11, h12⟩ := ty_some h10
  obtain ⟨b, o, n, c, es, rfl, h13⟩ := V.onSlice_some h12
  obtain ⟨m, h14, h15⟩ := ob_some h13
  obtain ⟨cs, h16, h17⟩ := ob_some h15
  obtain ⟨h18, h19⟩ := bi_none h17
  have hcl := beq_t h18
  rw [len_eq] at hcl
  obtain ⟨D, hD, hdD⟩ := arg_ok hr h3
  obtain ⟨X, hX, hxX⟩ := arg_ok hr h5
  obtain ⟨L, y, c2, hL, hy, hnc, hcc, hb, rfl⟩ := slice_inv hdD
  obtain ⟨u, hu, hu'⟩ := und_of (H.ty t ti h7) h9
  subst hu'
  have hs := (H.ty e ei h11).size (w := w)
  obtain ⟨hlen, vs, e1, e2, -⟩ := contents_ok (P := P) h (n := Nat.min m n) (size := ei.size) hxX h14 (Nat.min_le_left _ _) h16 hcl
  have ht := type_ok h1
  unfold Done Builtin.copy_
  simp only [ht, hD, hX]
  cases hz : Nat.beq (Nat.min m n) 0 with
  | true =>
    rw [hz, bi_t] at h19
    cases h19
    have hz' := beq_t hz
    have hvs : vs = [] := by
      have := e1.length
      rw [hcl, hz'] at this
      exact List.length_eq_zero_iff.1 (by simpa using this.symm)
    subst hvs
    rw [hz'] at e2
    refine ⟨goInt 0, w, ρ, ?_, Grow.refl _ ρ, h, .int _ _⟩
    have hz2 : min m n = 0 := hz'
    simp [run_underlying hu, hlen, hz2, hs, e2, storeCells]
  | false =>
    rw [hz, bi_f] at h19
    obtain ⟨s1, h20, h21⟩ := ob_some h19
    cases h21
    have hz' := beq_f hz
    have hle : Nat.min m n ≤ n := Nat.min_le_right _ _
    have hy' : y = L.d + o := hy.resolve_right (by omega)
    subst hy'
    obtain ⟨e3, e4⟩ := storeCells_ok (P := P) h hL h20 e1
    refine ⟨goInt (Nat.min m n), _, ρ, ?_, Grow.same ρ (by rw [store_nxt h20]; exact Nat.le_refl _), e4, .int _ _⟩
    have e2' : (Builtin.firstCells ei.size (min m n) X).run P w = .ok vs.toArray w := e2
    simp [run_underlying hu, hlen, hs, e2', e3]

theorem xs_one {args : List V} {xs : Array Value} (hr : Rls ρ args xs.toList) (hn : len args = 1) {x : Value} (hx : xs[0]? = some x) : xs = #[x] := by
  have := hr.length
  rw [← len_eq, hn] at this
  apply Array.ext'
  have hs : xs.toList[0]? = some x := by simpa using hx
  generalize hl : xs.toList = l at this hs
  match l, this, hs with
  | [y], _, hs => simp at hs; simp [hs]
theorem xs_two {args : List V} {xs : Array Value} (hr : Rls ρ args xs.toList) (hn : len args = 2) {x y : Value} (hx : xs[0]? = some x) (hy : xs[1]? = some y) : xs = #[x, y] := by
  have := hr.length
  rw [← len_eq, hn] at this
  apply Array.ext'
  have hs : xs.toList[0]? = some x := by simpa using hx
  have hs1 : xs.toList[1]? = some y := by simpa using hy
  generalize hl : xs.toList = l at this hs hs1
  match l, this, hs, hs1 with
  | [a, b], _, hs, hs1 => simp at hs hs1; simp [hs, hs1]

theorem sliceData_ok {at_ : Array TypeId} {args : List V} {xs : Array Value} (hr : Rls ρ args xs.toList) {v : V} {st' : St} (hv : bSliceData T at_.toList args st = .val v st') (t' : TypeId) :
    st' = st ∧ ∃ y, (Builtin.unsafeSliceData_ at_ t' xs).run P w = .ok y w ∧ Rl ρ v y := by
  obtain ⟨h0, rfl⟩ := rv_val hv
  refine ⟨rfl, ?_⟩
  obtain ⟨h1, h2⟩ := bi_none h0
  obtain ⟨x, h3, h4⟩ := ob_some h2
  obtain ⟨X, hX, hxX⟩ := arg_ok hr h3
  rw [xs_one hr (beq_t h1) hX]
  cases x with
  | slice b o n c es =>
    obtain ⟨h5, h6⟩ := none_bi (show bi (Nat.beq c 0) none (some (V.ptr b o)) = some v from h4)
    cases h6
    obtain ⟨L, y, c2, hL, hy, hnc, hcc, hb, rfl⟩ := slice_inv hxX
    have hc := beq_f h5
    have hy' : y = L.d + o := hy.resolve_right (by omega)
    subst hy'
    exact ⟨_, Lib.run_unsafeSliceData_row w at_ t' _ n c2 (by omega), .ptr b o L hL⟩
  | nils =>
    cases (show some V.nilp = some v from h4)
    cases hxX
    exact ⟨_, Lib.run_unsafeSliceData_nil w at_ t' 0 0, .nilp⟩
  | _ => cases (show none = some v from h4)

theorem i64?_some {β : Type} {v : V} {k : Nat → Option β} {r : β} (h : i64? v k = some r) : ∃ m : Nat, v = .int .i64 (m : Int) ∧ k m = some r := by
  obtain ⟨i, n, rfl, h2⟩ := V.onInt_some h
  obtain ⟨h3, h4⟩ := bi_none h2
  obtain ⟨m, rfl, h5⟩ := nat?_some h4
  rw [keq_t h3]
  exact ⟨m, rfl, h5⟩
theorem two_types {at_ : Array TypeId} {t : TypeId} (hl : Nat.beq (len at_.toList) 2 = true) (h : lget at_.toList 0 = some t) : ∃ it, at_ = #[t, it] := by
  obtain ⟨l⟩ := at_
  rw [len_eq] at hl
  rw [lget_eq] at h
  match l, beq_t hl with
  | [x, y], _ =>
    simp at h
    subst h
    exact ⟨y, rfl⟩
theorem string_ok (H : Tys P T) (h : Rel T W ρ st w) {at_ : Array TypeId} {args : List V} {xs : Array Value} (hr : Rls ρ args xs.toList) {v : V} {st' : St} (hv : bString T at_.toList args st = .val v st') (t' : TypeId) :
    Done P T W ρ st.nxt (Builtin.unsafeString_ at_ t' xs) w v st' := by
  have h0 := rr_val hv (by intro e; cases e)
  obtain ⟨h1, h2⟩ := bi_none h0
  obtain ⟨hal, h2⟩ := bi_none h2
  obtain ⟨t, h3, h4⟩ := ob_some h2
  obtain ⟨p, h5, h6⟩ := ob_some h4
  obtain ⟨m, h7, h8⟩ := ob_some h6
  obtain ⟨n, rfl, h9⟩ := i64?_some h8
  obtain ⟨p', hp1, hp2⟩ := arg_ok hr h5
  obtain ⟨m', hm1, hm2⟩ := arg_ok hr h7
  rw [xs_two hr (beq_t h1) hp1 hm1]
  obtain ⟨it, rfl⟩ := two_types hal h3
  have := int_inv hm2
  subst this
  by_cases hn : n = 0
  · subst hn
    rw [show Nat.beq 0 0 = true from rfl, bi_t] at h9
    obtain ⟨h10, h11⟩ := bi_none h9
    cases h11
    have hz := fun q => Lib.run_unsafeString_none (P := P) w t it t' q
    have hR : Rl ρ (.str []) (.string .empty) := .str .empty
    rcases nk1 (beq_t h10) with rfl | ⟨b, o, rfl⟩
    · cases hp2
      exact ⟨_, w, ρ, hz _, Grow.refl _ ρ, h, hR⟩
    · cases hp2 with
      | ptr _ _ L hL => exact ⟨_, w, ρ, hz _, Grow.refl _ ρ, h, hR⟩
  · rw [beq_ne hn, bi_f] at h9
    obtain ⟨b, o, rfl, h9⟩ := V.onPtr_some h9
    obtain ⟨ho, h10⟩ := bi_none h9
    have := beq_t ho
    subst this
    obtain ⟨ti, h11, h12⟩ := ty_some h10
    obtain ⟨e, h13, h14⟩ := TD.onPtrT_some h12
    obtain ⟨ei, h15, h16⟩ := ty_some h14
    obtain ⟨h17, h18⟩ := bi_none h16
    obtain ⟨h19, h20⟩ := bi_none h18
    obtain ⟨bl, h21, h22⟩ := ob_some h20
    obtain ⟨hhd, h22⟩ := bi_none h22
    obtain ⟨l, h23, h24⟩ := ob_some h22
    obtain ⟨bs, h25, h26⟩ := ob_some h24
    have h27 := Option.some.inj h26
    have hgo : ∃ (_ : T.globals ≤ b) (_ : bl.ty = e) (_ : n ≤ 1099511627776), v = .str bs ∧ st' = ⟨st.heap.set b ⟨bl.cells, bl.n, bi (Nat.ble bl.wf (Nat.add 0 n)) (Nat.add 0 n) bl.wf, bl.ty, bl.hd⟩, st.nxt⟩ := by
      unfold strGo at h27
      cases q1 : Nat.blt b T.globals with
      | true => rw [q1, bi_t] at h27; cases h27
      | false =>
        rw [q1, bi_f] at h27
        cases q2 : Nat.beq bl.ty e with
        | false => rw [q2, bi_f] at h27; cases h27
        | true =>
          rw [q2, bi_t] at h27
          cases q3 : Nat.ble n maxCells with
          | false => rw [q3, bi_f] at h27; cases h27
          | true =>
            rw [q3, bi_t] at h27
            cases h27
            exact ⟨blt_f q1, beq_t q2, ble_t q3, rfl, rfl⟩
    obtain ⟨g1, g2, g3, rfl, rfl⟩ := hgo
    obtain ⟨L, hL, hx⟩ := ptr_inv hp2
    have hd0 := h.head b bl L h21 hL hhd
    rw [hd0] at hx
    subst hx
    obtain ⟨u, hu, hu'⟩ := und_of (H.ty t ti h11) h13
    subst hu'
    obtain ⟨hsh, hsz⟩ := h.shape b bl L h21 hL
    obtain ⟨ys, e1, e2, e3, e4⟩ := h.read h21 hL h23
    obtain ⟨e5, e6, e7⟩ := vBytes_some h25 e2
    have hbl : bs.length = n := by omega
    have e4' := e4 (by omega)
    have hrun := Lib.run_unsafeString_row (P := P) w t it t' e hu (by rw [cellsOf_eq (H.ty e ei h15)]; exact beq_t h19) L.r L.n (by rw [← g2]; exact hsh) (bs.map UInt8.ofNat) (by
      intro q
      rw [List.map_eq_nil_iff] at q
      rw [q] at hbl
      exact hn hbl.symm) (by simp; omega) (by simp; omega) (fun j y hj => by
      rw [add_none _ rfl]
      simp at hj
      obtain ⟨q, hq, rfl⟩ := hj
      have := e3 j _ (e6 j q hq)
      rw [hd0] at this
      rw [this]
      have hlt := e7 q (List.mem_of_getElem? hq)
      simp [UInt8.toNat_ofNat', Nat.mod_eq_of_lt hlt])
    have hll : (bs.map UInt8.ofNat).length = n := by simp [hbl]
    rw [hll] at hrun
    rw [show (0 : Nat) + 0 = 0 from rfl]
    refine ⟨_, _, ρ, hrun, Grow.refl _ ρ, ?_, bytes_rl e7 _ rfl⟩
    have hwf : bl.wf ≤ bi (Nat.ble bl.wf (Nat.add 0 n)) (Nat.add 0 n) bl.wf ∧ 0 + n ≤ bi (Nat.ble bl.wf (Nat.add 0 n)) (Nat.add 0 n) bl.wf := by
      cases q : Nat.ble bl.wf (Nat.add 0 n) with
      | true =>
        have : bl.wf ≤ 0 + n := ble_t q
        exact ⟨this, Nat.le_refl _⟩
      | false =>
        have : 0 + n < bl.wf := ble_f q
        exact ⟨Nat.le_refl _, by show 0 + n ≤ bl.wf; omega⟩
    have hfz : Rel T W ρ ⟨st.heap.set b ⟨bl.cells, bl.n, bi (Nat.ble bl.wf (Nat.add 0 n)) (Nat.add 0 n) bl.wf, bl.ty, bl.hd⟩, st.nxt⟩ (w.freeze ⟨L.r, L.d + 0, none⟩ n) := h.freeze (bl' := ⟨bl.cells, bl.n, bi (Nat.ble bl.wf (Nat.add 0 n)) (Nat.add 0 n) bl.wf, bl.ty, bl.hd⟩) g1 hL h21 hn rfl (by show Tr.get (Tr.set _ b _) b = _; rw [Tr.get_set, if_pos rfl]) (fun x hx => by show Tr.get (Tr.set _ b _) x = _; rw [Tr.get_set, if_neg hx]) rfl rfl rfl rfl hwf.1 hwf.2
    rw [hd0] at hfz
    exact hfz
end
end Ev
end Go.Proofs.YtodegmphcjgipaaGreatDoor
/-! One operation: what the evaluator gives for it is what the model does. -/
namespace Go.Proofs.YtodegmphcjgipaaGreatDoor
namespace Ev
open Go Go.RowKit

/-- what is known of a frame -/
structure Fr (ρ : Map) (n : Nat) (fr : F) (a : Act) (D : List Deferred := []) : Prop where
  tmps : ∀ t v, fr.get t = some v → ∃ x, a.tmps[t]? = some x ∧ Rl ρ v x
  size : a.tmps.size = n
  defers : a.defers = D

/-- the functions, the functions of the library and the methods of the program are as the evaluator's -/
structure Funs (P : Program) (T : Tab) : Prop where
  body : ∀ f fn, T.funcs.get f = some fn → P.funcs[f]? = some fn ∧ fn.body.isSome = true ∧ (fn.name == "runtime.NumGoroutine") = false
  ext : ∀ f e, T.exts.get f = some e → ∀ (ρ : Map) args st v st' (xs : Array Value) (w : World), extGo e args st = .val v st' → Rls ρ args xs.toList → ∃ x, (callFunc f xs).run P w = .ok (.value x) w ∧ Rl ρ v x
  meth : ∀ t m f, T.meths t m = some f → ∀ x w, (method (P.types.size + Made.depth) t x m).run P w = .ok (f, x) w

section
variable {P : Program} {T : Tab} {W : Base} {ρ : Map} {st : St} {w : World}

theorem ofVal_rl (ρ : Map) {v : Value} {u : V} (h : ofVal v = some u) : Rl ρ u v := by
  unfold ofVal at h
  split at h <;> first
    | (cases h
       first
        | exact .bool _
        | exact .int _ _
        | exact .str _
        | exact .nilp
        | exact .nils
        | exact .nilf
        | exact .nili)
    | (cases h; done)
theorem Fr.mono {n : Nat} {fr : F} {a : Act} {D : List Deferred} (h : Fr ρ n fr a D) {σ : Map} (hs : ρ.le σ) : Fr σ n fr a D :=
  ⟨fun t v e => let ⟨x, h1, h2⟩ := h.tmps t v e; ⟨x, h1, h2.mono hs⟩, h.size, h.defers⟩
theorem opd_all {n : Nat} {fr : F} {a : Act} {D : List Deferred} (hF : Fr ρ n fr a D) (h : Rel T W ρ st w) (xs : List Operand) : Opd T ρ fr a xs := by
  intro x _ v hv
  cases x with
  | tmp t =>
    obtain ⟨y, h1, h2⟩ := hF.tmps t v hv
    show Rl ρ v (a.tmps.getD t undef)
    rw [show a.tmps.getD t undef = y by simp [Array.getD_eq_getD_getElem?, h1]]
    exact h2
  | const u => exact ofVal_rl ρ hv
  | global g =>
    obtain ⟨h1, h2⟩ := bi_none (show bi (Nat.blt g T.globals) (some (V.ptr g 0)) none = some v from hv)
    cases h2
    obtain ⟨m, hm⟩ := h.glob g (blt_t h1)
    exact .ptr g 0 ⟨g, 0, m⟩ hm
  | func f =>
    cases (show some (V.func f [] []) = some v from hv)
    exact .func f [] [] #[] #[] .nil .nil

/-- what is known of an operation's operands -/
def Knows (T : Tab) (ρ : Map) (fr : F) (a : Act) (o : Op) : Prop := Opd T ρ fr a o.operands.toList
theorem Knows.sub {fr : F} {a : Act} {o o' : Op} (h : Knows T ρ fr a o) (e : o = o') {ys : List Operand} (hs : ∀ x ∈ ys, x ∈ o'.operands.toList) : Opd T ρ fr a ys := fun x hx v hv => h x (e ▸ hs x hx) v hv
theorem Fr.knows {n : Nat} {fr : F} {a : Act} {D : List Deferred} (hF : Fr ρ n fr a D) (h : Rel T W ρ st w) (o : Op) : Knows T ρ fr a o := opd_all hF h _

theorem Makes.acts (h : Rel T W ρ st w) {o : Oper} {a : Act} {x : New} (hm : Makes P ρ o a x) {v : V} {st' : St} (hv : newR st (some x) = .val v st') : Acts P T W ρ st.nxt o a w v st' := by
  obtain ⟨c, h1, h2, h3⟩ := hm.run
  have hg := glob_nxt h
  have hn := new_ok (t := x.ty) h hg h1
  cases (show R.val (x.v st.nxt) (st.new x.ty x.cells) = .val v st' from hv)
  refine ⟨_, _, _, .inl (h3 w), Grow.put (h.fresh st.nxt (Nat.le_refl _)).1, hn, New.rl h2 (Map.put_same _ _ _)⟩
theorem newR_val {x : Option New} {v : V} {st' : St} (h : newR st x = .val v st') : ∃ y, x = some y := by
  cases x with
  | none => cases (show R.fail = R.val v st' from h)
  | some y => exact ⟨y, rfl⟩
theorem newR_call {x : Option New} {f : FuncId} {args : List V} {st' : St} (h : newR st x = .call f args st') : False := by
  cases x with
  | none => cases (show R.fail = R.call f args st' from h)
  | some y => cases (show R.val _ _ = R.call f args st' from h)
theorem rs_call {x : Option St} {f : FuncId} {args : List V} {st' : St} (h : rs x = .call f args st') : False := by
  cases x with
  | none => cases (show R.fail = R.call f args st' from h)
  | some y => cases (show R.val _ _ = R.call f args st' from h)

theorem run_callFunc_enter {f : FuncId} {fn : Func} (hf : P.funcs[f]? = some fn) (hb : fn.body.isSome = true) (hn : (fn.name == "runtime.NumGoroutine") = false) (xs : Array Value) (w : World) : (callFunc f xs).run P w = .ok (.enter f xs) w := by
  have hn' : fn.name ≠ "runtime.NumGoroutine" := by simpa using hn
  have hb' : fn.body ≠ none := fun e => by rw [e] at hb; cases hb
  simp [callFunc, hf, hn', hb']
theorem func_val (HF : Funs P T) {f : FuncId} {args : List V} {xs : Array Value} {v : V} {st' : St} (h : evFunc T f args st = .val v st') (hr : Rls ρ args xs.toList) : st' = st ∧ ∃ x, (callFunc f xs).run P w = .ok (.value x) w ∧ Rl ρ v x := by
  unfold evFunc at h
  cases he : T.exts.get f with
  | none =>
    rw [he] at h
    cases hf : T.funcs.get f with
    | none => rw [hf] at h; cases (show R.fail = R.val v st' from h)
    | some fn => rw [hf] at h; cases (show R.call f args st = R.val v st' from h)
  | some e =>
    rw [he] at h
    have h' : extGo e args st = .val v st' := h
    exact ⟨(rv_val (show rv st _ = .val v st' from h')).2, HF.ext f e he ρ args st v st' xs w h' hr⟩
theorem func_call (HF : Funs P T) {f g : FuncId} {args args' : List V} {xs : Array Value} {st' : St} (h : evFunc T f args st = .call g args' st') : g = f ∧ args' = args ∧ st' = st ∧ (callFunc f xs).run P w = .ok (.enter f xs) w := by
  unfold evFunc at h
  cases he : T.exts.get f with
  | none =>
    rw [he] at h
    cases hf : T.funcs.get f with
    | none => rw [hf] at h; cases (show R.fail = R.call g args' st' from h)
    | some fn =>
      rw [hf] at h
      cases (show R.call f args st = R.call g args' st' from h)
      obtain ⟨h1, h2, h3⟩ := HF.body f fn hf
      exact ⟨rfl, rfl, rfl, run_callFunc_enter h1 h2 h3 xs w⟩
  | some e =>
    rw [he] at h
    exact (rv_call (show rv st _ = .call g args' st' from h)).elim

/-- a call of a function or of a method -/
theorem callee_run {fr : F} {a : Act} (HF : Funs P T) {o : Oper} {c : Call} (ho : o.op = .call c) (hK : Knows T ρ fr a o.op) {args : List V} (ha : evOs c.args.toList T fr = some args) {r : R} (hr : evCallee c.callee c.argTypes.toList T fr args st = r) (hf : r ≠ .fail) (hb : ∀ b, c.callee ≠ .builtin b) :
    ∃ f vs xs, r = evFunc T f vs st ∧ Rls ρ vs xs.toList ∧ (execOp a.eval o).run P w = (callFunc f xs).run P w := by
  have hA : Rls ρ args (c.args.map a.eval).toList := args_ok (hK.sub ho (by simp [Op.operands, Call.operands]; exact fun x hx => .inr hx)) ha
  cases hc : c.callee with
  | builtin b => exact absurd hc (hb b)
  | value g =>
    rw [hc] at hr
    have h1 := rr_val (show rr (ob (evO g T fr) fun v => v.onFunc fun f a b => some (evFunc T f (Ev.app a (Ev.app args b)) st)) = r from hr) hf
    obtain ⟨v, h2, h3⟩ := ob_some h1
    obtain ⟨f, p, q, rfl, h4⟩ := V.onFunc_some h3
    have hg := (hK.sub ho (ys := [g]) (by simp [Op.operands, Call.operands, hc])) g (by simp) _ h2
    cases hg' : a.eval g with
    | func fn x y =>
      rw [hg'] at hg
      cases hg with
      | func _ _ _ _ _ hp hq =>
        refine ⟨f, _, x ++ c.args.map a.eval ++ y, (Option.some.inj h4).symm, ?_, ?_⟩
        · rw [app_eq, app_eq, ← List.append_assoc]
          simp only [Array.toList_append]
          exact (hp.app hA).app hq
        · rw [execOp, ho]
          simp [resolve, hc, hg', Deferred.ofValue, invoke]
    | _ => rw [hg'] at hg; cases hg
  | invoke g m =>
    rw [hc] at hr
    have h1 := rr_val (show rr (ob (evO g T fr) fun v => v.onIface fun t x => ob (T.meths t m) fun f => some (evFunc T f (x :: args) st)) = r from hr) hf
    obtain ⟨v, h2, h3⟩ := ob_some h1
    obtain ⟨t, x, rfl, h4⟩ := V.onIface_some h3
    obtain ⟨f, h5, h6⟩ := ob_some h4
    have hg := (hK.sub ho (ys := [g]) (by simp [Op.operands, Call.operands, hc])) g (by simp) _ h2
    cases hg' : a.eval g with
    | iface t' x' =>
      rw [hg'] at hg
      cases hg with
      | iface _ _ _ hx =>
        have hm := HF.meth t m f h5
        refine ⟨f, _, #[x'] ++ c.args.map a.eval, (Option.some.inj h6).symm, ?_, ?_⟩
        · simp only [Array.toList_append]
          exact .cons hx hA
        · have e0 : execOp a.eval o = (resolve a.eval c o.type >>= fun d => invoke d.target d.args) := by rw [execOp, ho]
          have he : resolve a.eval c o.type = pure { target := .fn (.method m) #[], args := #[a.eval g] ++ c.args.map a.eval } := by
            unfold resolve; rw [hc]
          rw [e0, he, hg']
          generalize c.args.map a.eval = A
          have hex : (#[Value.iface t x'] ++ A).extract 1 (#[Value.iface t x'] ++ A).size = A := by
            apply Array.ext'
            simp
          show (invoke (.fn (.method m) #[]) (#[Value.iface t x'] ++ A)).run P w = _
          simp only [invoke]
          rw [show ((#[Value.iface t x'] ++ A)[0]? : Option Value) = some (.iface t x') by
            rw [← Array.getElem?_toList]
            simp]
          simp only [hex]
          simp [callMethod, hm]
    | _ => rw [hg'] at hg; cases hg
end
end Ev
end Go.Proofs.YtodegmphcjgipaaGreatDoor
/-! Every operation. -/
namespace Go.Proofs.YtodegmphcjgipaaGreatDoor
namespace Ev
open Go Go.RowKit

section
variable {P : Program} {T : Tab} {W : Base} {ρ : Map} {st : St} {w : World}

theorem Done.acts {o : Oper} {a : Act} {s : Sem Value} {v : V} {st' : St} (he : (execOp a.eval o).run P w = (do pure (.value (← s)) : Sem Next).run P w) (h : Done P T W ρ st.nxt s w v st') : Acts P T W ρ st.nxt o a w v st' := by
  obtain ⟨x, w', ρ', h1, h2, h3, h4⟩ := h
  exact ⟨x, w', ρ', .inl (by rw [he]; simp [h1]), h2, h3, h4⟩
theorem keep_done (h : Rel T W ρ st w) {s : Sem Value} {v : V} {st' : St} (hs : st' = st ∧ ∃ y, s.run P w = .ok y w ∧ Rl ρ v y) : Done P T W ρ st.nxt s w v st' := by
  obtain ⟨rfl, y, h1, h2⟩ := hs
  exact ⟨y, w, ρ, h1, Grow.refl _ ρ, h, h2⟩

theorem builtin_val (H : Tys P T) (h : Rel T W ρ st w) {fr : F} {a : Act} {o : Oper} {c : Call} {b : Builtin} (ho : o.op = .call c) (hK : Knows T ρ fr a o.op) (hc : c.callee = .builtin b) {args : List V} (ha : evOs c.args.toList T fr = some args)
    {v : V} {st' : St} (hv : evBuiltin b T c.argTypes.toList args st = .val v st') : Acts P T W ρ st.nxt o a w v st' := by
  obtain ⟨cs, he⟩ := exec_builtin (P := P) ho hc a w
  have hA : Rls ρ args (c.args.map a.eval).toList := args_ok (hK.sub ho (by simp [Op.operands, Call.operands]; exact fun x hx => .inr hx)) ha
  cases b with
  | append => exact Done.acts he (append_ok H h hA hv o.type)
  | cap => exact Done.acts he (keep_done h (cap_ok H hA hv o.type))
  | clear => exact Done.acts he (clear_ok H h hA hv o.type)
  | copy => exact Done.acts he (copy_ok H h hA hv o.type)
  | len => exact Done.acts he (keep_done h (len_ok H hA hv o.type))
  | max => exact Done.acts he (keep_done h (max_ok (T := T) hA hv o.type))
  | min => exact Done.acts he (keep_done h (min_ok (T := T) hA hv o.type))
  | unsafeSliceData => exact Done.acts he (keep_done h (sliceData_ok (T := T) hA hv o.type))
  | unsafeString => exact Done.acts he (string_ok H h hA hv o.type)
  | _ => cases (show R.fail = R.val v st' from hv)

theorem noCall_val {x : R} {v : V} {st' : St} (h : noCall x = .val v st') : x = .val v st' := by
  cases x with
  | fail => cases (show R.fail = R.val v st' from h)
  | val => exact h
  | call => cases (show R.fail = R.val v st' from h)
theorem noCall_call {x : R} {f : FuncId} {args : List V} {st' : St} (h : noCall x = .call f args st') : False := by
  cases x with
  | fail => cases (show R.fail = R.call f args st' from h)
  | val => cases (show R.val _ _ = R.call f args st' from h)
  | call => cases (show R.fail = R.call f args st' from h)
theorem op_val (H : Tys P T) (HF : Funs P T) (h : Rel T W ρ st w) {fr : F} {a : Act} (o : Oper) (hK : Knows T ρ fr a o.op) {v : V} {st' : St} (hv : evOp o.op T fr st = .val v st') : Acts P T W ρ st.nxt o a w v st' := by
  have keep : ∀ {x : Option V}, rv st x = .val v st' → (x = some v → Gives P ρ o a w v) → Acts P T W ρ st.nxt o a w v st' := fun hx hg => by
    obtain ⟨h1, rfl⟩ := rv_val hx
    exact (hg h1).acts h
  have make : ∀ {x : Option New}, newR st x = .val v st' → (∀ y, x = some y → Makes P ρ o a y) → Acts P T W ρ st.nxt o a w v st' := fun hx hm => by
    obtain ⟨y, hy⟩ := newR_val hx
    rw [hy] at hx
    exact (hm y hy).acts h hx
  cases ho : o.op with
  | move x => rw [ho] at hv; exact keep (show rv st _ = _ from hv) (gives_move (.inl ho) (hK.sub ho (by simp [Op.operands])))
  | assign x => rw [ho] at hv; exact keep (show rv st _ = _ from hv) (gives_move (.inr ho) (hK.sub ho (by simp [Op.operands])))
  | pick c x y => rw [ho] at hv; exact keep (show rv st _ = _ from hv) (gives_pick ho (hK.sub ho (by simp [Op.operands])))
  | alloc e => rw [ho] at hv; exact make (show newR st (oAlloc e T fr) = _ from hv) (fun _ => makes_alloc H ho)
  | box e x => rw [ho] at hv; exact make (show newR st (oBox e x T fr) = _ from hv) (fun _ => makes_box ho (hK.sub ho (by simp [Op.operands])))
  | build t ps => rw [ho] at hv; exact keep (show rv st _ = _ from hv) (gives_build H ho (hK.sub ho (by simp [Op.operands])))
  | buildSlice t n ps => rw [ho] at hv; exact make (show newR st (oBuildSlice t n ps T fr) = _ from hv) (fun _ => makes_buildSlice H ho (hK.sub ho (by simp [Op.operands])))
  | load t x => rw [ho] at hv; exact keep (show rv st _ = _ from hv) (gives_load H h ho (hK.sub ho (by simp [Op.operands])))
  | store t x y => rw [ho] at hv; exact acts_store H h ho (hK.sub ho (by simp [Op.operands])) hv
  | nilCheck x => rw [ho] at hv; exact keep (show rv st _ = _ from hv) (gives_nilCheck ho (hK.sub ho (by simp [Op.operands])))
  | binOp op t x y z => rw [ho] at hv; exact keep (show rv st _ = _ from hv) (gives_bin H ho (hK.sub ho (by simp [Op.operands])))
  | unOp op t x => rw [ho] at hv; exact keep (show rv st _ = _ from hv) (gives_un ho (hK.sub ho (by simp [Op.operands])))
  | convert s d x => rw [ho] at hv; exact keep (show rv st _ = _ from hv) (gives_conv H h ho (hK.sub ho (by simp [Op.operands])))
  | makeInterface t x => rw [ho] at hv; exact keep (show rv st _ = _ from hv) (gives_mkIface H ho (hK.sub ho (by simp [Op.operands])))
  | makeFunc f x y => rw [ho] at hv; exact keep (show rv st _ = _ from hv) (gives_mkFunc ho (hK.sub ho (by simp [Op.operands])))
  | makeSlice t x y => rw [ho] at hv; exact make (show newR st (oMkSlice t x y T fr) = _ from hv) (fun _ => makes_makeSlice H ho (hK.sub ho (by simp [Op.operands])))
  | slice t x lo hi mx => rw [ho] at hv; exact keep (show rv st _ = _ from hv) (gives_slice H ho (hK.sub ho (by simp [Op.operands])))
  | fieldAddr t x f => rw [ho] at hv; exact keep (show rv st _ = _ from hv) (gives_fieldAddr H ho (hK.sub ho (by simp [Op.operands])))
  | field t x f => rw [ho] at hv; exact keep (show rv st _ = _ from hv) (gives_field H ho (hK.sub ho (by simp [Op.operands])))
  | indexAddr t x i => rw [ho] at hv; exact keep (show rv st _ = _ from hv) (gives_indexAddr H ho (hK.sub ho (by simp [Op.operands])))
  | index t x i => rw [ho] at hv; exact keep (show rv st _ = _ from hv) (gives_index H ho (hK.sub ho (by simp [Op.operands])))
  | typeAssert x s t ok => rw [ho] at hv; exact keep (show rv st _ = _ from hv) (gives_assert H ho (hK.sub ho (by simp [Op.operands])))
  | extract x i => rw [ho] at hv; exact keep (show rv st _ = _ from hv) (gives_extract ho (hK.sub ho (by simp [Op.operands])))
  | call c =>
    rw [ho] at hv
    have h0 := rr_val (show rr (ob (evOs c.args.toList T fr) fun args => some (evCallee c.callee c.argTypes.toList T fr args st)) = .val v st' from hv) (by intro e; cases e)
    obtain ⟨args, h1, h2⟩ := ob_some h0
    have h3 := Option.some.inj h2
    by_cases hb : ∃ b, c.callee = .builtin b
    · obtain ⟨b, hb⟩ := hb
      rw [hb] at h3
      exact builtin_val H h ho hK hb h1 (noCall_val h3)
    · obtain ⟨f, vs, xs, h4, h5, h6⟩ := callee_run (P := P) (w := w) HF ho hK h1 h3 (by intro e; cases e) (fun b e => hb ⟨b, e⟩)
      obtain ⟨rfl, x, h7, h8⟩ := func_val (P := P) (w := w) HF h4.symm h5
      exact ⟨x, w, ρ, .inl (by rw [h6, h7]), Grow.refl _ ρ, h, h8⟩
  | _ => rw [ho] at hv; cases (show R.fail = R.val v st' from hv)

theorem op_call (HF : Funs P T) {fr : F} {a : Act} (o : Oper) (hK : Knows T ρ fr a o.op) {f : FuncId} {args : List V} {st' : St} (hv : evOp o.op T fr st = .call f args st') :
    st' = st ∧ ∃ xs : Array Value, (execOp a.eval o).run P w = .ok (.enter f xs) w ∧ Rls ρ args xs.toList := by
  have keep : ∀ {x : Option V}, rv st x = .call f args st' → False := fun hx => rv_call hx
  have make : ∀ {x : Option New}, newR st x = .call f args st' → False := fun hx => newR_call hx
  cases ho : o.op with
  | call c =>
    rw [ho] at hv
    have h0 := rr_val (show rr (ob (evOs c.args.toList T fr) fun args => some (evCallee c.callee c.argTypes.toList T fr args st)) = .call f args st' from hv) (by intro e; cases e)
    obtain ⟨vs, h1, h2⟩ := ob_some h0
    have h3 := Option.some.inj h2
    by_cases hb : ∃ b, c.callee = .builtin b
    · obtain ⟨b, hb⟩ := hb
      rw [hb] at h3
      exact (noCall_call h3).elim
    · obtain ⟨g, us, xs, h4, h5, h6⟩ := callee_run (P := P) (w := w) HF ho hK h1 h3 (by intro e; cases e) (fun b e => hb ⟨b, e⟩)
      obtain ⟨e1, e2, e3, h7⟩ := func_call (P := P) (w := w) (xs := xs) HF h4.symm
      subst e1 e2 e3
      exact ⟨rfl, xs, by rw [h6, h7], h5⟩
  | alloc e => rw [ho] at hv; exact (make (show newR st (oAlloc e T fr) = _ from hv)).elim
  | box e x => rw [ho] at hv; exact (make (show newR st (oBox e x T fr) = _ from hv)).elim
  | buildSlice t n ps => rw [ho] at hv; exact (make (show newR st (oBuildSlice t n ps T fr) = _ from hv)).elim
  | makeSlice t x y => rw [ho] at hv; exact (make (show newR st (oMkSlice t x y T fr) = _ from hv)).elim
  | store t x y => rw [ho] at hv; exact (rs_call hv).elim
  | _ =>
    rw [ho] at hv
    first
    | exact (keep (show rv st _ = _ from hv)).elim
    | (cases (show R.fail = R.call f args st' from hv); done)
end
end Ev
end Go.Proofs.YtodegmphcjgipaaGreatDoor
/-! Regions whose order is written; code; calls. -/
namespace Go.Proofs.YtodegmphcjgipaaGreatDoor
namespace Ev
open Go Go.RowKit

/-- what the evaluator says of where a piece of code leads -/
def OutP (T : Tab) (W : Base) (n k : Nat) (ρ : Map) (Q : Exit → Act → World → Prop) (out : Out) (D : List Deferred := []) : Prop := match out with
  | .fail => False
  | .norm fr st => ∀ σ a w, Grow k st.nxt ρ σ → Fr σ n fr a D → Rel T W σ st w → Q .normal a w
  | .exit id fr st => ∀ σ a w, Grow k st.nxt ρ σ → Fr σ n fr a D → Rel T W σ st w → Q (.exit id) a w
  | .ret fr st => ∀ σ a w, Grow k st.nxt ρ σ → Fr σ n fr a D → Rel T W σ st w → Q .ret a w
/-- how a call ends -/
def Ret1 (T : Tab) (W : Base) (k : Nat) (ρ : Map) (v : V) (st : St) : Ending → World → Prop
  | .returned x, w => ∃ σ, Grow k st.nxt ρ σ ∧ Rel T W σ st w ∧ Rl σ v x
  | _, _ => False
def CallOk (P : Program) (T : Tab) (W : Base) (cf : CallF) : Prop := ∀ f args st v st', cf f args st = .val v st' → ∀ ρ w (xs : Array Value), Rel T W ρ st w → Rls ρ args xs.toList → Calls P f xs w (Ret1 T W st.nxt ρ v st')
/-- the place of an operation's value lies in the frame -/
noncomputable def dstOk (n : Nat) (o : Oper) : Bool := Option.rec true (fun d => Nat.blt d n) o.dst

section
variable {P : Program} {T : Tab} {W : Base} {ρ : Map} {st : St} {w : World} {n : Nat} {Q : Exit → Act → World → Prop} {D : List Deferred}

theorem OutP.mono {out : Out} {k l : Nat} (h : OutP T W n k ρ Q out D) {σ : Map} (hs : Grow k l ρ σ) : OutP T W n l σ Q out D := by
  cases out with
  | fail => exact h
  | norm fr st => exact fun τ a w h1 => h τ a w (hs.trans h1)
  | exit id fr st => exact fun τ a w h1 => h τ a w (hs.trans h1)
  | ret fr st => exact fun τ a w h1 => h τ a w (hs.trans h1)
theorem Fr.put {fr : F} {a : Act} (h : Fr ρ n fr a D) {d : Option Tmp} {v : V} {x : Value} (hd : ∀ t, d = some t → t < n) (hx : Rl ρ v x) : Fr ρ n (putF fr d v) (a.put d x) D := by
  cases d with
  | none => exact h
  | some d =>
    refine ⟨fun t u e => ?_, by simp [Act.put, h.size], h.defers⟩
    have e' : (fr.set d v).get t = some u := e
    rw [Tr.get_set] at e'
    by_cases ht : t = d
    · subst ht
      rw [if_pos rfl] at e'
      cases e'
      exact ⟨x, by simp [Act.put, h.size, hd t rfl], hx⟩
    · rw [if_neg ht] at e'
      obtain ⟨y, h1, h2⟩ := h.tmps t u e'
      exact ⟨y, by simp [Act.put, Ne.symm ht, h1], h2⟩
theorem dstOk_t {o : Oper} (h : dstOk n o = true) : ∀ t, o.dst = some t → t < n := fun t e => by
  unfold dstOk at h
  rw [e] at h
  exact blt_t h

def boolOf (x : Value) : Option Bool := match x with
  | .bool b => some b
  | _ => none
/-- whether an operation is wanted -/
theorem guard_eq {ops : Array Oper} {g : Nat × Bool} {fr : F} {a : Act} {t : Bool} (hk : ∀ d v, fr.get d = some v → ((ops[g.1]?).bind (·.dst)) = some d → ∃ x, a.tmps[d]? = some x ∧ Rl ρ v x) (h : guardOf ops g fr = some t) {o : Oper} (ho : o.guard = some g) : Region.wanted o (yielded ops a.tmps) = t := by
  obtain ⟨o', h1, h2⟩ := ob_some h
  obtain ⟨d, h3, h4⟩ := ob_some h2
  obtain ⟨v, h5, h6⟩ := ob_some h4
  rw [lget_eq] at h1
  have h1' : ops[g.1]? = some o' := by simpa using h1
  obtain ⟨x, h7, h8⟩ := hk d v h5 (by simp [h1', h3])
  have hy : yielded ops a.tmps g.1 = boolOf x := by
    unfold yielded
    rw [h1']
    show (match (o'.dst).bind (a.tmps[·]?) with | some (.bool b) => some b | _ => none) = _
    rw [h3]
    show (match a.tmps[d]? with | some (.bool b) => some b | _ => none) = _
    rw [h7]
    cases x <;> rfl
  have hw : Region.wanted o (yielded ops a.tmps) = (yielded ops a.tmps g.1 == some g.2) := by
    unfold Region.wanted
    rw [ho]
  rw [hw, hy]
  cases h8 with
  | bool b =>
    cases (show some (eqB b g.2) = some t from h6)
    rw [eqB_eq]
    cases b <;> cases g.2 <;> rfl
  | _ => cases (show some false = some t from h6); rfl

/-- one operation, and what follows it -/
theorem opGo_ok (H : Tys P T) (HF : Funs P T) {cf : CallF} (hcf : CallOk P T W cf) (h : Rel T W ρ st w) {fr : F} {a : Act} {o : Oper} (hK : Knows T ρ fr a o.op) {K : Act → World → Prop}
    {k : V → St → Out} (hk : ∀ v st', k v st' ≠ .fail → (evOp o.op T fr st = .val v st' ∨ ∃ f args, evOp o.op T fr st = .call f args st ∧ cf f args st = .val v st') → ∀ σ x w', Grow st.nxt st'.nxt ρ σ → Rel T W σ st' w' → Rl σ v x → K (a.put o.dst x) w')
    (hne : resK (evOp o.op T fr st) cf k ≠ .fail) : o.wp P a w K Q := by
  unfold Oper.wp
  cases hr : evOp o.op T fr st with
  | fail => rw [hr] at hne; exact absurd rfl hne
  | val v st' =>
    rw [hr] at hne
    have hne' : k v st' ≠ .fail := hne
    obtain ⟨x, w', σ, h1, h2, h3, h4⟩ := op_val H HF h o hK hr
    rcases h1 with h1 | ⟨h1, rfl⟩
    · rw [h1]; exact hk v st' hne' (.inl hr) σ x w' h2 h3 h4
    · rw [h1]; exact hk v st' hne' (.inl hr) σ undef w' h2 h3 h4
  | call f args st' =>
    obtain ⟨rfl, xs, h1, h2⟩ := op_call (P := P) (w := w) HF o hK hr
    rw [hr] at hne
    have hne' : retK (cf f args st') k ≠ .fail := hne
    rw [h1]
    cases hc : cf f args st' with
    | fail => rw [hc] at hne'; exact absurd rfl hne'
    | val v st2 =>
      rw [hc] at hne'
      have hne2 : k v st2 ≠ .fail := hne'
      have h3 := hcf f args st' v st2 hc ρ w xs h h2
      rw [Oper.upon_enter]
      refine Calls.mono h3 fun e w' he => ?_
      cases e with
      | returned x =>
        obtain ⟨σ, h4, h5, h6⟩ := he
        exact hk v st2 hne2 (.inr ⟨f, args, hr, hc⟩) σ x w' h4 h5 h6
      | panicked ch => exact he.elim
      | outgrown => exact he.elim

theorem opers_ok (H : Tys P T) (HF : Funs P T) {cf : CallF} (hcf : CallOk P T W cf) {ops : Array Oper} : ∀ (l : List Oper) (ρ : Map) (fr : F) (st : St) (a : Act) (w : World), (∀ o ∈ l, dstOk n o = true) → Fr ρ n fr a D → Rel T W ρ st w →
    OutP T W n st.nxt ρ Q (evOpers l T cf ops fr st) D → wpList P ops Q l a w
  | [], ρ, fr, st, a, w, _, hF, h, hout => hout ρ a w (Grow.refl _ ρ) hF h
  | o :: l, ρ, fr, st, a, w, hd, hF, h, hout => by
    have hdo := dstOk_t (hd o (by simp))
    have ih := fun ρ fr st a w => opers_ok H HF hcf (ops := ops) l ρ fr st a w (fun o ho => hd o (by simp [ho]))
    have hout' : OutP T W n st.nxt ρ Q (opStep o T cf ops fr st (evOpers l T cf ops)) D := hout
    have go : OutP T W n st.nxt ρ Q (opGo o T cf fr st (evOpers l T cf ops)) D → o.wp P a w (wpList P ops Q l) Q := fun ho => by
      refine opGo_ok H HF hcf h (hF.knows h o.op) (k := fun v st => evOpers l T cf ops (putF fr o.dst v) st) (fun v st' _ he σ x w' h1 h2 h3 => ?_) (fun e => by
        have ho' : OutP T W n st.nxt ρ Q (resK (evOp o.op T fr st) cf fun v st => evOpers l T cf ops (putF fr o.dst v) st) D := ho
        rw [e] at ho'; exact ho')
      have ho' : OutP T W n st.nxt ρ Q (evOpers l T cf ops (putF fr o.dst v) st') D := by
        have ho2 : OutP T W n st.nxt ρ Q (resK (evOp o.op T fr st) cf fun v st => evOpers l T cf ops (putF fr o.dst v) st) D := ho
        rcases he with he | ⟨f, args, he, hc⟩
        · rw [he] at ho2; exact ho2
        · rw [he] at ho2
          have ho3 : OutP T W n st.nxt ρ Q (retK (cf f args st) fun v st => evOpers l T cf ops (putF fr o.dst v) st) D := ho2
          rw [hc] at ho3; exact ho3
      exact ih σ _ st' _ w' ((hF.mono h1.1).put hdo h3) h2 (ho'.mono h1)
    unfold wpList
    cases hg : o.guard with
    | none =>
      rw [if_pos (by simp [Region.wanted, hg])]
      unfold opStep at hout'
      rw [hg] at hout'
      exact .inl (go hout')
    | some g =>
      unfold opStep at hout'
      rw [hg] at hout'
      cases ht : guardOf ops g fr with
      | none =>
        have h0 : OutP T W n st.nxt ρ Q (Option.rec .fail (fun t => bi t (opGo o T cf fr st (evOpers l T cf ops)) (evOpers l T cf ops (putF fr o.dst (.tup [])) st)) (guardOf ops g fr)) D := hout'
        rw [ht] at h0; exact h0.elim
      | some t =>
        have h0 : OutP T W n st.nxt ρ Q (Option.rec .fail (fun t => bi t (opGo o T cf fr st (evOpers l T cf ops)) (evOpers l T cf ops (putF fr o.dst (.tup [])) st)) (guardOf ops g fr)) D := hout'
        rw [ht] at h0
        rw [guard_eq (fun d v e _ => hF.tmps d v e) ht hg]
        cases t with
        | true => rw [if_pos rfl]; exact .inl (go h0)
        | false =>
          rw [if_neg (by simp)]
          exact ih ρ _ st _ w (hF.put hdo (.tup _ _ .nil)) h h0
end
end Ev
end Go.Proofs.YtodegmphcjgipaaGreatDoor
/-! Regions whose order is drawn: equality of values; what is checked of the order. -/
namespace Go.Proofs.YtodegmphcjgipaaGreatDoor
namespace Ev
open Go Go.RowKit

theorem eqI_t {a b : Int} (h : eqI a b = true) : a = b := by
  rw [eqI_eq] at h; exact of_decide_eq_true h
theorem eqB_t {a b : Bool} (h : eqB a b = true) : a = b := by cases a <;> cases b <;> first | rfl | (cases h; done)
theorem eqL_t : ∀ {a b : List Nat}, eqL a b = true → a = b
  | [], [], _ => rfl
  | [], _ :: _, h => by cases (show false = true from h)
  | _ :: _, [], h => by cases (show false = true from h)
  | x :: a, y :: b, h => by
    have h' : bi (Nat.beq x y) (eqL a b) false = true := h
    cases hb : Nat.beq x y with
    | true => rw [hb] at h'; rw [beq_t hb, eqL_t (show eqL a b = true from h')]
    | false => rw [hb] at h'; cases (show false = true from h')
theorem bi_ff {c x : Bool} (h : bi c x false = true) : c = true ∧ x = true := by
  cases c with
  | true => exact ⟨rfl, h⟩
  | false => cases (show false = true from h)
mutual
theorem eqV_t : ∀ (a b : V), eqV a b = true → a = b
  | .bool x, .bool y, h => by rw [eqB_t (show eqB x y = true from h)]
  | .int k x, .int j y, h => by
    obtain ⟨h1, h2⟩ := bi_ff (show bi (keq k j) (eqI x y) false = true from h)
    rw [keq_t h1, eqI_t h2]
  | .str x, .str y, h => by rw [eqL_t (show eqL x y = true from h)]
  | .ptr b o, .ptr c p, h => by
    obtain ⟨h1, h2⟩ := bi_ff (show bi (Nat.beq b c) (Nat.beq o p) false = true from h)
    rw [beq_t h1, beq_t h2]
  | .nilp, .nilp, _ => rfl
  | .slice b o n c e, .slice b' o' n' c' e', h => by
    obtain ⟨h1, h⟩ := bi_ff (show bi (Nat.beq b b') (bi (Nat.beq o o') (bi (Nat.beq n n') (bi (Nat.beq c c') (Nat.beq e e') false) false) false) false = true from h)
    obtain ⟨h2, h⟩ := bi_ff h
    obtain ⟨h3, h⟩ := bi_ff h
    obtain ⟨h4, h5⟩ := bi_ff h
    rw [beq_t h1, beq_t h2, beq_t h3, beq_t h4, beq_t h5]
  | .nils, .nils, _ => rfl
  | .func f x y, .func g u w, h => by
    obtain ⟨h1, h⟩ := bi_ff (show bi (Nat.beq f g) (bi (eqVs x u) (eqVs y w) false) false = true from h)
    obtain ⟨h2, h3⟩ := bi_ff h
    rw [beq_t h1, eqVs_t x u h2, eqVs_t y w h3]
  | .nilf, .nilf, _ => rfl
  | .iface t x, .iface u y, h => by
    obtain ⟨h1, h2⟩ := bi_ff (show bi (Nat.beq t u) (eqV x y) false = true from h)
    rw [beq_t h1, eqV_t x y h2]
  | .nili, .nili, _ => rfl
  | .agg x, .agg y, h => by rw [eqVs_t x y h]
  | .tup x, .tup y, h => by rw [eqVs_t x y h]
theorem eqVs_t : ∀ (a b : List V), eqVs a b = true → a = b
  | [], [], _ => rfl
  | [], _ :: _, h => by cases (show false = true from h)
  | _ :: _, [], h => by cases (show false = true from h)
  | x :: a, y :: b, h => by
    obtain ⟨h1, h2⟩ := bi_ff (show bi (eqV x y) (eqVs a b) false = true from h)
    rw [eqV_t x y h1, eqVs_t a b h2]
end
theorem eqO_t {a b : Option V} (h : eqO a b = true) : a = b := by
  cases a <;> cases b <;> first
    | rfl
    | (cases (show false = true from h); done)
    | (rw [eqV_t _ _ h])
theorem eqTr_t : ∀ {a b : Tr V}, eqTr a b = true → a = b
  | .nil, .nil, _ => rfl
  | .nil, .node _ _ _, h => by cases (show false = true from h)
  | .node _ _ _, .nil, h => by cases (show false = true from h)
  | .node l x r, .node l' x' r', h => by
    obtain ⟨h1, h⟩ := bi_ff (show bi (eqTr l l') (bi (eqO x x') (eqTr r r') false) false = true from h)
    obtain ⟨h2, h3⟩ := bi_ff h
    rw [eqTr_t h1, eqO_t h2, eqTr_t h3]
theorem sameNew_t {st : St} {x : New} {b : Nat} (h : sameNew st x b = true) : st.heap.get b = some x.blk := by
  unfold sameNew at h
  cases hb : st.heap.get b with
  | none => rw [hb] at h; cases (show false = true from h)
  | some bl =>
    rw [hb] at h
    obtain ⟨h1, h⟩ := bi_ff (show bi (Nat.beq bl.n (len x.cells)) (bi (Nat.beq bl.ty x.ty) (bi (Nat.beq bl.wf 0) (bi bl.hd (eqTr bl.cells (wr x.cells 0 .nil)) false) false) false) false = true from h)
    obtain ⟨h2, h⟩ := bi_ff h
    obtain ⟨h3, h⟩ := bi_ff h
    obtain ⟨h4, h5⟩ := bi_ff h
    have e1 := beq_t h1
    have e2 := beq_t h2
    have e3 := beq_t h3
    have e5 := eqTr_t h5
    cases bl
    simp only at e1 e2 e3 h4 e5
    subst e1 e2 e3 h4 e5
    rfl
end Ev
end Go.Proofs.YtodegmphcjgipaaGreatDoor
/-! What is checked of the order in which the evaluator takes the operations of a region whose order is drawn. -/
namespace Go.Proofs.YtodegmphcjgipaaGreatDoor
namespace Ev
open Go Go.RowKit

noncomputable def tmpsL (l : List Operand) : List Nat := List.rec [] (fun x _ ih => Operand.rec (fun t => t :: ih) (fun _ => ih) (fun _ => ih) (fun _ => ih) x) l
/-- the places of the frame that an operation looks at -/
noncomputable def looksL (ops : Array Oper) (o : Oper) : List Nat := app (tmpsL o.op.operands.toList) (Option.rec [] (fun g => Option.rec [] (fun o' => Option.rec [] (fun d => [d]) o'.dst) (lget ops.toList g.1)) o.guard)
noncomputable def allB {α : Type} (f : α → Bool) (l : List α) : Bool := List.rec true (fun x _ ih => bi (f x) ih false) l
noncomputable def bitsOf (l : List Nat) : Nat := List.rec 0 (fun t _ ih => Nat.lor (Nat.pow 2 t) ih) l
/-- nothing that a passed operation may still look at -/
noncomputable def unread (ops : Array Oper) (pa : Nat) (dn : List Slot) (d : Nat) : Bool := allB (fun s' => bi (Nat.testBit pa s'.i) true (bi (Nat.testBit (bitsOf (looksL ops s'.o)) d) false true)) dn
noncomputable def chkDst (n : Nat) (ops : Array Oper) (look pa : Nat) (dn : List Slot) (wt : Tr Nat) (d : Nat) : Bool := bi (Nat.blt d n) (bi (Nat.testBit look d) false (bi (unread ops pa dn d) (Option.rec true (fun _ => false) (wt.get d)) false)) false
noncomputable def chkSlot (n : Nat) (ops : Array Oper) (s : Slot) (p e pa : Nat) (dn : List Slot) (wt W : Tr Nat) : Bool :=
  bi (Nat.testBit p s.i) false
    (bi (allB (fun d => bi (Region.binds .any d) (Nat.testBit p d.on) true) s.o.after.toList)
      (bi (Nat.beq s.w (waitsOf W s.o.after.toList))
        (bi (Nat.beq (Nat.land e s.w) e)
          (bi (allB (fun t => Option.rec true (fun i => Nat.testBit s.w i) (wt.get t)) (looksL ops s.o))
            (bi (Option.rec true (fun g => Nat.testBit s.w g.1) s.o.guard)
              (Option.rec true (fun d => chkDst n ops (bitsOf (looksL ops s.o)) (bi (Nat.beq (kindsOf s.o.op) 0) (Nat.lor pa s.w) pa) dn wt d) s.o.dst) false) false) false) false) false)
noncomputable def chkL (n : Nat) (ops : Array Oper) (l : List Slot) : Nat → Nat → Nat → List Slot → Tr Nat → Tr Nat → Bool :=
  List.rec (motive := fun _ => Nat → Nat → Nat → List Slot → Tr Nat → Tr Nat → Bool) (fun p _ _ _ _ _ => Nat.beq (Nat.add p 1) (Nat.pow 2 (len ops.toList)))
    (fun s _ ih p e pa dn wt W => bi (chkSlot n ops s p e pa dn wt W)
      (ih (Nat.lor p (Nat.pow 2 s.i)) (bi (Nat.beq (kindsOf s.o.op) 0) (Nat.lor e (Nat.pow 2 s.i)) e) (bi (Nat.beq (kindsOf s.o.op) 0) (Nat.lor pa (Nat.lor s.w (Nat.pow 2 s.i))) pa) (s :: dn) (Option.rec wt (fun d => wt.set d s.i) s.o.dst) (W.set s.i s.w)) false) l
noncomputable def chkDraw (n : Nat) (ops : Array Oper) : Bool := chkL n ops (order ops) 0 0 0 [] .nil .nil
/-- an operation that some operation that acts has waited for -/
def Past (done : List Slot) (s : Slot) : Prop := ∃ e ∈ done, kindsOf e.o.op = 0 ∧ (e.i = s.i ∨ Nat.testBit e.w s.i = true)

/-- what is then known of an operation and of those ahead of it -/
structure StepOk (n : Nat) (ops : Array Oper) (done : List Slot) (s : Slot) : Prop where
  new : ∀ s' ∈ done, s'.i ≠ s.i
  edge : ∀ d ∈ s.o.after.toList, Region.binds .any d = true → ∃ s' ∈ done, s'.i = d.on
  wait : ∀ L : Nat → Prop, (∀ s' ∈ done, L s'.i → ∀ i, Nat.testBit s'.w i = true → L i) → (∀ d ∈ s.o.after.toList, Region.binds .any d = true → L d.on) → ∀ i, Nat.testBit s.w i = true → L i
  eff : ∀ s' ∈ done, kindsOf s'.o.op = 0 → Nat.testBit s.w s'.i = true
  look : ∀ t ∈ looksL ops s.o, ∀ s' ∈ done, s'.o.dst = some t → Nat.testBit s.w s'.i = true
  grd : ∀ g, s.o.guard = some g → Nat.testBit s.w g.1 = true
  dst : ∀ d, s.o.dst = some d → d < n ∧ d ∉ looksL ops s.o ∧ ∀ s' ∈ done, (d ∈ looksL ops s'.o → Past done s' ∨ (kindsOf s.o.op = 0 ∧ Nat.testBit s.w s'.i = true)) ∧ s'.o.dst ≠ some d
def Good (n : Nat) (ops : Array Oper) : List Slot → List Slot → Prop
  | done, [] => ∀ i, i < ops.size → ∃ s ∈ done, s.i = i
  | done, s :: l => StepOk n ops done s ∧ Good n ops (done ++ [s]) l

theorem allB_t {α : Type} {f : α → Bool} : ∀ {l : List α}, allB f l = true → ∀ x ∈ l, f x = true
  | [], _, x, hx => by cases hx
  | y :: l, h, x, hx => by
    obtain ⟨h1, h2⟩ := bi_ff (show bi (f y) (allB f l) false = true from h)
    rcases List.mem_cons.1 hx with rfl | hx
    · exact h1
    · exact allB_t h2 x hx
theorem bits_t : ∀ {l : List Nat} {t : Nat}, t ∈ l → Nat.testBit (bitsOf l) t = true
  | [], t, h => by cases h
  | x :: l, t, h => by
    show Nat.testBit (2 ^ x ||| bitsOf l) t = true
    rw [Nat.testBit_or]
    rcases List.mem_cons.1 h with rfl | h
    · simp
    · simp [bits_t h]
theorem waits_t {B : Tr Nat} : ∀ {es : List Edge} {i : Nat}, Nat.testBit (waitsOf B es) i = true → ∃ d ∈ es, Region.binds .any d = true ∧ (d.on = i ∨ ∃ b, B.get d.on = some b ∧ Nat.testBit b i = true)
  | [], i, h => by
    have h' : Nat.testBit 0 i = true := h
    simp at h'
  | d :: es, i, h => by
    have h' : Nat.testBit (bi (Region.binds .any d) (Nat.lor (Nat.pow 2 d.on) (Option.rec 0 (fun b => b) (B.get d.on))) 0 ||| waitsOf B es) i = true := h
    rw [Nat.testBit_or, Bool.or_eq_true] at h'
    rcases h' with h1 | h1
    · cases hb : Region.binds .any d with
      | false => rw [hb, bi_f] at h1; simp at h1
      | true =>
        rw [hb, bi_t] at h1
        refine ⟨d, by simp, hb, ?_⟩
        have h2 : Nat.testBit (2 ^ d.on ||| (Option.rec 0 (fun b => b) (B.get d.on) : Nat)) i = true := h1
        rw [Nat.testBit_or, Bool.or_eq_true] at h2
        rcases h2 with h3 | h3
        · left; simpa [Nat.testBit_two_pow] using h3
        · right
          cases hg : B.get d.on with
          | none =>
            rw [hg] at h3
            have h4 : Nat.testBit 0 i = true := h3
            simp at h4
          | some b => rw [hg] at h3; exact ⟨b, rfl, h3⟩
    · obtain ⟨d', h2, h3⟩ := waits_t h1
      exact ⟨d', by simp [h2], h3⟩

/-- what the checker keeps -/
structure Kept (done : List Slot) (p e pa : Nat) (dn : List Slot) (wt W : Tr Nat) : Prop where
  p : ∀ i, Nat.testBit p i = true ↔ ∃ s ∈ done, s.i = i
  e : ∀ s ∈ done, kindsOf s.o.op = 0 → Nat.testBit e s.i = true
  pa : ∀ i, Nat.testBit pa i = true → ∃ e ∈ done, kindsOf e.o.op = 0 ∧ (e.i = i ∨ Nat.testBit e.w i = true)
  dn : ∀ s ∈ done, s ∈ dn
  wt : ∀ s ∈ done, ∀ t, s.o.dst = some t → wt.get t = some s.i
  W : ∀ i b, W.get i = some b → ∃ s ∈ done, s.i = i ∧ s.w = b

theorem chkSlot_t {n : Nat} {ops : Array Oper} {s : Slot} {p e pa : Nat} {dn : List Slot} {wt W : Tr Nat} {done : List Slot} (hk : Kept done p e pa dn wt W) (h : chkSlot n ops s p e pa dn wt W = true) : StepOk n ops done s ∧ Kept (done ++ [s]) (Nat.lor p (Nat.pow 2 s.i)) (bi (Nat.beq (kindsOf s.o.op) 0) (Nat.lor e (Nat.pow 2 s.i)) e) (bi (Nat.beq (kindsOf s.o.op) 0) (Nat.lor pa (Nat.lor s.w (Nat.pow 2 s.i))) pa) (s :: dn) (Option.rec wt (fun d => wt.set d s.i) s.o.dst) (W.set s.i s.w) := by
  unfold chkSlot at h
  cases h0 : Nat.testBit p s.i with
  | true => rw [h0] at h; cases (show false = true from h)
  | false =>
    rw [h0, bi_f] at h
    obtain ⟨h1, h⟩ := bi_ff h
    obtain ⟨h2, h⟩ := bi_ff h
    obtain ⟨h3, h⟩ := bi_ff h
    obtain ⟨h4, h⟩ := bi_ff h
    obtain ⟨h5, h6⟩ := bi_ff h
    have hnew : ∀ s' ∈ done, s'.i ≠ s.i := fun s' hs' e' => by
      have := (hk.p s.i).2 ⟨s', hs', e'⟩
      rw [h0] at this; cases this
    have hdst : ∀ d, s.o.dst = some d → d < n ∧ d ∉ looksL ops s.o ∧ ∀ s' ∈ done, (d ∈ looksL ops s'.o → Past done s' ∨ (kindsOf s.o.op = 0 ∧ Nat.testBit s.w s'.i = true)) ∧ s'.o.dst ≠ some d := fun d hd => by
      rw [hd] at h6
      have h6' : chkDst n ops (bitsOf (looksL ops s.o)) (bi (Nat.beq (kindsOf s.o.op) 0) (Nat.lor pa s.w) pa) dn wt d = true := h6
      obtain ⟨q1, q2⟩ := bi_ff (show bi (Nat.blt d n) _ false = true from h6')
      cases q3 : Nat.testBit (bitsOf (looksL ops s.o)) d with
      | true => rw [q3] at q2; cases (show false = true from q2)
      | false =>
        rw [q3, bi_f] at q2
        obtain ⟨q4, q5⟩ := bi_ff q2
        refine ⟨blt_t q1, fun q => ?_, fun s' hs' => ⟨fun q => ?_, fun q => ?_⟩⟩
        · rw [bits_t q] at q3; cases q3
        · have q6 := allB_t q4 s' (hk.dn s' hs')
          cases q7 : Nat.testBit (bi (Nat.beq (kindsOf s.o.op) 0) (Nat.lor pa s.w) pa) s'.i with
          | true =>
            cases hb : Nat.beq (kindsOf s.o.op) 0 with
            | false => rw [hb, bi_f] at q7; exact .inl (hk.pa _ q7)
            | true =>
              rw [hb, bi_t] at q7
              have q8 : Nat.testBit (pa ||| s.w) s'.i = true := q7
              rw [Nat.testBit_or, Bool.or_eq_true] at q8
              rcases q8 with q8 | q8
              · exact .inl (hk.pa _ q8)
              · exact .inr ⟨beq_t hb, q8⟩
          | false => rw [q7, bi_f, bits_t q] at q6; cases (show false = true from q6)
        · rw [hk.wt s' hs' d q] at q5; cases (show false = true from q5)
    refine ⟨⟨hnew, fun d hd hb => ?_, fun L hL hd i hi => ?_, fun s' hs' hs0 => ?_, fun t ht s' hs' hd => ?_, fun g hg => ?_, hdst⟩, ⟨fun i => ?_, fun s' hs' hs0 => ?_, fun i hi => ?_, fun s' hs' => ?_, fun s' hs' t ht => ?_, fun i b hb => ?_⟩⟩
    · have := allB_t h1 d hd
      rw [hb] at this
      exact (hk.p d.on).1 this
    · rw [beq_t h2] at hi
      obtain ⟨d, hd1, hd2, hd3⟩ := waits_t hi
      rcases hd3 with rfl | ⟨b, hb, hbi⟩
      · exact hd d hd1 hd2
      · obtain ⟨s', hs', hi', rfl⟩ := hk.W _ _ hb
        exact hL s' hs' (hi' ▸ hd d hd1 hd2) i hbi
    · have q := hk.e s' hs' hs0
      have q2 : e &&& s.w = e := beq_t h3
      rw [← q2, Nat.testBit_and, Bool.and_eq_true] at q
      exact q.2
    · have q := allB_t h4 t ht
      rw [hk.wt s' hs' t hd] at q
      exact q
    · rw [hg] at h5; exact h5
    · show Nat.testBit (p ||| 2 ^ s.i) i = true ↔ _
      rw [Nat.testBit_or, Bool.or_eq_true, hk.p i, Nat.testBit_two_pow]
      constructor
      · rintro (⟨s', q1, q2⟩ | q)
        · exact ⟨s', by simp [q1], q2⟩
        · exact ⟨s, by simp, by simpa using q⟩
      · rintro ⟨s', q1, q2⟩
        rcases List.mem_append.1 q1 with q1 | q1
        · exact .inl ⟨s', q1, q2⟩
        · simp at q1; subst q1; exact .inr (by simpa using q2)
    · rcases List.mem_append.1 hs' with q | q
      · have := hk.e s' q hs0
        cases hb : Nat.beq (kindsOf s.o.op) 0 with
        | false => exact this
        | true => show Nat.testBit (e ||| 2 ^ s.i) s'.i = true; rw [Nat.testBit_or, this]; rfl
      · simp at q; subst q
        rw [hs0]
        show Nat.testBit (e ||| 2 ^ s'.i) s'.i = true
        rw [Nat.testBit_or]; simp
    · cases hb : Nat.beq (kindsOf s.o.op) 0 with
      | false =>
        rw [hb, bi_f] at hi
        obtain ⟨e', q1, q2⟩ := hk.pa i hi
        exact ⟨e', by simp [q1], q2⟩
      | true =>
        rw [hb, bi_t] at hi
        have hi' : Nat.testBit (pa ||| (s.w ||| 2 ^ s.i)) i = true := hi
        rw [Nat.testBit_or, Bool.or_eq_true, Nat.testBit_or, Bool.or_eq_true, Nat.testBit_two_pow] at hi'
        rcases hi' with q | q | q
        · obtain ⟨e', q1, q2⟩ := hk.pa i q
          exact ⟨e', by simp [q1], q2⟩
        · exact ⟨s, by simp, beq_t hb, .inr q⟩
        · exact ⟨s, by simp, beq_t hb, .inl (by simpa using q)⟩
    · rcases List.mem_append.1 hs' with q | q
      · exact List.mem_cons_of_mem _ (hk.dn s' q)
      · simp at q; subst q; simp
    · rcases List.mem_append.1 hs' with q | q
      · cases hd : s.o.dst with
        | none => exact hk.wt s' q t ht
        | some d =>
          show (wt.set d s.i).get t = some s'.i
          rw [Tr.get_set, if_neg (by
            intro e'
            rw [e'] at ht
            exact ((hdst d hd).2.2 s' q).2 ht)]
          exact hk.wt s' q t ht
      · simp at q; subst q
        rw [ht]
        show (wt.set t s'.i).get t = some s'.i
        rw [Tr.get_set, if_pos rfl]
    · rw [Tr.get_set] at hb
      by_cases hi : i = s.i
      · rw [if_pos hi] at hb
        exact ⟨s, by simp, hi.symm, Option.some.inj hb⟩
      · rw [if_neg hi] at hb
        obtain ⟨s', q1, q2⟩ := hk.W i b hb
        exact ⟨s', by simp [q1], q2⟩
theorem chkL_t {n : Nat} {ops : Array Oper} : ∀ (l done : List Slot) (p e pa : Nat) (dn : List Slot) (wt W : Tr Nat), Kept done p e pa dn wt W → chkL n ops l p e pa dn wt W = true → Good n ops done l
  | [], done, p, e, pa, dn, wt, W, hk, h => fun i hi => by
    have q : p + 1 = 2 ^ len ops.toList := beq_t h
    rw [len_eq] at q
    have q2 : p = 2 ^ ops.size - 1 := by
      have : ops.toList.length = ops.size := by simp
      rw [this] at q; omega
    refine (hk.p i).1 ?_
    rw [q2, Nat.testBit_two_pow_sub_one]
    simpa using hi
  | s :: l, done, p, e, pa, dn, wt, W, hk, h => by
    obtain ⟨h1, h2⟩ := bi_ff (show bi (chkSlot n ops s p e pa dn wt W) _ false = true from h)
    obtain ⟨h3, h4⟩ := chkSlot_t hk h1
    exact ⟨h3, chkL_t l _ _ _ _ _ _ _ h4 h2⟩
theorem chkDraw_t {n : Nat} {ops : Array Oper} (h : chkDraw n ops = true) : Good n ops [] (order ops) :=
  chkL_t (order ops) [] 0 0 0 [] .nil .nil ⟨fun i => by simp, fun s hs => by simp at hs, fun i hi => by simp at hi, fun s hs => by simp at hs, fun s hs => by simp at hs, fun i b hb => by rw [Tr.get_nil] at hb; cases hb⟩ h

/-- the slots are the region's operations -/
theorem slots_mem : ∀ (l : List Oper) (B : Tr Nat) (i : Nat), ∀ s ∈ slots l B i, i ≤ s.i ∧ l[s.i - i]? = some s.o
  | [], B, i, s, h => by cases (show s ∈ [] from h)
  | o :: l, B, i, s, h => by
    rcases List.mem_cons.1 (show s ∈ (⟨i, o, Option.rec 0 (fun b => b) (B.get i)⟩ : Slot) :: slots l B (i + 1) from h) with rfl | h
    · simp
    · obtain ⟨h1, h2⟩ := slots_mem l B (i + 1) s h
      refine ⟨by omega, ?_⟩
      rw [show s.i - i = (s.i - (i + 1)) + 1 by omega]
      exact h2
theorem sel_mem {p : Slot → Bool} : ∀ {l : List Slot} {s : Slot}, s ∈ sel p l → s ∈ l
  | [], s, h => by cases (show s ∈ [] from h)
  | x :: l, s, h => by
    have h' : s ∈ bi (p x) (x :: sel p l) (sel p l) := h
    cases hp : p x with
    | true =>
      rw [hp, bi_t] at h'
      rcases List.mem_cons.1 h' with rfl | h'
      · simp
      · simp [sel_mem h']
    | false => rw [hp, bi_f] at h'; simp [sel_mem h']
theorem stage_mem (E : Nat) : ∀ (n m : Nat) (l : List Slot) (s : Slot), s ∈ stage E n m l → s ∈ l
  | 0, m, l, s, h => h
  | n + 1, m, l, s, h => by
    obtain ⟨m', h⟩ : ∃ m', s ∈ Ev.app (sel (fun x => bi (Nat.beq (kindsOf x.o.op) 0) false (Nat.beq (Nat.land x.w E) m)) l) (Ev.app (sel (fun x => bi (Nat.beq (kindsOf x.o.op) 0) (Nat.beq (Nat.land x.w E) m) false) l) (bi (Nat.beq m E) [] (stage E n m' l))) := ⟨_, h⟩
    rw [app_eq, app_eq] at h
    rcases List.mem_append.1 h with h | h
    · exact sel_mem h
    · rcases List.mem_append.1 h with h | h
      · exact sel_mem h
      · cases hb : Nat.beq m E with
        | true => rw [hb, bi_t] at h; cases h
        | false => rw [hb, bi_f] at h; exact stage_mem E n _ l s h
theorem order_mem {ops : Array Oper} {s : Slot} (h : s ∈ order ops) : ops[s.i]? = some s.o := by
  obtain ⟨-, h2⟩ := slots_mem _ _ _ s (stage_mem _ _ _ _ s h)
  simpa using h2
end Ev
end Go.Proofs.YtodegmphcjgipaaGreatDoor
