/-
  TC: texts of the evaluator in one.
-/
import Derived.Test.YtodegmphcjgipaaGreatDoorTB
/-! Regions whose order is drawn: what the evaluator's order says of every other. -/
namespace Go.Proofs.YtodegmphcjgipaaGreatDoor
namespace Ev
open Go Go.RowKit

section
variable {P : Program} {T : Tab} {W : Base} {ρ : Map} {st : St} {w : World} {n : Nat} {Q : Exit → Act → World → Prop} {ops : Array Oper}

theorem Good.at_ : ∀ (l done : List Slot), Good n ops done l → ∀ pre s post, l = pre ++ s :: post → StepOk n ops (done ++ pre) s
  | [], done, _, pre, s, post, e => by cases pre <;> cases e
  | x :: l, done, h, [], s, post, e => by
    cases e
    simpa using h.1
  | x :: l, done, h, y :: pre, s, post, e => by
    cases e
    have := Good.at_ _ _ h.2 pre s post rfl
    simpa using this
theorem Good.cover : ∀ (l done : List Slot), Good n ops done l → ∀ i, i < ops.size → ∃ s ∈ done ++ l, s.i = i
  | [], done, h, i, hi => by simpa using h i hi
  | x :: l, done, h, i, hi => by
    have := Good.cover l (done ++ [x]) h.2 i hi
    simpa using this

/-- kinds of operations -/
theorem kind_two {o : Op} {fr : F} (h : kindsOf o = 2) : ∃ g : St → Option V, (∀ st, evOp o T fr st = rv st (g st)) ∧ ∀ st st' v, (∀ b bl, st.heap.get b = some bl → st'.heap.get b = some bl) → g st = some v → g st' = some v := by
  cases o with
  | load t x =>
    refine ⟨fun st => ty T t fun ti => ob (evO x T fr) fun p => p.onPtr fun b o => st.load ti b o, fun st => rfl, fun st st' v hs hg => ?_⟩
    obtain ⟨ti, h1, h2⟩ := ty_some hg
    obtain ⟨p, h3, h4⟩ := ob_some h2
    obtain ⟨b, q, rfl, h5⟩ := V.onPtr_some h4
    obtain ⟨bl, h6, h7⟩ := ob_some h5
    show ob (T.types.get t) _ = _
    rw [h1]
    show ob (evO x T fr) _ = _
    rw [h3]
    show ob (st'.heap.get b) _ = _
    rw [hs b bl h6]
    exact h7
  | convert s d x =>
    refine ⟨fun st => ob (evO x T fr) fun v => ty T s fun a => ty T d fun b => convV v T st a b, fun st => rfl, fun st st' v hs hg => ?_⟩
    obtain ⟨p, h1, h2⟩ := ob_some hg
    obtain ⟨a, h3, h4⟩ := ty_some h2
    obtain ⟨b, h5, h6⟩ := ty_some h4
    show ob (evO x T fr) _ = _
    rw [h1]
    show ob (T.types.get s) _ = _
    rw [h3]
    show ob (T.types.get d) _ = _
    rw [h5]
    cases p with
    | ptr p q =>
      obtain ⟨bl, h7, h8⟩ := ob_some (show (ob (st.heap.get p) fun bl => convPtr T a.d b.d bl p q) = some v from h6)
      show (ob (st'.heap.get p) fun bl => convPtr T a.d b.d bl p q) = some v
      rw [hs p bl h7]
      exact h8
    | slice p o n c es =>
      obtain ⟨e, h7, h8⟩ := TD.onSlice_some (show a.d.onSlice _ = some v from h6)
      obtain ⟨ei, h9, h10⟩ := ty_some h8
      obtain ⟨h11, h12⟩ := bi_none h10
      obtain ⟨h13, h14⟩ := bi_none h12
      obtain ⟨h15, h16⟩ := bi_none h14
      obtain ⟨bl, h17, h18⟩ := ob_some h16
      show a.d.onSlice (fun e => ty T e fun ei => bi (isU8 ei.d) (bi (isStr b.d) (bi (Nat.beq es 1) (ob (st'.heap.get p) fun bl => ob (rd n bl.cells o) fun l => ob (vBytes l) fun l => some (.str l)) none) none) none) = some v
      rw [h7]
      show ob (T.types.get e) _ = _
      rw [h9]
      show bi (isU8 ei.d) _ none = some v
      rw [h11, bi_t, h13, bi_t, h15, bi_t, hs p bl h17]
      exact h18
    | _ => exact h6
  | call c =>
    have h' : callKind c = 2 := h
    unfold callKind at h'
    cases hc : c.callee with
    | builtin b => rw [hc] at h'; cases b <;> cases h'
    | value f => rw [hc] at h'; cases h'
    | invoke r m => rw [hc] at h'; cases h'
  | _ => cases (show _ = 2 from h)

theorem noCall_rv (st : St) (x : Option V) : noCall (rv st x) = rv st x := by cases x <;> rfl
theorem kind_one {o : Op} {fr : F} (h : kindsOf o = 1) : ∃ g : Option V, ∀ st, evOp o T fr st = rv st g := by
  cases o with
  | call c =>
    have h' : callKind c = 1 := h
    unfold callKind at h'
    have fin : ∀ b : Builtin, c.callee = .builtin b → (∀ args, ∃ g, ∀ st, evBuiltin b T c.argTypes.toList args st = rv st g) → ∃ g : Option V, ∀ st, evOp (.call c) T fr st = rv st g := fun b hb hg => by
      cases ha : evOs c.args.toList T fr with
      | none =>
        refine ⟨none, fun st => ?_⟩
        show rr (ob (evOs c.args.toList T fr) _) = _
        rw [ha]; rfl
      | some args =>
        obtain ⟨g, hg⟩ := hg args
        refine ⟨g, fun st => ?_⟩
        show rr (ob (evOs c.args.toList T fr) fun args => some (evCallee c.callee c.argTypes.toList T fr args st)) = _
        rw [ha, hb]
        show noCall (evBuiltin b T c.argTypes.toList args st) = _
        rw [hg st, noCall_rv]
    cases hc : c.callee with
    | builtin b =>
      rw [hc] at h'
      cases b with
      | len => exact fin .len hc (fun args => ⟨_, fun st => rfl⟩)
      | max => exact fin .max hc (fun args => ⟨_, fun st => rfl⟩)
      | min => exact fin .min hc (fun args => ⟨_, fun st => rfl⟩)
      | _ => cases h'
    | value f => rw [hc] at h'; cases h'
    | invoke r m => rw [hc] at h'; cases h'
  | move x => exact ⟨_, fun st => rfl⟩
  | pick c x y => exact ⟨_, fun st => rfl⟩
  | build t ps => exact ⟨_, fun st => rfl⟩
  | nilCheck x => exact ⟨_, fun st => rfl⟩
  | binOp op t x y z => exact ⟨_, fun st => rfl⟩
  | unOp op t x => exact ⟨_, fun st => rfl⟩
  | makeInterface t x => exact ⟨_, fun st => rfl⟩
  | makeFunc f x y => exact ⟨_, fun st => rfl⟩
  | slice t x lo hi mx => exact ⟨_, fun st => rfl⟩
  | fieldAddr t x f => exact ⟨_, fun st => rfl⟩
  | field t x f => exact ⟨_, fun st => rfl⟩
  | indexAddr t x i => exact ⟨_, fun st => rfl⟩
  | index t x i => exact ⟨_, fun st => rfl⟩
  | typeAssert x s t ok => exact ⟨_, fun st => rfl⟩
  | extract x i => exact ⟨_, fun st => rfl⟩
  | _ => cases (show _ = 1 from h)
theorem kind_three {o : Op} {fr : F} (h0 : kindsOf o ≠ 0) (h1 : kindsOf o ≠ 1) (h2 : kindsOf o ≠ 2) : ∀ st, evOp o T fr st = newR st (newOf o T fr) := by
  cases o with
  | alloc e => exact fun st => rfl
  | box e x => exact fun st => rfl
  | buildSlice t n ps => exact fun st => rfl
  | makeSlice t x y => exact fun st => rfl
  | call c =>
    have e : ∀ k, callKind c = k → k ≠ 0 → k ≠ 1 → False := fun k hk a b => by
      unfold callKind at hk
      cases hc : c.callee with
      | builtin x => rw [hc] at hk; cases x <;> first | exact a hk.symm | exact b hk.symm
      | value f => rw [hc] at hk; exact a hk.symm
      | invoke r m => rw [hc] at hk; exact a hk.symm
    exact (e _ rfl h0 h1).elim
  | _ => first | exact absurd rfl h0 | exact absurd rfl h1 | exact absurd rfl h2
theorem makes_of (H : Tys P T) {o : Oper} {fr : F} {a : Act} {x : New} (hK : Knows T ρ fr a o.op) (hx : newOf o.op T fr = some x) : Makes P ρ o a x := by
  cases ho : o.op with
  | alloc e => rw [ho] at hx; exact makes_alloc (fr := fr) H ho hx
  | box e y => rw [ho] at hx; exact makes_box ho (hK.sub ho (by simp [Op.operands])) hx
  | buildSlice t n ps => rw [ho] at hx; exact makes_buildSlice H ho (hK.sub ho (by simp [Op.operands])) hx
  | makeSlice t y z => rw [ho] at hx; exact makes_makeSlice H ho (hK.sub ho (by simp [Op.operands])) hx
  | _ => rw [ho] at hx; cases (show none = some x from hx)

/-- a name for a block that is not made yet -/
theorem Rel.name (h : Rel T W ρ st w) (t : TypeId) (vs : List V) : Rel T W ρ (st.new t vs) w := by
  have hf := h.fresh st.nxt (Nat.le_refl _)
  have old : ∀ b bl, (st.new t vs).heap.get b = some bl → (∃ L, ρ b = some L) → st.heap.get b = some bl := fun b bl e ⟨L, hL⟩ => by
    have e' : (st.heap.set st.nxt ⟨wr vs 0 .nil, len vs, 0, t, true⟩).get b = some bl := e
    rw [Tr.get_set, if_neg (fun q => by rw [q, hf.1] at hL; cases hL)] at e'
    exact e'
  exact ⟨fun b bl L e hL => h.shape b bl L (old b bl e ⟨L, hL⟩) hL, fun b bl L e hL => h.cells b bl L (old b bl e ⟨L, hL⟩) hL, fun b bl L e hL => h.fz b bl L (old b bl e ⟨L, hL⟩) hL,
    fun b bl L e hL => h.head b bl L (old b bl e ⟨L, hL⟩) hL, fun b b' bl bl' L L' e e' hL hL' => h.inj b b' bl bl' L L' (old b bl e ⟨L, hL⟩) (old b' bl' e' ⟨L', hL'⟩) hL hL',
    fun b hb => ⟨(h.fresh b (Nat.le_of_succ_le hb)).1, by
      show (st.heap.set st.nxt _).get b = none
      have hb' : st.nxt + 1 ≤ b := hb
      rw [Tr.get_set, if_neg (by omega)]
      exact (h.fresh b (by omega)).2⟩, h.glob, fun b bl L hg e hL => h.own b bl L hg (old b bl e ⟨L, hL⟩) hL, h.below⟩
/-- the block is made -/
theorem Rel.made (h : Rel T W ρ st w) {x : New} {b : Nat} {c : Array Value} (hb : st.heap.get b = some x.blk) (hn : ρ b = none) (hg : T.globals ≤ b) (hlt : b < st.nxt) (hr : Rls ρ x.cells c.toList) :
    Rel T W (ρ.put b ⟨w.heap.size, 0, c.size⟩) st (w.alloc (.cells c x.ty)) := by
  have hlen := hr.length
  exact h.alloc (st' := st) (b := b) (bl := x.blk) (c := c) hn hg hlt (Nat.le_refl _) hb (fun b' bl' _ e => e) (by show len x.cells ≤ c.size; rw [len_eq]; simp at hlen; omega) (fun i v e => by
    have e' : (wr x.cells 0 .nil).get i = some v := e
    rw [get_wr_nil] at e'
    obtain ⟨y, h1, h2⟩ := hr.get e'
    exact ⟨by show i < len x.cells; rw [len_eq]; exact lt_of_get e', y, by simpa using h1, h2⟩)
end
end Ev
end Go.Proofs.YtodegmphcjgipaaGreatDoor
/-! Regions whose order is drawn, continued: what holds between two operations. -/
namespace Go.Proofs.YtodegmphcjgipaaGreatDoor
namespace Ev
open Go Go.RowKit

/-- an operation that the evaluator has passed: the frame at which it did, the value, the block's name -/
structure Rc where
  s : Slot
  fr : F
  v : V
  b : Nat
  isnew : Bool
def Wants (ops : Array Oper) (o : Oper) (fr : F) : Prop := o.guard = none ∨ ∃ g, o.guard = some g ∧ guardOf ops g fr = some true
/-- an operation that the evaluator has passed and that is still to be done gives that value now -/
inductive Val1 (T : Tab) (ops : Array Oper) (ρ : Map) (st : St) (r : Rc) : Prop
  | out (g : Nat × Bool) (hg : r.s.o.guard = some g) (h : guardOf ops g r.fr = some false) (hv : r.v = .tup [])
  | quiet (hw : Wants ops r.s.o r.fr) (h : ∀ st', evOp r.s.o.op T r.fr st' = .val r.v st')
  | read (hw : Wants ops r.s.o r.fr) (hk : kindsOf r.s.o.op = 2) (h : evOp r.s.o.op T r.fr st = .val r.v st)
  | new (hw : Wants ops r.s.o r.fr) (x : New) (hi : r.isnew = true) (hx : newOf r.s.o.op T r.fr = some x) (hv : r.v = x.v r.b) (hn : ρ r.b = none) (hg : T.globals ≤ r.b) (hlt : r.b < st.nxt) (hb : st.heap.get r.b = some x.blk)
/-- it is in the list of what is looked at again -/
def Listed (T : Tab) (ops : Array Oper) (ag : List Again) (r : Rc) : Prop :=
  (kindsOf r.s.o.op = 2 → Wants ops r.s.o r.fr → Again.read r.s.i (evOp r.s.o.op T r.fr) r.v ∈ ag) ∧ (r.isnew = true → ∃ x, newOf r.s.o.op T r.fr = some x ∧ r.v = x.v r.b ∧ Again.new r.s.i x r.b ∈ ag)

structure Inv (T : Tab) (W : Base) (n k0 : Nat) (ops : Array Oper) (all : List Slot) (ps : List Rc) (rest : List Slot) (fr : F) (st : St) (ag : List Again) (L : Nat → Prop) (ρ : Map) (a : Act) (w : World) : Prop where
  split : all = ps.map (·.s) ++ rest
  notyet : ∀ s ∈ rest, ¬ L s.i
  effs : ∀ r ∈ ps, kindsOf r.s.o.op = 0 → L r.s.i
  closed : ∀ r ∈ ps, L r.s.i → ∀ i, Nat.testBit r.s.w i = true → L i
  rel : Rel T W ρ st w
  frame : ∀ t v, fr.get t = some v → (∀ r ∈ ps, r.s.o.dst = some t → L r.s.i) → ∃ x, a.tmps[t]? = some x ∧ Rl ρ v x
  size : a.tmps.size = n
  defers : a.defers = []
  looks : ∀ r ∈ ps, ¬ L r.s.i → ∀ t ∈ looksL ops r.s.o, ∀ v, r.fr.get t = some v → fr.get t = some v
  dsts : ∀ r ∈ ps, ¬ L r.s.i → ∀ d, r.s.o.dst = some d → fr.get d = some r.v
  vals : ∀ r ∈ ps, ¬ L r.s.i → Val1 T ops ρ st r
  names : ∀ r ∈ ps, r.isnew = true → r.b < st.nxt
  apart : ∀ r ∈ ps, ∀ r' ∈ ps, r.isnew = true → r'.isnew = true → r.b = r'.b → r.s.i = r'.s.i
  listed : ∀ r ∈ ps, Listed T ops ag r
  low : k0 ≤ st.nxt
  lower : ∀ r ∈ ps, r.isnew = true → k0 ≤ r.b

section
variable {P : Program} {T : Tab} {W : Base} {ρ : Map} {st : St} {w : World} {n k0 : Nat} {Q : Exit → Act → World → Prop} {ops : Array Oper} {all : List Slot}

theorem Val1.new_st {r : Rc} (h : Val1 T ops ρ st r) (hf : st.heap.get st.nxt = none) (t : TypeId) (vs : List V) : Val1 T ops ρ (st.new t vs) r := by
  have hs : ∀ b bl, st.heap.get b = some bl → (st.new t vs).heap.get b = some bl := fun b bl e => by
    show (st.heap.set st.nxt _).get b = some bl
    rw [Tr.get_set, if_neg (fun q => by rw [q, hf] at e; cases e)]
    exact e
  cases h with
  | out g hg h hv => exact .out g hg h hv
  | quiet hw h => exact .quiet hw h
  | read hw hk h =>
    refine .read hw hk ?_
    obtain ⟨g, h1, h2⟩ := kind_two (T := T) (fr := r.fr) hk
    rw [h1] at h ⊢
    rw [h2 st _ r.v hs (rv_val h).1]
    rfl
  | new hw x hi hx hv hn hg hlt hb => exact .new hw x hi hx hv hn hg (Nat.lt_succ_of_lt hlt) (hs _ _ hb)

theorem putF_get {fr : F} {o : Option Tmp} {v : V} {t : Nat} : (putF fr o v).get t = if o = some t then some v else fr.get t := by
  cases o with
  | none => rw [if_neg (by intro e; cases e)]; rfl
  | some d =>
    show (fr.set d v).get t = _
    rw [Tr.get_set]
    by_cases h : t = d
    · rw [if_pos h, if_pos (by rw [h])]
    · rw [if_neg h, if_neg (by intro e; cases e; exact h rfl)]

/-- what an operation that acts has waited for is done -/
theorem Inv.past {ps : List Rc} {rest : List Slot} {fr : F} {ag : List Again} {L : Nat → Prop} {a : Act} (h : Inv T W n k0 ops all ps rest fr st ag L ρ a w) {s : Slot} {done : List Slot} (hd : ∀ x ∈ done, x ∈ ps.map (·.s)) (hp : Past done s) : L s.i := by
  obtain ⟨e, h1, h2, h3⟩ := hp
  obtain ⟨r, hr, rfl⟩ := List.mem_map.1 (hd e h1)
  have hl := h.effs r hr h2
  rcases h3 with q | q
  · exact q ▸ hl
  · exact h.closed r hr hl _ q
/-- the evaluator passes an operation that does not act -/
theorem Inv.add {ps : List Rc} {rest : List Slot} {s : Slot} {fr : F} {ag ag' : List Again} {L : Nat → Prop} {a : Act} (hS : ∀ pre s post, all = pre ++ s :: post → StepOk n ops pre s) (h : Inv T W n k0 ops all ps (s :: rest) fr st ag L ρ a w) (hk : kindsOf s.o.op ≠ 0)
    {r : Rc} {st' : St} (hr : r.s = s) (hfr : r.fr = fr) (hag : ∀ x ∈ ag, x ∈ ag') (hlist : Listed T ops ag' r) (hval : Val1 T ops ρ st' r) (hst : (st' = st ∧ r.isnew = false) ∨ ∃ t vs, st' = st.new t vs ∧ r.b = st.nxt) :
    Inv T W n k0 ops all (ps ++ [r]) rest (putF fr s.o.dst r.v) st' ag' L ρ a w := by
  subst hr
  have hstep := hS (ps.map (·.s)) r.s rest h.split
  have hnl : ¬ L r.s.i := h.notyet r.s (by simp)
  have hf := h.rel.fresh st.nxt (Nat.le_refl _)
  have hle : st.nxt ≤ st'.nxt := by
    rcases hst with ⟨rfl, -⟩ | ⟨t, vs, rfl, -⟩
    · exact Nat.le_refl _
    · exact Nat.le_succ _
  have mem : ∀ r' ∈ ps, r'.s ∈ ps.map (·.s) := fun r' hr' => List.mem_map.2 ⟨r', hr', rfl⟩
  have two : ∀ {p : Rc → Prop}, (∀ r' ∈ ps, p r') → p r → ∀ r' ∈ ps ++ [r], p r' := fun h1 h2 r' hr' => by
    rcases List.mem_append.1 hr' with q | q
    · exact h1 r' q
    · simp at q; subst q; exact h2
  refine ⟨?_, ?_, ?_, ?_, ?_, ?_, h.size, h.defers, ?_, ?_, ?_, ?_, ?_, ?_, Nat.le_trans h.low hle, ?_⟩
  · rw [h.split]; simp
  · exact fun s' hs' => h.notyet s' (by simp [hs'])
  · exact two h.effs (fun e => absurd e hk)
  · exact two h.closed (fun e => absurd e hnl)
  · rcases hst with ⟨rfl, -⟩ | ⟨t, vs, rfl, -⟩
    · exact h.rel
    · exact h.rel.name t vs
  · intro t v e hl
    rw [putF_get] at e
    by_cases hd : r.s.o.dst = some t
    · exact absurd (hl r (by simp) hd) hnl
    · rw [if_neg hd] at e
      exact h.frame t v e (fun r' hr' => hl r' (by simp [hr']))
  · refine two (fun r' hr' hn t ht v e => ?_) (fun _ t ht v e => ?_)
    · rw [putF_get, if_neg (fun q => (((hstep.dst t q).2.2 _ (mem r' hr')).1 ht).elim (fun q1 => hn (h.past (fun _ q => q) q1)) (fun q1 => hk q1.1))]
      exact h.looks r' hr' hn t ht v e
    · rw [putF_get, if_neg (fun q => (hstep.dst t q).2.1 ht), ← hfr]
      exact e
  · refine two (fun r' hr' hn d hd => ?_) (fun _ d hd => ?_)
    · rw [putF_get, if_neg (fun q => ((hstep.dst d q).2.2 _ (mem r' hr')).2 hd)]
      exact h.dsts r' hr' hn d hd
    · rw [putF_get, if_pos hd]
  · refine two (fun r' hr' hn => ?_) (fun _ => hval)
    rcases hst with ⟨rfl, -⟩ | ⟨t, vs, rfl, -⟩
    · exact h.vals r' hr' hn
    · exact (h.vals r' hr' hn).new_st hf.2 t vs
  · refine two (fun r' hr' hi => Nat.lt_of_lt_of_le (h.names r' hr' hi) hle) (fun hi => ?_)
    rcases hst with ⟨rfl, q⟩ | ⟨t, vs, rfl, q⟩
    · rw [hi] at q; cases q
    · rw [q]; exact Nat.lt_succ_self _
  · have far : ∀ r' ∈ ps, r'.isnew = true → r.isnew = true → r'.b ≠ r.b := fun r' hr' hi hi2 e => by
      rcases hst with ⟨-, q⟩ | ⟨t, vs, -, q⟩
      · rw [hi2] at q; cases q
      · have := h.names r' hr' hi
        omega
    refine two (fun r1 h1 => two (fun r2 h2 => h.apart r1 h1 r2 h2) (fun i1 i2 e => absurd e (far r1 h1 i1 i2))) (two (fun r2 h2 i1 i2 e => absurd e.symm (far r2 h2 i2 i1)) (fun _ _ _ => rfl))
  · exact two (fun r' hr' => ⟨fun q1 q2 => hag _ ((h.listed r' hr').1 q1 q2), fun q => let ⟨x, q1, q2, q3⟩ := (h.listed r' hr').2 q; ⟨x, q1, q2, hag _ q3⟩⟩) hlist
  · refine two h.lower (fun hi => ?_)
    rcases hst with ⟨-, q⟩ | ⟨t, vs, -, q⟩
    · rw [hi] at q; cases q
    · rw [q]; exact h.low

theorem newR_inj {x : Option New} {v : V} {st' : St} (h : newR st x = .val v st') : ∃ y, x = some y ∧ v = y.v st.nxt ∧ st' = st.new y.ty y.cells := by
  cases x with
  | none => cases (show R.fail = R.val v st' from h)
  | some y => cases (show R.val (y.v st.nxt) (st.new y.ty y.cells) = R.val v st' from h); exact ⟨y, rfl, rfl, rfl⟩

theorem Inv.pass {cf : CallF} {ps : List Rc} {rest : List Slot} {s : Slot} {fr : F} {ag : List Again} {L : Nat → Prop} {a : Act} (hS : ∀ pre s post, all = pre ++ s :: post → StepOk n ops pre s) (h : Inv T W n k0 ops all ps (s :: rest) fr st ag L ρ a w) (hk : kindsOf s.o.op ≠ 0)
    (hout : OutP T W n k0 ρ Q (evDraw (s :: rest) T cf ops ag fr st)) :
    ∃ r fr' st' ag', Inv T W n k0 ops all (ps ++ [r]) rest fr' st' ag' L ρ a w ∧ OutP T W n k0 ρ Q (evDraw rest T cf ops ag' fr' st') := by
  have hg := glob_nxt h.rel
  have hf := h.rel.fresh st.nxt (Nat.le_refl _)
  have go : Wants ops s.o fr → OutP T W n k0 ρ Q (dGo s (evDraw rest) T cf ops ag fr st) →
      ∃ r fr' st' ag', Inv T W n k0 ops all (ps ++ [r]) rest fr' st' ag' L ρ a w ∧ OutP T W n k0 ρ Q (evDraw rest T cf ops ag' fr' st') := fun hw ho => by
    have h1 : OutP T W n k0 ρ Q (resK (evOp s.o.op T fr st) (fun _ _ _ => .fail) fun v st' => evDraw rest T cf ops (againOf s T fr st v ag) (putF fr s.o.dst v) st') := by
      unfold dGo at ho
      rw [beq_ne hk, bi_f] at ho
      exact ho
    cases hr : evOp s.o.op T fr st with
    | fail => rw [hr] at h1; exact h1.elim
    | call f args st' => rw [hr] at h1; exact h1.elim
    | val v st' =>
      rw [hr] at h1
      have h2 : OutP T W n k0 ρ Q (evDraw rest T cf ops (againOf s T fr st v ag) (putF fr s.o.dst v) st') := h1
      by_cases k1 : kindsOf s.o.op = 1
      · obtain ⟨g, hg1⟩ := kind_one (T := T) (fr := fr) k1
        rw [hg1] at hr
        obtain ⟨hgv, rfl⟩ := rv_val hr
        have ha : againOf s T fr st' v ag = ag := by unfold againOf; rw [k1]; rfl
        rw [ha] at h2
        refine ⟨⟨s, fr, v, 0, false⟩, _, st', ag, h.add hS hk (r := ⟨s, fr, v, 0, false⟩) rfl rfl (fun _ q => q) ⟨fun q => by simp only at q; omega, fun q => by cases q⟩ (.quiet hw (fun st2 => by show evOp s.o.op T fr st2 = .val v st2; rw [hg1, hgv]; rfl)) (.inl ⟨rfl, rfl⟩), h2⟩
      · by_cases k2 : kindsOf s.o.op = 2
        · obtain ⟨g, hg1, -⟩ := kind_two (T := T) (fr := fr) k2
          have hr' := hr
          rw [hg1] at hr'
          obtain ⟨hgv, rfl⟩ := rv_val hr'
          have ha : againOf s T fr st' v ag = .read s.i (evOp s.o.op T fr) v :: ag := by unfold againOf; rw [k2]; rfl
          rw [ha] at h2
          exact ⟨⟨s, fr, v, 0, false⟩, _, st', _, h.add hS hk (r := ⟨s, fr, v, 0, false⟩) rfl rfl (fun _ q => by simp [q]) ⟨fun _ _ => by simp, fun q => by cases q⟩ (.read hw k2 hr) (.inl ⟨rfl, rfl⟩), h2⟩
        · have hr' := hr
          rw [kind_three hk k1 k2] at hr'
          obtain ⟨x, hx, rfl, rfl⟩ := newR_inj hr'
          have ha : againOf s T fr st (x.v st.nxt) ag = .new s.i x st.nxt :: ag := by unfold againOf; rw [beq_ne k1, beq_ne k2, bi_f, bi_f, hx]
          rw [ha] at h2
          refine ⟨⟨s, fr, x.v st.nxt, st.nxt, true⟩, _, _, _, h.add hS hk (r := ⟨s, fr, x.v st.nxt, st.nxt, true⟩) rfl rfl (fun _ q => by simp [q]) ⟨fun q => absurd q k2, fun _ => ⟨x, hx, rfl, by simp⟩⟩
            (.new hw x rfl hx rfl hf.1 hg (Nat.lt_succ_self _) (by show (st.heap.set st.nxt _).get st.nxt = _; rw [Tr.get_set, if_pos rfl]; rfl)) (.inr ⟨_, _, rfl, rfl⟩), h2⟩
  have h0 : OutP T W n k0 ρ Q (dStep s (evDraw rest) T cf ops ag fr st) := hout
  unfold dStep at h0
  cases hgd : s.o.guard with
  | none => rw [hgd] at h0; exact go (.inl hgd) h0
  | some g =>
    rw [hgd] at h0
    have h1 : OutP T W n k0 ρ Q (Option.rec .fail (fun t => bi t (dGo s (evDraw rest) T cf ops ag fr st) (evDraw rest T cf ops ag (putF fr s.o.dst (.tup [])) st)) (guardOf ops g fr)) := h0
    cases ht : guardOf ops g fr with
    | none => rw [ht] at h1; exact h1.elim
    | some t =>
      rw [ht] at h1
      cases t with
      | true => exact go (.inr ⟨g, hgd, ht⟩) h1
      | false =>
        refine ⟨⟨s, fr, .tup [], 0, false⟩, _, st, ag, h.add hS hk (r := ⟨s, fr, .tup [], 0, false⟩) rfl rfl (fun _ q => q) ⟨fun _ q => ?_, fun q => by cases q⟩ (.out g hgd ht rfl) (.inl ⟨rfl, rfl⟩), h1⟩
        rcases q with q | ⟨g', q1, q2⟩
        · simp only at q; rw [hgd] at q; cases q
        · simp only at q1 q2
          rw [hgd] at q1; cases q1
          rw [ht] at q2; cases q2
end
end Ev
end Go.Proofs.YtodegmphcjgipaaGreatDoor
/-! Regions whose order is drawn, continued: one operation is done. -/
namespace Go.Proofs.YtodegmphcjgipaaGreatDoor
namespace Ev
open Go Go.RowKit

section
variable {P : Program} {T : Tab} {W : Base} {ρ : Map} {st : St} {w : World} {n k0 : Nat} {Q : Exit → Act → World → Prop} {ops : Array Oper} {all : List Slot}

theorem tmps_mem : ∀ {l : List Operand} {t : Nat}, Operand.tmp t ∈ l → t ∈ tmpsL l
  | [], t, h => by cases h
  | x :: l, t, h => by
    rcases List.mem_cons.1 h with e | h
    · subst e
      show t ∈ t :: tmpsL l
      simp
    · have := tmps_mem h
      cases x with
      | tmp u => show t ∈ u :: tmpsL l; simp [this]
      | const v => exact this
      | global g => exact this
      | func f => exact this
theorem looks_operand {o : Oper} {t : Nat} (h : Operand.tmp t ∈ o.op.operands.toList) : t ∈ looksL ops o := by
  unfold looksL
  rw [app_eq]
  exact List.mem_append.2 (.inl (tmps_mem h))
theorem looks_guard {o : Oper} {g : Nat × Bool} {d : Nat} (hg : o.guard = some g) (hd : (ops[g.1]?).bind (·.dst) = some d) : d ∈ looksL ops o := by
  unfold looksL
  rw [app_eq, hg]
  refine List.mem_append.2 (.inr ?_)
  show d ∈ (Option.rec [] (fun o' : Oper => Option.rec [] (fun d => [d]) o'.dst) (lget ops.toList g.1) : List Nat)
  rw [lget_eq]
  have he : ops.toList[g.1]? = ops[g.1]? := by simp
  rw [he]
  cases ho : ops[g.1]? with
  | none => rw [ho] at hd; cases hd
  | some o' =>
    rw [ho] at hd
    have hd' : o'.dst = some d := hd
    show d ∈ (Option.rec [] (fun d => [d]) o'.dst : List Nat)
    rw [hd']
    simp
theorem knows_of {fr : F} {a : Act} {o : Oper} (h : Rel T W ρ st w) (hk : ∀ t ∈ looksL ops o, ∀ v, fr.get t = some v → ∃ x, a.tmps[t]? = some x ∧ Rl ρ v x) : Knows T ρ fr a o.op := by
  intro x hx v hv
  cases x with
  | tmp t =>
    obtain ⟨y, h1, h2⟩ := hk t (looks_operand hx) v hv
    show Rl ρ v (a.tmps.getD t undef)
    rw [show a.tmps.getD t undef = y by simp [Array.getD_eq_getD_getElem?, h1]]
    exact h2
  | const u => exact ofVal_rl ρ hv
  | global g =>
    obtain ⟨h1, h2⟩ := bi_none (show bi (Nat.blt g T.globals) (some (V.ptr g 0)) none = some v from hv)
    cases h2
    obtain ⟨m, hm⟩ := h.glob g (blt_t h1)
    exact .ptr g 0 ⟨g, 0, m⟩ hm
  | func f =>
    cases (show some (V.func f [] []) = some v from hv)
    exact .func f [] [] #[] #[] .nil .nil

theorem uniq (hS : ∀ pre s post, all = pre ++ s :: post → StepOk n ops pre s) {s s' : Slot} (h : s ∈ all) (h' : s' ∈ all) (e : s.i = s'.i) : s = s' := by
  obtain ⟨pre, post, rfl⟩ := List.append_of_mem h
  rcases List.mem_append.1 h' with q | q
  · exact absurd e.symm ((hS pre s post rfl).new s' q)
  · rcases List.mem_cons.1 q with q | q
    · exact q.symm
    · obtain ⟨p1, p2, rfl⟩ := List.append_of_mem q
      exact absurd e ((hS (pre ++ s :: p1) s' p2 (by simp)).new s (by simp))
/-- what an operation that is not done looks at is there -/
theorem Inv.known {ps : List Rc} {rest : List Slot} {fr : F} {ag : List Again} {L : Nat → Prop} {a : Act} (hS : ∀ pre s post, all = pre ++ s :: post → StepOk n ops pre s) (h : Inv T W n k0 ops all ps rest fr st ag L ρ a w) {s : Slot} (hs : s ∈ all) (hnl : ¬ L s.i) (hw : ∀ i, Nat.testBit s.w i = true → L i)
    {fr0 : F} (hfr : ∀ t ∈ looksL ops s.o, ∀ v, fr0.get t = some v → fr.get t = some v) : ∀ t ∈ looksL ops s.o, ∀ v, fr0.get t = some v → ∃ x, a.tmps[t]? = some x ∧ Rl ρ v x := fun t ht v e =>
  h.frame t v (hfr t ht v e) fun r' hr' hd => by
    obtain ⟨p1, p2, hp⟩ := List.append_of_mem (List.mem_map.2 ⟨r', hr', rfl⟩ : r'.s ∈ ps.map (·.s))
    have hsp := h.split
    rw [hp] at hsp
    have hstep := hS p1 r'.s (p2 ++ rest) (by rw [hsp]; simp)
    have hs' : s ∈ p1 ++ (r'.s :: (p2 ++ rest)) := by rw [hsp] at hs; simpa using hs
    rcases List.mem_append.1 hs' with q | q
    · rcases ((hstep.dst t hd).2.2 s q).1 ht with q1 | ⟨q1, q2⟩
      · exact absurd (h.past (fun x hx => by rw [hp]; simp [hx]) q1) hnl
      · exact absurd (h.closed r' hr' (h.effs r' hr' q1) _ q2) hnl
    · rcases List.mem_cons.1 q with q | q
      · subst q
        exact absurd ht (hstep.dst t hd).2.1
      · obtain ⟨q1, q2, q3⟩ := List.append_of_mem q
        exact hw _ ((hS (p1 ++ r'.s :: q1) s q2 (by rw [hsp]; simp [q3])).look t ht r'.s (by simp) hd)

theorem put_get {a : Act} {o : Option Tmp} {x : Value} (hn : ∀ d, o = some d → d < a.tmps.size) (t : Nat) : (a.put o x).tmps[t]? = if o = some t then some x else a.tmps[t]? := by
  cases o with
  | none => rw [if_neg (by intro e; cases e)]; rfl
  | some d =>
    by_cases h : d = t
    · subst h
      rw [if_pos rfl]
      simp [Act.put, hn d rfl]
    · rw [if_neg (by intro e; cases e; exact h rfl)]
      simp [Act.put, h]
theorem put_size {a : Act} {o : Option Tmp} {x : Value} : (a.put o x).tmps.size = a.tmps.size := by
  cases o <;> simp [Act.put]
theorem put_defers {a : Act} {o : Option Tmp} {x : Value} : (a.put o x).defers = a.defers := by cases o <;> rfl

/-- an operation that was passed is done -/
theorem Inv.done {ps : List Rc} {rest : List Slot} {fr : F} {ag : List Again} {L : Nat → Prop} {a : Act} (hS : ∀ pre s post, all = pre ++ s :: post → StepOk n ops pre s) (h : Inv T W n k0 ops all ps rest fr st ag L ρ a w) {r : Rc} (hr : r ∈ ps) (hnl : ¬ L r.s.i) (hw : ∀ i, Nat.testBit r.s.w i = true → L i)
    {ρ' : Map} {w' : World} {x : Value} (hrel : Rel T W ρ' st w') (hle : ρ.le ρ') (hx : Rl ρ' r.v x) (hnone : ∀ r' ∈ ps, ¬ L r'.s.i → r'.s.i ≠ r.s.i → r'.isnew = true → ρ r'.b = none → ρ' r'.b = none) {L' : Nat → Prop} (hL : ∀ j, L' j ↔ L j ∨ j = r.s.i) :
    Inv T W n k0 ops all ps rest fr st ag L' ρ' (a.put r.s.o.dst x) w' := by
  have mem : ∀ r' ∈ ps, r'.s ∈ all := fun r' hr' => by rw [h.split]; exact List.mem_append.2 (.inl (List.mem_map.2 ⟨r', hr', rfl⟩))
  have same : ∀ r' ∈ ps, r'.s.i = r.s.i → r'.s = r.s := fun r' hr' e => uniq hS (mem r' hr') (mem r hr) e
  have hdn : ∀ d, r.s.o.dst = some d → d < n := fun d hd => by
    obtain ⟨pre, post, e⟩ := List.append_of_mem (mem r hr)
    exact ((hS pre r.s post e).dst d hd).1
  have nl : ∀ j, ¬ L' j → ¬ L j := fun j q e => q ((hL j).2 (.inl e))
  refine ⟨h.split, fun s hs e => ?_, fun r' hr' e => (hL _).2 (.inl (h.effs r' hr' e)), fun r' hr' e i hi => ?_, hrel, fun t v e hl => ?_, by rw [put_size]; exact h.size, by rw [put_defers]; exact h.defers, fun r' hr' q => h.looks r' hr' (nl _ q), fun r' hr' q => h.dsts r' hr' (nl _ q), fun r' hr' q => ?_, h.names, h.apart, h.listed, h.low, h.lower⟩
  · rcases (hL _).1 e with q | q
    · exact h.notyet s hs q
    · obtain ⟨p1, p2, rfl⟩ := List.append_of_mem hs
      exact (hS (ps.map (·.s) ++ p1) s p2 (by rw [h.split]; simp)).new r.s (by simp; exact .inl ⟨r, hr, rfl⟩) q.symm
  · rcases (hL _).1 e with q | q
    · exact (hL i).2 (.inl (h.closed r' hr' q i hi))
    · rw [same r' hr' q] at hi
      exact (hL i).2 (.inl (hw i hi))
  · rw [put_get (fun d hd => by rw [h.size]; exact hdn d hd)]
    by_cases hd : r.s.o.dst = some t
    · rw [if_pos hd]
      rw [h.dsts r hr hnl t hd] at e
      cases e
      exact ⟨x, rfl, hx⟩
    · rw [if_neg hd]
      obtain ⟨y, h1, h2⟩ := h.frame t v e (fun r' hr' hd' => by
        rcases (hL _).1 (hl r' hr' hd') with q | q
        · exact q
        · rw [same r' hr' q] at hd'; exact absurd hd' hd)
      exact ⟨y, h1, h2.mono hle⟩
  · have hne : r'.s.i ≠ r.s.i := fun e => q ((hL _).2 (.inr e))
    cases h.vals r' hr' (nl _ q) with
    | out g hg h hv => exact .out g hg h hv
    | quiet hw h => exact .quiet hw h
    | read hw hk h => exact .read hw hk h
    | new hw y hi hy hv hn hg hlt hb => exact .new hw y hi hy hv (hnone r' hr' (nl _ q) hne hi hn) hg hlt hb

theorem allOk_t : ∀ {ag : List Again} {w : Nat} {st : St}, allOk ag w st = true → ∀ a ∈ ag, a.ok w st = true
  | [], _, _, _, a, ha => by cases ha
  | b :: ag, w, st, h, a, ha => by
    obtain ⟨h1, h2⟩ := bi_ff (show bi (b.ok w st) (allOk ag w st) false = true from h)
    rcases List.mem_cons.1 ha with rfl | ha
    · exact h1
    · exact allOk_t h2 a ha
/-- an operation that acts is done -/
theorem Inv.effect {ps : List Rc} {rest : List Slot} {fr : F} {ag : List Again} {L : Nat → Prop} {a : Act} {s : Slot} (hS : ∀ pre s post, all = pre ++ s :: post → StepOk n ops pre s) (h : Inv T W n k0 ops all ps (s :: rest) fr st ag L ρ a w) (hk : kindsOf s.o.op = 0) (hw : ∀ i, Nat.testBit s.w i = true → L i)
    {ρ' : Map} {st' : St} {w' : World} {v : V} {x : Value} (hrel : Rel T W ρ' st' w') (hgr : Grow st.nxt st'.nxt ρ ρ') (hx : Rl ρ' v x) (hv : ∀ r ∈ ps, ¬ L r.s.i → Val1 T ops ρ' st' r) {L' : Nat → Prop} (hL : ∀ j, L' j ↔ L j ∨ j = s.i) :
    Inv T W n k0 ops all (ps ++ [⟨s, fr, v, 0, false⟩]) rest (putF fr s.o.dst v) st' ag L' ρ' (a.put s.o.dst x) w' := by
  have hstep := hS (ps.map (·.s)) s rest h.split
  have memp : ∀ r' ∈ ps, r'.s ∈ ps.map (·.s) := fun r' hr' => List.mem_map.2 ⟨r', hr', rfl⟩
  have nl : ∀ j, ¬ L' j → ¬ L j := fun j q e => q ((hL j).2 (.inl e))
  have ls : L' s.i := (hL _).2 (.inr rfl)
  have two : ∀ {p : Rc → Prop}, (∀ r' ∈ ps, p r') → p ⟨s, fr, v, 0, false⟩ → ∀ r' ∈ ps ++ [(⟨s, fr, v, 0, false⟩ : Rc)], p r' := fun h1 h2 r' hr' => by
    rcases List.mem_append.1 hr' with q | q
    · exact h1 r' q
    · simp at q; subst q; exact h2
  have keep : ∀ r' ∈ ps, ¬ L' r'.s.i → ∀ t, (t ∈ looksL ops r'.s.o ∨ r'.s.o.dst = some t) → (putF fr s.o.dst v).get t = fr.get t := fun r' hr' hnl' t ht => by
    rw [putF_get, if_neg (fun q => ?_)]
    have := (hstep.dst t q).2.2 _ (memp r' hr')
    exact ht.elim (fun q1 => (this.1 q1).elim (fun q2 => nl _ hnl' (h.past (fun _ q => q) q2)) (fun q2 => nl _ hnl' (hw _ q2.2))) this.2
  refine ⟨by rw [h.split]; simp, fun s' hs' e => ?_, two (fun r' hr' e => (hL _).2 (.inl (h.effs r' hr' e))) (fun _ => ls), two (fun r' hr' e i hi => ?_) (fun _ i hi => (hL i).2 (.inl (hw i hi))), hrel, fun t u e hl => ?_, by rw [put_size]; exact h.size, by rw [put_defers]; exact h.defers,
    two (fun r' hr' q t ht u e => by rw [keep r' hr' q t (.inl ht)]; exact h.looks r' hr' (nl _ q) t ht u e) (fun q => absurd ls q), two (fun r' hr' q d hd => by rw [keep r' hr' q d (.inr hd)]; exact h.dsts r' hr' (nl _ q) d hd) (fun q => absurd ls q),
    two (fun r' hr' q => hv r' hr' (nl _ q)) (fun q => absurd ls q), two (fun r' hr' i => Nat.lt_of_lt_of_le (h.names r' hr' i) hgr.2.1) (fun i => by cases i),
    two (fun r1 h1 => two (fun r2 h2 => h.apart r1 h1 r2 h2) (fun _ i => by cases i)) (fun r2 _ i => by cases i), two h.listed ⟨fun q => ?_, fun i => by cases i⟩, Nat.le_trans h.low hgr.2.1, two h.lower (fun i => by cases i)⟩
  · rcases (hL _).1 e with q | q
    · exact h.notyet s' (by simp [hs']) q
    · obtain ⟨p1, p2, rfl⟩ := List.append_of_mem hs'
      exact (hS (ps.map (·.s) ++ s :: p1) s' p2 (by rw [h.split]; simp)).new s (by simp) q.symm
  · rcases (hL _).1 e with q | q
    · exact (hL i).2 (.inl (h.closed r' hr' q i hi))
    · exact absurd q (hstep.new _ (memp r' hr'))
  · rw [put_get (fun d hd => by rw [h.size]; exact (hstep.dst d hd).1)]
    rw [putF_get] at e
    by_cases hd : s.o.dst = some t
    · rw [if_pos hd] at e ⊢
      cases e
      exact ⟨x, rfl, hx⟩
    · rw [if_neg hd] at e ⊢
      obtain ⟨y, h1, h2⟩ := h.frame t u e (fun r' hr' hd' => by
        rcases (hL _).1 (hl r' (by simp [hr']) hd') with q | q
        · exact q
        · exact absurd q (hstep.new _ (memp r' hr')))
      exact ⟨y, h1, h2.mono hgr.1⟩
  · simp only at q; omega
end
end Ev
end Go.Proofs.YtodegmphcjgipaaGreatDoor
/-! Regions whose order is drawn, the end. -/
namespace Go.Proofs.YtodegmphcjgipaaGreatDoor
namespace Ev
open Go Go.RowKit

section
variable {P : Program} {T : Tab} {W : Base} {n k0 : Nat} {Q : Exit → Act → World → Prop} {ops : Array Oper} {all : List Slot}

theorem Inv.advance {cf : CallF} {L : Nat → Prop} {ρ : Map} {a : Act} {w : World} (hS : ∀ pre s post, all = pre ++ s :: post → StepOk n ops pre s) : ∀ (rest : List Slot) (ps : List Rc) (fr : F) (st : St) (ag : List Again), Inv T W n k0 ops all ps rest fr st ag L ρ a w → OutP T W n k0 ρ Q (evDraw rest T cf ops ag fr st) →
    ∃ ps' rest' fr' st' ag', Inv T W n k0 ops all ps' rest' fr' st' ag' L ρ a w ∧ OutP T W n k0 ρ Q (evDraw rest' T cf ops ag' fr' st') ∧ (rest' = [] ∨ ∃ s l, rest' = s :: l ∧ kindsOf s.o.op = 0)
  | [], ps, fr, st, ag, h, ho => ⟨ps, [], fr, st, ag, h, ho, .inl rfl⟩
  | s :: rest, ps, fr, st, ag, h, ho => by
    by_cases hk : kindsOf s.o.op = 0
    · exact ⟨ps, s :: rest, fr, st, ag, h, ho, .inr ⟨s, rest, rfl, hk⟩⟩
    · obtain ⟨r, fr', st', ag', h1, h2⟩ := h.pass hS hk ho
      exact Inv.advance hS rest _ fr' st' ag' h1 h2

theorem first_not {p : Slot → Prop} : ∀ (l : List Slot), (∃ s ∈ l, ¬ p s) → ∃ pre s post, l = pre ++ s :: post ∧ ¬ p s ∧ ∀ s' ∈ pre, p s'
  | [], ⟨s, h, _⟩ => by cases h
  | x :: l, h => by
    by_cases hx : p x
    · obtain ⟨s, hs, hn⟩ := h
      rcases List.mem_cons.1 hs with e | hs
      · subst e; exact absurd hx hn
      · obtain ⟨pre, s', post, h1, h2, h3⟩ := first_not l ⟨s, hs, hn⟩
        refine ⟨x :: pre, s', post, by rw [h1]; rfl, h2, fun y hy => ?_⟩
        rcases List.mem_cons.1 hy with e | hy
        · subst e; exact hx
        · exact h3 y hy
    · exact ⟨[], x, l, rfl, hx, fun y hy => by cases hy⟩

theorem ready_iff {listed : Array Bool} {i : Nat} {o : Oper} (ho : ops[i]? = some o) : i ∈ Region.ready .any ops listed ↔ listed.getD i true = false ∧ ∀ e ∈ o.after.toList, Region.binds .any e = true → listed.getD e.on false = true := by
  have hlt : i < ops.size := by
    rcases Nat.lt_or_ge i ops.size with q | q
    · exact q
    · rw [Array.getElem?_eq_none q] at ho; cases ho
  unfold Region.ready
  rw [List.mem_filter, List.mem_range, ho]
  simp only [Option.map_some, Option.getD_some, Bool.and_eq_true, Bool.not_eq_true', Array.all_eq_true_iff_forall_mem, Bool.or_eq_true]
  constructor
  · rintro ⟨-, h1, h2⟩
    refine ⟨h1, fun e he hb => ?_⟩
    rcases h2 e (by simpa using he) with q | q
    · rw [hb] at q; cases q
    · exact q
  · rintro ⟨h1, h2⟩
    refine ⟨hlt, h1, fun e he => ?_⟩
    cases hb : Region.binds .any e with
    | false => exact .inl rfl
    | true => exact .inr (h2 e (by simpa using he) hb)
theorem ready_lt {listed : Array Bool} {i : Nat} (h : i ∈ Region.ready .any ops listed) : i < ops.size := by
  unfold Region.ready at h
  exact List.mem_range.1 (List.mem_filter.1 h).1

theorem set_listed {listed : Array Bool} {i : Nat} (hi : i < listed.size) (j : Nat) : (listed.setIfInBounds i true).getD j false = true ↔ listed.getD j false = true ∨ j = i := by
  simp only [Array.getD_eq_getD_getElem?]
  by_cases h : i = j
  · subst h; simp [hi]
  · simp [h, Ne.symm h]
theorem count_set {listed : Array Bool} {i : Nat} (hi : i < listed.size) (hf : listed.getD i true = false) {k : Nat} (hc : listed.toList.count false = k + 1) : (listed.setIfInBounds i true).toList.count false = k := by
  have hi' : i < listed.toList.length := by simpa using hi
  rw [Array.toList_setIfInBounds, List.count_set hi']
  have hg : listed.toList[i] = false := by
    simp only [Array.getD_eq_getD_getElem?, Array.getElem?_eq_getElem hi, Option.getD_some] at hf
    simpa using hf
  simp [hg, hc]
end
end Ev
end Go.Proofs.YtodegmphcjgipaaGreatDoor
/-! A region whose order is drawn is what the evaluator says of it. -/
namespace Go.Proofs.YtodegmphcjgipaaGreatDoor
namespace Ev
open Go Go.RowKit

section
variable {P : Program} {T : Tab} {W : Base} {n k0 : Nat} {Q : Exit → Act → World → Prop} {ops : Array Oper} {all : List Slot}

theorem sameR_t {f : St → R} {g : St → Option V} (hf : ∀ st, f st = rv st (g st)) {st : St} {v : V} (h : sameR (f st) v = true) : f st = .val v st := by
  rw [hf st] at h ⊢
  cases hg : g st with
  | none => rw [hg] at h; cases (show false = true from h)
  | some u =>
    rw [hg] at h
    rw [eqV_t u v (show eqV u v = true from h)]
    rfl

theorem draw_ok (H : Tys P T) (HF : Funs P T) {cf : CallF} (hcf : CallOk P T W cf) (hS : ∀ pre s post, all = pre ++ s :: post → StepOk n ops pre s) (hC : ∀ i, i < ops.size → ∃ s ∈ all, s.i = i) (hM : ∀ s ∈ all, ops[s.i]? = some s.o) :
    ∀ (fuel : Nat) (listed : Array Bool) (ps : List Rc) (rest : List Slot) (fr : F) (st : St) (ag : List Again) (ρ : Map) (a : Act) (w : World), listed.size = ops.size → listed.toList.count false = fuel →
      Inv T W n k0 ops all ps rest fr st ag (fun i => listed.getD i false = true) ρ a w → OutP T W n k0 ρ Q (evDraw rest T cf ops ag fr st) → wpAny P .any ops Q fuel listed a w := by
  intro fuel
  induction fuel with
  | zero =>
    intro listed ps rest fr st ag ρ a w hsz hcount h0 ho0
    obtain ⟨ps, rest, fr, st, ag, h, ho, hhead⟩ := h0.advance hS rest ps fr st ag ho0
    have hall : ∀ i, i < ops.size → listed.getD i true = true ∧ listed.getD i false = true := fun i hi => by
      have hi' : i < listed.size := by omega
      have : listed[i] ≠ false := fun e => by
        have hm : false ∈ listed.toList := by rw [← e]; simp
        have := List.count_pos_iff.2 hm
        omega
      have e : listed[i] = true := by simpa using this
      simp [Array.getD_eq_getD_getElem?, hi', e]
    have hrest : rest = [] := by
      cases hr : rest with
      | nil => rfl
      | cons s l =>
        have hs : s ∈ all := by rw [h.split, hr]; simp
        have hlt : s.i < ops.size := by
          rcases Nat.lt_or_ge s.i ops.size with q | q
          · exact q
          · have := hM s hs; rw [Array.getElem?_eq_none q] at this; cases this
        exact absurd (hall s.i hlt).2 (h.notyet s (by rw [hr]; simp))
    subst hrest
    refine ⟨?_, ?_⟩
    · rw [List.eq_nil_iff_forall_not_mem]
      intro i hi
      have hlt := ready_lt hi
      have := ((ready_iff (listed := listed) (Array.getElem?_eq_getElem hlt)).1 hi).1
      rw [(hall i hlt).1] at this; cases this
    · have ho' : OutP T W n k0 ρ Q (.norm fr st) := ho
      refine ho' ρ a w (Grow.same ρ h.low) ⟨fun t v e => h.frame t v e (fun r hr _ => ?_), h.size, h.defers⟩ h.rel
      have hs : r.s ∈ all := by rw [h.split]; exact List.mem_append.2 (.inl (List.mem_map.2 ⟨r, hr, rfl⟩))
      have hlt : r.s.i < ops.size := by
        rcases Nat.lt_or_ge r.s.i ops.size with q | q
        · exact q
        · have := hM r.s hs; rw [Array.getElem?_eq_none q] at this; cases this
      exact (hall r.s.i hlt).2
  | succ fuel ih =>
    intro listed ps rest fr st ag ρ a w hsz hcount h0 ho0
    obtain ⟨ps, rest, fr, st, ag, h, ho, hhead⟩ := h0.advance hS rest ps fr st ag ho0
    have slt : ∀ s ∈ all, s.i < ops.size := fun s hs => by
      rcases Nat.lt_or_ge s.i ops.size with q | q
      · exact q
      · have := hM s hs; rw [Array.getElem?_eq_none q] at this; cases this
    have gd : ∀ i, i < ops.size → (listed.getD i true = false ↔ ¬ listed.getD i false = true) := fun i hi => by
      have hi' : i < listed.size := by omega
      simp [Array.getD_eq_getD_getElem?, hi']
    have memp : ∀ r ∈ ps, r.s ∈ all := fun r hr => by rw [h.split]; exact List.mem_append.2 (.inl (List.mem_map.2 ⟨r, hr, rfl⟩))
    -- what is ready waits for what is listed
    have waits : ∀ s ∈ all, s.i ∈ Region.ready .any ops listed → ∀ j, Nat.testBit s.w j = true → listed.getD j false = true := fun s hs hr => by
      obtain ⟨pre, post, e⟩ := List.append_of_mem hs
      have := (ready_iff (listed := listed) (hM s hs)).1 hr
      refine (hS pre s post e).wait (fun i => listed.getD i false = true) (fun s' hs' hl i hi => ?_) (fun d hd hb => this.2 d hd hb)
      have hs2 : s' ∈ all := by rw [e]; exact List.mem_append.2 (.inl hs')
      rw [h.split] at hs2
      rcases List.mem_append.1 hs2 with q | q
      · obtain ⟨r, hr1, rfl⟩ := List.mem_map.1 q
        exact h.closed r hr1 hl i hi
      · exact absurd hl (h.notyet s' q)
    refine ⟨fun hnil => ?_, fun i hi => ?_⟩
    · exfalso
      have hex : ∃ s ∈ all, ¬ listed.getD s.i false = true := by
        have hm : false ∈ listed.toList := List.count_pos_iff.1 (by omega)
        obtain ⟨i, hi, e⟩ := List.mem_iff_getElem.1 hm
        have hi' : i < listed.size := by simpa using hi
        obtain ⟨s, hs, rfl⟩ := hC i (by omega)
        refine ⟨s, hs, ?_⟩
        have e' : listed[s.i] = false := by simpa using e
        simp [Array.getD_eq_getD_getElem?, hi', e']
      obtain ⟨pre, s, post, e1, e2, e3⟩ := first_not (p := fun s => listed.getD s.i false = true) all hex
      have hs : s ∈ all := by rw [e1]; simp
      have : s.i ∈ Region.ready .any ops listed := (ready_iff (hM s hs)).2 ⟨(gd s.i (slt s hs)).2 e2, fun d hd hb => by
        obtain ⟨s', hs', hi'⟩ := (hS pre s post e1).edge d hd hb
        rw [← hi']; exact e3 s' hs'⟩
      rw [hnil] at this; cases this
    · have hlt := ready_lt hi
      obtain ⟨s, hs, rfl⟩ := hC i hlt
      have ho' := hM s hs
      have hr := (ready_iff (listed := listed) ho').1 hi
      have hnl : ¬ listed.getD s.i false = true := (gd s.i hlt).1 hr.1
      have hw := waits s hs hi
      have hil : s.i < listed.size := by omega
      have hL := set_listed hil
      have hc' := count_set hil hr.1 hcount
      have hsz' : (listed.setIfInBounds s.i true).size = ops.size := by simpa using hsz
      have low : ∀ {l : Nat} {ρ' : Map}, Grow st.nxt l ρ ρ' → Grow k0 k0 ρ ρ' := fun g => ⟨g.1, Nat.le_refl _, fun b hb => g.2.2 b (Nat.lt_of_lt_of_le hb h.low)⟩
      have guard : ∀ {fr0 : F} {g : Nat × Bool} {t : Bool}, (∀ t ∈ looksL ops s.o, ∀ v, fr0.get t = some v → fr.get t = some v) → s.o.guard = some g → guardOf ops g fr0 = some t → Region.wanted s.o (yielded ops a.tmps) = t := fun hfr hg ht =>
        guard_eq (fun d v e hd => h.known hS hs hnl hw hfr d (looks_guard hg hd) v e) ht hg
      unfold wpOp
      rw [ho']
      show if Region.wanted s.o (yielded ops a.tmps) = true then s.o.wp P a w (wpAny P .any ops Q fuel (listed.setIfInBounds s.i true)) Q ∨ _ else wpAny P .any ops Q fuel (listed.setIfInBounds s.i true) (a.put s.o.dst undef) w
      have hs' := hs
      rw [h.split] at hs'
      rcases List.mem_append.1 hs' with q | q
      · -- an operation that was passed
        obtain ⟨r, hrp, rfl⟩ := List.mem_map.1 q
        have hlk := h.looks r hrp hnl
        have hK : Knows T ρ r.fr a r.s.o.op := knows_of h.rel (h.known hS hs hnl hw hlk)
        have want : Wants ops r.s.o r.fr → Region.wanted r.s.o (yielded ops a.tmps) = true := fun hwt => by
          rcases hwt with q1 | ⟨g, q1, q2⟩
          · unfold Region.wanted; rw [q1]
          · exact guard hlk q1 q2
        have fin : ∀ {ρ' : Map} {w' : World} {x : Value}, Rel T W ρ' st w' → ρ.le ρ' → Grow k0 k0 ρ ρ' → Rl ρ' r.v x → (∀ r' ∈ ps, ¬ listed.getD r'.s.i false = true → r'.s.i ≠ r.s.i → r'.isnew = true → ρ r'.b = none → ρ' r'.b = none) → wpAny P .any ops Q fuel (listed.setIfInBounds r.s.i true) (a.put r.s.o.dst x) w' := fun h1 h2 h3 h4 h5 =>
          ih _ ps rest fr st ag _ _ _ hsz' hc' (h.done hS hrp hnl hw h1 h2 h4 h5 hL) (ho.mono h3)
        have act : Wants ops r.s.o r.fr → evOp r.s.o.op T r.fr st = .val r.v st → r.s.o.wp P a w (wpAny P .any ops Q fuel (listed.setIfInBounds r.s.i true)) Q := fun _ he => by
          obtain ⟨x, w', ρ', h1, h2, h3, h4⟩ := op_val H HF h.rel r.s.o hK he
          have h5 := fin h3 h2.1 (low h2) h4 (fun r' hr' _ _ hi hn => by rw [h2.2.2 _ (h.names r' hr' hi)]; exact hn)
          unfold Oper.wp
          rcases h1 with h1 | ⟨h1, rfl⟩
          · rw [h1]; exact h5
          · rw [h1]; exact h5
        cases h.vals r hrp hnl with
        | out g hg hgo hv =>
          rw [guard hlk hg hgo, if_neg (by simp)]
          exact fin h.rel (Map.le_refl ρ) (Grow.refl _ ρ) (by rw [hv]; exact .tup _ _ .nil) (fun _ _ _ _ _ hn => hn)
        | quiet hwt he => rw [want hwt, if_pos rfl]; exact .inl (act hwt (he st))
        | read hwt hk he => rw [want hwt, if_pos rfl]; exact .inl (act hwt he)
        | new hwt x hisn hx hv hn hg hblt hb =>
          rw [want hwt, if_pos rfl]
          obtain ⟨c, h1, h2, h3⟩ := (makes_of H hK hx).run
          have h4 := h.rel.made hb hn hg hblt h1
          refine .inl ?_
          unfold Oper.wp
          rw [h3 w]
          exact fin h4 (Map.le_put hn) ⟨Map.le_put hn, Nat.le_refl _, fun b hb' => Map.put_ne _ _ (by have := h.lower r hrp hisn; omega)⟩ (by rw [hv]; exact New.rl h2 (Map.put_same _ _ _)) (fun r' hr' _ hne hi hn' => by
            rw [Map.put_ne _ _ (fun e => hne (h.apart r' hr' r hrp hi hisn e))]; exact hn')
      · -- the next that acts
        have hhd : ∃ l, rest = s :: l ∧ kindsOf s.o.op = 0 := by
          rcases hhead with e | ⟨s0, l, e, hk⟩
          · rw [e] at q; cases q
          · rw [e] at q
            rcases List.mem_cons.1 q with e2 | q2
            · subst e2; exact ⟨l, e, hk⟩
            · obtain ⟨p1, p2, rfl⟩ := List.append_of_mem q2
              have := (hS (ps.map (·.s) ++ s0 :: p1) s p2 (by rw [h.split, e]; simp)).eff s0 (by simp) hk
              exact absurd (hw _ this) (h.notyet s0 (by rw [e]; simp))
        obtain ⟨l, rfl, hk⟩ := hhd
        have hK : Knows T ρ fr a s.o.op := knows_of h.rel (h.known hS hs hnl hw (fun _ _ _ e => e))
        have h1 : OutP T W n k0 ρ Q (dStep s (evDraw l) T cf ops ag fr st) := ho
        have go : OutP T W n k0 ρ Q (dGo s (evDraw l) T cf ops ag fr st) → s.o.wp P a w (wpAny P .any ops Q fuel (listed.setIfInBounds s.i true)) Q := fun h2 => by
          have h3 : OutP T W n k0 ρ Q (resK (evOp s.o.op T fr st) cf fun v st => bi (allOk ag s.w st) (evDraw l T cf ops ag (putF fr s.o.dst v) st) .fail) := by
            unfold dGo at h2
            rw [hk] at h2
            exact h2
          refine opGo_ok H HF hcf h.rel hK (k := fun v st => bi (allOk ag s.w st) (evDraw l T cf ops ag (putF fr s.o.dst v) st) .fail) (fun v st' _ he σ x w' g1 g2 g3 => ?_) (fun e => by rw [e] at h3; exact h3)
          have h4 : OutP T W n k0 ρ Q (bi (allOk ag s.w st') (evDraw l T cf ops ag (putF fr s.o.dst v) st') .fail) := by
            rcases he with he | ⟨f, args, he, hc⟩
            · rw [he] at h3; exact h3
            · rw [he] at h3
              have h5 : OutP T W n k0 ρ Q (retK (cf f args st) fun v st => bi (allOk ag s.w st) (evDraw l T cf ops ag (putF fr s.o.dst v) st) .fail) := h3
              rw [hc] at h5; exact h5
          cases hall : allOk ag s.w st' with
          | false => rw [hall] at h4; exact h4.elim
          | true =>
            rw [hall, bi_t] at h4
            have hok := allOk_t hall
            refine ih _ _ _ _ _ _ _ _ _ hsz' hc' (h.effect hS hk hw g2 g1 g3 (fun r hr hn => ?_) hL) (h4.mono (low g1))
            have nb : Nat.testBit s.w r.s.i = false := by
              cases e : Nat.testBit s.w r.s.i with
              | false => rfl
              | true => exact absurd (hw _ e) hn
            cases h.vals r hr hn with
            | out g hg hgo hv => exact .out g hg hgo hv
            | quiet hwt he => exact .quiet hwt he
            | read hwt hk2 he =>
              have h6 := hok _ ((h.listed r hr).1 hk2 hwt)
              have h7 : bi (Nat.testBit s.w r.s.i) true (sameR (evOp r.s.o.op T r.fr st') r.v) = true := h6
              rw [nb, bi_f] at h7
              obtain ⟨g, hg1, -⟩ := kind_two (T := T) (fr := r.fr) hk2
              exact .read hwt hk2 (sameR_t (f := evOp r.s.o.op T r.fr) (g := g) hg1 h7)
            | new hwt y hisn hy hv hnn hg hblt hb =>
              obtain ⟨y', e1, e2, e3⟩ := (h.listed r hr).2 hisn
              rw [hy] at e1; cases e1
              have h7 : bi (Nat.testBit s.w r.s.i) true (sameNew st' y r.b) = true := hok _ e3
              rw [nb, bi_f] at h7
              exact .new hwt y hisn hy hv (by rw [g1.2.2 _ hblt]; exact hnn) hg (Nat.lt_of_lt_of_le hblt g1.2.1) (sameNew_t h7)
        unfold dStep at h1
        cases hg : s.o.guard with
        | none =>
          rw [hg] at h1
          rw [show Region.wanted s.o (yielded ops a.tmps) = true by unfold Region.wanted; rw [hg], if_pos rfl]
          exact .inl (go h1)
        | some g =>
          rw [hg] at h1
          have h2 : OutP T W n k0 ρ Q (Option.rec .fail (fun t => bi t (dGo s (evDraw l) T cf ops ag fr st) (evDraw l T cf ops ag (putF fr s.o.dst (.tup [])) st)) (guardOf ops g fr)) := h1
          cases ht : guardOf ops g fr with
          | none => rw [ht] at h2; exact h2.elim
          | some t =>
            rw [ht] at h2
            rw [guard (fun _ _ _ e => e) hg ht]
            cases t with
            | true => rw [if_pos rfl]; exact .inl (go h2)
            | false =>
              rw [if_neg (by simp)]
              exact ih _ _ _ _ _ _ _ _ _ hsz' hc' (h.effect hS hk hw h.rel (Grow.refl _ ρ) (.tup _ _ .nil) (fun r hr hn => h.vals r hr hn) hL) h2
end
end Ev
end Go.Proofs.YtodegmphcjgipaaGreatDoor
/-! Code, and calls. -/
namespace Go.Proofs.YtodegmphcjgipaaGreatDoor
namespace Ev
open Go Go.RowKit

/-- what is checked of a piece of code: places in the frame, and the orders of its drawn regions -/
noncomputable def chkRegion (n : Nat) (ops : Array Oper) (d : Bool) : Bool := bi d (chkDraw n ops) (allB (dstOk n) ops.toList)
noncomputable def chkCode (n : Nat) (c : Code) : Bool :=
  Code.rec (motive := fun _ => Bool) true (fun _ ops d => chkRegion n ops d) (fun _ _ a b => bi a b false) (fun _ _ _ a b => bi a b false) (fun _ _ c => c) (fun _ c => c) (fun _ _ _ _ _ _ => true) (fun _ => true) (fun _ c => c) (fun _ => true) (fun _ => true) true (fun _ => true) c

section
variable {P : Program} {T : Tab} {W : Base} {n : Nat}

theorem draw_any (H : Tys P T) (HF : Funs P T) {cf : CallF} (hcf : CallOk P T W cf) {Q : Exit → Act → World → Prop} {ops : Array Oper} (hc : chkDraw n ops = true) {ρ : Map} {fr : F} {st : St} {a : Act} {w : World} (hF : Fr ρ n fr a) (h : Rel T W ρ st w)
    (ho : OutP T W n st.nxt ρ Q (evDraw (order ops) T cf ops [] fr st)) : wpAny P .any ops Q ops.size (Array.replicate ops.size false) a w.drew := by
    have hg := chkDraw_t hc
    have hS : ∀ pre s post, order ops = pre ++ s :: post → StepOk n ops pre s := fun pre s post e => by
      have := Good.at_ _ _ hg pre s post e
      simpa using this
    have nil : ∀ {p : Prop}, ∀ r : Rc, r ∈ ([] : List Rc) → p := fun r hr => by cases hr
    refine draw_ok H HF hcf hS (fun i hi => by simpa using Good.cover _ _ hg i hi) (fun s hs => order_mem hs) ops.size (Array.replicate ops.size false) [] (order ops) fr st [] ρ a w.drew (by simp) (by simp)
      ⟨rfl, fun s hs => ?_, fun r hr => nil r hr, fun r hr => nil r hr, h.drew, fun t v e _ => hF.tmps t v e, hF.size, hF.defers, fun r hr => nil r hr, fun r hr => nil r hr, fun r hr => nil r hr, fun r hr => nil r hr, fun r hr => nil r hr, fun r hr => nil r hr, Nat.le_refl _, fun r hr => nil r hr⟩ ho
    have hlt : s.i < ops.size := by
      rcases Nat.lt_or_ge s.i ops.size with q | q
      · exact q
      · have := order_mem hs; rw [Array.getElem?_eq_none q] at this; cases this
    simp [Array.getD_eq_getD_getElem?, hlt]

theorem region_ok (H : Tys P T) (HF : Funs P T) (hm : P.follows .mixedOrders = true) {cf : CallF} (hcf : CallOk P T W cf) {Q : Exit → Act → World → Prop} {id : Nat} {ops : Array Oper} {d : Bool} (hc : chkRegion n ops d = true) {ρ : Map} {fr : F} {st : St} {a : Act} {w : World} (hF : Fr ρ n fr a) (h : Rel T W ρ st w)
    (ho : OutP T W n st.nxt ρ Q (evCode (.region id ops d) T cf fr st)) : (Code.region id ops d).wp P Q a w := by
  cases d with
  | false => exact wp_region_list (opers_ok H HF hcf ops.toList ρ fr st a w (allB_t hc) hF h ho)
  | true =>
    exact wp_region_any hm (draw_any H HF hcf hc hF h ho)

theorem seq_out {ρ : Map} {k : Nat} {Q : Exit → Act → World → Prop} {K : Act → World → Prop} {x : Out} {y : F → St → Out} (h : OutP T W n k ρ Q (x.seq y)) (hy : ∀ fr st, x = .norm fr st → ∀ σ a w, Grow k st.nxt ρ σ → Fr σ n fr a → Rel T W σ st w → OutP T W n st.nxt σ Q (y fr st) → K a w) : OutP T W n k ρ (Exit.then K Q) x := by
  cases x with
  | fail => exact h
  | norm fr st => exact fun σ a w h1 h2 h3 => hy fr st rfl σ a w h1 h2 h3 ((show OutP T W n k ρ Q (y fr st) from h).mono h1)
  | exit id fr st => exact h
  | ret fr st => exact h

theorem code_ok (H : Tys P T) (HF : Funs P T) (hm : P.follows .mixedOrders = true) {cf : CallF} (hcf : CallOk P T W cf) : ∀ (c : Code), chkCode n c = true → ∀ (Q : Exit → Act → World → Prop) (ρ : Map) (fr : F) (st : St) (a : Act) (w : World), Fr ρ n fr a → Rel T W ρ st w →
    OutP T W n st.nxt ρ Q (evCode c T cf fr st) → c.wp P Q a w := by
  intro c
  induction c with
  | skip => exact fun _ Q ρ fr st a w hF h ho => wp_skip ((show OutP T W n st.nxt ρ Q (.norm fr st) from ho) ρ a w (Grow.refl _ ρ) hF h)
  | region id ops d => exact fun hc Q ρ fr st a w hF h ho => region_ok H HF hm hcf hc hF h ho
  | seq x y ihx ihy =>
    intro hc Q ρ fr st a w hF h ho
    obtain ⟨h1, h2⟩ := bi_ff (show bi (chkCode n x) (chkCode n y) false = true from hc)
    refine wp_seq (ihx h1 _ ρ fr st a w hF h (seq_out (y := evCode y T cf) ho fun fr' st' _ σ a' w' _ g2 g3 g4 => ?_))
    exact ihy h2 Q σ fr' st' a' w' g2 g3 g4
  | cond c x y ihx ihy =>
    intro hc Q ρ fr st a w hF h ho
    obtain ⟨h1, h2⟩ := bi_ff (show bi (chkCode n x) (chkCode n y) false = true from hc)
    have ho' : OutP T W n st.nxt ρ Q (optB (evO c T fr) (evCode x T cf fr st) (evCode y T cf fr st)) := ho
    cases hv : evO c T fr with
    | none => rw [hv] at ho'; exact ho'.elim
    | some v =>
      rw [hv] at ho'
      have hr := opd_all hF h [c] c (by simp) v hv
      cases v with
      | bool b =>
        have hb : a.eval c = .bool b := by
          generalize a.eval c = z at hr
          cases hr; rfl
        have ho2 : OutP T W n st.nxt ρ Q (bi b (evCode x T cf fr st) (evCode y T cf fr st)) := ho'
        refine wp_cond hb ?_
        cases b with
        | true => exact ihx h1 Q ρ fr st a w hF h ho2
        | false => exact ihy h2 Q ρ fr st a w hF h ho2
      | _ => exact (show False from ho').elim
  | block id c ih =>
    intro hc Q ρ fr st a w hF h ho
    refine wp_block (ih hc _ ρ fr st a w hF h ?_)
    have ho' : OutP T W n st.nxt ρ Q ((evCode c T cf fr st).block id) := ho
    generalize evCode c T cf fr st = x at ho'
    cases x with
    | fail => exact ho'
    | norm fr st => exact ho'
    | ret fr st => exact ho'
    | exit i fr' st' =>
      intro σ a' w' g1 g2 g3
      have ho2 : OutP T W n st.nxt ρ Q (bi (Nat.beq i id) (.norm fr' st') (.exit i fr' st')) := ho'
      show if i = id then Q .normal a' w' else Q (.exit i) a' w'
      by_cases e : i = id
      · subst e
        rw [beq_self, bi_t] at ho2
        rw [if_pos rfl]; exact ho2 σ a' w' g1 g2 g3
      · rw [beq_ne e, bi_f] at ho2
        rw [if_neg e]; exact ho2 σ a' w' g1 g2 g3
  | loop c ih =>
    intro hc Q ρ fr st a w hF h ho
    have go : ∀ (k : Nat) (ρ : Map) (fr : F) (st : St) (a : Act) (w : World), Fr ρ n fr a → Rel T W ρ st w → OutP T W n st.nxt ρ Q (iter k (evCode c T cf) fr st) → Code.rounds P c Q k a w := by
      intro k
      induction k with
      | zero => exact fun ρ fr st a w _ _ ho => (show False from ho)
      | succ k ihk =>
        intro ρ fr st a w hF h ho
        have ho' : OutP T W n st.nxt ρ Q ((evCode c T cf fr st).seq (iter k (evCode c T cf))) := ho
        exact ih hc _ ρ fr st a w hF h (seq_out ho' fun fr' st' _ σ a' w' _ g2 g3 g4 => ihk σ fr' st' a' w' g2 g3 g4)
    exact wp_loop_rounds 4096 (go 4096 ρ fr st a w hF h ho)
  | exit id => exact fun _ Q ρ fr st a w hF h ho => wp_exit ((show OutP T W n st.nxt ρ Q (.exit id fr st) from ho) ρ a w (Grow.refl _ ρ) hF h)
  | scope c ih =>
    intro hc Q ρ fr st a w hF h ho
    refine wp_scope_straight (ih hc _ ρ fr st a w hF h ?_)
    have ho' : OutP T W n st.nxt ρ Q (evCode c T cf fr st) := ho
    generalize evCode c T cf fr st = x at ho'
    cases x <;> exact ho'
  | ret => exact fun _ Q ρ fr st a w hF h ho => wp_ret ((show OutP T W n st.nxt ρ Q (.ret fr st) from ho) ρ a w (Grow.refl _ ρ) hF h)
  | _ => exact fun _ Q ρ fr st a w _ _ ho => (show False from ho).elim
end
end Ev
end Go.Proofs.YtodegmphcjgipaaGreatDoor
/-! Calls. -/
namespace Go.Proofs.YtodegmphcjgipaaGreatDoor
namespace Ev
open Go Go.RowKit

section
variable {P : Program} {T : Tab} {W : Base} {n : Nat} {ρ : Map} {st : St} {w : World}

theorem enter_get : ∀ (l : List V) (i : Nat) (fr : F) (t : Nat), (enter l i fr).get t = if i ≤ t ∧ t < i + l.length then l[t - i]? else fr.get t
  | [], i, fr, t => by
    show fr.get t = _
    rw [if_neg (by simp only [List.length_nil]; omega)]
  | v :: l, i, fr, t => by
    show (enter l (i + 1) (fr.set i v)).get t = _
    rw [enter_get l (i + 1) (fr.set i v) t, Tr.get_set]
    simp only [List.length_cons]
    by_cases h1 : i + 1 ≤ t ∧ t < i + 1 + l.length
    · rw [if_pos h1, if_pos (by omega), show t - i = (t - (i + 1)) + 1 by omega]
      rfl
    · rw [if_neg h1]
      by_cases h2 : t = i
      · subst h2
        rw [if_pos rfl, if_pos (by omega), Nat.sub_self]
        rfl
      · rw [if_neg h2, if_neg (by omega)]
theorem enter_fr {args : List V} {xs : Array Value} (hr : Rls ρ args xs.toList) (hn : args.length ≤ n) : Fr ρ n (enter args 0 .nil) { tmps := xs ++ Array.replicate (n - xs.size) undef, defers := [] } := by
  have hl : args.length = xs.size := by simpa using hr.length
  refine ⟨fun t v e => ?_, by simp; omega, rfl⟩
  rw [enter_get] at e
  by_cases h : 0 ≤ t ∧ t < 0 + args.length
  · rw [if_pos h, Nat.sub_zero] at e
    obtain ⟨x, h1, h2⟩ := hr.get e
    refine ⟨x, ?_, h2⟩
    show (xs ++ Array.replicate (n - xs.size) undef)[t]? = some x
    rw [Array.getElem?_append_left (by omega)]
    simpa using h1
  · rw [if_neg h, Tr.get_nil] at e; cases e

def resF (tmps : Array Value) : ResultVar → Sem Value
  | .tmp t => pure (tmps.getD t undef)
  | .cell b t => do loadVar t (← asAddr (tmps.getD b undef))
theorem res_ok (H : Tys P T) {fr : F} {a : Act} {D : List Deferred} (hF : Fr ρ n fr a D) (h : Rel T W ρ st w) : ∀ (l : List ResultVar) {vs : List V}, evResults l T fr st = some vs → ∃ xs : List Value, (l.mapM (resF a.tmps)).run P w = .ok xs w ∧ Rls ρ vs xs
  | [], vs, e => by
    cases (show some [] = some vs from e)
    exact ⟨[], by simp, .nil⟩
  | x :: l, vs, e => by
    obtain ⟨v, h1, h2⟩ := ob_some (show ob (resOf x T fr st) _ = some vs from e)
    obtain ⟨r, h3, h4⟩ := ob_some h2
    cases h4
    obtain ⟨xs, h5, h6⟩ := res_ok H hF h l h3
    have hone : ∃ y, (resF a.tmps x).run P w = .ok y w ∧ Rl ρ v y := by
      cases x with
      | tmp t =>
        obtain ⟨y, q1, q2⟩ := hF.tmps t v h1
        exact ⟨y, by simp [resF, Array.getD_eq_getD_getElem?, q1], q2⟩
      | cell b t =>
        obtain ⟨p, q1, q2⟩ := ob_some (show ob (fr.get b) _ = some v from h1)
        obtain ⟨c, o, rfl, q3⟩ := V.onPtr_some q2
        obtain ⟨ti, q4, q5⟩ := ty_some q3
        obtain ⟨y, q6, q7⟩ := hF.tmps b _ q1
        obtain ⟨L, hL, rfl⟩ := ptr_inv q7
        obtain ⟨z, q8, q9⟩ := load_ok (P := P) h (H.ty t ti q4) hL q5
        exact ⟨z, by simp [resF, Array.getD_eq_getD_getElem?, q6, asAddr, q8], q9⟩
    obtain ⟨y, q1, q2⟩ := hone
    exact ⟨y :: xs, by simp [List.mapM_cons, q1, h5], .cons q2 h6⟩
theorem results_ok (H : Tys P T) {fn : Func} {fr : F} {a : Act} {D : List Deferred} (hF : Fr ρ n fr a D) (h : Rel T W ρ st w) {v : V} {st' : St} (hr : retOf fn T fr st = .val v st') : st' = st ∧ ∃ x, (results fn a.tmps).run P w = .ok x w ∧ Rl ρ v x := by
  unfold retOf at hr
  cases hv : evResults fn.results.toList T fr st with
  | none => rw [hv] at hr; cases hr
  | some vs =>
    rw [hv] at hr
    obtain ⟨xs, h1, h2⟩ := res_ok (P := P) H hF h fn.results.toList hv
    have h3 : (fn.results.mapM (resF a.tmps)).run P w = .ok xs.toArray w := by
      rw [Array.mapM_eq_mapM_toList, map_eq_pure_bind, Sem.run_bind, h1]
      rfl
    have h4 : (results fn a.tmps).run P w = .ok (if h : xs.toArray.size = 1 then xs.toArray[0] else .tuple xs.toArray) w := by
      have e : results fn a.tmps = (fn.results.mapM (resF a.tmps) >>= fun vs => pure (if h : vs.size = 1 then vs[0] else .tuple vs)) := rfl
      rw [e, Sem.run_bind, h3]
      rfl
    cases vs with
    | nil =>
      cases h2
      cases (show Ret.val (.tup []) st = Ret.val v st' from hr)
      exact ⟨rfl, _, h4, .tup _ _ .nil⟩
    | cons u r =>
      cases h2 with
      | cons hu hr2 =>
        cases r with
        | nil =>
          cases hr2
          cases (show Ret.val u st = Ret.val v st' from hr)
          exact ⟨rfl, _, h4, hu⟩
        | cons u' r =>
          cases hr2 with
          | cons hu' hr3 =>
            cases (show Ret.val (.tup (u :: u' :: r)) st = Ret.val v st' from hr)
            refine ⟨rfl, _, h4, ?_⟩
            rw [dif_neg (by simp)]
            exact .tup _ _ (.cons hu (.cons hu' hr3))
end
end Ev
end Go.Proofs.YtodegmphcjgipaaGreatDoor
/-! Calls, by fuel. -/
namespace Go.Proofs.YtodegmphcjgipaaGreatDoor
namespace Ev
open Go Go.RowKit

/-- a summary of a function is true of it -/
def SumOk (P : Program) (T : Tab) (W : Base) : Prop := ∀ f s, T.summ f = some s → ∀ args st v st', s args st = .val v st' → ∀ ρ w (xs : Array Value), Rel T W ρ st w → Rls ρ args xs.toList → Calls P f xs w (Ret1 T W st.nxt ρ v st')
/-- every function of the table has been checked -/
def Chkd (T : Tab) : Prop := ∀ f fn, T.funcs.get f = some fn → ∀ c, fn.body = some c → chkCode fn.ntmps c = true

section
variable {P : Program} {T : Tab} {W : Base}

theorem call_ok (H : Tys P T) (HF : Funs P T) (hm : P.follows .mixedOrders = true) (hs : SumOk P T W) (hc : Chkd T) : ∀ n, CallOk P T W (evCall T n) := by
  intro n
  induction n with
  | zero => exact fun f args st v st' h => by cases (show Ret.fail = Ret.val v st' from h)
  | succ n ih =>
    intro f args st v st' hv ρ w xs h hr
    have hv' : (Option.rec (Option.rec .fail (fun fn => bodyGo fn T (evCall T n) args st) (T.funcs.get f)) (fun s => s args st) (T.summ f) : Ret) = .val v st' := hv
    cases hsum : T.summ f with
    | some s => rw [hsum] at hv'; exact hs f s hsum args st v st' hv' ρ w xs h hr
    | none =>
      rw [hsum] at hv'
      cases hfn : T.funcs.get f with
      | none => rw [hfn] at hv'; cases (show Ret.fail = Ret.val v st' from hv')
      | some fn =>
        rw [hfn] at hv'
        have h1 : bodyGo fn T (evCall T n) args st = .val v st' := hv'
        unfold bodyGo at h1
        cases hb : fn.body with
        | none => rw [hb] at h1; cases (show Ret.fail = Ret.val v st' from h1)
        | some c =>
          rw [hb] at h1
          have h2 : bi (Nat.ble (len args) fn.ntmps) (outRet fn T (evCode c T (evCall T n) (enter args 0 .nil) st)) .fail = .val v st' := h1
          cases hle : Nat.ble (len args) fn.ntmps with
          | false => rw [hle] at h2; cases (show Ret.fail = Ret.val v st' from h2)
          | true =>
            rw [hle, bi_t] at h2
            have hle' := ble_t hle
            rw [len_eq] at hle'
            refine calls_of_wp (HF.body f fn hfn).1 hb (code_ok H HF hm ih c (hc f fn hfn c hb) _ ρ (enter args 0 .nil) st _ w (enter_fr hr hle') h ?_)
            generalize evCode c T (evCall T n) (enter args 0 .nil) st = out at h2
            cases out with
            | fail => cases (show Ret.fail = Ret.val v st' from h2)
            | exit id fr st => cases (show Ret.fail = Ret.val v st' from h2)
            | norm fr st2 =>
              intro σ a w' g1 g2 g3
              obtain ⟨rfl, x, h3, h4⟩ := results_ok (P := P) H g2 g3 (show retOf fn T fr st2 = .val v st' from h2)
              exact ⟨g2.defers, x, h3, σ, g1, g3, h4⟩
            | ret fr st2 =>
              intro σ a w' g1 g2 g3
              obtain ⟨rfl, x, h3, h4⟩ := results_ok (P := P) H g2 g3 (show retOf fn T fr st2 = .val v st' from h2)
              exact ⟨g2.defers, x, h3, σ, g1, g3, h4⟩
end
end Ev
end Go.Proofs.YtodegmphcjgipaaGreatDoor
/-! A check of every entry of a trie. -/
namespace Go.Proofs.YtodegmphcjgipaaGreatDoor
namespace Ev

noncomputable def allT {α : Type} (t : Tr α) : (Nat → α → Bool) → Bool := Tr.rec (motive := fun _ => (Nat → α → Bool) → Bool) (fun _ => true) (fun _ x _ gl gr p => bi (Option.rec true (fun a => p 0 a) x) (bi (gl fun j a => p (2 * j + 1) a) (gr fun j a => p (2 * j + 2) a) false) false) t
theorem allT_t {α : Type} : ∀ (t : Tr α) (p : Nat → α → Bool), allT t p = true → ∀ k a, t.get k = some a → p k a = true
  | .nil, p, _, k, a, e => by rw [Tr.get_nil] at e; cases e
  | .node l x r, p, h, k, a, e => by
    obtain ⟨h1, h2⟩ := bi_ff (show bi (Option.rec true (fun a => p 0 a) x) (bi (allT l fun j a => p (2 * j + 1) a) (allT r fun j a => p (2 * j + 2) a) false) false = true from h)
    obtain ⟨h3, h4⟩ := bi_ff h2
    rw [Tr.get_node] at e
    by_cases hk : k = 0
    · subst hk
      rw [beq_self, bi_t] at e
      rw [e] at h1; exact h1
    · rw [beq_ne hk, bi_f] at e
      by_cases ho : k % 2 = 1
      · rw [show Nat.beq (k % 2) 1 = true by rw [ho]; rfl, bi_t] at e
        have := allT_t l _ h3 _ a e
        rw [show 2 * (k / 2) + 1 = k by omega] at this
        exact this
      · rw [beq_ne ho, bi_f] at e
        have := allT_t r _ h4 _ a e
        rw [show 2 * (k / 2 - 1) + 2 = k by omega] at this
        exact this
end Ev
end Go.Proofs.YtodegmphcjgipaaGreatDoor
