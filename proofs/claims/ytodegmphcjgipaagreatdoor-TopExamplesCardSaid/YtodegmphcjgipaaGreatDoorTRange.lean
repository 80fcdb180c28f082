/-
  A function that ranges over slices.Chunk (one chunk at most): what the evaluator says of it is so.
-/
import Derived.Test.YtodegmphcjgipaaGreatDoorTRng
import Derived.Test.YtodegmphcjgipaaGreatDoorTSum
import Derived.Test.YtodegmphcjgipaaGreatDoorEFence
import Derived.RangeFuncNested
import Derived.RangeFuncLeaves
import Derived.RangeFuncRecord
import Derived.Shelf.Abstract
namespace Go.Proofs.YtodegmphcjgipaaGreatDoor
namespace Ev
open Go Go.RowKit Go.Shelf

section
variable {α β : Type}
theorem one?_some {l : List α} {k : α → Option β} {r : β} (h : one? l k = some r) : ∃ x, l = [x] ∧ k x = some r := by
  match l, h with
  | [], h => cases (show (none : Option β) = some r from h)
  | [x], h => exact ⟨x, rfl, h⟩
  | x :: y :: l, h => cases (show (none : Option β) = some r from h)
theorem two?_some {l : List α} {k : α → α → Option β} {r : β} (h : two? l k = some r) : ∃ x y, l = [x, y] ∧ k x y = some r := by
  match l, h with
  | [], h => cases (show (none : Option β) = some r from h)
  | x :: l, h =>
    obtain ⟨y, rfl, h2⟩ := one?_some (show one? l (k x) = some r from h)
    exact ⟨x, y, rfl, h2⟩
theorem only_ret {x : Out} {k : F → St → Out} {fr : F} {st : St} (h : x.only k = .ret fr st) : ∃ fr1 st1, x = .norm fr1 st1 ∧ k fr1 st1 = .ret fr st := by
  cases x with
  | fail => cases (show Out.fail = .ret fr st from h)
  | norm fr1 st1 => exact ⟨fr1, st1, rfl, h⟩
  | exit i f s => cases (show Out.fail = .ret fr st from h)
  | ret f s => cases (show Out.fail = .ret fr st from h)
theorem outO_ret {x : Option Out} {fr : F} {st : St} (h : outO x = .ret fr st) : x = some (.ret fr st) := by
  cases x with
  | none => cases (show Out.fail = .ret fr st from h)
  | some y => rw [show y = .ret fr st from h]
end
theorem func_inv {ρ : Map} {f : FuncId} {a b : List V} {x : Value} (h : Rl ρ (.func f a b) x) : ∃ u v : Array Value, x = .func (.func f) u v ∧ Rls ρ a u.toList ∧ Rls ρ b v.toList := by
  generalize hv : V.func f a b = vv at h
  cases h <;> cases hv
  exact ⟨_, _, rfl, by assumption, by assumption⟩
theorem nils_inv {ρ : Map} {x : Value} (h : Rl ρ .nils x) : x = .slice none 0 0 := by cases h; rfl
theorem chunkV_some {m : Nat} {v : V} {c : Option V} (h : chunkV m v = some c) : (v = .nils ∧ c = none) ∨ ∃ b o n k e, v = .slice b o n k e ∧ ((n = 0 ∧ c = none) ∨ (0 < n ∧ n ≤ m ∧ c = some (.slice b o n n e))) := by
  cases v with
  | slice b o n k e =>
    have h' : bi (Nat.beq n 0) (some none) (bi (Nat.ble n m) (some (some (V.slice b o n n e))) none) = some c := h
    refine .inr ⟨b, o, n, k, e, rfl, ?_⟩
    cases hn : Nat.beq n 0 with
    | true => rw [hn, bi_t] at h'; cases h'; exact .inl ⟨beq_t hn, rfl⟩
    | false =>
      rw [hn, bi_f] at h'
      obtain ⟨h1, h2⟩ := bi_none h'
      cases h2
      exact .inr ⟨Nat.pos_of_ne_zero (beq_f hn), ble_t h1, rfl⟩
  | nils => cases (show some none = some c from h); exact .inl ⟨rfl, rfl⟩
  | _ => cases (show (none : Option (Option V)) = some c from h)
theorem boxes_some {fr : F} {g : Nat} {it : FuncId} {x : Boxes} (h : boxes fr g it = some x) : fr.get g = some (.func it [] [.ptr x.b1 0, .ptr x.b2 0]) ∧ x.b1 ≠ x.b2 := by
  obtain ⟨v, h1, h2⟩ := ob_some h
  obtain ⟨f, a, b, rfl, h3⟩ := V.onFunc_some h2
  obtain ⟨h4, h5⟩ := bi_none h3
  obtain ⟨h6, h7⟩ := bi_none h5
  obtain ⟨p, r, rfl, h8⟩ := two?_some h7
  obtain ⟨b1, o1, rfl, h9⟩ := V.onPtr_some h8
  obtain ⟨b2, o2, rfl, h10⟩ := V.onPtr_some h9
  obtain ⟨h11, h12⟩ := bi_none h10
  obtain ⟨h13, h14⟩ := bi_none h12
  obtain ⟨h15, h16⟩ := none_bi h14
  cases h16
  rw [len_eq] at h6
  have ha : a = [] := List.length_eq_zero_iff.1 (beq_t h6)
  subst ha
  rw [h1, beq_t h4, beq_t h11, beq_t h13]
  exact ⟨rfl, beq_f h15⟩
theorem chunkOf_some {st : St} {x : Boxes} {c : Option V} (h : chunkOf st x = some c) : ∃ (m : Nat) (v : V), cell0 st x.b2 = some (.int .i64 (m : Int)) ∧ cell0 st x.b1 = some v ∧ 1 ≤ m ∧ m ≤ 1000000 ∧ chunkV m v = some c := by
  obtain ⟨v, h1, h2⟩ := ob_some h
  obtain ⟨k, z, rfl, h3⟩ := V.onInt_some h2
  obtain ⟨h4, h5⟩ := bi_none h3
  obtain ⟨m, rfl, h6⟩ := nat?_some h5
  obtain ⟨h7, h8⟩ := bi_none h6
  obtain ⟨h9, h10⟩ := bi_none h8
  obtain ⟨u, h11, h12⟩ := ob_some h10
  rw [← keq_t h4]
  exact ⟨m, u, by rw [h1, keq_t h4], h11, ble_t h7, ble_t h9, h12⟩

/-- the chunk, if one comes -/
abbrev One (n : Nat) := { k : Nat // k = 0 ∧ 0 < n }
def Keep2 (r1 r2 : Nat) (A B : World) : Prop := ∀ p : Addr, (p.block = r1 ∨ p.block = r2) → B.cell? p = A.cell? p
theorem Keep2.trans {r1 r2 : Nat} {A B C : World} (h : Keep2 r1 r2 A B) (k : Keep2 r1 r2 B C) : Keep2 r1 r2 A C := fun p hp => (k p hp).trans (h p hp)
/-- the iterator hands on the slice, if it is not empty -/
def ChunkOk (P : Program) (it : FuncId) : Prop := ∀ (r1 o1 r2 o2 m n cap : Nat) (A : Option Addr) (w : World), w.cell? ⟨r1, o1, none⟩ = some (.slice A n cap) → w.cell? ⟨r2, o2, none⟩ = some (.int .i64 (m : Int)) → r1 < w.heap.size → r2 < w.heap.size → 1 ≤ m → m ≤ 1000000 → n ≤ m → n ≤ cap →
  ((A = none ∧ n = 0 ∧ cap = 0) ∨ ∃ r o, A = some ⟨r, o, none⟩) →
  SeqStopsK Fence.wide 5 P it #[.pointer (some ⟨r1, o1, none⟩), .pointer (some ⟨r2, o2, none⟩)] (fun _ : One n => #[.slice A n n]) (Keep2 r1 r2) (fun xs => xs.length = if n = 0 then 0 else 1) (fun _ => True) 1 w

def markD (D : Nat) : Deferred := { target := .collected D, args := #[] }

section
variable {P : Program} {T : Tab} {W : Base} {n : Nat} {ρ : Map} {st : St} {w : World}

theorem isCells_of_shape {w : World} {r : Nat} {p : TypeId × Nat} (h : w.shape? r = some p) : ∀ o, w.heap[r]? = some o → o.isCells = true := fun o e => by
  unfold World.shape? at h
  rw [e] at h
  cases o <;> first | rfl | (cases h; done)
/-- what is no cells is kept besides -/
theorem Rel.others (h : Rel T W ρ st w) : Rel T (W.avoid (fun _ => False) w (fun _ e => e.elim)) ρ st w :=
  h.rebase ⟨h.below, Nat.le_refl _, fun _ _ e _ => e⟩ fun b bl L _ hb hL hO => ⟨hO, fun e => e, isCells_of_shape (h.shape b bl L hb hL).1⟩
theorem Rel.back {l : Nat → Prop} {W2 : World} {hl : ∀ r, l r → r < W2.heap.size} (h : Rel T (W.avoid l W2 hl) ρ st w) : Rel T W ρ st w :=
  h.rebase h.below.1 fun _ _ _ _ _ _ hO => hO.1
theorem drop2_get {x : Boxes} {b : Nat} {bl : Blk} (h : (drop2 st x).heap.get b = some bl) : st.heap.get b = some bl ∧ b ≠ x.b1 ∧ b ≠ x.b2 := by
  have h' : ((st.heap.del x.b1).del x.b2).get b = some bl := h
  rw [Tr.get_del] at h'
  by_cases h2 : b = x.b2
  · rw [if_pos h2] at h'; cases h'
  · rw [if_neg h2, Tr.get_del] at h'
    by_cases h1 : b = x.b1
    · rw [if_pos h1] at h'; cases h'
    · rw [if_neg h1] at h'
      exact ⟨h', h1, h2⟩
theorem cell0_get {b : Nat} {v : V} (h : cell0 st b = some v) : ∃ bl, st.heap.get b = some bl ∧ bl.cells.get 0 = some v := ob_some h

theorem rng_ok (H : Tys P T) (HF : Funs P T) (hm : P.follows .mixedOrders = true) {cf : CallF} (hcf : ∀ W, CallOk P T W cf) {it : FuncId} (hit : Enters P it) (hch : ChunkOk P it) {q : Parts} {t : Tail}
    (hps : q.ps = #[q.p]) (hp : q.p < n) (hd : q.d < n) (hoA : q.oA.op = .assign (.tmp q.p)) (hoD : q.oA.dst = some q.d) (hoG : q.oA.guard = none) (hR : chkRegion n q.opsR false = true) (hB : chkDraw n q.opsB = true) (hnd : noDefer q.opsB = true) (hT : chkRegion n t.ops false = true)
    {fr : F} {a : Act} (hF : Fr ρ n fr a) (h : Rel T W ρ st w) {fr' : F} {st' : St} (ho : evRng q t it T cf fr st = .ret fr' st') {Q : Exit → Act → World → Prop}
    (hQ : ∀ σ a' w' D, Grow st.nxt st'.nxt ρ σ → Fr σ n fr' a' [markD D] → Rel T W σ st' w' → w'.heap[D]? = some (.deferred (some [])) → W.O D → Q .ret a' w') :
    (Code.seq (Code.seq (.region q.iR q.opsR false) (.block q.bl (.rangeFunc (.tmp q.g) q.ps (.region q.iA #[q.oA] false) (.block q.bb (.region q.iB q.opsB true))))) (.seq (.region t.i t.ops false) .ret)).wp P Q a w := by
  obtain ⟨fr1, st1, e1, ho⟩ := only_ret ho
  obtain ⟨x, hx, ho⟩ := ob_some (outO_ret ho)
  obtain ⟨c, hc, ho⟩ := ob_some ho
  have ho := Option.some.inj ho
  obtain ⟨hg, hbb⟩ := boxes_some hx
  obtain ⟨m, v1, hc2, hc1, hm1, hm2, hcv⟩ := chunkOf_some hc
  obtain ⟨bl1, hb1, hbc1⟩ := cell0_get hc1
  obtain ⟨bl2, hb2, hbc2⟩ := cell0_get hc2
  refine wp_seq (wp_seq (wp_region_list (opers_ok H HF (hcf W) q.opsR.toList ρ fr st a w (allB_t hR) hF h ?_)))
  rw [e1]
  intro σ1 a1 w1 g1 hF1 h1
  refine wp_block ?_
  -- the boxes
  obtain ⟨X, hX, hXr⟩ := hF1.tmps q.g _ hg
  obtain ⟨u, lb, rfl, hu, hlb⟩ := func_inv hXr
  obtain ⟨u⟩ := u
  cases hu
  obtain ⟨p1, p2, rfl, hp1, hp2⟩ := two_args hlb
  obtain ⟨L1, hL1, rfl⟩ := ptr_inv hp1
  obtain ⟨L2, hL2, rfl⟩ := ptr_inv hp2
  obtain ⟨-, y1, hy1, hyr1⟩ := h1.cells x.b1 bl1 L1 hb1 hL1 0 _ hbc1
  obtain ⟨-, y2, hy2, hyr2⟩ := h1.cells x.b2 bl2 L2 hb2 hL2 0 _ hbc2
  obtain rfl := int_inv hyr2
  have hr1 := h1.lt hb1 hL1
  have hr2 := h1.lt hb2 hL2
  -- what the slice is
  obtain ⟨len, A, cap, ve, rfl, hlm, hlc, hA, hrest⟩ : ∃ (len : Nat) (A : Option Addr) (cap : Nat) (ve : V), y1 = .slice A len cap ∧ len ≤ m ∧ len ≤ cap ∧ ((A = none ∧ len = 0 ∧ cap = 0) ∨ ∃ r o, A = some ⟨r, o, none⟩) ∧ ((len = 0 ∧ c = none) ∨ (0 < len ∧ c = some ve ∧ Rl σ1 ve (.slice A len len))) := by
    rcases chunkV_some hcv with ⟨rfl, rfl⟩ | ⟨b, o, k, kc, e, rfl, hk⟩
    · obtain rfl := nils_inv hyr1
      exact ⟨0, none, 0, .nils, rfl, by omega, by omega, .inl ⟨rfl, rfl, rfl⟩, .inl ⟨rfl, rfl⟩⟩
    · obtain ⟨L, y, c2, hL, hyy, hnc, hcc, hbd, rfl⟩ := slice_inv hyr1
      rcases hk with ⟨rfl, rfl⟩ | ⟨hk0, hkm, rfl⟩
      · exact ⟨0, some ⟨L.r, y, none⟩, c2, .nils, rfl, by omega, by omega, .inr ⟨_, _, rfl⟩, .inl ⟨rfl, rfl⟩⟩
      · refine ⟨k, some ⟨L.r, y, none⟩, c2, .slice b o k k e, rfl, hkm, by omega, .inr ⟨_, _, rfl⟩, .inr ⟨hk0, rfl, ?_⟩⟩
        refine .slice b o k k e L y k hL (.inl (hyy.resolve_right (by omega))) (Nat.le_refl _) (Nat.le_refl _) (fun _ => ?_)
        have := hbd (by omega)
        have hle : k * e ≤ c2 * e := Nat.mul_le_mul_right e (by omega)
        omega
  clear hyr1
  -- the memory without the boxes
  have hl : ∀ r, (r = L1.r ∨ r = L2.r) → r < w1.heap.size := fun r hr => by rcases hr with rfl | rfl <;> assumption
  obtain ⟨B1, hB1⟩ : ∃ B1 : Base, B1 = W.avoid (fun r => r = L1.r ∨ r = L2.r) w1 hl := ⟨_, rfl⟩
  have hd1 : Rel T B1 σ1 (drop2 st1 x) w1 := by
    subst hB1
    refine (h1.sub (st' := drop2 st1 x) (fun b bl e => (drop2_get e).1) (Nat.le_refl _)).rebase ⟨h1.below, Nat.le_refl _, fun _ _ e _ => e⟩ fun b bl L _ hb hL hO => ?_
    obtain ⟨q1, q2, q3⟩ := drop2_get hb
    refine ⟨hO, fun e => ?_, isCells_of_shape (h1.shape b bl L q1 hL).1⟩
    rcases e with e | e
    · exact q2 (h1.inj b x.b1 bl bl1 L L1 q1 hb1 hL hL1 e)
    · exact q3 (h1.inj b x.b2 bl bl2 L L2 q1 hb2 hL hL2 e)
  have hback : ∀ {σ : Map} {s : St} {ww : World}, Rel T B1 σ s ww → Rel T W σ s ww := fun hh => by subst hB1; exact hh.back
  have hboxes : ∀ {A B : World}, B1.S A → B1.S B → Keep2 L1.r L2.r A B := fun {A B} hA hB p hpb => by
    subst hB1
    have hlt : p.block < w1.heap.size := hl p.block hpb
    have ea := hA.2.2 p.block _ (Array.getElem?_eq_getElem hlt) (.inl hpb)
    have eb := hB.2.2 p.block _ (Array.getElem?_eq_getElem hlt) (.inl hpb)
    unfold World.cell?
    rw [ea, eb]
  -- what the round does
  obtain ⟨stE, hE0, hE1, hE2⟩ : ∃ stE : St, (len = 0 → stE = drop2 st1 x) ∧ (0 < len → ∃ fr3, evDraw (order q.opsB) T cf q.opsB [] ((fr1.set q.p ve).set q.d ve) (drop2 st1 x) = .norm fr3 stE) ∧ evTail t T cf fr1 stE = .ret fr' st' := by
    rcases hrest with ⟨hl0, rfl⟩ | ⟨hl0, rfl, -⟩
    · exact ⟨_, fun _ => rfl, fun e => by omega, ho⟩
    · obtain ⟨fr3, st3, q1, q2⟩ := only_ret (show (evDraw (order q.opsB) T cf q.opsB [] ((fr1.set q.p ve).set q.d ve) (drop2 st1 x)).only _ = .ret fr' st' from ho)
      exact ⟨st3, fun e => by omega, fun _ => ⟨fr3, q1⟩, q2⟩
  obtain ⟨fr4, st4, e4, e5⟩ := only_ret hE2
  cases e5
  have hve : 0 < len → Rl σ1 ve (.slice A len len) := fun e => by
    rcases hrest with ⟨q1, -⟩ | ⟨-, -, q⟩
    · omega
    · exact q
  let stOf : List (One len) → St := fun xs => match xs with | [] => drop2 st1 x | _ => stE
  let I : List (One len) → World → Prop := fun xs ww => ∃ σ, Grow (drop2 st1 x).nxt (stOf xs).nxt σ1 σ ∧ Rel T B1 σ (stOf xs) ww ∧ w1.heap.size ≤ ww.heap.size
  refine (wpIn_wide (n := 6)).1 ?_
  refine wpIn_rangeFunc_ownG rfl (by omega) (gf := it) (lb := #[.pointer (some ⟨L1.r, L1.d + 0, none⟩), .pointer (some ⟨L2.r, L2.d + 0, none⟩)]) (by show a1.tmps.getD q.g undef = _; simp [Array.getD_eq_getD_getElem?, hX]) trivial hit
    (hch L1.r (L1.d + 0) L2.r (L2.d + 0) m len cap A w1 hy1 hy2 hr1 hr2 hm1 hm2 hlm hlc hA) (fun hh k => hh.trans k) (fun ww l o o' hlw hlo hoc _ p hpb => ?hKb) (Below.refl _ _) (fun _ => by rw [hps]; rfl)
    I (fun _ _ _ => False) ?hI (fun _ _ _ _ _ hs _ _ => hs) ?h0 (fun _ => ({ tmps := a1.tmps.setIfInBounds q.p (.slice A len len), defers := [] } : Act).put (some q.d) (.slice A len len)) ?assign ?body ?done (fun _ _ _ _ _ _ hs _ => hs.elim)
  case hKb =>
    have hlt : p.block < w1.heap.size := hl p.block hpb
    have hne : p.block ≠ l := by omega
    unfold World.cell?
    rw [(grownBy_putObj' ww l o').block p.block (by have := (Array.getElem?_eq_some_iff.1 hlo).1; omega) (fun e => hne (by cases e; rfl))]
  case hI =>
    rintro xs ww ww' row ⟨σ, q1, q2, q3⟩ hgr hrow
    refine ⟨σ, q1, q2.other (fun b bl L hb hL => hgr.block _ (q2.lt hb hL) (fun e => ?_)) (B1.frame ww ww' q2.below hgr.os hgr.tape hgr.output hgr.size fun j hj hn => hgr.block j hj (fun e => hn ?_)), Nat.le_trans q3 hgr.size⟩
    · obtain ⟨-, o, hoo, hoc⟩ := hrow _ e.symm
      rw [isCells_of_shape (q2.shape b bl L hb hL).1 o hoo] at hoc
      cases hoc
    · exact B1.fresh w1 j hd1.below (hrow j e.symm).1
  case h0 => exact ⟨σ1, Grow.refl _ _, hd1, Nat.le_refl _⟩
  case assign =>
    intro l xx ww K hK
    refine wpIn_region_list ?_
    show wpListIn _ _ P #[q.oA] _ [q.oA] _ ww
    unfold wpListIn
    rw [if_pos (by simp [Region.wanted, hoG])]
    refine opIn_of (fun c e => by rw [hoA] at e; cases e) ?_
    have hz : (q.ps.zip #[Value.slice A len len]).foldl (fun (t : Array Value) (pv : Tmp × Value) => t.setIfInBounds pv.1 pv.2) a1.tmps = a1.tmps.setIfInBounds q.p (.slice A len len) := by rw [hps]; simp
    unfold Oper.wp execOp
    rw [hoA]
    simp only [hz]
    have hev : ({ tmps := a1.tmps.setIfInBounds q.p (.slice A len len), defers := [] } : Act).eval (.tmp q.p) = .slice A len len := by
      have hsz := hF1.size
      show (a1.tmps.setIfInBounds q.p (.slice A len len)).getD q.p undef = _
      simp [Array.getD_eq_getD_getElem?, hsz, hp]
    rw [hev, Sem.run_pure]
    show (Exit.then K fun _ _ _ => False) .normal (({ tmps := a1.tmps.setIfInBounds q.p (.slice A len len), defers := [] } : Act).put q.oA.dst (.slice A len len)) ww
    rw [hoD]
    exact hK
  case body =>
    rintro l pre xx ww ⟨σ, q1, q2, q3⟩ hlen
    have hpre : pre = [] := List.length_eq_zero_iff.1 (by omega)
    subst hpre
    have hpos : 0 < len := xx.2.2
    obtain ⟨fr3, hev⟩ := hE1 hpos
    have hq2 : Rel T B1 σ (drop2 st1 x) ww := q2
    have hFb : Fr σ n ((fr1.set q.p ve).set q.d ve) (({ tmps := a1.tmps.setIfInBounds q.p (.slice A len len), defers := [] } : Act).put (some q.d) (.slice A len len)) := by
      have f0 : Fr σ n fr1 a1 := hF1.mono q1.1
      have f1 : Fr σ n (putF fr1 (some q.p) ve) (a1.put (some q.p) (.slice A len len)) := f0.put (fun t e => by cases e; exact hp) ((hve hpos).mono q1.1)
      have f2 := f1.put (d := some q.d) (v := ve) (x := .slice A len len) (fun t e => by cases e; exact hd) ((hve hpos).mono q1.1)
      exact ⟨f2.tmps, f2.size, rfl⟩
    refine wpIn_block ?_
    refine wpIn_region_any hm (anyIn_of (noDefer_spec hnd) (by rintro ⟨aa, w', hh⟩; exact hh) _ _ _ _ ?_)
    refine draw_any H HF (hcf _) hB hFb hq2.others ?_
    rw [hev]
    intro σ3 a3 w3 g3 hF3 h3
    refine ⟨⟨h3.below.2.1, fun k o _ hk hcc => h3.below.2.2 k o hk (.inr hcc)⟩, hboxes hq2.below h3.below.1, σ3, q1.trans g3, h3.back, Nat.le_trans q3 h3.below.2.1⟩
  case done =>
    rintro D xs ww hD hS ⟨σ, q1, q2, q3⟩ hDk
    have hst : stOf xs = stE := by
      cases xs with
      | nil =>
        have : len = 0 := by
          by_cases e : len = 0
          · exact e
          · rw [if_neg e] at hS; cases hS
        exact (hE0 this).symm
      | cons y ys => rfl
    rw [hst] at q1 q2
    have hFt : Fr σ n fr1 { a1 with defers := markD D :: a1.defers } [markD D] := ⟨(hF1.mono q1.1).tmps, hF1.size, by show markD D :: a1.defers = _; rw [hF1.defers]⟩
    refine wp_seq (wp_region_list (opers_ok (D := [markD D]) H HF (hcf _) t.ops.toList σ fr1 stE _ ww (allB_t hT) hFt q2.others ?_))
    rw [e4]
    intro τ a2 w2 g2 hF2 h2
    refine wp_ret (hQ τ a2 w2 D ((g1.trans (show Grow st1.nxt stE.nxt σ1 σ from q1)).trans g2) hF2 (hback h2.back) (h2.below.2.2 D _ hDk (.inr rfl)) (W.fresh w1 D h1.below hD))

section
variable {β : Type} {r : β}
theorem onSeq_some {c : Code} {k : Code → Code → Option β} (h : onSeq c k = some r) : ∃ a b, c = .seq a b ∧ k a b = some r := by
  cases c <;> first | exact ⟨_, _, rfl, h⟩ | (have h' : (none : Option β) = some r := h; cases h')
theorem onBlock_some {c : Code} {k : Nat → Code → Option β} (h : onBlock c k = some r) : ∃ a b, c = .block a b ∧ k a b = some r := by
  cases c <;> first | exact ⟨_, _, rfl, h⟩ | (have h' : (none : Option β) = some r := h; cases h')
theorem onRange_some {c : Code} {k : Operand → Array Tmp → Code → Code → Option β} (h : onRange c k = some r) : ∃ g ps a b, c = .rangeFunc g ps a b ∧ k g ps a b = some r := by
  cases c <;> first | exact ⟨_, _, _, _, rfl, h⟩ | (have h' : (none : Option β) = some r := h; cases h')
theorem onRegion_some {c : Code} {k : Nat → Array Oper → Bool → Option β} (h : onRegion c k = some r) : ∃ i o d, c = .region i o d ∧ k i o d = some r := by
  cases c <;> first | exact ⟨_, _, _, rfl, h⟩ | (have h' : (none : Option β) = some r := h; cases h')
theorem onRet_some {c : Code} {k : Option β} (h : onRet c k = some r) : c = .ret ∧ k = some r := by
  cases c <;> first | exact ⟨rfl, h⟩ | (have h' : (none : Option β) = some r := h; cases h')
theorem onTmp_some {x : Operand} {k : Nat → Option β} (h : onTmp x k = some r) : ∃ t, x = .tmp t ∧ k t = some r := by
  cases x <;> first | exact ⟨_, rfl, h⟩ | (have h' : (none : Option β) = some r := h; cases h')
end
theorem asgTmp_some {o : Op} {t : Nat} (h : asgTmp o = some t) : o = .assign (.tmp t) := by
  cases o with
  | assign x =>
    obtain ⟨u, rfl, h2⟩ := onTmp_some (show onTmp x some = some t from h)
    cases h2; rfl
  | _ => have h' : (none : Option Nat) = some t := h; cases h'
theorem asgOf_some {o : Oper} {p d : Nat} (h : asgOf o p = some d) : o.op = .assign (.tmp p) ∧ o.dst = some d ∧ o.guard = none := by
  obtain ⟨t, h1, h2⟩ := ob_some h
  obtain ⟨h3, h4⟩ := bi_none h2
  have := beq_t h3
  subst this
  refine ⟨asgTmp_some h1, ?_, ?_⟩
  · cases hg : o.guard with
    | none =>
      rw [hg] at h4
      obtain ⟨u, q1, q2⟩ := ob_some (show ob o.dst some = some d from h4)
      cases q2; exact q1
    | some g => rw [hg] at h4; cases (show (none : Option Nat) = some d from h4)
  · cases hg : o.guard with
    | none => rfl
    | some g => rw [hg] at h4; cases (show (none : Option Nat) = some d from h4)
theorem toList_one {α : Type} {l : Array α} {x : α} (h : l.toList = [x]) : l = #[x] := by
  obtain ⟨l⟩ := l
  exact congrArg Array.mk h
theorem partsOf_some {c : Code} {q : Parts} (h : partsOf c = some q) : c = .seq (.region q.iR q.opsR false) (.block q.bl (.rangeFunc (.tmp q.g) q.ps (.region q.iA #[q.oA] false) (.block q.bb (.region q.iB q.opsB true)))) ∧ q.ps = #[q.p] ∧ q.oA.op = .assign (.tmp q.p) ∧ q.oA.dst = some q.d ∧ q.oA.guard = none := by
  obtain ⟨x, y, rfl, h⟩ := onSeq_some h
  obtain ⟨iR, opsR, dR, rfl, h⟩ := onRegion_some h
  obtain ⟨bl, z, rfl, h⟩ := onBlock_some h
  obtain ⟨g, ps, asg, body, rfl, h⟩ := onRange_some h
  obtain ⟨g, rfl, h⟩ := onTmp_some h
  obtain ⟨p, hp, h⟩ := one?_some h
  obtain ⟨iA, opsA, dA, rfl, h⟩ := onRegion_some h
  obtain ⟨oA, hA, h⟩ := one?_some h
  obtain ⟨d, hd, h⟩ := ob_some h
  obtain ⟨bb, u, rfl, h⟩ := onBlock_some h
  obtain ⟨iB, opsB, dB, rfl, h⟩ := onRegion_some h
  obtain ⟨h1, h⟩ := none_bi h
  obtain ⟨h2, h⟩ := none_bi h
  obtain ⟨h3, h⟩ := bi_none h
  subst h1 h2 h3
  cases h
  obtain ⟨q1, q2, q3⟩ := asgOf_some hd
  have e1 := toList_one hp
  have e2 := toList_one hA
  subst e1 e2
  exact ⟨rfl, rfl, q1, q2, q3⟩
theorem tailOf_some {c : Code} {t : Tail} (h : tailOf c = some t) : c = .seq (.region t.i t.ops false) .ret := by
  obtain ⟨x, y, rfl, h⟩ := onSeq_some h
  obtain ⟨i, ops, d, rfl, h⟩ := onRegion_some h
  obtain ⟨h1, h⟩ := none_bi h
  obtain ⟨rfl, h⟩ := onRet_some h
  subst h1
  cases h; rfl

noncomputable def chkRng (n : Nat) (q : Parts) (t : Tail) : Bool := bi (chkRegion n q.opsR false) (bi (Nat.blt q.p n) (bi (Nat.blt q.d n) (bi (chkDraw n q.opsB) (bi (noDefer q.opsB) (chkRegion n t.ops false) false) false) false) false) false
noncomputable def chkTop (n : Nat) (c : Code) : Bool := Code.rec (motive := fun _ => Bool) false (fun _ _ _ => false) (fun a b _ ih => Option.rec (bi (chkCode n a) ih false) (fun q => Option.rec false (fun t => chkRng n q t) (tailOf b)) (partsOf a)) (fun _ _ _ _ _ => false) (fun _ _ _ => false) (fun _ _ => false) (fun _ _ _ _ _ _ => false) (fun _ => false) (fun _ _ => false) (fun _ => false) (fun _ => false) false (fun _ => false) c
theorem top_ok (H : Tys P T) (HF : Funs P T) (hm : P.follows .mixedOrders = true) {cf : CallF} (hcf : ∀ W, CallOk P T W cf) {it : FuncId} (hit : Enters P it) (hch : ChunkOk P it) {fr' : F} {st' : St} {Q : Exit → Act → World → Prop} : ∀ (c : Code), chkTop n c = true → ∀ (ρ : Map) (fr : F) (st : St) (a : Act) (w : World), Fr ρ n fr a → Rel T W ρ st w → evTop c it T cf fr st = .ret fr' st' →
    (∀ σ a' w' D, Grow st.nxt st'.nxt ρ σ → Fr σ n fr' a' [markD D] → Rel T W σ st' w' → w'.heap[D]? = some (.deferred (some [])) → W.O D → Q .ret a' w') → c.wp P Q a w := by
  intro c
  induction c with
  | seq x y _ ihy =>
    intro hc ρ fr st a w hF h ho hQ
    have hc' : Option.rec (bi (chkCode n x) (chkTop n y) false) (fun q => Option.rec false (fun t => chkRng n q t) (tailOf y)) (partsOf x) = true := hc
    have ho' : Option.rec ((evCode x T cf fr st).only (evTop y it T cf)) (fun q => outO (ob (tailOf y) fun t => some (evRng q t it T cf fr st))) (partsOf x) = Out.ret fr' st' := ho
    cases hp : partsOf x with
    | none =>
      rw [hp] at hc' ho'
      obtain ⟨h1, h2⟩ := bi_ff (show bi (chkCode n x) (chkTop n y) false = true from hc')
      obtain ⟨fr1, st1, e1, e2⟩ := only_ret (show (evCode x T cf fr st).only (evTop y it T cf) = .ret fr' st' from ho')
      refine wp_seq (code_ok H HF hm (hcf W) x h1 _ ρ fr st a w hF h ?_)
      rw [e1]
      exact fun σ a1 w1 g1 hF1 h3 => ihy h2 σ fr1 st1 a1 w1 hF1 h3 e2 fun τ a' w' D g2 => hQ τ a' w' D (g1.trans g2)
    | some q =>
      rw [hp] at hc' ho'
      have hc2 : Option.rec false (fun t => chkRng n q t) (tailOf y) = true := hc'
      obtain ⟨t, ht, e1⟩ := ob_some (outO_ret (show outO (ob (tailOf y) fun t => some (evRng q t it T cf fr st)) = .ret fr' st' from ho'))
      rw [ht] at hc2
      obtain ⟨k1, hc3⟩ := bi_ff (show chkRng n q t = true from hc2)
      obtain ⟨k2, hc4⟩ := bi_ff hc3
      obtain ⟨k3, hc5⟩ := bi_ff hc4
      obtain ⟨k4, hc6⟩ := bi_ff hc5
      obtain ⟨k5, k6⟩ := bi_ff hc6
      obtain ⟨rfl, g1, g2, g3, g4⟩ := partsOf_some hp
      obtain rfl := tailOf_some ht
      exact rng_ok H HF hm hcf hit hch g1 (blt_t k2) (blt_t k3) g2 g3 g4 k1 k4 k5 k6 hF h (Option.some.inj e1) hQ
  | _ => intro hc; cases (show false = true from hc)

theorem sums_rng (H : Tys P T) (HF : Funs P T) (hm : P.follows .mixedOrders = true) {cf : CallF} (hcf : ∀ W, CallOk P T W cf) {it : FuncId} (hit : Enters P it) (hch : ChunkOk P it) {f : FuncId} {fn : Func} {c : Code} (hfn : P.funcs[f]? = some fn) (hb : fn.body = some c) (hc : chkTop fn.ntmps c = true) : Sums P T f (sumRng fn it T cf) := by
  intro W args st v st' hv ρ w xs h hr
  unfold sumRng at hv
  rw [hb] at hv
  have h2 : bi (Nat.ble (len args) fn.ntmps) (retOnly fn T (evTop c it T cf (enter args 0 .nil) st)) .fail = .val v st' := hv
  cases hle : Nat.ble (len args) fn.ntmps with
  | false => rw [hle] at h2; cases (show Ret.fail = Ret.val v st' from h2)
  | true =>
    rw [hle, bi_t] at h2
    have hle' := ble_t hle
    rw [len_eq] at hle'
    cases hout : evTop c it T cf (enter args 0 .nil) st with
    | fail => rw [hout] at h2; cases (show Ret.fail = Ret.val v st' from h2)
    | norm fr s => rw [hout] at h2; cases (show Ret.fail = Ret.val v st' from h2)
    | exit i fr s => rw [hout] at h2; cases (show Ret.fail = Ret.val v st' from h2)
    | ret fr2 st2 =>
      rw [hout] at h2
      have h3 : retOf fn T fr2 st2 = .val v st' := h2
      refine (callsIn_wide (n := 6)).1 (callsIn_of_wp_marks hfn hb trivial (wpIn_wide.2 (top_ok H HF hm hcf hit hch c hc ρ (enter args 0 .nil) st _ w (enter_fr hr hle') h hout ?_)) rfl)
      intro σ a' w' D g1 g2 g3 g4 g5
      show LeavesInM Fence.wide 6 P fn a'.tmps _ a'.defers .returning w'
      rw [g2.defers]
      have hlt := (Array.getElem?_eq_some_iff.1 g4).1
      have hgr := grownBy_putObj' w' D (.deferred none)
      have hR : Rel T W σ st2 (w'.putObj D (.deferred none)) := by
        refine g3.other (fun b bl L hb' hL => hgr.block _ (g3.lt hb' hL) (fun e => ?_)) (W.frame _ _ g3.below hgr.os hgr.tape hgr.output hgr.size fun j hj hn => hgr.block j hj (fun e => hn (by cases e; exact g5)))
        have hc3 := isCells_of_shape (g3.shape b bl L hb' hL).1
        have e' : L.r = D := by cases e; rfl
        rw [e'] at hc3
        have := hc3 _ g4
        cases this
      obtain ⟨rfl, x, q1, q2⟩ := results_ok (P := P) H g2 hR h3
      exact ⟨by simp, .inl ⟨D, _, rfl, run_takeDeferred g4, x, q1, σ, g1, hR, q2⟩⟩
end
end Ev
end Go.Proofs.YtodegmphcjgipaaGreatDoor
