/-
  'b = append(b, s...)' of a string onto a byte slice of the call's own, up to growslice's own test (the bound that doubling asks is not asked).
-/
import Derived.Test.YtodegmphcjgipaaGreatDoorBase
import Derived.Deep.DeepAppendWide
import Derived.Lib.AppendStr
namespace Go.Proofs.YtodegmphcjgipaaGreatDoor
open Go.RowKit

/-- A row of the call's own, begun at the world w0. -/
def Own (w0 w : World) (e : TypeId) (size : Nat) (v : Value) (n : Nat) (xs : List Value) : Prop := w.ownsRow w0.heap.size e size v n xs ∧ Below w0.heap.size w0 w

theorem Own.nil (w : World) (e : TypeId) (size : Nat) : Own w w e size (.slice none 0 0) 0 [] := ⟨World.ownsRow_nil _ _ _ _, Below.refl _ _⟩
theorem Own.grown {w0 w w' : World} {e : TypeId} {size : Nat} {v v' : Value} {n n' : Nat} {xs xs' : List Value} (h : Own w0 w e size v n xs) (ho : w'.ownsRow w0.heap.size e size v' n' xs') (hg : w.grownBy w' v.ownBlock) : Own w0 w' e size v' n' xs' :=
  ⟨ho, h.2.grown hg h.2.size fun k hk => (h.1.lt k hk).1⟩
theorem Own.alloc {w0 w : World} {e : TypeId} {size : Nat} {v : Value} {n : Nat} {xs : List Value} (h : Own w0 w e size v n xs) (o : Obj) : Own w0 (w.alloc o) e size v n xs := ⟨h.1.alloc o, h.2.alloc h.2.size o⟩
theorem Own.drew {w0 w : World} {e : TypeId} {size : Nat} {v : Value} {n : Nat} {xs : List Value} (h : Own w0 w e size v n xs) : Own w0 w.drew e size v n xs := ⟨h.1, h.2.drew⟩
theorem below_drewN {B : Nat} {a w : World} (h : Below B a w) (n : Nat) : Below B a (w.drewN n) := ⟨h.os, h.tape, h.output, h.size, h.block⟩
theorem Own.drewN {w0 w : World} {e : TypeId} {size : Nat} {v : Value} {n : Nat} {xs : List Value} (h : Own w0 w e size v n xs) (k : Nat) : Own w0 (w.drewN k) e size v n xs := ⟨h.1, below_drewN h.2 k⟩
/-- Behind a call that turns nothing that was there. -/
theorem Own.call {w0 w w' : World} {e : TypeId} {size : Nat} {v : Value} {n : Nat} {xs : List Value} (h : Own w0 w e size v n xs) (hb : Below w.heap.size w w') : Own w0 w' e size v n xs := by
  refine ⟨h.1.kept (row := none) ⟨hb.os, hb.tape, hb.output, hb.size, fun k hk _ => hb.block k hk⟩ ?_, h.2.trans (hb.mono h.2.size)⟩
  cases h1 : v.ownBlock
  · exact .inl rfl
  · exact .inr (by simp)

section
variable {P : Program} (w : World)
theorem run_append_string_wide (base : Nat) (t u ty e : TypeId) (hT : SlTy P t e (.int .u8 0) 1 1) (hu : P.underlying u = some .string)
    (v : Value) (n : Nat) (xs : List Value) (hown : w.ownsRow base e 1 v n xs) (s : ByteArray) (hfit : n + s.size + (n + s.size) / 4 + 192 ≤ 281474976710656) (hbase : base ≤ w.heap.size) :
    ∃ v' w', (Builtin.append_ #[t, u] ty #[v, .string s]).run P w = .ok v' w' ∧ w'.ownsRow base e 1 v' (n + s.size) (xs ++ Lib.strCells s) ∧ w.grownBy w' v.ownBlock := by
  obtain ⟨ht, i, hi, hz, hsize, hby⟩ := hT
  have hxl : xs.length = n := by simpa using hown.1
  have hm63 : n + s.size ≤ maxLen := by unfold maxLen; omega
  have hlen : (xs ++ Lib.strCells s).length = (n + s.size) * 1 := by rw [List.length_append, hxl, Lib.strCells_length, Nat.mul_one]
  have grown : ∀ (old : Nat), old < n + s.size → ∀ (row : Option Nat),
      (w.drew.alloc (.cells (xs.toArray ++ (Lib.strCells s).toArray ++ Builtin.zeroCells (Value.int .u8 0).cells (grownCap w (n + s.size) old e - (n + s.size))) e)).ownsRow base e 1
        (.slice (some ⟨w.heap.size, 0, none⟩) (n + s.size) (grownCap w (n + s.size) old e)) (n + s.size) (xs ++ Lib.strCells s) ∧
      w.grownBy (w.drew.alloc (.cells (xs.toArray ++ (Lib.strCells s).toArray ++ Builtin.zeroCells (Value.int .u8 0).cells (grownCap w (n + s.size) old e - (n + s.size))) e)) row := by
    intro old ho row
    have hge := grownCap_ge w (n + s.size) old e
    have hcm : grownCap w (n + s.size) old e ≤ maxLen := grownCap_le_maxLen w (n + s.size) old e hm63
    refine ⟨⟨hlen, .inr ⟨w.heap.size, _, _, rfl, hbase, heap_alloc_new w.drew _, hge, hcm, ?_, ?_⟩⟩, ⟨rfl, rfl, rfl, by simp, fun k hk _ => Below.heap_alloc w.drew _ k hk⟩⟩
    · have hz1 : (Value.int IntKind.u8 0).cells.size = 1 := rfl
      simp only [Array.size_append, List.size_toArray, size_zeroCells, hz1, hxl, Lib.strCells_length]
      omega
    · simp only [Array.toList_append, List.append_assoc]
      rw [← List.append_assoc, ← hlen]
      exact List.take_left
  rcases hown.2 with ⟨rfl, rfl⟩ | ⟨g, cap, cur, rfl, hbg, hg, hnc, hcm, hcs, htake⟩
  · have hx : xs = [] := List.eq_nil_of_length_eq_zero hxl
    subst hx
    by_cases hm : s.size = 0
    · have hn : Lib.strCells s = [] := List.eq_nil_of_length_eq_zero (by rw [Lib.strCells_length]; exact hm)
      refine ⟨.slice none 0 0, w, ?_, by rw [hm, hn]; exact World.ownsRow_nil w base e 1, ⟨rfl, rfl, rfl, Nat.le_refl _, fun _ _ _ => rfl⟩⟩
      have hf := Lib.run_firstCells_string (P := P) w 1 s
      rw [hm] at hf
      simp [Builtin.append_, run_underlying ht, run_underlying hu, sizeOf, typeInfo, hi, hsize, Builtin.lenOf, hm, hf]
    · have hr := run_append_nil_string (P := P) w t u ty e i (.int .u8 0) ht hu hi hz s (by omega) (by omega) (by rw [hby]; omega)
      have hgr := grown 0 (by omega) (Value.ownBlock (.slice none 0 0))
      simp only [Nat.zero_add, List.nil_append, Array.empty_append] at hgr ⊢
      have e1 : (s.data.map fun b => Value.int .u8 b.toNat) = (Lib.strCells s).toArray := by
        apply Array.ext'
        simp [Lib.strCells]
      rw [e1] at hr
      exact ⟨_, _, hr, hgr.1, hgr.2⟩
  · by_cases hroom : n + s.size ≤ cap
    · have hcs' : cur.size = cap := by simpa using hcs
      have hr := Lib.run_append_room_string (P := P) w t u ty e i ht hu hi hsize g n cap cur hg s hroom (by omega)
      refine ⟨_, _, hr, ⟨hlen, .inr ⟨g, cap, _, rfl, hbg, setRow_heap w g cur _ e _ hg, hroom, hcm, ?_, ?_⟩⟩, ⟨rfl, rfl, rfl, by simp, fun k _ hk => setRow_other w g k _ (fun e => hk (by simp [Value.ownBlock, e]))⟩⟩
      · simp only [List.size_toArray, List.length_append, List.length_take, List.length_drop, Array.length_toList, Lib.strCells_length]
        omega
      · have ht' : cur.toList.take n = xs := by simpa using htake
        rw [ht', ← hlen]
        exact List.take_left
    · have holds : ∀ j u, xs[j]? = some u → w.cell? ((⟨g, 0, none⟩ : Addr).add j) = some u := hown.cells (g := g) rfl
      have hr := Lib.run_append_grow_string (P := P) w t u ty e i (.int .u8 0) ht hu hi hz ⟨g, 0, none⟩ n cap xs (by rw [hsize]; simpa using hxl) holds s (by omega) (by omega)
        (growslice_fits_wide (by omega) (by rw [hby]; omega))
      have hgr := grown cap (by omega) (Value.ownBlock (.slice (some ⟨g, 0, none⟩) n cap))
      exact ⟨_, _, hr, hgr.1, hgr.2⟩
end
theorem strCells_mk (l : List UInt8) : Lib.strCells ⟨l.toArray⟩ = l.map Bv := by
  unfold Lib.strCells Bv; simp
/-- 'b = append(b, s...)'. -/
theorem own_text {P : Program} {w0 w : World} {e : TypeId} {v : Value} {n : Nat} {xs : List Value} (hb : Own w0 w e 1 v n xs)
    {t u : TypeId} (hT : SlTy P t e (.int .u8 0) 1 1) (hu : P.underlying u = some .string) (l : List UInt8) (hfit : n + l.length + (n + l.length) / 4 + 192 ≤ 281474976710656)
    {ops : Array Oper} {rest : List Oper} {o : Oper} {a : Act} {Q : Exit → Act → World → Prop}
    (h : ∀ v' w', Own w0 w' e 1 v' (n + l.length) (xs ++ l.map Bv) → wpList P ops Q rest (a.put o.dst v') w')
    (hgd : o.guard = none) (s x : Operand) (ho : o.op = .call { callee := .builtin .append, args := #[s, x], argTypes := #[t, u] })
    (hs : a.eval s = v) (hx : a.eval x = .string ⟨l.toArray⟩) : wpList P ops Q (o :: rest) a w := by
  refine wpList_plain hgd fun K hK => ?_
  obtain ⟨v', w', hr, h2, h3⟩ := run_append_string_wide (P := P) w w0.heap.size t u o.type e hT hu v n xs hb.1 ⟨l.toArray⟩ (by rw [size_mk]; exact hfit) hb.2.size
  unfold Oper.wp execOp
  simp only [ho, resolve, invoke, builtin, Sem.run_bind, Sem.run_pure, Result.andThen_ok, List.map_toArray, List.map_cons, List.map_nil, hs, hx, hr]
  rw [size_mk, strCells_mk] at h2
  exact hK _ _ (h v' w' (hb.grown h2 h3))
/-- 'string(b)'. -/
theorem own_str {P : Program} {w0 w : World} {e : TypeId} {v : Value} {n : Nat} {l : List UInt8} (hb : Own w0 w e 1 v n (l.map Bv))
    {t u : TypeId} (hT : SlTy P t e (.int .u8 0) 1 1) (he : P.underlying e = some (.int .u8)) (hu : P.underlying u = some .string) : (convert t u v).run P w = .ok (Sv l) w :=
  buf_str (W0 := w0) ⟨World.ownsRowF_of hb.1, hb.2, hb.2.size⟩ hT he hu
/-- 'l = append(l, x)' of one element of whatever type: its cells lie in the block that the statement has just laid. -/
theorem own_one {P : Program} {w0 w1 : World} {e : TypeId} {size bytes : Nat} {v : Value} {n : Nat} {xs : List Value} (hb : Own w0 w1 e size v n xs)
    {t : TypeId} {z : Value} (hT : SlTy P t e z size bytes) (hzs : z.cells.size = size) (hsz : 0 < size) {cs : Array Value} (hcs : cs.size = size) (h1 : ∀ u ∈ cs.toList, u.oneCell' = true)
    (hfit : (n + 1 + (n + 1) / 4 + 192) * bytes ≤ 281474976710656) (h63 : n + 1 ≤ maxLen)
    {ops : Array Oper} {rest : List Oper} {o : Oper} {a : Act} {Q : Exit → Act → World → Prop}
    (h : ∀ v' w', Own w0 w' e size v' (n + 1) (xs ++ cs.toList) → wpList P ops Q rest (a.put o.dst v') w')
    (hgd : o.guard = none) (s x : Operand) (ho : o.op = .call { callee := .builtin .append, args := #[s, x], argTypes := #[t, t] })
    (hs : a.eval s = v) (hx : a.eval x = .slice (some ⟨w1.heap.size, 0, none⟩) 1 1) : wpList P ops Q (o :: rest) a (w1.alloc (.cells cs e)) := by
  obtain ⟨ht, i, hi, hz, hs1, hs2⟩ := hT
  have hb' := hb.alloc (.cells cs e)
  refine wpList_append_own_wide _ hgd s x t ho w0.heap.size e i z size bytes ht hi hz hs1 hs2 hzs hsz v n xs hs hb'.1 ⟨w1.heap.size, 0, none⟩ 1 1 cs.toList hx (by simp [hcs]) ?_ h1 h63 hfit hb'.2.size ?_
  · intro j u hj
    have e0 : (⟨w1.heap.size, 0, none⟩ : Addr).add j = ⟨w1.heap.size, j, none⟩ := by unfold Addr.add; split <;> simp_all
    rw [e0, World.cell?_alloc_mark]
    simpa using hj
  · intro v' w' ho' hg _
    exact h v' w' (hb'.grown ho' hg)

end Go.Proofs.YtodegmphcjgipaaGreatDoor
