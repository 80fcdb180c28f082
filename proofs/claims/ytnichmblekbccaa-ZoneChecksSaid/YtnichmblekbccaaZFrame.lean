/-
  What a row's frame wants: values, zones, columns and slices of values that came in, opened.
-/
import Derived.Test.YtnichmblekbccaaFrame
import Derived.Test.YtnichmblekbccaaZChk
import Derived.Lib.SmallJoins
import Derived.Deep.Slices
import Derived.Deep.Strs
namespace Go.Proofs.Ytnichmblekbccaa
open Go.ChangeShapes Go.WideShapes Go.ChangeAt Go.RowKit Go.Deep

instance : Inhabited Vl := ⟨⟨false, 0, ⟨#[]⟩⟩⟩
section
variable {H : Type} {enc : TypeId × Value → H} {w : World} {base : Nat} {spare : Nat → Bool} {held : Bool}
theorem cells_V : Try.prog.cellsOf 23 = 3 := by kernel_rfl
theorem cells_Z : Try.prog.cellsOf 25 = 8 := by kernel_rfl
theorem cells_C : Try.prog.cellsOf 32 = 4 := by kernel_rfl
theorem cells_b : Try.prog.cellsOf 4 = 1 := by kernel_rfl
theorem cells_i : Try.prog.cellsOf 2 = 1 := by kernel_rfl
theorem cells_n : Try.prog.cellsOf 3 = 1 := by kernel_rfl
theorem cells_s : Try.prog.cellsOf 9 = 1 := by kernel_rfl
theorem trod_V {fuel : Nat} {cs : List Value} {x : DataW H × List MemPlace} (h : DataW.trod enc Try.prog w base spare held fuel 23 cs = some x) : ∃ v : Vl, cs = valC v ∧ I64 v.n ∧ v.s.size ∈ x.1.weights Try.prog 23 := by
  obtain ⟨y0, y1, y2, n, hx, hl, h0, h1, h2⟩ := trod_struct3 Try.underlying23 h
  rw [cells_V] at hl
  obtain ⟨a, ea, _⟩ := DataW.trod_bool Try.underlying4 h0
  obtain ⟨b, eb, _, wb⟩ := DataW.trod_int Try.underlying2 h1
  obtain ⟨c, ec, xc, _⟩ := DataW.trod_string Try.underlying9 h2
  dsimp only at ea eb ec
  rw [cells_b] at ea
  rw [cells_i] at eb
  rw [cells_s] at ec
  have hwt : c.size ∈ x.1.weights Try.prog 23 := by
    rw [hx, xc]
    simp [DataW.weights, Try.underlying23, DataW.weightsEach]
  match cs, hl with
  | [c0, c1, c2], _ =>
    simp at ea eb ec
    exact ⟨⟨a, b, c⟩, by rw [ea, eb, ec]; rfl, wf_i64 wb, hwt⟩
/-- What a row admits of a value, of a zone. -/
structure VlOk (v : Vl) : Prop where
  n : I64 v.n
  s : v.s.size ≤ 140737488351232
structure ZnOk (z : Zn) : Prop where
  rows : I64 z.rows
  nulls : I64 z.nulls
  mn : VlOk z.mn
  mx : VlOk z.mx
theorem trod_Z {fuel : Nat} {cs : List Value} {x : DataW H × List MemPlace} (h : DataW.trod enc Try.prog w base spare held fuel 25 cs = some x) : ∃ z : Zn, cs = zoneC z ∧ I64 z.rows ∧ I64 z.nulls ∧ I64 z.mn.n ∧ I64 z.mx.n ∧ z.mn.s.size ∈ x.1.weights Try.prog 25 ∧ z.mx.s.size ∈ x.1.weights Try.prog 25 := by
  obtain ⟨y0, y1, y2, y3, n, hx, hl, h0, h1, h2, h3⟩ := Go.Joins.trod_struct4 Try.underlying25 h
  rw [cells_Z] at hl
  obtain ⟨a, ea, _, wa⟩ := DataW.trod_int Try.underlying3 h0
  obtain ⟨b, eb, _, wb⟩ := DataW.trod_int Try.underlying3 h1
  obtain ⟨u, eu, wu, su⟩ := trod_V h2
  obtain ⟨v, ev, wv, sv⟩ := trod_V h3
  dsimp only at ea eb eu ev
  rw [cells_n] at ea eb
  rw [cells_V] at eu ev
  have hs1 : u.s.size ∈ x.1.weights Try.prog 25 := by
    rw [hx]
    simp only [DataW.weights, Try.underlying25]
    exact DataW.weights_mem_each (j := 2) rfl rfl _ su
  have hs2 : v.s.size ∈ x.1.weights Try.prog 25 := by
    rw [hx]
    simp only [DataW.weights, Try.underlying25]
    exact DataW.weights_mem_each (j := 3) rfl rfl _ sv
  match cs, hl with
  | [c0, c1, c2, c3, c4, c5, c6, c7], _ =>
    simp [valC] at ea eb eu ev
    obtain ⟨e0, e1, e2⟩ := eu
    obtain ⟨e4, e5, e6⟩ := ev
    exact ⟨⟨a, b, u, v⟩, by rw [ea, eb, e0, e1, e2, e4, e5, e6]; rfl, wf_i64 wa, wf_i64 wb, wu, wv, hs1, hs2⟩
theorem trod_C {fuel : Nat} {cs : List Value} {x : DataW H × List MemPlace} (h : DataW.trod enc Try.prog w base spare held fuel 32 cs = some x) : ∃ c : Cl, cs = [.string c.nm, .int .i64 c.ty, .int .i64 c.sc, .bool c.nl] := by
  obtain ⟨y0, y1, y2, y3, n, _, hl, h0, h1, h2, h3⟩ := Go.Joins.trod_struct4 Try.underlying32 h
  rw [cells_C] at hl
  obtain ⟨a, ea, _, _⟩ := DataW.trod_string Try.underlying9 h0
  obtain ⟨b, eb, _, _⟩ := DataW.trod_int Try.underlying3 h1
  obtain ⟨c, ec, _, _⟩ := DataW.trod_int Try.underlying3 h2
  obtain ⟨d, ed, _⟩ := DataW.trod_bool Try.underlying4 h3
  dsimp only at ea eb ec ed
  rw [cells_s] at ea
  rw [cells_n] at eb ec
  rw [cells_b] at ed
  match cs, hl with
  | [c0, c1, c2, c3], _ =>
    simp at ea eb ec ed
    exact ⟨⟨a, b, c, d⟩, by rw [ea, eb, ec, ed]⟩
theorem open_zn {r : Reach} {b0 : Nat} {v : Value} {d : DataW H} {p : List MemPlace} (hv : Value.okWide Try.prog w r b0 25 v) (h : DataW.Trod enc Try.prog w base spare held 25 v d p)
    {ts : List TypeId} {ds : List (DataW H)} {j : Nat} (hsz : (DataW.weightsEach Try.prog ts ds).all (· ≤ reachBytes) = true) (hts : ts[j]? = some 25) (hds : ds[j]? = some d) : ∃ a : Zn, v = Zv a ∧ ZnOk a := by
  obtain ⟨cs, rfl, _⟩ := okWide_struct Try.underlying25 hv
  obtain ⟨fuel, hf⟩ := h
  obtain ⟨a, e, w1, w2, w3, w4, w5, w6⟩ := trod_Z hf
  have g1 := List.all_eq_true.1 hsz _ (DataW.weights_mem_each hts hds _ w5)
  have g2 := List.all_eq_true.1 hsz _ (DataW.weights_mem_each hts hds _ w6)
  simp only [reachBytes] at g1 g2
  refine ⟨a, ?_, w1, w2, ⟨w3, of_decide_eq_true g1⟩, ⟨w4, of_decide_eq_true g2⟩⟩
  congr 1
  exact Array.toList_inj.1 (by simpa [Value.cells, zoneC] using e)
theorem open_cl {r : Reach} {b0 : Nat} {v : Value} {d : DataW H} {p : List MemPlace} (hv : Value.okWide Try.prog w r b0 32 v) (h : DataW.Trod enc Try.prog w base spare held 32 v d p) : ∃ a : Cl, v = Cv a := by
  obtain ⟨cs, rfl, _⟩ := okWide_struct Try.underlying32 hv
  obtain ⟨fuel, hf⟩ := h
  obtain ⟨a, e⟩ := trod_C hf
  refine ⟨a, ?_⟩
  congr 1
  exact Array.toList_inj.1 (by simpa [Value.cells] using e)
end
theorem trod_V' {H : Type} {enc : TypeId × Value → H} {w : World} {base : Nat} {spare : Nat → Bool} {held : Bool} {fuel : Nat} {cs : List Value} {x : DataW H × List MemPlace} (h : DataW.trod enc Try.prog w base spare held fuel 23 cs = some x) : ∃ v : Vl, cs = valC v := by
  obtain ⟨v, e, _⟩ := trod_V h
  exact ⟨v, e⟩
theorem flat_len {α : Type} {f : α → List Value} {k : Nat} (hk : ∀ a, (f a).length = k) : ∀ L : List α, (L.flatMap f).length = L.length * k
  | [] => by simp
  | a :: L => by rw [List.flatMap_cons, List.length_append, hk, flat_len hk L, List.length_cons, Nat.succ_mul, Nat.add_comm]
theorem open_list {H : Type} {enc : TypeId × Value → H} {W : World} {t e : TypeId} {α : Type} [Inhabited α] {f : α → List Value} {k B : Nat} (ht : Try.prog.underlying t = some (.slice e)) (hk : Try.prog.cellsOf e = k) (hB : Try.prog.bytesOf e = B) (h0 : 0 < k) (hf : ∀ a, (f a).length = k)
    (hT : ∀ {fuel : Nat} {cs : List Value} {x : DataW H × List MemPlace}, DataW.trod enc Try.prog W 0 (fun _ => true) true fuel e cs = some x → ∃ a, cs = f a)
    {a : Option Addr} {n c : Nat} {d : DataW H} {p : List MemPlace} (h : DataW.Trod enc Try.prog W 0 (fun _ => true) true t (.slice a n c) d p)
    {ts : List TypeId} {ds : List (DataW H)} {j : Nat} (hsz : (DataW.weightsEach Try.prog ts ds).all (· ≤ reachBytes) = true) (hts : ts[j]? = some t) (hds : ds[j]? = some d) :
    ∃ L : List α, Rd W W.heap.size a (L.flatMap f) ∧ L.length = n ∧ n ≤ c ∧ n * B ≤ 140737488351232 := by
  obtain ⟨fuel, hfu⟩ := h
  rcases open_slice ht hfu with ⟨hcs, _⟩ | ⟨x, l, c', m, n', D, Pl, hcs, _, hl, hm, hmm, hx, hcell⟩
  · simp [Value.cells] at hcs
    obtain ⟨rfl, rfl, rfl⟩ := hcs
    exact ⟨[], .inl rfl, rfl, Nat.le_refl _, by simp⟩
  · simp [Value.cells] at hcs
    obtain ⟨rfl, rfl, rfl⟩ := hcs
    simp only [if_true] at hmm
    injection hx with hx1 hx2
    subst hx1
    have hs := sized_slice hsz hts hds ht
    simp only [List.length_map, List.length_range, reachBytes] at hs
    rw [hB] at hs
    obtain ⟨V, hV⟩ := choose_lt (α := α) (p := fun i v => W.cells? 0 (x.add (i * Try.prog.cellsOf e)) (Try.prog.cellsOf e) = some (f v)) (fun i (hi : i < n) => by
      obtain ⟨cs', h1, h2⟩ := hcell i (by omega)
      obtain ⟨v, rfl⟩ := hT h2
      exact ⟨v, h1⟩)
    refine ⟨(List.range n).map V, ?_, by simp, hl, Nat.le_trans (Nat.mul_le_mul_right _ (by omega)) hs⟩
    rcases Nat.eq_zero_or_pos n with hn | hn
    · exact .inl (by subst hn; rfl)
    · have key : ∀ i j, i < n → j < k → W.cell? (x.add (i * k + j)) = (f (V i))[j]? := fun i j hi hj => by
        have h1 := hV i hi
        rw [hk] at h1
        obtain ⟨_, _, h3⟩ := World.cells?_some h1
        rw [← h3 j hj, add_of_add]
      have hb : x.block < W.heap.size := by
        have h1 := key 0 0 hn h0
        rw [List.getElem?_eq_getElem (by rw [hf]; exact h0)] at h1
        have := World.block_lt_of_cell? W _ h1
        rwa [block_of_add] at this
      refine .inr ⟨x, rfl, hb, fun i u hi => ?_⟩
      have hlt := (List.getElem?_eq_some_iff.1 hi).1
      rw [flat_len hf] at hlt
      simp at hlt
      have hq : i / k < n := Nat.div_lt_of_lt_mul (by rw [Nat.mul_comm]; exact hlt)
      have hr : i % k < k := Nat.mod_lt _ h0
      have e : i = i / k * k + i % k := by rw [Nat.mul_comm]; exact (Nat.div_add_mod i k).symm
      have h1 := key (i / k) (i % k) hq hr
      rw [← e] at h1
      rw [h1]
      have h2 := flat_get hf ((List.range n).map V) (i / k) (i % k) (V (i / k)) (by simp [hq]) hr
      rw [← e] at h2
      rw [← h2, hi]

end Go.Proofs.Ytnichmblekbccaa
