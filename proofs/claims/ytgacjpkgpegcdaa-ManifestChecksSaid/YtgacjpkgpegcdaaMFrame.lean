/-
  What a row's frame wants: entries and records that came in, opened.
-/
import Derived.Test.YtgacjpkgpegcdaaFrame
import Derived.Test.YtgacjpkgpegcdaaMRecA
import Derived.Lib.SmallJoins
import Derived.Deep.Slices
import Derived.Deep.Strs
namespace Go.Proofs.Ytgacjpkgpegcdaa
open Go.ChangeShapes Go.WideShapes Go.ChangeAt Go.RowKit Go.Deep

instance : Inhabited En := ⟨⟨0, 0, 0, ⟨⟨false, 0, ⟨#[]⟩⟩, 0⟩, ⟨⟨false, 0, ⟨#[]⟩⟩, 0⟩, 0⟩⟩
section
variable {H : Type} {enc : TypeId × Value → H} {P : Program} {w : World} {base : Nat} {spare : Nat → Bool} {held : Bool}
theorem trod_struct6 {t : TypeId} {f0 f1 f2 f3 f4 f5 : Field} {fuel : Nat} {cs : List Value} {x : DataW H × List MemPlace} (ht : P.underlying t = some (.struct #[f0, f1, f2, f3, f4, f5])) (h : DataW.trod enc P w base spare held fuel t cs = some x) :
    ∃ y0 y1 y2 y3 y4 y5 n, x.1 = .agg [y0.1, y1.1, y2.1, y3.1, y4.1, y5.1] ∧ cs.length = P.cellsOf t ∧ DataW.trod enc P w base spare held n f0.type ((cs.drop f0.offset).take (P.cellsOf f0.type)) = some y0 ∧
      DataW.trod enc P w base spare held n f1.type ((cs.drop f1.offset).take (P.cellsOf f1.type)) = some y1 ∧ DataW.trod enc P w base spare held n f2.type ((cs.drop f2.offset).take (P.cellsOf f2.type)) = some y2 ∧
      DataW.trod enc P w base spare held n f3.type ((cs.drop f3.offset).take (P.cellsOf f3.type)) = some y3 ∧ DataW.trod enc P w base spare held n f4.type ((cs.drop f4.offset).take (P.cellsOf f4.type)) = some y4 ∧
      DataW.trod enc P w base spare held n f5.type ((cs.drop f5.offset).take (P.cellsOf f5.type)) = some y5 := by
  obtain ⟨xs, n, _, rfl, hl, hlen, hf⟩ := DataW.trod_struct ht h
  match xs, hlen with
  | [y0, y1, y2, y3, y4, y5], _ => exact ⟨y0, y1, y2, y3, y4, y5, n, by simp, hl, by simpa using hf 0 f0 rfl, by simpa using hf 1 f1 rfl, by simpa using hf 2 f2 rfl, by simpa using hf 3 f3 rfl, by simpa using hf 4 f4 rfl, by simpa using hf 5 f5 rfl⟩
theorem list12 {α : Type} {l : List α} (h : l.length = 12) : ∃ c0 c1 c2 c3 c4 c5 c6 c7 c8 c9 c10 c11, l = [c0, c1, c2, c3, c4, c5, c6, c7, c8, c9, c10, c11] := by
  match l, h with
  | [c0, c1, c2, c3, c4, c5, c6, c7, c8, c9, c10, c11], _ => exact ⟨c0, c1, c2, c3, c4, c5, c6, c7, c8, c9, c10, c11, rfl⟩
theorem list6 {α : Type} {l : List α} (h : l.length = 6) : ∃ c0 c1 c2 c3 c4 c5, l = [c0, c1, c2, c3, c4, c5] := by
  match l, h with
  | [c0, c1, c2, c3, c4, c5], _ => exact ⟨c0, c1, c2, c3, c4, c5, rfl⟩
end
section
variable {H : Type} {enc : TypeId × Value → H} {w : World} {base : Nat} {spare : Nat → Bool} {held : Bool}
theorem cells_V : Try.prog.cellsOf 36 = 3 := by kernel_rfl
theorem cells_R : Try.prog.cellsOf 38 = 4 := by kernel_rfl
theorem cells_E : Try.prog.cellsOf 40 = 12 := by kernel_rfl
theorem cells_K : Try.prog.cellsOf 31 = 6 := by kernel_rfl
theorem cells_b : Try.prog.cellsOf 4 = 1 := by kernel_rfl
theorem cells_i : Try.prog.cellsOf 2 = 1 := by kernel_rfl
theorem cells_n : Try.prog.cellsOf 3 = 1 := by kernel_rfl
theorem cells_s : Try.prog.cellsOf 9 = 1 := by kernel_rfl
theorem cells_le : Try.prog.cellsOf 28 = 1 := by kernel_rfl
theorem cells_ln : Try.prog.cellsOf 29 = 1 := by kernel_rfl
set_option maxRecDepth 100000 in
theorem trod_V {fuel : Nat} {cs : List Value} {x : DataW H × List MemPlace} (h : DataW.trod enc Try.prog w base spare held fuel 36 cs = some x) : ∃ v : Vl, cs = [.bool v.null, .int .i64 v.n, .string v.s] ∧ I64 v.n := by
  obtain ⟨y0, y1, y2, n, _, hl, h0, h1, h2⟩ := trod_struct3 Try.underlying36 h
  rw [cells_V] at hl
  obtain ⟨a, ea, _⟩ := DataW.trod_bool Try.underlying4 h0
  obtain ⟨b, eb, _, wb⟩ := DataW.trod_int Try.underlying2 h1
  obtain ⟨c, ec, _, _⟩ := DataW.trod_string Try.underlying9 h2
  dsimp only at ea eb ec
  rw [cells_b] at ea
  rw [cells_i] at eb
  rw [cells_s] at ec
  match cs, hl with
  | [c0, c1, c2], _ =>
    simp at ea eb ec
    exact ⟨⟨a, b, c⟩, by rw [ea, eb, ec], wf_i64 wb⟩
set_option maxRecDepth 100000 in
theorem trod_R {fuel : Nat} {cs : List Value} {x : DataW H × List MemPlace} (h : DataW.trod enc Try.prog w base spare held fuel 38 cs = some x) : ∃ r : Rk, cs = rankC r ∧ I64 r.key.n := by
  obtain ⟨y0, y1, n, _, hl, h0, h1⟩ := trod_struct2 Try.underlying38 h
  rw [cells_R] at hl
  obtain ⟨v, ev, wv⟩ := trod_V h0
  obtain ⟨b, eb, _, _⟩ := DataW.trod_int Try.underlying2 h1
  dsimp only at ev eb
  rw [cells_V] at ev
  rw [cells_i] at eb
  match cs, hl with
  | [c0, c1, c2, c3], _ =>
    simp at ev eb
    obtain ⟨e0, e1, e2⟩ := ev
    exact ⟨⟨v, b⟩, by rw [e0, e1, e2, eb]; rfl, wv⟩
set_option maxRecDepth 100000 in
theorem trod_E {fuel : Nat} {cs : List Value} {x : DataW H × List MemPlace} (h : DataW.trod enc Try.prog w base spare held fuel 40 cs = some x) : ∃ e : En, cs = entC e ∧ keysI e := by
  obtain ⟨y0, y1, y2, y3, y4, y5, n, _, hl, h0, h1, h2, h3, h4, h5⟩ := trod_struct6 Try.underlying40 h
  rw [cells_E] at hl
  obtain ⟨a, ea, _, _⟩ := DataW.trod_int Try.underlying3 h0
  obtain ⟨b, eb, _, _⟩ := DataW.trod_int Try.underlying3 h1
  obtain ⟨c, ec, _, _⟩ := DataW.trod_int Try.underlying3 h2
  obtain ⟨u, eu, wu⟩ := trod_R h3
  obtain ⟨v, ev, wv⟩ := trod_R h4
  obtain ⟨d, ed, _, _⟩ := DataW.trod_int Try.underlying3 h5
  dsimp only at ea eb ec eu ev ed
  rw [cells_n] at ea eb ec ed
  rw [cells_R] at eu ev
  obtain ⟨c0, c1, c2, c3, c4, c5, c6, c7, c8, c9, c10, c11, rfl⟩ := list12 hl
  simp [rankC] at ea eb ec eu ev ed
  obtain ⟨e3, e4, e5, e6⟩ := eu
  obtain ⟨e7, e8, e9, e10⟩ := ev
  exact ⟨⟨a, b, c, u, v, d⟩, by rw [ea, eb, ec, e3, e4, e5, e6, e7, e8, e9, e10, ed]; rfl, wu, wv⟩
theorem trod_N {fuel : Nat} {cs : List Value} {x : DataW H × List MemPlace} (h : DataW.trod enc Try.prog w base spare held fuel 3 cs = some x) : ∃ z : Int, cs = [Iv z] ∧ I64 z := by
  obtain ⟨a, ea, _, wa⟩ := DataW.trod_int Try.underlying3 h
  exact ⟨a, ea, wf_i64 wa⟩
set_option maxRecDepth 100000 in
theorem open_en {r : Reach} {b0 : Nat} {v : Value} {d : DataW H} {p : List MemPlace} (hv : Value.okWide Try.prog w r b0 40 v) (h : DataW.Trod enc Try.prog w base spare held 40 v d p) : ∃ a : En, v = Ev a := by
  obtain ⟨cs, rfl, _⟩ := okWide_struct Try.underlying40 hv
  obtain ⟨fuel, hf⟩ := h
  obtain ⟨a, e, _⟩ := trod_E hf
  refine ⟨a, ?_⟩
  congr 1
  exact Array.toList_inj.1 (by simpa [Value.cells, entC] using e)
end
theorem trod_list {H : Type} {enc : TypeId × Value → H} {W : World} {t e : TypeId} {α : Type} [Inhabited α] {f : α → List Value} {q : α → Prop} {k B : Nat} (ht : Try.prog.underlying t = some (.slice e)) (hk : Try.prog.cellsOf e = k) (hB : Try.prog.bytesOf e = B) (h0 : 0 < k) (hf : ∀ a, (f a).length = k)
    (hT : ∀ {fuel : Nat} {cs : List Value} {x : DataW H × List MemPlace}, DataW.trod enc Try.prog W 0 (fun _ => true) true fuel e cs = some x → ∃ a, cs = f a ∧ q a)
    {fuel : Nat} {cs : List Value} {y : DataW H × List MemPlace} (h : DataW.trod enc Try.prog W 0 (fun _ => true) true fuel t cs = some y) :
    ∃ (a : Option Addr) (n c : Nat) (L : List α), cs = [.slice a n c] ∧ Rd W W.heap.size a (L.flatMap f) ∧ L.length = n ∧ n ≤ c ∧ (∀ x ∈ L, q x) ∧ (n = 0 ∨ ∃ m ∈ y.1.weights Try.prog t, n * B ≤ m) := by
  rcases open_slice ht h with ⟨hcs, _⟩ | ⟨x, l, c', m, n', D, Pl, hcs, _, hl, hm, hmm, hx, hcell⟩
  · exact ⟨none, 0, 0, [], hcs, .inl rfl, rfl, Nat.le_refl _, by simp, .inl rfl⟩
  · simp only [if_true] at hmm
    obtain ⟨V, hV⟩ := choose_lt (α := α) (p := fun i v => W.cells? 0 (x.add (i * Try.prog.cellsOf e)) (Try.prog.cellsOf e) = some (f v) ∧ q v) (fun i (hi : i < l) => by
      obtain ⟨cs', h1, h2⟩ := hcell i (by omega)
      obtain ⟨v, rfl, hq⟩ := hT h2
      exact ⟨v, h1, hq⟩)
    refine ⟨some x, l, c', (List.range l).map V, hcs, ?_, by simp, hl, ?_, ?_⟩
    · rcases Nat.eq_zero_or_pos l with hn | hn
      · exact .inl (by subst hn; rfl)
      · have key : ∀ i j, i < l → j < k → W.cell? (x.add (i * k + j)) = (f (V i))[j]? := fun i j hi hj => by
          have h1 := (hV i hi).1
          rw [hk] at h1
          obtain ⟨_, _, h3⟩ := World.cells?_some h1
          rw [← h3 j hj, add_of_add]
        have hb : x.block < W.heap.size := by
          have h1 := key 0 0 hn h0
          rw [List.getElem?_eq_getElem (by rw [hf]; exact h0)] at h1
          have := World.block_lt_of_cell? W _ h1
          rwa [block_of_add] at this
        refine .inr ⟨x, rfl, hb, fun i u hi => ?_⟩
        have hlt := (List.getElem?_eq_some_iff.1 hi).1
        rw [flat_len hf] at hlt
        simp at hlt
        have hq : i / k < l := Nat.div_lt_of_lt_mul (by rw [Nat.mul_comm]; exact hlt)
        have hr : i % k < k := Nat.mod_lt _ h0
        have e : i = i / k * k + i % k := by rw [Nat.mul_comm]; exact (Nat.div_add_mod i k).symm
        have h1 := key (i / k) (i % k) hq hr
        rw [← e] at h1
        rw [h1]
        have h2 := flat_get hf ((List.range l).map V) (i / k) (i % k) (V (i / k)) (by simp [hq]) hr
        rw [← e] at h2
        rw [← h2, hi]
    · intro z hz
      obtain ⟨i, hi, rfl⟩ := List.mem_map.1 hz
      exact (hV i (List.mem_range.1 hi)).2
    · refine .inr ?_
      rw [hx]
      refine ⟨_, by simp only [DataW.weights, ht]; exact List.mem_cons_self, ?_⟩
      rw [hB]
      simp only [List.length_map, List.length_range]
      exact Nat.mul_le_mul_right _ (by omega)
theorem flat_one (l : List Int) : l.flatMap (fun z => [Iv z]) = l.map Iv := by
  induction l with
  | nil => rfl
  | cons a l ih => rw [List.flatMap_cons, ih]; rfl
/-- What a row admits of a record. -/
structure RcOk (W : World) (r : Rc) (A : Option Addr) (n c : Nat) (A2 : Option Addr) (n2 c2 : Nat) : Prop where
  at_ : RcAt W r A n c A2 n2 c2
  keys : keysOk r
set_option maxRecDepth 100000 in
theorem open_rc {H : Type} {enc : TypeId × Value → H} {W : World} {r0 : Reach} {b0 : Nat} {v : Value} {d : DataW H} {p : List MemPlace} (hv : Value.okWide Try.prog W r0 b0 31 v) (h : DataW.Trod enc Try.prog W 0 (fun _ => true) true 31 v d p)
    {ts : List TypeId} {ds : List (DataW H)} {j : Nat} (hsz : (DataW.weightsEach Try.prog ts ds).all (· ≤ reachBytes) = true) (hts : ts[j]? = some 31) (hds : ds[j]? = some d) :
    ∃ (r : Rc) (A : Option Addr) (n c : Nat) (A2 : Option Addr) (n2 c2 : Nat), v = Kv r A n c A2 n2 c2 ∧ RcOk W r A n c A2 n2 c2 := by
  obtain ⟨cs, rfl, _⟩ := okWide_struct Try.underlying31 hv
  obtain ⟨fuel, hf⟩ := h
  obtain ⟨y0, y1, y2, y3, y4, y5, n, hx, hl, h0, h1, h2, h3, h4, h5⟩ := trod_struct6 Try.underlying31 hf
  rw [cells_K] at hl
  dsimp only at hx
  obtain ⟨a, ea, _, _⟩ := DataW.trod_int Try.underlying3 h0
  obtain ⟨b, eb, _, _⟩ := DataW.trod_int Try.underlying3 h1
  obtain ⟨c, ec, _, _⟩ := DataW.trod_int Try.underlying2 h2
  obtain ⟨e, ee, _, _⟩ := DataW.trod_int Try.underlying3 h3
  obtain ⟨A, n1, c1, L, el, hr1, hl1, hc1, hq1, hw1⟩ := trod_list (f := entC) (q := keysI) (k := 12) (B := 112) Try.underlying28 cells_E (by kernel_rfl) (by decide) (fun _ => rfl) trod_E h4
  obtain ⟨A2, n2, c2, L2, el2, hr2, hl2, hc2, hq2, hw2⟩ := trod_list (f := fun z => [Iv z]) (q := I64) (k := 1) (B := 8) Try.underlying29 cells_n (by kernel_rfl) (by decide) (fun _ => rfl) trod_N h5
  dsimp only at ea eb ec ee el el2
  rw [cells_n] at ea eb ee
  rw [cells_i] at ec
  rw [cells_le] at el
  rw [cells_ln] at el2
  have hmem : ∀ m, m ∈ d.weights Try.prog 31 → m ≤ reachBytes := fun m hm => by
    have := List.all_eq_true.1 hsz _ (DataW.weights_mem_each hts hds m hm)
    simpa using this
  have hb1 : n1 * 112 ≤ reachBytes := by
    rcases hw1 with h | ⟨m, hm, hle⟩
    · rw [h]; simp
    · refine Nat.le_trans hle (hmem m ?_)
      rw [hx]
      simp only [DataW.weights, Try.underlying31]
      exact DataW.weights_mem_each (j := 4) rfl rfl _ hm
  have hb2 : n2 * 8 ≤ reachBytes := by
    rcases hw2 with h | ⟨m, hm, hle⟩
    · rw [h]; simp
    · refine Nat.le_trans hle (hmem m ?_)
      rw [hx]
      simp only [DataW.weights, Try.underlying31]
      exact DataW.weights_mem_each (j := 5) rfl rfl _ hm
  have hr2' : Rd W W.heap.size A2 (L2.map Iv) := by
    rw [flat_one] at hr2
    exact hr2
  have hcl : (Value.agg cs).cells.toList.length = 6 := hl
  obtain ⟨c0, k1, k2, k3, k4, k5, hcc⟩ := list6 hcl
  rw [hcc] at ea eb ec ee el el2
  simp at ea eb ec ee el el2
  unfold reachBytes at hb1 hb2
  refine ⟨⟨a, b, c, e, L, L2⟩, A, n1, c1, A2, n2, c2, ?_, ⟨hr1, hr2', hl1, hl2, hc1, hc2, by omega, by omega⟩, hq1⟩
  congr 1
  exact Array.toList_inj.1 (by rw [show cs.toList = (Value.agg cs).cells.toList from rfl, hcc, ea, eb, ec, ee, el, el2])

end Go.Proofs.Ytgacjpkgpegcdaa
