/-
  What a row's frame wants: ranks, ranges and slices of them that came in, opened.
-/
import Derived.Test.YtmmnfniebiggpaaFrame
import Derived.Test.YtmmnfniebiggpaaOMake2
import Derived.Lib.SmallJoins
import Derived.Deep.Slices
import Derived.Deep.Strs
namespace Go.Proofs.Ytmmnfniebiggpaa
open Go.ChangeShapes Go.WideShapes Go.ChangeAt Go.RowKit Go.Deep

instance : Inhabited Rk := ⟨⟨⟨false, 0, ⟨#[]⟩⟩, 0⟩⟩
instance : Inhabited Rg := ⟨⟨default, default⟩⟩
section
variable {H : Type} {enc : TypeId × Value → H} {w : World} {base : Nat} {spare : Nat → Bool} {held : Bool}
theorem cells_V : Try.prog.cellsOf 36 = 3 := by kernel_rfl
theorem cells_R : Try.prog.cellsOf 38 = 4 := by kernel_rfl
theorem cells_G : Try.prog.cellsOf 41 = 8 := by kernel_rfl
theorem cells_b : Try.prog.cellsOf 4 = 1 := by kernel_rfl
theorem cells_i : Try.prog.cellsOf 2 = 1 := by kernel_rfl
theorem cells_s : Try.prog.cellsOf 9 = 1 := by kernel_rfl
theorem trod_V {fuel : Nat} {cs : List Value} {x : DataW H × List MemPlace} (h : DataW.trod enc Try.prog w base spare held fuel 36 cs = some x) : ∃ v : Vl, cs = [.bool v.null, .int .i64 v.n, .string v.s] := by
  obtain ⟨y0, y1, y2, n, _, hl, h0, h1, h2⟩ := trod_struct3 Try.underlying36 h
  rw [cells_V] at hl
  obtain ⟨a, ea, _⟩ := DataW.trod_bool Try.underlying4 h0
  obtain ⟨b, eb, _, _⟩ := DataW.trod_int Try.underlying2 h1
  obtain ⟨c, ec, _, _⟩ := DataW.trod_string Try.underlying9 h2
  dsimp only at ea eb ec
  rw [cells_b] at ea
  rw [cells_i] at eb
  rw [cells_s] at ec
  match cs, hl with
  | [c0, c1, c2], _ =>
    simp at ea eb ec
    exact ⟨⟨a, b, c⟩, by rw [ea, eb, ec]⟩
theorem trod_R {fuel : Nat} {cs : List Value} {x : DataW H × List MemPlace} (h : DataW.trod enc Try.prog w base spare held fuel 38 cs = some x) : ∃ r : Rk, cs = rankC r := by
  obtain ⟨y0, y1, n, _, hl, h0, h1⟩ := trod_struct2 Try.underlying38 h
  rw [cells_R] at hl
  obtain ⟨v, ev⟩ := trod_V h0
  obtain ⟨b, eb, _, _⟩ := DataW.trod_int Try.underlying2 h1
  dsimp only at ev eb
  rw [cells_V] at ev
  rw [cells_i] at eb
  match cs, hl with
  | [c0, c1, c2, c3], _ =>
    simp at ev eb
    obtain ⟨e0, e1, e2⟩ := ev
    exact ⟨⟨v, b⟩, by rw [e0, e1, e2, eb]; rfl⟩
theorem trod_G {fuel : Nat} {cs : List Value} {x : DataW H × List MemPlace} (h : DataW.trod enc Try.prog w base spare held fuel 41 cs = some x) : ∃ r : Rg, cs = rangeC r := by
  obtain ⟨y0, y1, n, _, hl, h0, h1⟩ := trod_struct2 Try.underlying41 h
  rw [cells_G] at hl
  obtain ⟨u, eu⟩ := trod_R h0
  obtain ⟨v, ev⟩ := trod_R h1
  dsimp only at eu ev
  rw [cells_R] at eu ev
  match cs, hl with
  | [c0, c1, c2, c3, c4, c5, c6, c7], _ =>
    simp [rankC] at eu ev
    obtain ⟨e0, e1, e2, e3⟩ := eu
    obtain ⟨e4, e5, e6, e7⟩ := ev
    exact ⟨⟨u, v⟩, by rw [e0, e1, e2, e3, e4, e5, e6, e7]; rfl⟩
theorem open_rk {r : Reach} {b0 : Nat} {v : Value} {d : DataW H} {p : List MemPlace} (hv : Value.okWide Try.prog w r b0 38 v) (h : DataW.Trod enc Try.prog w base spare held 38 v d p) : ∃ a : Rk, v = Rv a := by
  obtain ⟨cs, rfl, _⟩ := okWide_struct Try.underlying38 hv
  obtain ⟨fuel, hf⟩ := h
  obtain ⟨a, e⟩ := trod_R hf
  refine ⟨a, ?_⟩
  congr 1
  exact Array.toList_inj.1 (by simpa [Value.cells, rankC] using e)
theorem open_rg {r : Reach} {b0 : Nat} {v : Value} {d : DataW H} {p : List MemPlace} (hv : Value.okWide Try.prog w r b0 41 v) (h : DataW.Trod enc Try.prog w base spare held 41 v d p) : ∃ a : Rg, v = Gv a := by
  obtain ⟨cs, rfl, _⟩ := okWide_struct Try.underlying41 hv
  obtain ⟨fuel, hf⟩ := h
  obtain ⟨a, e⟩ := trod_G hf
  refine ⟨a, ?_⟩
  congr 1
  exact Array.toList_inj.1 (by simpa [Value.cells, rangeC, rankC] using e)
end
theorem open_list {H : Type} {enc : TypeId × Value → H} {W : World} {t e : TypeId} {α : Type} [Inhabited α] {f : α → List Value} {k B : Nat} (ht : Try.prog.underlying t = some (.slice e)) (hk : Try.prog.cellsOf e = k) (hB : Try.prog.bytesOf e = B) (h0 : 0 < k) (hf : ∀ a, (f a).length = k)
    (hT : ∀ {fuel : Nat} {cs : List Value} {x : DataW H × List MemPlace}, DataW.trod enc Try.prog W 0 (fun _ => true) true fuel e cs = some x → ∃ a, cs = f a)
    {a : Option Addr} {n c : Nat} {d : DataW H} {p : List MemPlace} (h : DataW.Trod enc Try.prog W 0 (fun _ => true) true t (.slice a n c) d p)
    {ts : List TypeId} {ds : List (DataW H)} {j : Nat} (hsz : (DataW.weightsEach Try.prog ts ds).all (· ≤ reachBytes) = true) (hts : ts[j]? = some t) (hds : ds[j]? = some d) :
    ∃ L : List α, Rd W W.heap.size a (L.flatMap f) ∧ L.length = n ∧ n ≤ c ∧ n * B ≤ 140737488351232 := by
  obtain ⟨fuel, hfu⟩ := h
  rcases open_slice ht hfu with ⟨hcs, _⟩ | ⟨x, l, c', m, n', D, Pl, hcs, _, hl, hm, hmm, hx, hcell⟩
  · simp [Value.cells] at hcs
    obtain ⟨rfl, rfl, rfl⟩ := hcs
    exact ⟨[], .inl rfl, rfl, Nat.le_refl _, by simp⟩
  · simp [Value.cells] at hcs
    obtain ⟨rfl, rfl, rfl⟩ := hcs
    simp only [if_true] at hmm
    injection hx with hx1 hx2
    subst hx1
    have hs := sized_slice hsz hts hds ht
    simp only [List.length_map, List.length_range, reachBytes] at hs
    rw [hB] at hs
    obtain ⟨V, hV⟩ := choose_lt (α := α) (p := fun i v => W.cells? 0 (x.add (i * Try.prog.cellsOf e)) (Try.prog.cellsOf e) = some (f v)) (fun i (hi : i < n) => by
      obtain ⟨cs', h1, h2⟩ := hcell i (by omega)
      obtain ⟨v, rfl⟩ := hT h2
      exact ⟨v, h1⟩)
    refine ⟨(List.range n).map V, ?_, by simp, hl, Nat.le_trans (Nat.mul_le_mul_right _ (by omega)) hs⟩
    rcases Nat.eq_zero_or_pos n with hn | hn
    · exact .inl (by subst hn; rfl)
    · have key : ∀ i j, i < n → j < k → W.cell? (x.add (i * k + j)) = (f (V i))[j]? := fun i j hi hj => by
        have h1 := hV i hi
        rw [hk] at h1
        obtain ⟨_, _, h3⟩ := World.cells?_some h1
        rw [← h3 j hj, add_of_add]
      have hb : x.block < W.heap.size := by
        have h1 := key 0 0 hn h0
        rw [List.getElem?_eq_getElem (by rw [hf]; exact h0)] at h1
        have := World.block_lt_of_cell? W _ h1
        rwa [block_of_add] at this
      refine .inr ⟨x, rfl, hb, fun i u hi => ?_⟩
      have hlt := (List.getElem?_eq_some_iff.1 hi).1
      rw [flat_len hf] at hlt
      simp at hlt
      have hq : i / k < n := Nat.div_lt_of_lt_mul (by rw [Nat.mul_comm]; exact hlt)
      have hr : i % k < k := Nat.mod_lt _ h0
      have e : i = i / k * k + i % k := by rw [Nat.mul_comm]; exact (Nat.div_add_mod i k).symm
      have h1 := key (i / k) (i % k) hq hr
      rw [← e] at h1
      rw [h1]
      have h2 := flat_get hf ((List.range n).map V) (i / k) (i % k) (V (i / k)) (by simp [hq]) hr
      rw [← e] at h2
      rw [← h2, hi]

end Go.Proofs.Ytmmnfniebiggpaa
