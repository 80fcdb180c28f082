/-
  What a row's frame wants: a slice of numbers that came in, opened.
-/
import Derived.Test.YtgacjpkgpegcdaaBase
import Derived.ProofKit
import Derived.OpenShut
import Derived.ShutString
import Derived.ChangeOld
import Derived.SizedLaws
namespace Go.Proofs.Ytgacjpkgpegcdaa
open Go.ChangeShapes Go.WideShapes Go.ChangeAt Go.RowKit
open Go.ChangeMaps (open_string shut_string)

theorem own : ownKnob Try.prog.godebug = none := by kernel_rfl
theorem laidOut : laidOutB Try.prog = true := by kernel_rfl

theorem open_nums {H : Type} {enc : TypeId × Value → H} {P : Program} {W : World} {t e : TypeId} {k : IntKind} (ht : P.underlying t = some (.slice e)) (he : P.underlying e = some (.int k)) (hc : P.cellsOf e = 1)
    {a : Option Addr} {n c : Nat} {d : DataW H} {p : List MemPlace} (h : DataW.Trod enc P W 0 (fun _ => true) true t (.slice a n c) d p)
    {ts : List TypeId} {ds : List (DataW H)} {j : Nat} (hsz : (DataW.weightsEach P ts ds).all (· ≤ reachBytes) = true) (hts : ts[j]? = some t) (hds : ds[j]? = some d) :
    ∃ zs : List Int, Rd W W.heap.size a (zs.map (Value.int k)) ∧ zs.length = n ∧ (∀ z ∈ zs, (Lit.int k z).wf = true) ∧ n ≤ c ∧ n * P.bytesOf e ≤ 140737488351232 := by
  obtain ⟨fuel, hf⟩ := h
  rcases open_ints ht he hc hf with ⟨hcs, _⟩ | ⟨x, l, c', zs, hcs, _, hl, hm, hz, hx, hcell, hwz⟩
  · simp [Value.cells] at hcs
    obtain ⟨rfl, rfl, rfl⟩ := hcs
    exact ⟨[], .inl rfl, rfl, by simp, Nat.le_refl _, by simp⟩
  · simp [Value.cells] at hcs
    obtain ⟨rfl, rfl, rfl⟩ := hcs
    simp only [if_true] at hz
    injection hx with hx1 hx2
    subst hx1
    have hs := sized_slice hsz hts hds ht
    simp only [lits, List.length_map, List.length_take, List.length_drop, reachBytes] at hs
    have hs' : n * P.bytesOf e ≤ 140737488351232 := Nat.le_trans (Nat.mul_le_mul_right _ (by omega)) hs
    refine ⟨zs.take n, ?_, by simp; omega, fun z hz' => hwz z (List.mem_of_mem_take hz'), hl, hs'⟩
    rcases Nat.eq_zero_or_pos n with h0 | h0
    · exact .inl (by simp [h0])
    · have hb : x.block < W.heap.size := by
        have := World.block_lt_of_cell? W _ (hcell 0 (by omega))
        rwa [block_of_add] at this
      refine .inr ⟨x, rfl, hb, fun i u hi => ?_⟩
      rw [List.map_take, List.getElem?_take] at hi
      split at hi
      · have hlt : i < zs.length := by omega
        rw [hcell i hlt]
        rw [List.getElem?_map, List.getElem?_eq_getElem hlt] at hi
        simp at hi
        rw [← hi]
        simp [List.getD, List.getElem?_eq_getElem hlt]
      · cases hi

end Go.Proofs.Ytgacjpkgpegcdaa
