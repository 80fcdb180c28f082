/-
  Lists of ranks and ranges: how many ranks a range contains, how many ranges contain a rank.
-/
import Derived.Test.YtgacjpkgpegcdaaORange
namespace Go.Proofs.Ytgacjpkgpegcdaa
open Go.RowKit

def rankC (r : Rk) : List Value := [.bool r.key.null, .int .i64 r.key.n, .string r.key.s, .int .i64 r.seq]
def rangeC (r : Rg) : List Value := rankC r.lo ++ rankC r.hi
theorem flat_get {α : Type} {f : α → List Value} {k : Nat} (hk : ∀ a, (f a).length = k) : ∀ (L : List α) (i j : Nat) (a : α), L[i]? = some a → j < k → (L.flatMap f)[i * k + j]? = (f a)[j]?
  | [], i, j, a, h, _ => by simp at h
  | b :: L, 0, j, a, h, hj => by
    simp only [List.getElem?_cons_zero, Option.some.injEq] at h
    subst h
    rw [List.flatMap_cons, Nat.zero_mul, Nat.zero_add, List.getElem?_append_left (by rw [hk]; exact hj)]
  | b :: L, i + 1, j, a, h, hj => by
    rw [List.getElem?_cons_succ] at h
    rw [List.flatMap_cons, List.getElem?_append_right (by rw [hk, Nat.succ_mul]; omega), hk, ← flat_get hk L i j a h hj]
    congr 1
    rw [Nat.succ_mul]; omega
theorem flat_len {α : Type} {f : α → List Value} {k : Nat} (hk : ∀ a, (f a).length = k) : ∀ L : List α, (L.flatMap f).length = L.length * k
  | [] => by simp
  | b :: L => by rw [List.flatMap_cons, List.length_append, hk, flat_len hk L, List.length_cons, Nat.succ_mul]; omega
theorem add_off (a : Addr) (i j : Nat) (hj : j ≠ 0) : a.add (i + j) = ⟨(a.add i).block, (a.add i).off + j, none⟩ := by
  rw [← add_of_add]
  generalize a.add i = x
  simp [Addr.add, hj]
theorem Rd.rank {w : World} {B : Nat} {A : Option Addr} {L : List Rk} (h : Rd w B A (L.flatMap rankC)) {i : Nat} {p : Rk} (hi : L[i]? = some p) :
    ∃ ad, A = some ad ∧ ad.block < B ∧ w.cell? (ad.add (i * 4)) = some (.bool p.key.null) ∧ w.cell? ⟨(ad.add (i * 4)).block, (ad.add (i * 4)).off + 1, none⟩ = some (.int .i64 p.key.n) ∧ w.cell? ⟨(ad.add (i * 4)).block, (ad.add (i * 4)).off + 2, none⟩ = some (.string p.key.s) ∧ w.cell? ⟨(ad.add (i * 4)).block, (ad.add (i * 4)).off + 3, none⟩ = some (.int .i64 p.seq) := by
  have g := fun j hj => flat_get (f := rankC) (k := 4) (fun _ => rfl) L i j p hi hj
  obtain ⟨ad, rfl, hb, c0⟩ := h.at_ (j := i * 4) (u := .bool p.key.null) (by have := g 0 (by omega); rw [Nat.add_zero] at this; rw [this]; rfl)
  obtain ⟨_, e1, _, c1⟩ := h.at_ (j := i * 4 + 1) (u := .int .i64 p.key.n) (by rw [g 1 (by omega)]; rfl)
  obtain ⟨_, e2, _, c2⟩ := h.at_ (j := i * 4 + 2) (u := .string p.key.s) (by rw [g 2 (by omega)]; rfl)
  obtain ⟨_, e3, _, c3⟩ := h.at_ (j := i * 4 + 3) (u := .int .i64 p.seq) (by rw [g 3 (by omega)]; rfl)
  cases e1; cases e2; cases e3
  rw [add_off _ _ _ (by omega)] at c1 c2 c3
  exact ⟨ad, rfl, hb, c0, c1, c2, c3⟩
theorem Rd.range {w : World} {B : Nat} {A : Option Addr} {L : List Rg} (h : Rd w B A (L.flatMap rangeC)) {i : Nat} {p : Rg} (hi : L[i]? = some p) :
    ∃ ad, A = some ad ∧ ad.block < B ∧ w.cell? (ad.add (i * 8)) = some (.bool p.lo.key.null) ∧ w.cell? ⟨(ad.add (i * 8)).block, (ad.add (i * 8)).off + 1, none⟩ = some (.int .i64 p.lo.key.n) ∧ w.cell? ⟨(ad.add (i * 8)).block, (ad.add (i * 8)).off + 2, none⟩ = some (.string p.lo.key.s) ∧ w.cell? ⟨(ad.add (i * 8)).block, (ad.add (i * 8)).off + 3, none⟩ = some (.int .i64 p.lo.seq) ∧
      w.cell? ⟨(ad.add (i * 8)).block, (ad.add (i * 8)).off + 4, none⟩ = some (.bool p.hi.key.null) ∧ w.cell? ⟨(ad.add (i * 8)).block, (ad.add (i * 8)).off + 5, none⟩ = some (.int .i64 p.hi.key.n) ∧ w.cell? ⟨(ad.add (i * 8)).block, (ad.add (i * 8)).off + 6, none⟩ = some (.string p.hi.key.s) ∧ w.cell? ⟨(ad.add (i * 8)).block, (ad.add (i * 8)).off + 7, none⟩ = some (.int .i64 p.hi.seq) := by
  have g := fun j hj => flat_get (f := rangeC) (k := 8) (fun _ => rfl) L i j p hi hj
  obtain ⟨ad, rfl, hb, c0⟩ := h.at_ (j := i * 8) (u := .bool p.lo.key.null) (by have := g 0 (by omega); rw [Nat.add_zero] at this; rw [this]; rfl)
  obtain ⟨_, e1, _, c1⟩ := h.at_ (j := i * 8 + 1) (u := .int .i64 p.lo.key.n) (by rw [g 1 (by omega)]; rfl)
  obtain ⟨_, e2, _, c2⟩ := h.at_ (j := i * 8 + 2) (u := .string p.lo.key.s) (by rw [g 2 (by omega)]; rfl)
  obtain ⟨_, e3, _, c3⟩ := h.at_ (j := i * 8 + 3) (u := .int .i64 p.lo.seq) (by rw [g 3 (by omega)]; rfl)
  obtain ⟨_, e4, _, c4⟩ := h.at_ (j := i * 8 + 4) (u := .bool p.hi.key.null) (by rw [g 4 (by omega)]; rfl)
  obtain ⟨_, e5, _, c5⟩ := h.at_ (j := i * 8 + 5) (u := .int .i64 p.hi.key.n) (by rw [g 5 (by omega)]; rfl)
  obtain ⟨_, e6, _, c6⟩ := h.at_ (j := i * 8 + 6) (u := .string p.hi.key.s) (by rw [g 6 (by omega)]; rfl)
  obtain ⟨_, e7, _, c7⟩ := h.at_ (j := i * 8 + 7) (u := .int .i64 p.hi.seq) (by rw [g 7 (by omega)]; rfl)
  cases e1; cases e2; cases e3; cases e4; cases e5; cases e6; cases e7
  rw [add_off _ _ _ (by omega)] at c1 c2 c3 c4 c5 c6 c7
  exact ⟨ad, rfl, hb, c0, c1, c2, c3, c4, c5, c6, c7⟩
def widthR (t : Int) (r : Rg) (L : List Rk) : Nat := L.countP (hasB t r)


end Go.Proofs.Ytgacjpkgpegcdaa
