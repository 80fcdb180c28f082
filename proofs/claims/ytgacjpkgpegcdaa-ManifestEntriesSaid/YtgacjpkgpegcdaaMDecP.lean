/-
  Plain law of layer 19, the readers: what is read at an index, in the program and in the reference, without any program.
-/
import Derived.Test.YtgacjpkgpegcdaaMPlain
import Derived.Test.YtgacjpkgpegcdaaVGet
namespace Go.Proofs.Ytgacjpkgpegcdaa
open Go.RowKit

/-- A reader's state: the index, and whether something was wrong. -/
abbrev St := Int × Bool
def zRk : Rk := ⟨zeroVl0, 0⟩
/-- The program's reader. -/
def numT (s : ByteArray) (st : St) : Int × St :=
  if st.2 = true ∨ (getL s.data.toList st.1).2.2 ≠ 0 ∨ 4611686018427387904 < (getL s.data.toList st.1).1 then (0, st.1, true) else ((getL s.data.toList st.1).1, (getL s.data.toList st.1).2.1, false)
def rankT (s : ByteArray) (st : St) : Rk × St :=
  if st.2 = true ∨ (valG s st.1).2.2 ≠ 0 then (zRk, st.1, true) else (⟨(valG s st.1).1, (numT s ((valG s st.1).2.1, false)).1⟩, (numT s ((valG s st.1).2.1, false)).2)
def cntT (s : ByteArray) (st : St) : Int × St :=
  if (numT s st).2.2 = true ∨ 256 < (numT s st).1 then (0, (numT s st).2.1, true) else ((numT s st).1, (numT s st).2.1, false)
/-- The reference's cursor. -/
def numM (s : ByteArray) (most : Nat) (st : St) : Int × St :=
  if st.2 = true then (0, st) else if (getL s.data.toList st.1).2.2 ≠ 0 ∨ most < (getL s.data.toList st.1).1 then (0, st.1, true) else ((getL s.data.toList st.1).1, (getL s.data.toList st.1).2.1, false)
def rankM (s : ByteArray) (st : St) : Rk × St :=
  if st.2 = true then (zRk, st) else if (valG s st.1).2.2 ≠ 0 then (zRk, st.1, true) else (⟨(valG s st.1).1, (numM s 1099511627776 ((valG s st.1).2.1, false)).1⟩, (numM s 1099511627776 ((valG s st.1).2.1, false)).2)
section
variable {s : ByteArray} {a j e : Int} {v most : Nat} {x : Vl}
theorem numT_bad : numT s (a, true) = (0, a, true) := if_pos (.inl rfl)
theorem numT_err (h : getL s.data.toList a = (0, 0, e)) (he : e ≠ 0) : numT s (a, false) = (0, a, true) := if_pos (.inr (.inl (by rw [h]; exact he)))
theorem numT_big (h : getL s.data.toList a = (v, j, 0)) (hv : 4611686018427387904 < v) : numT s (a, false) = (0, a, true) := if_pos (.inr (.inr (by rw [h]; exact hv)))
theorem numT_ok (h : getL s.data.toList a = (v, j, 0)) (hv : ¬ 4611686018427387904 < v) : numT s (a, false) = ((v : Int), j, false) := by
  unfold numT
  rw [h, if_neg]
  rintro (h | h | h)
  · cases h
  · exact h rfl
  · exact hv h
theorem rankT_bad : rankT s (a, true) = (zRk, a, true) := if_pos (.inl rfl)
theorem rankT_err (h : valG s a = (x, j, e)) (he : e ≠ 0) : rankT s (a, false) = (zRk, a, true) := if_pos (.inr (by rw [h]; exact he))
theorem rankT_ok (h : valG s a = (x, j, 0)) : rankT s (a, false) = (⟨x, (numT s (j, false)).1⟩, (numT s (j, false)).2) := by
  unfold rankT
  rw [h, if_neg]
  rintro (h | h)
  · cases h
  · exact h rfl
theorem cntT_bad {st : St} {n : Int} (h : numT s st = (n, j, true)) : cntT s st = (0, j, true) := by
  unfold cntT; rw [h, if_pos (.inl rfl)]
theorem cntT_big {st : St} {n : Int} (h : numT s st = (n, j, false)) (hn : 256 < n) : cntT s st = (0, j, true) := by
  unfold cntT; rw [h, if_pos (.inr hn)]
theorem cntT_ok {st : St} {n : Int} (h : numT s st = (n, j, false)) (hn : ¬ 256 < n) : cntT s st = (n, j, false) := by
  unfold cntT; rw [h, if_neg]
  rintro (h | h)
  · cases h
  · exact hn h
theorem numM_bad : numM s most (a, true) = (0, a, true) := if_pos rfl
theorem numM_err (h : getL s.data.toList a = (0, 0, e)) (he : e ≠ 0) : numM s most (a, false) = (0, a, true) := by
  unfold numM; rw [if_neg (by simp), if_pos (.inl (by rw [h]; exact he))]
theorem numM_big (h : getL s.data.toList a = (v, j, 0)) (hv : most < v) : numM s most (a, false) = (0, a, true) := by
  unfold numM; rw [if_neg (by simp), if_pos (.inr (by rw [h]; exact hv))]
theorem numM_ok (h : getL s.data.toList a = (v, j, 0)) (hv : ¬ most < v) : numM s most (a, false) = ((v : Int), j, false) := by
  unfold numM; rw [if_neg (by simp), h, if_neg]
  rintro (h | h)
  · exact h rfl
  · exact hv h
theorem rankM_bad : rankM s (a, true) = (zRk, a, true) := if_pos rfl
theorem rankM_err (h : valG s a = (x, j, e)) (he : e ≠ 0) : rankM s (a, false) = (zRk, a, true) := by
  unfold rankM; rw [if_neg (by simp), if_pos (by rw [h]; exact he)]
theorem rankM_ok (h : valG s a = (x, j, 0)) : rankM s (a, false) = (⟨x, (numM s 1099511627776 (j, false)).1⟩, (numM s 1099511627776 (j, false)).2) := by
  unfold rankM; rw [if_neg (by simp), h, if_neg (by simp)]
/-- The numbers that are read are small. -/
theorem numT_rng (s : ByteArray) (st : St) : 0 ≤ (numT s st).1 ∧ (numT s st).1 ≤ 4611686018427387904 := by
  unfold numT
  split
  · exact ⟨Int.le_refl _, by simp⟩
  · dsimp only; omega
theorem cntT_rng (s : ByteArray) (st : St) : 0 ≤ (cntT s st).1 ∧ (cntT s st).1 ≤ 256 := by
  have := numT_rng s st
  unfold cntT
  split
  · exact ⟨Int.le_refl _, by simp⟩
  · dsimp only; omega
theorem numM_rng (s : ByteArray) (st : St) : 0 ≤ (numM s most st).1 ∧ (numM s most st).1 ≤ most := by
  unfold numM
  split
  · exact ⟨Int.le_refl _, by simp⟩
  · split
    · exact ⟨Int.le_refl _, by simp⟩
    · dsimp only; omega
end

/-- The program's record of a payload. -/
def entT (s : ByteArray) (st : St) : En × St :=
  let a := numT s st; let b := numT s a.2; let c := numT s b.2; let d := rankT s c.2; let e := rankT s d.2; let f := numT s e.2
  (⟨a.1, b.1, c.1, d.1, e.1, f.1⟩, f.2)
def entsT (s : ByteArray) : Nat → St → List En × St
  | 0, st => ([], st)
  | n + 1, st => ((entsT s n st).1 ++ [(entT s (entsT s n st).2).1], (entT s (entsT s n st).2).2)
def remsT (s : ByteArray) : Nat → St → List Int × St
  | 0, st => ([], st)
  | n + 1, st => ((remsT s n st).1 ++ [(numT s (remsT s n st).2).1], (numT s (remsT s n st).2).2)
theorem entsT_len (s : ByteArray) (st : St) : ∀ n, (entsT s n st).1.length = n
  | 0 => rfl
  | n + 1 => by rw [entsT, List.length_append, entsT_len s st n]; rfl
theorem remsT_len (s : ByteArray) (st : St) : ∀ n, (remsT s n st).1.length = n
  | 0 => rfl
  | n + 1 => by rw [remsT, List.length_append, remsT_len s st n]; rfl
def zeroRc : Rc := ⟨0, 0, 0, 0, [], []⟩
def byte0 (s : ByteArray) : Int := ((s.data.toList.headD 0).toNat : Int)
def decT (s : ByteArray) : Rc :=
  if s.size = 0 then zeroRc else
  let v := numT s (1, false); let q := numT s v.2; let i := numT s q.2; let n := cntT s i.2
  let es := entsT s n.1.toNat n.2; let m := cntT s es.2; let rs := remsT s m.1.toNat m.2
  ⟨byte0 s, v.1, q.1, i.1, es.1, rs.1⟩

end Go.Proofs.Ytgacjpkgpegcdaa
