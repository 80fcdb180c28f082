/-
  Plain law of layer 19: what a scan returns, as a relation.
-/
import Derived.Test.YtgacjpkgpegcdaaMScanP
namespace Go.Proofs.Ytgacjpkgpegcdaa
open Go.RowKit

/-- The records at the beginning of a file, and the number of their bytes. -/
inductive ScanR : List UInt8 → List Rc → Nat → Prop where
  | stop {t : List UInt8} (h : ∀ r, ¬ Stands t r) : ScanR t [] 0
  | more {t : List UInt8} {r : Rc} {l : List Rc} {n : Nat} (h : Stands t r) (k : ScanR (t.drop (encR r).length) l n) : ScanR t (r :: l) ((encR r).length + n)
theorem ScanR.one {t : List UInt8} {l l' : List Rc} {n n' : Nat} (h : ScanR t l n) : ScanR t l' n' → l = l' ∧ n = n' := by
  induction h generalizing l' n' with
  | stop h =>
    intro k
    cases k with
    | stop _ => exact ⟨rfl, rfl⟩
    | more h2 _ => exact absurd h2 (h _)
  | more h _ ih =>
    intro k
    cases k with
    | stop h2 => exact absurd h (h2 _)
    | more h2 k2 =>
      have e := stands_uniq h h2
      subst e
      obtain ⟨e1, e2⟩ := ih k2
      rw [e1, e2]
      exact ⟨rfl, rfl⟩
theorem stands_len {t : List UInt8} {r : Rc} (h : Stands t r) : (encR r).length ≤ t.length ∧ 8 ≤ (encR r).length := by
  obtain ⟨u, rfl⟩ := h.2.2
  rw [List.length_append, encR_len]
  omega
/-- What remains to be scanned, as it is told in a loop. -/
def ScanFrom (L : List UInt8) (at_ : Nat) (l : List Rc) : Prop := ∀ l' n, ScanR (L.drop at_) l' n → ScanR L (l ++ l') (at_ + n)
theorem ScanFrom.start (L : List UInt8) : ScanFrom L 0 [] := fun l' n h => by simpa using h
theorem ScanFrom.next {L : List UInt8} {at_ : Nat} {l : List Rc} {r : Rc} (h : ScanFrom L at_ l) (hs : Stands (L.drop at_) r) : ScanFrom L (at_ + (encR r).length) (l ++ [r]) := fun l' n k => by
  have h1 := h (r :: l') ((encR r).length + n) (ScanR.more hs (by rw [List.drop_drop]; exact k))
  rw [← Nat.add_assoc] at h1
  simpa using h1
theorem ScanFrom.done {L : List UInt8} {at_ : Nat} {l : List Rc} (h : ScanFrom L at_ l) (hs : ∀ r, ¬ Stands (L.drop at_) r) : ScanR L l at_ := by
  simpa using h [] 0 (.stop hs)
/-- There is no record at the beginning. -/
theorem no_short {t : List UInt8} (h : t.length < 8) (r : Rc) : ¬ Stands t r := fun k => by
  have := stands_len k
  omega
theorem no_size {t : List UInt8} (h : t.length < wordL t 0 + 8) (r : Rc) : ¬ Stands t r := fun k => by
  obtain ⟨h1, h2, _⟩ := stands_pay k
  omega
theorem no_crc {t : List UInt8} (h : wordL t (wordL t 0 + 4) ≠ crcL (t.take (wordL t 0 + 4))) (r : Rc) : ¬ Stands t r := fun k => by
  obtain ⟨h1, _, _, h2⟩ := stands_pay k
  exact h (by rw [h1]; exact h2)
theorem no_pay {t : List UInt8} {x : Rc} (h : payM (payL t) = (x, false)) (r : Rc) : ¬ Stands t r := fun k => by
  have := stands_payM k
  rw [h] at this
  exact absurd (congrArg Prod.snd this) (by simp)
theorem no_chk {t : List UInt8} (h : chkR (decT (payL t)) ≠ 0) (r : Rc) : ¬ Stands t r := fun k => h (by rw [stands_dec k]; exact k.1)
theorem no_pre {t : List UInt8} (h : ¬ encR (decT (payL t)) <+: t) (r : Rc) : ¬ Stands t r := fun k => h (by rw [stands_dec k]; exact k.2.2)
theorem no_len {t : List UInt8} (h : (encR (decT (payL t))).length ≠ wordL t 0 + 8) (r : Rc) : ¬ Stands t r := fun k => h (by rw [stands_dec k, (stands_pay k).1, encR_len])

end Go.Proofs.Ytgacjpkgpegcdaa
