/-
  Plain law of layer 19: the reference's record of a payload.
-/
import Derived.Test.YtgacjpkgpegcdaaMDecP
namespace Go.Proofs.Ytgacjpkgpegcdaa
open Go.RowKit

def entM (s : ByteArray) (st : St) : En × St :=
  let a := numM s 2147483647 st; let b := numM s 2147483647 a.2; let c := numM s 2147483647 b.2; let d := rankM s c.2; let e := rankM s d.2; let f := numM s 2147483647 e.2
  (⟨a.1, b.1, c.1, d.1, e.1, f.1⟩, f.2)
def entsM (s : ByteArray) : Nat → St → List En × St
  | 0, st => ([], st)
  | n + 1, st => if st.2 = true then ([], st) else ((entM s st).1 :: (entsM s n (entM s st).2).1, (entsM s n (entM s st).2).2)
def remsM (s : ByteArray) : Nat → St → List Int × St
  | 0, st => ([], st)
  | n + 1, st => if st.2 = true then ([], st) else ((numM s 2147483647 st).1 :: (remsM s n (numM s 2147483647 st).2).1, (remsM s n (numM s 2147483647 st).2).2)
theorem entsM_bad (s : ByteArray) (n : Nat) (a : Int) : entsM s n (a, true) = ([], (a, true)) := by cases n <;> rfl
theorem remsM_bad (s : ByteArray) (n : Nat) (a : Int) : remsM s n (a, true) = ([], (a, true)) := by cases n <;> rfl
theorem entsM_next (s : ByteArray) (n : Nat) (a : Int) : entsM s (n + 1) (a, false) = ((entM s (a, false)).1 :: (entsM s n (entM s (a, false)).2).1, (entsM s n (entM s (a, false)).2).2) := by rw [entsM, if_neg (by simp)]
theorem remsM_next (s : ByteArray) (n : Nat) (a : Int) : remsM s (n + 1) (a, false) = ((numM s 2147483647 (a, false)).1 :: (remsM s n (numM s 2147483647 (a, false)).2).1, (remsM s n (numM s 2147483647 (a, false)).2).2) := by rw [remsM, if_neg (by simp)]
/-- The record of a payload, and whether it is one. -/
noncomputable def payM (s : ByteArray) : Rc × Bool :=
  if s.size = 0 then (zeroRc, false) else
  let v := numM s 2147483647 (1, false); let q := numM s 1099511627777 v.2; let i := numM s 2147483647 q.2; let n := numM s 256 i.2
  let es := entsM s n.1.toNat n.2; let m := numM s 256 es.2; let rs := remsM s m.1.toNat m.2
  (⟨byte0 s, v.1, q.1, i.1, es.1, rs.1⟩, !rs.2.2 && (rs.2.1 == (s.size : Int)) && (chkR ⟨byte0 s, v.1, q.1, i.1, es.1, rs.1⟩ == 0))

end Go.Proofs.Ytgacjpkgpegcdaa
