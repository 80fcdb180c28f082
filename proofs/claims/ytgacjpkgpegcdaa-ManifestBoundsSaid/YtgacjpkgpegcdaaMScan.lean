/-
  A list of records, and slices.Clip of it.
-/
import Derived.Test.YtgacjpkgpegcdaaMScanL
import Derived.Test.YtgacjpkgpegcdaaMDecR
namespace Go.Proofs.Ytgacjpkgpegcdaa
open Go.RowKit

/-- A record with its two slices. -/
structure RV where
  r : Rc
  v : Value
  v2 : Value
def recC (x : RV) : List Value := [.int .i64 x.r.kind, .int .i64 x.r.version, .int .i64 x.r.nextSeq, .int .i64 x.r.nextId, x.v, x.v2]
/-- Its lists lie outside the row v. -/
def InA (w : World) (v : Value) (x : RV) : Prop :=
  ∃ A c A2 c2, x.v = .slice A x.r.add.length c ∧ x.r.add.length ≤ c ∧ x.v2 = .slice A2 x.r.rem.length c2 ∧ x.r.rem.length ≤ c2 ∧ RdA w v A (x.r.add.flatMap entC) ∧ RdA w v A2 (x.r.rem.map Iv)
/-- A list of records that can be read. -/
def RecsAt (w : World) (A : Option Addr) (xs : List RV) : Prop :=
  Rd w w.heap.size A (xs.flatMap recC) ∧ ∀ x ∈ xs, ∃ A1 c1 A2 c2, x.v = .slice A1 x.r.add.length c1 ∧ x.r.add.length ≤ c1 ∧ x.v2 = .slice A2 x.r.rem.length c2 ∧ x.r.rem.length ≤ c2 ∧ Rd w w.heap.size A1 (x.r.add.flatMap entC) ∧ Rd w w.heap.size A2 (x.r.rem.map Iv)
theorem RecsAt.call {w w' : World} {A : Option Addr} {xs : List RV} (h : RecsAt w A xs) (hb : Below w.heap.size w w') : RecsAt w' A xs :=
  ⟨h.1.call hb, fun x hx => by
    obtain ⟨A1, c1, A2, c2, e1, l1, e2, l2, r1, r2⟩ := h.2 x hx
    exact ⟨A1, c1, A2, c2, e1, l1, e2, l2, r1.call hb, r2.call hb⟩⟩
abbrev zeroRcV : Value := .agg #[.int .i64 0, .int .i64 0, .int .i64 0, .int .i64 0, .slice none 0 0, .slice none 0 0]
theorem infoRc : (Try.prog.info? 31).map (fun i => (i.zero, i.size, i.bytes)) = some (some zeroRcV, 6, 80) := by kernel_rfl
theorem recs : SlTy Try.prog 22 31 zeroRcV 6 80 := ⟨Try.underlying22, info_parts infoRc⟩
set_option maxRecDepth 100000 in
theorem clip_any (A : Option Addr) (n c : Nat) (w : World) (hc : n ≤ c) : Calls Try.prog 33 #[.slice A n c] w fun e w' => e = .returned (.slice A n n) ∧ w = w' := by
  go_enter Try.func33, Try.ntmps33
  go_wp2
  go_ret
  exact ⟨rfl, rfl⟩

end Go.Proofs.Ytgacjpkgpegcdaa
