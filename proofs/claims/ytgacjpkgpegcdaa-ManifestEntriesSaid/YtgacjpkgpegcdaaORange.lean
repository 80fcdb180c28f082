/-
  Ranges: Contains, in the code and in the reference.
-/
import Derived.Test.YtgacjpkgpegcdaaOWalks
namespace Go.Proofs.Ytgacjpkgpegcdaa
open Go.RowKit

def hasB (t : Int) (r : Rg) (p : Rk) : Bool := decide (cmpR t r.lo p ≤ 0) && decide (cmpR t p r.hi ≤ 0)


end Go.Proofs.Ytgacjpkgpegcdaa
