/-
  Laws of layer 19: the examples.
-/
import Derived.Test.YtgacjpkgpegcdaaMAwake
namespace Go.Proofs.Ytgacjpkgpegcdaa
open Go.RowKit

set_option maxRecDepth 100000 in
set_option maxHeartbeats 1000000 in
theorem walk_ManifestExamples (w : World) : Calls Try.prog 3 #[] w fun e w' => e = .returned (.bool true) ∧ Below w.heap.size w w' := by
  have hE0 : encV baseR = encR baseR := if_pos chk_base
  have hEE : ∃ E, encR baseR = E := ⟨_, rfl⟩
  obtain ⟨E, hEE⟩ := hEE
  have hl14 : E.length = 14 := by rw [← hEE]; exact enc_base
  rw [hEE] at hE0
  clear hEE
  go_enter Try.func3, Try.ntmps3
  go_wp2_with fail
  refine (scan_any ⟨#[]⟩ _ (by decide)).mono ?_; rintro _ w1 ⟨A, c, n, xs, rfl, hc, hn, hR, hok, hS, hb1⟩
  have hn0 : n = 0 := Nat.le_zero.1 hn
  have hl8 := scanR_len hS
  rw [List.length_map] at hl8
  have hx0 : xs.length = 0 := by omega
  rw [hx0, hn0] at *
  clear hR hok hS hc hn hl8
  go_wp2_with fail
  refine (base_any _).mono ?_; rintro _ w4 ⟨rfl, hb4⟩
  have HR0 := Lib.hid (encode_any baseR none 0 0 none 0 0 w4 (rcat_base _) keys_base)
  rw [chk_base, hE0] at HR0
  clear hE0
  go_wp2_with fail
  refine HR0.out.mono ?_; rintro _ w5 ⟨rfl, hb5⟩
  go_wp2
  go_ret
  exact ⟨rfl, bt (bt hb1 hb4) hb5⟩

end Go.Proofs.Ytgacjpkgpegcdaa
