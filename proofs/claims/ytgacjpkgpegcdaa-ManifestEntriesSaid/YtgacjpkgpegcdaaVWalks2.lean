/-
  The functions of layer 1 and their references, each by one contract: Zig, Zag, Size, the reference's Put.
-/
import Derived.Test.YtgacjpkgpegcdaaVWalks
namespace Go.Proofs.Ytgacjpkgpegcdaa
open Go.RowKit

set_option maxRecDepth 100000 in
theorem zig_any (n : Int) (w : World) (hn : I64 n) : Calls Try.prog 68 #[.int .i64 n] w fun e w' => e = .returned (.int .u64 (zigN n)) ∧ w = w' := by
  go_enter Try.func68, Try.ntmps68
  go_wp2
  go_ret
  exact ⟨ret_intk (zig_bits hn), rfl⟩
set_option maxRecDepth 100000 in
theorem zag_any (v : Nat) (w : World) (hv : U64 v) : Calls Try.prog 87 #[.int .u64 v] w fun e w' => e = .returned (.int .i64 (zagI v)) ∧ w = w' := by
  go_enter Try.func87, Try.ntmps87
  go_wp2
  go_ret
  exact ⟨ret_intk (zag_bits hv), rfl⟩
set_option maxRecDepth 100000 in
theorem rzig_any (n : Int) (w : World) (hn : I64 n) : Calls Try.prog 86 #[.int .i64 n] w fun e w' => e = .returned (.int .u64 (zigN n)) ∧ w = w' := by
  by_cases h : n < 0
  · go_enter Try.func86, Try.ntmps86
    go_wp2
    go_ret
    exact ⟨ret_intk (zig_ref hn h), rfl⟩
  · go_enter Try.func86, Try.ntmps86
    go_wp2
    go_ret
    exact ⟨ret_intk (zig_ref' hn (by omega)), rfl⟩
set_option maxRecDepth 100000 in
theorem rzag_any (v : Nat) (w : World) (hv : U64 v) : Calls Try.prog 89 #[.int .u64 v] w fun e w' => e = .returned (.int .i64 (zagI v)) ∧ w = w' := by
  by_cases h : v % 2 = 1
  · have H := Lib.hid h
    have hb : ((v : Int) % 2 == 1) = true := by simp; omega
    clear h
    go_enter Try.func89, Try.ntmps89
    go_wp2
    go_ret
    exact ⟨ret_intk (zag_ref hv H.out), rfl⟩
  · have hb : ((v : Int) % 2 == 1) = false := by simp; omega
    go_enter Try.func89, Try.ntmps89
    go_wp2
    go_ret
    exact ⟨ret_intk (zag_ref' hv h), rfl⟩

theorem putL_300 : putL 300 = [172, 2] := by
  rw [putL_ge (by omega), putL_lt (by omega)]; rfl
theorem put_300 (w : World) : Calls Try.prog 36 #[.int .u64 300] w fun e w' => e = .returned (.string ⟨#[172, 2]⟩) ∧ Below w.heap.size w w' := by
  have h := put_any 300 w (by unfold U64; omega)
  rw [putL_300] at h
  exact h



theorem ret_str {x y : ByteArray} (h : x = y) : Ending.returned (.string x) = .returned (.string y) := by rw [h]
theorem sv_eq {a b : List UInt8} (h : a = b) : Value.string ⟨a.toArray⟩ = Sv b := by rw [h]

set_option maxRecDepth 100000 in
set_option maxHeartbeats 400000 in
/-- The reference's Put returns the encoding of its number. -/
theorem rput_any (v : Nat) (w : World) (hv : U64 v) :
    Calls Try.prog 60 #[.int .u64 v] w fun e w' => e = .returned (Sv (putL v)) ∧ Below w.heap.size w w' := by
  have hlen := putL_len hv
  go_enter Try.func60, Try.ntmps60
  go_wp2
  go_loopw [0, 3] (fun a b wr => ∃ x : Nat, ∃ l : List UInt8, a = .int .u64 x ∧ b = Sv l ∧ Below w.heap.size w wr ∧ Hid (l ++ putL x = putL v) ∧ x ≤ v) (fun a b wr => (intOf a).toNat)
  case atStart => exact ⟨v, [], rfl, rfl, Below.refl _ _, rfl, by omega⟩
  case round =>
    obtain ⟨x, l, rfl, rfl, hb, hs, hx⟩ := hrel
    have hl : l.length ≤ 10 := by have := congrArg List.length hs.out; simp at this; omega
    by_cases hlt : x < 128
    · have hcv := byte_str Try.bytes Try.underlying5 Try.underlying9 x (by omega) wr
      go_wp2
      go_ret
      exact ⟨by rw [← hs.out, putL_lt hlt]; exact ret_str (sv_add _ _), hb.alloc hb.size _⟩
    · have hcv := byte_str Try.bytes Try.underlying5 Try.underlying9 (x % 128 + 128) (by omega) wr
      rw [← or128] at hcv
      go_wp2
      go_roundw
      case rel =>
        refine ⟨x / 128, l ++ [UInt8.ofNat (x % 128 + 128)], by simp, ?_, hb.alloc hb.size _, by show _ = _; rw [← hs.out, putL_ge hlt]; simp, by omega⟩
        show _ = Value.string _
        rw [← sv_add]
        simp
      case measure => simp [intOf]; omega


end Go.Proofs.Ytgacjpkgpegcdaa
