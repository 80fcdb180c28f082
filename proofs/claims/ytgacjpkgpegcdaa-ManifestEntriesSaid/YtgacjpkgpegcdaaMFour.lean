/-
  Numbers in four bytes: put, get, Four, Word.
-/
import Derived.Test.YtgacjpkgpegcdaaMCrc
import Derived.BigQuiet
namespace Go.Proofs.Ytgacjpkgpegcdaa
open Go.RowKit

theorem Try.infoU8b : (Try.prog.info? 5).map (fun i => (i.zero, i.size, i.bytes)) = some (some (.int .u8 0), 1, 1) := by kernel_rfl
theorem bytes8 : SlTy Try.prog 43 5 (.int .u8 0) 1 1 := ⟨Try.underlying43, info_parts Try.infoU8b⟩
theorem four_str (v : Nat) (hv : v < 4294967296) (w : World) :
    (convert 43 9 (.slice (some ⟨w.heap.size, 0, none⟩) 4 4)).run Try.prog (w.alloc (.cells #[.int .u8 ((v : Int) % 256), .int .u8 ((v : Int) / 256 % 256), .int .u8 ((v : Int) / 65536 % 256), .int .u8 ((v : Int) / 16777216)] 5)) =
      .ok (Sv (fourL v)) (w.alloc (.cells #[.int .u8 ((v : Int) % 256), .int .u8 ((v : Int) / 256 % 256), .int .u8 ((v : Int) / 65536 % 256), .int .u8 ((v : Int) / 16777216)] 5)) := by
  refine run_convert_bytes_back _ 43 9 5 ⟨w.heap.size, 0, none⟩ 4 (fourL v) Try.underlying43 Try.underlying5 Try.underlying9 (fun j hj => ?_)
  have hj4 : j < 4 := hj
  have e0 : (⟨w.heap.size, 0, none⟩ : Addr).add j = ⟨w.heap.size, j, none⟩ := by unfold Addr.add; split <;> simp_all
  rw [e0, World.cell?_alloc_mark]
  rcases (show j = 0 ∨ j = 1 ∨ j = 2 ∨ j = 3 by omega) with rfl | rfl | rfl | rfl <;> simp [fourL] <;> omega
set_option maxRecDepth 100000 in
set_option maxHeartbeats 400000 in
theorem put4_any (v : Nat) (w : World) (hv : v < 4294967296) : Calls Try.prog 39 #[.int .u32 (v : Int)] w fun e w' => e = .returned (Sv (fourL v)) ∧ Below w.heap.size w w' := by
  have hcv := four_str v hv w
  have hbel : Below w.heap.size w (w.alloc (.cells #[.int .u8 ((v : Int) % 256), .int .u8 ((v : Int) / 256 % 256), .int .u8 ((v : Int) / 65536 % 256), .int .u8 ((v : Int) / 16777216)] 5)) := (Below.refl _ _).alloc (Nat.le_refl _) _
  go_enter Try.func39, Try.ntmps39
  go_wp2
  go_ret
  exact ⟨rfl, hbel⟩
set_option maxRecDepth 100000 in
set_option maxHeartbeats 400000 in
theorem four_any (v : Nat) (w : World) (hv : v < 4294967296) : Calls Try.prog 52 #[.int .u32 (v : Int)] w fun e w' => e = .returned (Sv (fourL v)) ∧ Below w.heap.size w w' := by
  have hcv := four_str v hv w
  have hbel : Below w.heap.size w (w.alloc (.cells #[.int .u8 ((v : Int) % 256), .int .u8 ((v : Int) / 256 % 256), .int .u8 ((v : Int) / 65536 % 256), .int .u8 ((v : Int) / 16777216)] 5)) := (Below.refl _ _).alloc (Nat.le_refl _) _
  go_enter Try.func52, Try.ntmps52
  go_wp2
  go_ret
  exact ⟨rfl, hbel⟩
theorem or4_nat {a b c d : Nat} (ha : a < 256) (hb : b < 256) (hc : c < 256) (_hd : d < 256) : ((a ||| b * 256) ||| c * 65536) ||| d * 16777216 = a + b * 256 + c * 65536 + d * 16777216 := by
  have e1 : a ||| b * 256 = a + b * 256 := by rw [Nat.or_comm, nat_join 8 (b * 256) a (by omega) (by omega), Nat.add_comm]
  rw [e1]
  have e2 : (a + b * 256) ||| c * 65536 = a + b * 256 + c * 65536 := by rw [Nat.or_comm, nat_join 16 (c * 65536) (a + b * 256) (by omega) (by omega), Nat.add_comm]
  rw [e2, Nat.or_comm, nat_join 24 (d * 16777216) (a + b * 256 + c * 65536) (by omega) (by omega), Nat.add_comm]
theorem or4_u32 {a b c d : Nat} (ha : a < 256) (hb : b < 256) (hc : c < 256) (hd : d < 256) :
    bits .or .u32 (bits .or .u32 (bits .or .u32 (a : Int) ((b : Int) * 256)) ((c : Int) * 65536)) ((d : Int) * 16777216) = ((a + b * 256 + c * 65536 + d * 16777216 : Nat) : Int) := by
  have e1 : (b : Int) * 256 = ((b * 256 : Nat) : Int) := by simp
  have e2 : (c : Int) * 65536 = ((c * 65536 : Nat) : Int) := by simp
  have e3 : (d : Int) * 16777216 = ((d * 16777216 : Nat) : Int) := by simp
  rw [e1, e2, e3, u32_or_nat a (b * 256) (by omega) (by omega)]
  have l1 : a ||| b * 256 < 4294967296 := Nat.or_lt_two_pow (n := 32) (by omega) (by omega)
  rw [u32_or_nat _ (c * 65536) l1 (by omega)]
  have l2 : (a ||| b * 256) ||| c * 65536 < 4294967296 := Nat.or_lt_two_pow (n := 32) l1 (by omega)
  rw [u32_or_nat _ (d * 16777216) l2 (by omega), or4_nat ha hb hc hd]
theorem i64_or_nat (a b : Nat) (ha : a < 9223372036854775808) (hb : b < 9223372036854775808) : bits .or .i64 (a : Int) (b : Int) = ((a ||| b : Nat) : Int) := by
  have e1 : (BitVec.ofInt 64 (a : Int)).toNat = a := ofInt_u64 a (by omega)
  have e2 : (BitVec.ofInt 64 (b : Int)).toNat = b := ofInt_u64 b (by omega)
  have e3 : a ||| b < 9223372036854775808 := Nat.or_lt_two_pow (n := 63) ha hb
  show IntKind.i64.wrap ((BitVec.ofInt 64 (a : Int) ||| BitVec.ofInt 64 (b : Int)).toNat : Int) = _
  rw [BitVec.toNat_or, e1, e2, IntKind.wrap_i64]; omega
theorem or4_i64 {a b c d : Nat} (ha : a < 256) (hb : b < 256) (hc : c < 256) (hd : d < 256) :
    bits .or .i64 (bits .or .i64 (bits .or .i64 (a : Int) ((b : Int) * 256)) ((c : Int) * 65536)) ((d : Int) * 16777216) = ((a + b * 256 + c * 65536 + d * 16777216 : Nat) : Int) := by
  have e1 : (b : Int) * 256 = ((b * 256 : Nat) : Int) := by simp
  have e2 : (c : Int) * 65536 = ((c * 65536 : Nat) : Int) := by simp
  have e3 : (d : Int) * 16777216 = ((d * 16777216 : Nat) : Int) := by simp
  rw [e1, e2, e3, i64_or_nat a (b * 256) (by omega) (by omega)]
  have l1 : a ||| b * 256 < 4294967296 := Nat.or_lt_two_pow (n := 32) (by omega) (by omega)
  rw [i64_or_nat _ (c * 65536) (by omega) (by omega)]
  have l2 : (a ||| b * 256) ||| c * 65536 < 4294967296 := Nat.or_lt_two_pow (n := 32) l1 (by omega)
  rw [i64_or_nat _ (d * 16777216) (by omega) (by omega), or4_nat ha hb hc hd]
/-- The number in four bytes from an index on. -/
def wordL (s : List UInt8) (i : Nat) : Nat := (s.getD i 0).toNat + (s.getD (i + 1) 0).toNat * 256 + (s.getD (i + 2) 0).toNat * 65536 + (s.getD (i + 3) 0).toNat * 16777216
theorem getD_at {s : ByteArray} {i : Nat} (h : i < s.size) : s.data.toList.getD i 0 = s[i] := by rw [List.getD, byte_at h]; rfl
set_option maxRecDepth 100000 in
set_option maxHeartbeats 400000 in
theorem word_any (s : ByteArray) (i : Nat) (w : World) (hi : i + 4 ≤ s.size) (hs : s.size ≤ 1000000000000000) :
    Calls Try.prog 54 #[.string s, .int .i64 (i : Int)] w fun e w' => e = .returned (.int .u32 (wordL s.data.toList i)) ∧ ∃ q, w.drewN q = w' := by
  have h0 := UInt8.toNat_lt s[i]
  have h1 := UInt8.toNat_lt s[i + 1]
  have h2 := UInt8.toNat_lt s[i + 2]
  have h3 := UInt8.toNat_lt s[i + 3]
  have HW : Hid (wordL s.data.toList i = s[i].toNat + s[i + 1].toNat * 256 + s[i + 2].toNat * 65536 + s[i + 3].toNat * 16777216) := by
    show _ = _
    unfold wordL
    rw [getD_at (by omega), getD_at (by omega), getD_at (by omega), getD_at (by omega)]
  have q0 : i < s.size := by omega
  have q1 : i + 1 < s.size := by omega
  have q2 : i + 2 < s.size := by omega
  have q3 : i + 3 < s.size := by omega
  have a1 : IntKind.i64.wrap ((i : Int) + 1) = (i : Int) + 1 := IntWalk.i64_in _ (by omega)
  have b1 : 0 ≤ (i : Int) + 1 := by omega
  have c1 : ((i : Int) + 1).toNat = i + 1 := by omega
  have d1 : (i : Int) + 1 < (s.size : Int) := by omega
  have a2 : IntKind.i64.wrap ((i : Int) + 2) = (i : Int) + 2 := IntWalk.i64_in _ (by omega)
  have b2 : 0 ≤ (i : Int) + 2 := by omega
  have c2 : ((i : Int) + 2).toNat = i + 2 := by omega
  have d2 : (i : Int) + 2 < (s.size : Int) := by omega
  have a3 : IntKind.i64.wrap ((i : Int) + 3) = (i : Int) + 3 := IntWalk.i64_in _ (by omega)
  have b3 : 0 ≤ (i : Int) + 3 := by omega
  have c3 : ((i : Int) + 3).toNat = i + 3 := by omega
  have d3 : (i : Int) + 3 < (s.size : Int) := by omega
  have e0 : IntKind.u32.wrap (s[i].toNat : Int) = (s[i].toNat : Int) := by rw [w32]; omega
  have e1 : IntKind.u32.wrap (s[i + 1].toNat : Int) = (s[i + 1].toNat : Int) := by rw [w32]; omega
  have e2 : IntKind.u32.wrap (s[i + 2].toNat : Int) = (s[i + 2].toNat : Int) := by rw [w32]; omega
  have e3 : IntKind.u32.wrap (s[i + 3].toNat : Int) = (s[i + 3].toNat : Int) := by rw [w32]; omega
  go_enter Try.func54, Try.ntmps54
  go_wp2
  go_quiet (fail)
  go_wp2
  go_ret
  exact ⟨by rw [HW.out]; exact ret_intk (or4_u32 h0 h1 h2 h3), _, rfl⟩
set_option maxRecDepth 100000 in
set_option maxHeartbeats 400000 in
theorem get4_any (s : ByteArray) (w : World) (hi : 4 ≤ s.size) (hs : s.size ≤ 1000000000000000) :
    Calls Try.prog 30 #[.string s] w fun e w' => e = .returned (.int .i64 (wordL s.data.toList 0)) ∧ ∃ q, w.drewN q = w' := by
  have h0 := UInt8.toNat_lt s[0]
  have h1 := UInt8.toNat_lt s[1]
  have h2 := UInt8.toNat_lt s[2]
  have h3 := UInt8.toNat_lt s[3]
  have HW : Hid (wordL s.data.toList 0 = s[0].toNat + s[1].toNat * 256 + s[2].toNat * 65536 + s[3].toNat * 16777216) := by
    show _ = _
    unfold wordL
    rw [getD_at (by omega), getD_at (by omega), getD_at (by omega), getD_at (by omega)]
  have d1 : (1 : Int) < (s.size : Int) := by omega
  have d2 : (2 : Int) < (s.size : Int) := by omega
  have d3 : (3 : Int) < (s.size : Int) := by omega
  have f1 : IntKind.i64.wrap ((s[1].toNat : Int) * 256) = (s[1].toNat : Int) * 256 := IntWalk.i64_in _ (by omega)
  have f2 : IntKind.i64.wrap ((s[2].toNat : Int) * 65536) = (s[2].toNat : Int) * 65536 := IntWalk.i64_in _ (by omega)
  have f3 : IntKind.i64.wrap ((s[3].toNat : Int) * 16777216) = (s[3].toNat : Int) * 16777216 := IntWalk.i64_in _ (by omega)
  have q0 : 0 < s.size := by omega
  have q1 : 1 < s.size := by omega
  have q2 : 2 < s.size := by omega
  have q3 : 3 < s.size := by omega
  have e0 : IntKind.i64.wrap (s[0].toNat : Int) = (s[0].toNat : Int) := IntWalk.i64_in _ (by omega)
  have e1 : IntKind.i64.wrap (s[1].toNat : Int) = (s[1].toNat : Int) := IntWalk.i64_in _ (by omega)
  have e2 : IntKind.i64.wrap (s[2].toNat : Int) = (s[2].toNat : Int) := IntWalk.i64_in _ (by omega)
  have e3 : IntKind.i64.wrap (s[3].toNat : Int) = (s[3].toNat : Int) := IntWalk.i64_in _ (by omega)
  go_enter Try.func30, Try.ntmps30
  go_wp2
  go_quiet (fail)
  go_wp2
  go_ret
  exact ⟨by rw [HW.out]; exact ret_intk (or4_i64 h0 h1 h2 h3), _, rfl⟩

end Go.Proofs.Ytgacjpkgpegcdaa
