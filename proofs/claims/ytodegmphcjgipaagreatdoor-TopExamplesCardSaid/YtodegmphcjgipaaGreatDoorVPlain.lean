/-
  Plain law of layer 1: the bytes of a number of variable length, without any program.
-/
import Derived.Test.YtodegmphcjgipaaGreatDoorBase
namespace Go.Proofs.YtodegmphcjgipaaGreatDoor
open Go.RowKit

/-- The encoding of a number. -/
def putL (v : Nat) : List UInt8 := if v < 128 then [UInt8.ofNat v] else UInt8.ofNat (v % 128 + 128) :: putL (v / 128)
termination_by v
decreasing_by omega

theorem putL_lt {v : Nat} (h : v < 128) : putL v = [UInt8.ofNat v] := by rw [putL, if_pos h]
theorem putL_ge {v : Nat} (h : ¬ v < 128) : putL v = UInt8.ofNat (v % 128 + 128) :: putL (v / 128) := by rw [putL, if_neg h]

theorem putL_pos (v : Nat) : 1 ≤ (putL v).length := by
  rw [putL]; split <;> simp
theorem putL_len_of : ∀ (k v : Nat), v < 128 ^ (k + 1) → (putL v).length ≤ k + 1
  | 0, v, h => by rw [putL_lt (by simpa using h)]; simp
  | k + 1, v, h => by
    by_cases hv : v < 128
    · rw [putL_lt hv]; simp
    · rw [putL_ge hv]
      have := putL_len_of k (v / 128) (by rw [Nat.div_lt_iff_lt_mul (by omega)]; rw [Nat.pow_succ] at h; exact h)
      simp; omega
theorem putL_len {v : Nat} (h : U64 v) : (putL v).length ≤ 10 := putL_len_of 9 v (by unfold U64 at h; omega)
theorem U64.le {a b : Nat} (h : U64 b) (hl : a ≤ b) : U64 a := by unfold U64 at *; omega

theorem or128_nat : ∀ c : Fin 256, c.val ||| 128 = c.val % 128 + 128 := by decide +kernel
theorem or128 (x : Nat) : bits .or .u8 ((x : Int) % 256) 128 = ((x % 128 + 128 : Nat) : Int) := by
  have h := u8_or_nat (x % 256) 128 (by omega) (by omega)
  have h2 := or128_nat ⟨x % 256, by omega⟩
  simp only at h2
  rw [h2] at h
  have e : ((x % 256 : Nat) : Int) = (x : Int) % 256 := by omega
  rw [e] at h
  have e3 : x % 256 % 128 = x % 128 := by omega
  rw [e3] at h
  exact h

theorem snoc_byte (l : List UInt8) (n : Nat) (hn : n < 256) : l.map Bv ++ [.int .u8 (n : Int)] = (l ++ [UInt8.ofNat n]).map Bv := by
  simp [Bv]; omega

/-- What Get finds: number, index behind it, error. 'base': where the encoding begins; 'f': rounds left; 'k': bytes read; 'v': what they gave. -/
def getGo (s : List UInt8) (base : Nat) : Nat → Nat → Nat → Nat × Int × Int
  | 0, _, _ => (0, 0, 8)
  | f + 1, k, v =>
    match s[base + k]? with
    | none => (0, 0, 10)
    | some b => if k = 9 ∧ 1 < b.toNat then (0, 0, 8) else if b.toNat < 128 then (if b.toNat = 0 ∧ 0 < k then (0, 0, 2) else (v + b.toNat % 128 * 128 ^ k, base + k + 1, 0)) else getGo s base f (k + 1) (v + b.toNat % 128 * 128 ^ k)
/-- The result of Get. -/
def getL (s : List UInt8) (at_ : Int) : Nat × Int × Int := if at_ < 0 ∨ (s.length : Int) < at_ then (0, 0, 4) else getGo s at_.toNat 10 0 0
/-- The three results as a value. -/
abbrev getV (r : Nat × Int × Int) : Value := .tuple #[.int .u64 (r.1 : Int), .int .i64 r.2.1, .int .i64 r.2.2]

theorem getL_out {s : List UInt8} {at_ : Int} (h : at_ < 0 ∨ (s.length : Int) < at_) : getL s at_ = (0, 0, 4) := if_pos h
theorem getL_in {s : List UInt8} {at_ : Nat} (h : at_ ≤ s.length) : getL s at_ = getGo s at_ 10 0 0 := by
  rw [getL, if_neg (by omega)]; simp

section
variable {s : List UInt8} {base k v : Nat} {b : UInt8}
theorem getGo_none (hk : k < 10) (hb : s[base + k]? = none) : getGo s base (10 - k) k v = (0, 0, 10) := by
  rw [show 10 - k = (9 - k) + 1 from by omega, getGo, hb]
theorem getGo_over (hb : s[base + k]? = some b) (h9 : k = 9) (h1 : 1 < b.toNat) : getGo s base (10 - k) k v = (0, 0, 8) := by
  rw [show 10 - k = (9 - k) + 1 from by omega, getGo, hb]; simp only []; rw [if_pos ⟨h9, h1⟩]
theorem getGo_form (hk : k < 10) (hb : s[base + k]? = some b) (h0 : b.toNat = 0) (hp : 0 < k) : getGo s base (10 - k) k v = (0, 0, 2) := by
  rw [show 10 - k = (9 - k) + 1 from by omega, getGo, hb]; simp only []; rw [if_neg (by omega), if_pos (by omega), if_pos ⟨h0, hp⟩]
theorem getGo_ok (hk : k < 10) (hb : s[base + k]? = some b) (h9 : ¬ (k = 9 ∧ 1 < b.toNat)) (h1 : b.toNat < 128) (h2 : ¬ (b.toNat = 0 ∧ 0 < k)) :
    getGo s base (10 - k) k v = (v + b.toNat % 128 * 128 ^ k, (base : Int) + k + 1, 0) := by
  rw [show 10 - k = (9 - k) + 1 from by omega, getGo, hb]; simp only []; rw [if_neg h9, if_pos h1, if_neg h2]
theorem getGo_more (hk : k < 10) (hb : s[base + k]? = some b) (h9 : ¬ (k = 9 ∧ 1 < b.toNat)) (h1 : ¬ b.toNat < 128) :
    getGo s base (10 - k) k v = getGo s base (10 - (k + 1)) (k + 1) (v + b.toNat % 128 * 128 ^ k) := by
  rw [show 10 - k = (9 - k) + 1 from by omega, getGo, hb]; simp only []; rw [if_neg h9, if_neg h1, show 9 - k = 10 - (k + 1) from by omega]
theorem getGo_end (hk : ¬ k < 10) : getGo s base (10 - k) k v = (0, 0, 8) := by
  rw [show 10 - k = 0 from by omega, getGo]
end

theorem pow128 (k : Nat) : (128 : Nat) ^ k = 2 ^ (7 * k) := by rw [Nat.pow_mul]
theorem acc_lt {v k c : Nat} (hv : v < 128 ^ k) : v + c % 128 * 128 ^ k < 128 ^ (k + 1) := by
  have h1 : c % 128 * 128 ^ k ≤ 127 * 128 ^ k := Nat.mul_le_mul_right _ (by omega)
  rw [Nat.pow_succ]; omega
theorem acc_fits {k c : Nat} (hc : c < 256) (hk : k ≤ 9) (h9 : k = 9 → c ≤ 1) : c % 128 * 128 ^ k ≤ 9223372036854775808 := by
  rcases Nat.lt_or_ge k 9 with h | h
  · have h1 : (128 : Nat) ^ k ≤ 128 ^ 8 := Nat.pow_le_pow_right (by omega) (by omega)
    have h2 : c % 128 * 128 ^ k ≤ 127 * 128 ^ 8 := Nat.mul_le_mul (by omega) h1
    omega
  · have e : k = 9 := by omega
    have h9' := h9 e
    subst e
    have h2 : c % 128 * 128 ^ 9 ≤ 1 * 128 ^ 9 := Nat.mul_le_mul_right _ (by omega)
    omega
theorem acc_nat {v k c : Nat} (hc : c < 256) (hk : k ≤ 9) (h9 : k = 9 → c ≤ 1) (hv : v < 128 ^ k) (M : Nat) (hM : M = c % 128) :
    bits .or .u64 (v : Int) (IntKind.u64.wrap (IntKind.u64.wrap (M : Int) * 2 ^ (7 * k))) = ((v + c % 128 * 128 ^ k : Nat) : Int) := by
  have hf := acc_fits hc hk h9
  have hp : ((2 : Int) ^ (7 * k)) = ((128 ^ k : Nat) : Int) := by rw [pow128]; simp
  have hv' : v < 18446744073709551616 := by
    have : (128 : Nat) ^ k ≤ 128 ^ 9 := Nat.pow_le_pow_right (by omega) hk
    omega
  have e1 : IntKind.u64.wrap (M : Int) = ((c % 128 : Nat) : Int) := by rw [IntKind.wrap_u64, hM]; omega
  have e2 : ((c % 128 : Nat) : Int) * ((128 ^ k : Nat) : Int) = ((c % 128 * 128 ^ k : Nat) : Int) := by rw [Int.natCast_mul]
  have e3 : IntKind.u64.wrap ((c % 128 * 128 ^ k : Nat) : Int) = ((c % 128 * 128 ^ k : Nat) : Int) := by rw [IntKind.wrap_u64]; omega
  rw [e1, hp, e2, e3, u64_or_nat v _ hv' (by omega), Nat.or_comm, nat_join (7 * k) (c % 128 * 128 ^ k) v (by rw [pow128]; simp) (by rw [← pow128]; exact hv), Nat.add_comm]
theorem not128 (c : Nat) (hc : c < 256) : bits .andNot .u8 (c : Int) 128 = ((c % 128 : Nat) : Int) := by
  have h := u8_andNot_nat c 128 hc (by omega)
  rw [show 255 - 128 = 127 from rfl, nat_mask7] at h
  exact h
theorem and127 (c : Nat) (hc : c < 256) : bits .and .u8 (c : Int) 127 = ((c % 128 : Nat) : Int) := by
  have h := u8_and_nat c 127 hc (by omega)
  rw [nat_mask7] at h
  exact h
theorem acc_get {v k : Nat} {b : UInt8} (hk : k ≤ 9) (h9 : k = 9 → b.toNat ≤ 1) (hv : v < 128 ^ k) :
    bits .or .u64 (v : Int) (IntKind.u64.wrap (IntKind.u64.wrap (bits .andNot .u8 (b.toNat : Int) 128) * 2 ^ (7 * k))) = ((v + b.toNat % 128 * 128 ^ k : Nat) : Int) := by
  rw [not128 _ (UInt8.toNat_lt b)]
  exact acc_nat (UInt8.toNat_lt b) hk h9 hv _ rfl
theorem acc_ref {v k : Nat} {b : UInt8} (hk : k ≤ 9) (h9 : k = 9 → b.toNat ≤ 1) (hv : v < 128 ^ k) :
    bits .or .u64 (v : Int) (IntKind.u64.wrap (IntKind.u64.wrap (bits .and .u8 (b.toNat : Int) 127) * 2 ^ (7 * k))) = ((v + b.toNat % 128 * 128 ^ k : Nat) : Int) := by
  rw [and127 _ (UInt8.toNat_lt b)]
  exact acc_nat (UInt8.toNat_lt b) hk h9 hv _ rfl

theorem ret_get {a b c a' b' c' : Int} (h1 : a = a') (h2 : b = b') (h3 : c = c') :
    Ending.returned (.tuple #[.int .u64 a, .int .i64 b, .int .i64 c]) = .returned (.tuple #[.int .u64 a', .int .i64 b', .int .i64 c']) := by rw [h1, h2, h3]
theorem int_eq {k : IntKind} {a b : Int} (h : a = b) : Value.int k a = Value.int k b := by rw [h]

/-- Zig and Zag. -/
def zigN (n : Int) : Nat := if n < 0 then (-(n + 1)).toNat * 2 + 1 else n.toNat * 2
def zagI (v : Nat) : Int := if v % 2 = 1 then -((v / 2 : Nat) : Int) - 1 else ((v / 2 : Nat) : Int)

theorem zigN_U64 {n : Int} (h : I64 n) : U64 (zigN n) := by
  unfold I64 at h; unfold U64 zigN; split <;> omega
theorem zagI_I64 {v : Nat} (h : U64 v) : I64 (zagI v) := by
  unfold U64 at h; unfold I64 zagI; split <;> omega
theorem zag_zig (n : Int) : zagI (zigN n) = n := by
  unfold zigN zagI
  by_cases h : n < 0
  · rw [if_pos h, if_pos (by omega)]; omega
  · rw [if_neg h, if_neg (by omega)]; omega
theorem zig_zag (v : Nat) : zigN (zagI v) = v := by
  unfold zigN zagI
  by_cases h : v % 2 = 1
  · rw [if_pos h, if_pos (by omega)]; omega
  · rw [if_neg h, if_neg (by omega)]; omega
theorem zig_odd (n : Int) : (zigN n % 2 = 1) ↔ n < 0 := by
  unfold zigN; split <;> omega
theorem zagI_inj {a b : Nat} (h : zagI a = zagI b) : a = b := by rw [← zig_zag a, ← zig_zag b, h]

theorem xor_ones (a : Nat) (ha : a < 18446744073709551616) : a ^^^ 18446744073709551615 = 18446744073709551615 - a := by
  have h := congrArg BitVec.toNat (BitVec.xor_allOnes (x := BitVec.ofNat 64 a))
  rw [BitVec.toNat_not, BitVec.toNat_xor, BitVec.toNat_allOnes, BitVec.toNat_ofNat, Nat.mod_eq_of_lt (by omega)] at h
  simpa using h
theorem zig_bits {n : Int} (h : I64 n) :
    bits .xor .u64 (IntKind.u64.wrap (wrap64 (n * 2))) (IntKind.u64.wrap (n / 9223372036854775808)) = (zigN n : Int) := by
  unfold I64 at h
  have w1 : ∀ m : Int, IntKind.u64.wrap m = m % 18446744073709551616 := fun m => by simp [IntKind.wrap, IntKind.bits, IntKind.signed]
  rw [w1, w1]
  by_cases hn : n < 0
  · have e1 : n / 9223372036854775808 % 18446744073709551616 = ((18446744073709551615 : Nat) : Int) := by omega
    have e2 : wrap64 (n * 2) % 18446744073709551616 = ((18446744073709551616 - (-n).toNat * 2 : Nat) : Int) := by unfold wrap64; omega
    rw [e1, e2, u64_xor_nat _ _ (by omega) (by omega), xor_ones _ (by omega)]
    unfold zigN; rw [if_pos hn]; omega
  · have e1 : n / 9223372036854775808 % 18446744073709551616 = ((0 : Nat) : Int) := by omega
    have e2 : wrap64 (n * 2) % 18446744073709551616 = ((n.toNat * 2 : Nat) : Int) := by unfold wrap64; omega
    rw [e1, e2, u64_xor_nat _ _ (by omega) (by omega), Nat.xor_zero]
    unfold zigN; rw [if_neg hn]
theorem zig_ref {n : Int} (h : I64 n) (hn : n < 0) :
    IntKind.u64.wrap (IntKind.u64.wrap (IntKind.u64.wrap (wrap64 (-wrap64 (n + 1))) * 2) + 1) = (zigN n : Int) := by
  unfold I64 at h
  have w1 : ∀ m : Int, IntKind.u64.wrap m = m % 18446744073709551616 := fun m => by simp [IntKind.wrap, IntKind.bits, IntKind.signed]
  rw [w1, w1, w1]; unfold wrap64 zigN; rw [if_pos hn]; omega
theorem zig_ref' {n : Int} (h : I64 n) (hn : ¬ n < 0) : IntKind.u64.wrap (IntKind.u64.wrap n * 2) = (zigN n : Int) := by
  unfold I64 at h
  have w1 : ∀ m : Int, IntKind.u64.wrap m = m % 18446744073709551616 := fun m => by simp [IntKind.wrap, IntKind.bits, IntKind.signed]
  rw [w1, w1]; unfold zigN; rw [if_neg hn]; omega
theorem i64_xor_nonneg (a : Nat) (ha : a < 9223372036854775808) : bits .xor .i64 (a : Int) 0 = a ∧ bits .xor .i64 (a : Int) (-1) = -(a : Int) - 1 := by
  have e1 : (BitVec.ofInt 64 (a : Int)).toNat = a := ofInt_u64 a (by omega)
  constructor
  · show IntKind.i64.wrap ((BitVec.ofInt 64 (a : Int) ^^^ BitVec.ofInt 64 0).toNat : Int) = _
    rw [BitVec.toNat_xor, e1, show (BitVec.ofInt 64 0).toNat = 0 from rfl, Nat.xor_zero, IntKind.wrap_i64]; omega
  · show IntKind.i64.wrap ((BitVec.ofInt 64 (a : Int) ^^^ BitVec.ofInt 64 (-1)).toNat : Int) = _
    rw [BitVec.toNat_xor, e1, show (BitVec.ofInt 64 (-1)).toNat = 18446744073709551615 from rfl, xor_ones a (by omega), IntKind.wrap_i64]; omega
theorem zag_bits {v : Nat} (h : U64 v) :
    bits .xor .i64 (wrap64 ((v : Int) / 2)) (wrap64 (-wrap64 (bits .and .u64 (v : Int) 1))) = zagI v := by
  unfold U64 at h
  have e0 : bits .and .u64 (v : Int) 1 = ((v % 2 : Nat) : Int) := by
    have := u64_and_nat v 1 h (by omega)
    rw [nat_mask1] at this
    exact this
  have e1 : wrap64 ((v : Int) / 2) = ((v / 2 : Nat) : Int) := by unfold wrap64; omega
  obtain ⟨x1, x2⟩ := i64_xor_nonneg (v / 2) (by omega)
  rw [e0, e1]
  by_cases hv : v % 2 = 1
  · rw [show wrap64 (-wrap64 ((v % 2 : Nat) : Int)) = -1 by unfold wrap64; omega, x2]
    unfold zagI; rw [if_pos hv]
  · rw [show wrap64 (-wrap64 ((v % 2 : Nat) : Int)) = 0 by unfold wrap64; omega, x1]
    unfold zagI; rw [if_neg hv]
theorem zag_ref {v : Nat} (h : U64 v) (hv : v % 2 = 1) : wrap64 (wrap64 (-wrap64 (IntKind.u64.wrap ((v : Int) / 2))) - 1) = zagI v := by
  unfold U64 at h
  have w1 : ∀ m : Int, IntKind.u64.wrap m = m % 18446744073709551616 := fun m => by simp [IntKind.wrap, IntKind.bits, IntKind.signed]
  rw [w1]; unfold wrap64 zagI; rw [if_pos hv]; omega
theorem zag_ref' {v : Nat} (h : U64 v) (hv : ¬ v % 2 = 1) : wrap64 (IntKind.u64.wrap ((v : Int) / 2)) = zagI v := by
  unfold U64 at h
  have w1 : ∀ m : Int, IntKind.u64.wrap m = m % 18446744073709551616 := fun m => by simp [IntKind.wrap, IntKind.bits, IntKind.signed]
  rw [w1]; unfold wrap64 zagI; rw [if_neg hv]; omega
theorem ret_intk {k : IntKind} {a b : Int} (h : a = b) : Ending.returned (.int k a) = .returned (.int k b) := by rw [h]

theorem putL_mono : ∀ (a b : Nat), a ≤ b → (putL a).length ≤ (putL b).length := by
  intro a
  induction a using Nat.strongRecOn with
  | ind a ih =>
    intro b h
    by_cases ha : a < 128
    · rw [putL_lt ha]; simpa using putL_pos b
    · rw [putL_ge ha, putL_ge (show ¬ b < 128 by omega)]
      have := ih (a / 128) (by omega) (b / 128) (Nat.div_le_div_right h)
      simp; omega

theorem get_at {s l : List UInt8} {i : Nat} {b : UInt8} (h : s.drop i = b :: l) : s[i]? = some b ∧ s.drop (i + 1) = l := by
  constructor
  · have := congrArg (fun t : List UInt8 => t[0]?) h
    simpa using this
  · rw [← List.drop_drop, h]; rfl
theorem get_end {s : List UInt8} {i : Nat} (h : s.drop i = []) : s[i]? = none := by
  rw [List.getElem?_eq_none_iff]
  exact List.drop_eq_nil_iff.1 h
theorem byte_lo {x : Nat} (h : x < 128) : (UInt8.ofNat x).toNat = x := by simp; omega
theorem byte_hi (x : Nat) : (UInt8.ofNat (x % 128 + 128)).toNat = x % 128 + 128 := by
  have : x % 128 < 128 := Nat.mod_lt _ (by omega)
  rw [UInt8.toNat_ofNat']; omega
theorem room {x k : Nat} (hx : 128 ≤ x) (h : x * 128 ^ k < 18446744073709551616) : k < 9 := by
  rcases Nat.lt_or_ge k 9 with hk | hk
  · exact hk
  · have h1 : (128 : Nat) ^ 9 ≤ 128 ^ k := Nat.pow_le_pow_right (by omega) hk
    have h2 : 128 * 128 ^ 9 ≤ x * 128 ^ k := Nat.mul_le_mul hx h1
    omega
theorem room1 {x k : Nat} (hx : 0 < x) (h : x * 128 ^ k < 18446744073709551616) : k < 10 ∧ (k = 9 → x ≤ 1) := by
  constructor
  · rcases Nat.lt_or_ge k 10 with hk | hk
    · exact hk
    · have h1 : (128 : Nat) ^ 10 ≤ 128 ^ k := Nat.pow_le_pow_right (by omega) hk
      have h2 : 1 * 128 ^ 10 ≤ x * 128 ^ k := Nat.mul_le_mul hx h1
      omega
  · rintro rfl; omega
theorem next_sum (x k acc : Nat) : acc + x % 128 * 128 ^ k + x / 128 * 128 ^ (k + 1) = acc + x * 128 ^ k := by
  rw [Nat.pow_succ, Nat.mul_comm (128 ^ k) 128, ← Nat.mul_assoc, Nat.add_assoc, ← Nat.add_mul]
  congr 2; omega
theorem next_le (x k : Nat) : x / 128 * 128 ^ (k + 1) ≤ x * 128 ^ k := by
  rw [Nat.pow_succ, Nat.mul_comm (128 ^ k) 128, ← Nat.mul_assoc]
  exact Nat.mul_le_mul_right _ (Nat.div_mul_le_self x 128)

/-- Get reads back what was put. -/
theorem getGo_put (s r : List UInt8) (base : Nat) : ∀ (x k acc : Nat), s.drop (base + k) = putL x ++ r → x * 128 ^ k < 18446744073709551616 → (k = 0 ∨ 0 < x) →
    getGo s base (10 - k) k acc = (acc + x * 128 ^ k, ((base + k + (putL x).length : Nat) : Int), 0) := by
  intro x
  induction x using Nat.strongRecOn with
  | ind x ih =>
    intro k acc hs hx hk
    have hk9 : k < 10 ∧ (k = 9 → x ≤ 1) := by
      rcases hk with rfl | h
      · exact ⟨by omega, by omega⟩
      · exact room1 h hx
    by_cases hlt : x < 128
    · rw [putL_lt hlt] at hs
      obtain ⟨hb, _⟩ := get_at hs
      have e := byte_lo hlt
      rw [getGo_ok hk9.1 hb (by rw [e]; omega) (by rw [e]; exact hlt) (by rw [e]; omega), e, putL_lt hlt, Nat.mod_eq_of_lt hlt]
      simp
    · rw [putL_ge hlt] at hs
      obtain ⟨hb, hs'⟩ := get_at hs
      have e := byte_hi x
      have k9 := room (by omega) hx
      rw [getGo_more hk9.1 hb (by omega) (by rw [e]; omega), e,
        ih (x / 128) (by omega) (k + 1) _ (by rw [← Nat.add_assoc]; exact hs') (Nat.lt_of_le_of_lt (next_le x k) hx) (Or.inr (by omega)), putL_ge hlt,
        show (x % 128 + 128) % 128 = x % 128 by omega, next_sum]
      refine Prod.ext rfl (Prod.ext ?_ rfl)
      simp only [List.length_cons]; omega
theorem getL_put {v : Nat} (hv : U64 v) (a r : List UInt8) : getL (a ++ putL v ++ r) a.length = (v, ((a.length + (putL v).length : Nat) : Int), 0) := by
  rw [getL_in (by simp)]
  have h := getGo_put (a ++ putL v ++ r) r a.length v 0 0 (by simp) (by unfold U64 at hv; omega) (Or.inl rfl)
  simpa using h

/-- A proper beginning is too short. -/
theorem getGo_cut (s : List UInt8) (base : Nat) : ∀ (x n k acc : Nat), s.drop (base + k) = (putL x).take n → n < (putL x).length → x * 128 ^ k < 18446744073709551616 → (k = 0 ∨ 0 < x) →
    getGo s base (10 - k) k acc = (0, 0, 10) := by
  intro x
  induction x using Nat.strongRecOn with
  | ind x ih =>
    intro n k acc hs hn hx hk
    have hk9 : k < 10 := by
      rcases hk with rfl | h
      · omega
      · exact (room1 h hx).1
    rcases n with _ | n
    · exact getGo_none hk9 (get_end (by simpa using hs))
    · have hlt : ¬ x < 128 := fun h => by rw [putL_lt h] at hn; simp at hn
      rw [putL_ge hlt] at hs hn
      rw [List.take_succ_cons] at hs
      obtain ⟨hb, hs'⟩ := get_at hs
      have k9 := room (by omega) hx
      rw [getGo_more hk9 hb (by omega) (by rw [byte_hi]; omega)]
      exact ih (x / 128) (by omega) n (k + 1) _ (by rw [← Nat.add_assoc]; exact hs') (by simpa using hn) (Nat.lt_of_le_of_lt (next_le x k) hx) (Or.inr (by omega))
theorem getL_cut {v : Nat} (hv : U64 v) {n : Nat} (hn : n < (putL v).length) : getL ((putL v).take n) 0 = (0, 0, 10) := by
  have e := getL_in (s := (putL v).take n) (at_ := 0) (by omega)
  rw [show ((0 : Nat) : Int) = 0 from rfl] at e
  rw [e]
  exact getGo_cut _ 0 v n 0 0 (by simp) hn (by unfold U64 at hv; omega) (Or.inl rfl)

/-- What Get accepts is the encoding of its number; else the number and the index are 0. -/
theorem getGo_short (s : List UInt8) (base : Nat) : ∀ (f k acc v : Nat) (i e : Int), k + f = 10 → getGo s base f k acc = (v, i, e) →
    (e = 0 ∧ ∃ x n : Nat, v = acc + x * 128 ^ k ∧ i = ((base + k + n : Nat) : Int) ∧ 1 ≤ n ∧ base + k + n ≤ s.length ∧ putL x = (s.drop (base + k)).take n ∧ (k = 0 ∨ 0 < x)) ∨ (e ≠ 0 ∧ v = 0 ∧ i = 0) := by
  intro f
  induction f with
  | zero => intro k acc v i e _ h; rw [getGo] at h; cases h; exact Or.inr ⟨by decide, rfl, rfl⟩
  | succ f ih =>
    intro k acc v i e hkf h
    rw [show f + 1 = 10 - k by omega] at h
    cases hb : s[base + k]? with
    | none => rw [getGo_none (by omega) hb] at h; cases h; exact Or.inr ⟨by decide, rfl, rfl⟩
    | some b =>
      have hlen : base + k < s.length := (List.getElem?_eq_some_iff.1 hb).1
      have hd : s.drop (base + k) = b :: s.drop (base + k + 1) := by
        rw [List.drop_eq_getElem_cons hlen]
        congr 1
        exact (List.getElem?_eq_some_iff.1 hb).2
      have hbl := UInt8.toNat_lt b
      by_cases h9 : k = 9 ∧ 1 < b.toNat
      · rw [getGo_over hb h9.1 h9.2] at h; cases h; exact Or.inr ⟨by decide, rfl, rfl⟩
      · by_cases h1 : b.toNat < 128
        · by_cases h0 : b.toNat = 0 ∧ 0 < k
          · rw [getGo_form (by omega) hb h0.1 h0.2] at h; cases h; exact Or.inr ⟨by decide, rfl, rfl⟩
          · rw [getGo_ok (by omega) hb h9 h1 h0] at h
            cases h
            refine Or.inl ⟨rfl, b.toNat, 1, by rw [Nat.mod_eq_of_lt h1], by omega, by omega, by omega, ?_, by omega⟩
            rw [putL_lt h1, hd]; simp
        · rw [getGo_more (by omega) hb h9 h1, show 10 - (k + 1) = f by omega] at h
          rcases ih (k + 1) _ v i e (by omega) h with ⟨he, x, n, hv, hi, hn, hl, hp, hx⟩ | hr
          · have hx0 : 0 < x := by omega
            refine Or.inl ⟨he, b.toNat % 128 + x * 128, n + 1, ?_, by omega, by omega, by omega, ?_, by omega⟩
            · rw [hv, Nat.pow_succ, Nat.add_mul, Nat.add_assoc, Nat.mul_comm (128 ^ k) 128, Nat.mul_assoc]
            · rw [putL_ge (by omega), hd, List.take_succ_cons, show (b.toNat % 128 + x * 128) / 128 = x by omega, show (b.toNat % 128 + x * 128) % 128 + 128 = b.toNat by omega, hp]
              simp [Nat.add_assoc]
          · exact Or.inr hr

/-- What Get returns is a uint64. -/
theorem getGo_U64 (s : List UInt8) (base : Nat) : ∀ (f k acc : Nat), k + f = 10 → acc < 128 ^ k → U64 (getGo s base f k acc).1 := by
  intro f
  induction f with
  | zero => intro k acc _ _; rw [getGo]; unfold U64; simp
  | succ f ih =>
    intro k acc hkf hacc
    rw [show f + 1 = 10 - k by omega]
    cases hb : s[base + k]? with
    | none => rw [getGo_none (by omega) hb]; unfold U64; simp
    | some b =>
      have hbl := UInt8.toNat_lt b
      by_cases h9 : k = 9 ∧ 1 < b.toNat
      · rw [getGo_over hb h9.1 h9.2]; unfold U64; simp
      · by_cases h1 : b.toNat < 128
        · by_cases h0 : b.toNat = 0 ∧ 0 < k
          · rw [getGo_form (by omega) hb h0.1 h0.2]; unfold U64; simp
          · rw [getGo_ok (by omega) hb h9 h1 h0]
            have hf := acc_fits hbl (show k ≤ 9 by omega) (fun h => by omega)
            have hp : (128 : Nat) ^ k ≤ 128 ^ 9 := Nat.pow_le_pow_right (by omega) (by omega)
            show acc + b.toNat % 128 * 128 ^ k < 18446744073709551616
            omega
        · rw [getGo_more (by omega) hb h9 h1, show 10 - (k + 1) = f by omega]
          exact ih (k + 1) _ (by omega) (acc_lt hacc)
theorem getL_U64 (s : List UInt8) (i : Int) : U64 (getL s i).1 := by
  unfold getL
  split
  · unfold U64; simp
  · exact getGo_U64 s _ 10 0 0 rfl (by simp)
theorem getL_short (s : List UInt8) : ∃ (v : Nat) (i e : Int), getL s 0 = (v, i, e) ∧
    ((e = 0 ∧ ∃ n : Nat, i = (n : Int) ∧ 1 ≤ n ∧ n ≤ s.length ∧ putL v = s.take n) ∨ (e ≠ 0 ∧ v = 0 ∧ i = 0)) := by
  have e0 := getL_in (s := s) (at_ := 0) (by omega)
  rw [show ((0 : Nat) : Int) = 0 from rfl] at e0
  rw [e0]
  obtain ⟨v, i, e, hr⟩ : ∃ v i e, getGo s 0 10 0 0 = (v, i, e) := ⟨_, _, _, rfl⟩
  refine ⟨v, i, e, hr, ?_⟩
  rcases getGo_short s 0 10 0 0 v i e rfl hr with ⟨he, x, n, hv, hi, h1, h2, h3, _⟩ | h
  · refine Or.inl ⟨he, n, by simpa using hi, h1, by simpa using h2, ?_⟩
    rw [hv]; simpa using h3
  · exact Or.inr h

end Go.Proofs.YtodegmphcjgipaaGreatDoor
