/-
  Plain law of layer 2: numbers packed into bits, without any program.
-/
import Derived.Test.YtodegmphcjgipaaGreatDoorBase
namespace Go.Proofs.YtodegmphcjgipaaGreatDoor

/-- The number of binary digits. -/
def widthN (v : Nat) : Nat := if v = 0 then 0 else widthN (v / 2) + 1
termination_by v
decreasing_by omega
theorem widthN_zero : widthN 0 = 0 := by rw [widthN, if_pos rfl]
theorem widthN_pos {v : Nat} (h : v ≠ 0) : widthN v = widthN (v / 2) + 1 := by rw [widthN, if_neg h]
theorem width_le : ∀ (w v : Nat), widthN v ≤ w ↔ v < 2 ^ w
  | 0, v => by
    by_cases h : v = 0
    · subst h; rw [widthN_zero]; simp
    · rw [widthN_pos h]; simp; omega
  | w + 1, v => by
    by_cases h : v = 0
    · subst h; rw [widthN_zero]; simp; exact Nat.two_pow_pos _
    · rw [widthN_pos h, Nat.add_le_add_iff_right, width_le w, Nat.pow_succ]; omega
theorem width_u64 {v : Nat} (h : U64 v) : widthN v ≤ 64 := (width_le 64 v).2 (by unfold U64 at h; omega)
theorem width_shift : ∀ (k v : Nat), 2 ^ k ≤ v → widthN v = widthN (v / 2 ^ k) + k
  | 0, v, _ => by simp
  | k + 1, v, h => by
    have hp := Nat.two_pow_pos k
    rw [Nat.pow_succ] at h
    rw [widthN_pos (by omega), width_shift k (v / 2) (by omega), Nat.div_div_eq_div_mul, Nat.pow_succ, Nat.mul_comm 2]; omega

/-- The bits of a list, one number after another. -/
def bitOf (l : List Nat) (w j : Nat) : Nat := l.getD (j / w) 0 / 2 ^ (j % w) % 2
theorem bitOf_le (l : List Nat) (w j : Nat) : bitOf l w j < 2 := Nat.mod_lt _ (by omega)

/-- The first t bits of byte b, those below m alone. -/
def bsum (f : Nat → Nat) (m b : Nat) : Nat → Nat
  | 0 => 0
  | t + 1 => bsum f m b t + (if 8 * b + t < m then f (8 * b + t) * 2 ^ t else 0)
def byteOf (f : Nat → Nat) (m b : Nat) : Nat := bsum f m b 8
theorem bsum_lt {f : Nat → Nat} (hf : ∀ j, f j < 2) (m b : Nat) : ∀ t, bsum f m b t < 2 ^ t
  | 0 => by simp [bsum]
  | t + 1 => by
    have h := bsum_lt hf m b t
    have h2 := hf (8 * b + t)
    rw [bsum, Nat.pow_succ]
    split
    · have : f (8 * b + t) * 2 ^ t ≤ 1 * 2 ^ t := Nat.mul_le_mul_right _ (by omega)
      omega
    · omega
theorem byteOf_lt {f : Nat → Nat} (hf : ∀ j, f j < 2) (m b : Nat) : byteOf f m b < 256 := bsum_lt hf m b 8
/-- One bit more: another byte is as it was. -/
theorem bsum_other (f : Nat → Nat) (m b : Nat) (hb : b ≠ m / 8) : ∀ t, t ≤ 8 → bsum f (m + 1) b t = bsum f m b t
  | 0, _ => rfl
  | t + 1, ht => by
    rw [bsum, bsum, bsum_other f m b hb t (by omega)]
    congr 1
    by_cases h : 8 * b + t < m
    · rw [if_pos h, if_pos (by omega)]
    · rw [if_neg h, if_neg (by omega)]
theorem bsum_this (f : Nat → Nat) (m : Nat) : ∀ t, t ≤ 8 → bsum f (m + 1) (m / 8) t = bsum f m (m / 8) t + (if m % 8 < t then f m * 2 ^ (m % 8) else 0)
  | 0, _ => by simp [bsum]
  | t + 1, ht => by
    rw [bsum, bsum, bsum_this f m t (by omega)]
    by_cases h : m % 8 = t
    · have e : 8 * (m / 8) + t = m := by omega
      rw [e, if_neg (show ¬ m % 8 < t by omega), if_pos (show m < m + 1 by omega), if_neg (show ¬ m < m by omega), if_pos (show m % 8 < t + 1 by omega), h]
    · by_cases h2 : 8 * (m / 8) + t < m
      · rw [if_pos (show 8 * (m / 8) + t < m + 1 by omega), if_pos h2, if_neg (by omega), if_neg (by omega)]; omega
      · rw [if_neg (show ¬ 8 * (m / 8) + t < m + 1 by omega), if_neg h2]
        by_cases h3 : m % 8 < t
        · rw [if_pos h3, if_pos (by omega)]; omega
        · rw [if_neg h3, if_neg (by omega)]
theorem byteOf_other {f : Nat → Nat} {m b : Nat} (hb : b ≠ m / 8) : byteOf f (m + 1) b = byteOf f m b := bsum_other f m b hb 8 (by omega)
theorem byteOf_this (f : Nat → Nat) (m : Nat) : byteOf f (m + 1) (m / 8) = byteOf f m (m / 8) + f m * 2 ^ (m % 8) := by
  unfold byteOf; rw [bsum_this f m 8 (by omega), if_pos (Nat.mod_lt _ (by omega))]
/-- Above the last bit there is nothing. -/
theorem bsum_cut {f : Nat → Nat} (hf : ∀ j, f j < 2) (m : Nat) : ∀ t, m % 8 ≤ t → t ≤ 8 → bsum f m (m / 8) t < 2 ^ (m % 8)
  | 0, h, _ => by simp [bsum]; exact Nat.two_pow_pos _
  | t + 1, h, ht => by
    by_cases h2 : m % 8 ≤ t
    · rw [bsum, if_neg (by omega)]; exact bsum_cut hf m t h2 (by omega)
    · have e : m % 8 = t + 1 := by omega
      rw [e]; exact bsum_lt hf m (m / 8) (t + 1)
theorem byteOf_cut {f : Nat → Nat} (hf : ∀ j, f j < 2) (m : Nat) : byteOf f m (m / 8) < 2 ^ (m % 8) := bsum_cut hf m 8 (by omega) (by omega)
theorem byteOf_zero (f : Nat → Nat) (b : Nat) : byteOf f 0 b = 0 := by
  have : ∀ t, bsum f 0 b t = 0 := fun t => by
    induction t with
    | zero => rfl
    | succ t ih => rw [bsum, ih, if_neg (by omega)]
  exact this 8
theorem bsum_congr {f g : Nat → Nat} {m m' b b' : Nat} (h : ∀ t, t < 8 → ((8 * b + t < m ↔ 8 * b' + t < m') ∧ (8 * b + t < m → f (8 * b + t) = g (8 * b' + t)))) : ∀ t, t ≤ 8 → bsum f m b t = bsum g m' b' t
  | 0, _ => rfl
  | t + 1, ht => by
    obtain ⟨h1, h2⟩ := h t (by omega)
    rw [bsum, bsum, bsum_congr h t (by omega)]
    by_cases hc : 8 * b + t < m
    · rw [if_pos hc, if_pos (h1.1 hc), h2 hc]
    · rw [if_neg hc, if_neg (fun h => hc (h1.2 h))]
theorem byteOf_congr {f g : Nat → Nat} {m m' b b' : Nat} (h : ∀ t, t < 8 → ((8 * b + t < m ↔ 8 * b' + t < m') ∧ (8 * b + t < m → f (8 * b + t) = g (8 * b' + t)))) : byteOf f m b = byteOf g m' b' := bsum_congr h 8 (by omega)

/-- The bytes with the bits below m set. -/
def packB (f : Nat → Nat) (m need : Nat) : List Nat := (List.range need).map (byteOf f m)
theorem packB_len (f : Nat → Nat) (m need : Nat) : (packB f m need).length = need := by simp [packB]
theorem packB_zero (f : Nat → Nat) (need : Nat) : packB f 0 need = List.replicate need 0 := by
  apply List.ext_getElem
  · simp [packB]
  · intro i h1 h2; simp [packB, byteOf_zero]
theorem packB_get {f : Nat → Nat} {m need i : Nat} (h : i < need) : (packB f m need)[i]? = some (byteOf f m i) := by simp [packB, h]
/-- One bit more: one byte is stored. -/
theorem packB_set (f : Nat → Nat) (m need : Nat) : (packB f m need).set (m / 8) (byteOf f m (m / 8) + f m * 2 ^ (m % 8)) = packB f (m + 1) need := by
  apply List.ext_getElem
  · simp [packB]
  · intro i h1 h2
    rw [List.getElem_set]
    by_cases h : m / 8 = i
    · subst h; rw [if_pos rfl]; simp [packB, byteOf_this]
    · rw [if_neg h]; simp [packB, byteOf_other (fun e => h e.symm)]

/-- The packed form, and what Pack returns. -/
def packL (l : List Nat) (w : Nat) : List UInt8 := (packB (bitOf l w) (l.length * w) ((l.length * w + 7) / 8)).map UInt8.ofNat
def packR (l : List Nat) (w : Int) : List UInt8 × Int :=
  if w < 0 ∨ 64 < w then ([], 4) else if 4096 < l.length then ([], 7) else if ∀ v ∈ l, widthN v ≤ w.toNat then (packL l w.toNat, 0) else ([], 8)
theorem packL_len (l : List Nat) (w : Nat) : (packL l w).length = (l.length * w + 7) / 8 := by simp [packL, packB_len]

/-- What Need returns. -/
def needN (n w : Int) : Int := if 0 ≤ n ∧ n ≤ 4096 ∧ 0 ≤ w ∧ w ≤ 64 then (n * w + 7) / 8 else 0

/-! ### Unpacking -/
def sbit (s : List UInt8) (j : Nat) : Nat := (s.getD (j / 8) 0).toNat / 2 ^ (j % 8) % 2
theorem sbit_le (s : List UInt8) (j : Nat) : sbit s j < 2 := Nat.mod_lt _ (by omega)
def vsum (f : Nat → Nat) (base : Nat) : Nat → Nat
  | 0 => 0
  | k + 1 => vsum f base k + f (base + k) * 2 ^ k
theorem vsum_lt {f : Nat → Nat} (hf : ∀ j, f j < 2) (base : Nat) : ∀ k, vsum f base k < 2 ^ k
  | 0 => by simp [vsum]
  | k + 1 => by
    have h := vsum_lt hf base k
    have h2 := hf (base + k)
    have : f (base + k) * 2 ^ k ≤ 1 * 2 ^ k := Nat.mul_le_mul_right _ (by omega)
    rw [vsum, Nat.pow_succ]; omega
theorem vsum_congr {f g : Nat → Nat} {a b : Nat} : ∀ k, (∀ t, t < k → f (a + t) = g (b + t)) → vsum f a k = vsum g b k
  | 0, _ => rfl
  | k + 1, h => by rw [vsum, vsum, vsum_congr k (fun t ht => h t (by omega)), h k (by omega)]
theorem vsum_bits (v : Nat) : ∀ k, vsum (fun t => v / 2 ^ t % 2) 0 k = v % 2 ^ k
  | 0 => by simp [vsum, Nat.mod_one]
  | k + 1 => by
    rw [vsum, vsum_bits v k, Nat.zero_add, Nat.pow_succ, Nat.mod_mul]
    rw [Nat.mul_comm]
/-- The numbers of a string. -/
def unpackV (s : List UInt8) (w n : Nat) : List Nat := (List.range n).map fun i => vsum (sbit s) (i * w) w
def clean (s : List UInt8) (m : Nat) : Prop := ∀ j, m ≤ j → j < 8 * s.length → sbit s j = 0
noncomputable def unpackR (s : List UInt8) (n w : Int) : List Nat × Int :=
  open Classical in
  if ¬ (0 ≤ n ∧ n ≤ 4096 ∧ 0 ≤ w ∧ w ≤ 64) then ([], 4) else if (s.length : Int) < needN n w then ([], 10) else if needN n w < (s.length : Int) then ([], 2)
  else if clean s (n.toNat * w.toNat) then (unpackV s w.toNat n.toNat, 0) else ([], 2)

theorem getD_map {l : List Nat} (i : Nat) (hi : i < l.length) : (l.map UInt8.ofNat).getD i 0 = UInt8.ofNat (l[i]) := by
  simp [List.getD, List.getElem?_eq_getElem hi]
theorem bit_of_bsum {f : Nat → Nat} (hf : ∀ j, f j < 2) (m b : Nat) : ∀ t u, u < t → bsum f m b t / 2 ^ u % 2 = if 8 * b + u < m then f (8 * b + u) else 0
  | 0, u, h => by omega
  | t + 1, u, h => by
    have hl := bsum_lt hf m b t
    have hp := Nat.two_pow_pos u
    rw [bsum]
    by_cases hu : u = t
    · subst hu
      split
      · rw [Nat.add_mul_div_right _ _ hp, Nat.div_eq_of_lt hl, Nat.zero_add, Nat.mod_eq_of_lt (hf _)]
      · rw [Nat.add_zero, Nat.div_eq_of_lt hl]
    · have ih := bit_of_bsum hf m b t u (by omega)
      split
      · have e : f (8 * b + t) * 2 ^ t = f (8 * b + t) * 2 ^ (t - u - 1) * 2 * 2 ^ u := by
          rw [Nat.mul_assoc, Nat.mul_assoc, Nat.mul_comm 2, ← Nat.pow_succ, ← Nat.pow_add]; congr 2; omega
        rw [e, Nat.add_mul_div_right _ _ hp, ← ih]; omega
      · rw [Nat.add_zero]; exact ih
/-- The bits of the packed form. -/
theorem sbit_pack {l : List Nat} {w j : Nat} (hj : j < 8 * ((l.length * w + 7) / 8)) : sbit (packL l w) j = if j < l.length * w then bitOf l w j else 0 := by
  have hb : j / 8 < (packB (bitOf l w) (l.length * w) ((l.length * w + 7) / 8)).length := by rw [packB_len]; omega
  have hlt := byteOf_lt (f := bitOf l w) (bitOf_le l w) (l.length * w) (j / 8)
  unfold sbit packL
  rw [getD_map _ hb]
  have e : (packB (bitOf l w) (l.length * w) ((l.length * w + 7) / 8))[j / 8] = byteOf (bitOf l w) (l.length * w) (j / 8) := by simp [packB]
  rw [e, show (UInt8.ofNat (byteOf (bitOf l w) (l.length * w) (j / 8))).toNat = byteOf (bitOf l w) (l.length * w) (j / 8) by simp; omega]
  unfold byteOf
  rw [bit_of_bsum (bitOf_le l w) _ _ 8 (j % 8) (Nat.mod_lt _ (by omega)), show 8 * (j / 8) + j % 8 = j by omega]
theorem clean_pack (l : List Nat) (w : Nat) : clean (packL l w) (l.length * w) := by
  intro j h1 h2
  rw [packL_len] at h2
  rw [sbit_pack h2, if_neg (by omega)]
theorem unpack_pack {l : List Nat} {w : Nat} (hw : ∀ v ∈ l, widthN v ≤ w) : unpackV (packL l w) w l.length = l := by
  apply List.ext_getElem
  · simp [unpackV]
  · intro i h1 h2
    have hlt : l[i] < 2 ^ w := (width_le w _).1 (hw _ (List.getElem_mem h2))
    simp only [unpackV, List.getElem_map, List.getElem_range]
    have hmul : i * w + w ≤ l.length * w := by rw [← Nat.succ_mul]; exact Nat.mul_le_mul_right _ h2
    rw [vsum_congr (g := fun t => l[i] / 2 ^ t % 2) (b := 0) w (fun t ht => ?_), vsum_bits, Nat.mod_eq_of_lt hlt]
    rw [sbit_pack (by omega), if_pos (by omega), bitOf, Nat.zero_add]
    have e1 : (i * w + t) / w = i := by rw [Nat.mul_comm, Nat.mul_add_div (by omega), Nat.div_eq_of_lt ht, Nat.add_zero]
    have e2 : (i * w + t) % w = t := by rw [Nat.mul_comm, Nat.mul_add_mod, Nat.mod_eq_of_lt ht]
    rw [e1, e2]
    simp [List.getD, List.getElem?_eq_getElem h2]


/-! ### The operations of the program on bits -/
open Go.RowKit in
theorem and1 {v j : Nat} (hv : U64 v) : bits .and .u64 ((v : Int) / 2 ^ j) 1 = ((v / 2 ^ j % 2 : Nat) : Int) := by
  have e : (v : Int) / 2 ^ j = ((v / 2 ^ j : Nat) : Int) := by simp
  have h := u64_and_nat (v / 2 ^ j) 1 (by unfold U64 at hv; exact Nat.lt_of_le_of_lt (Nat.div_le_self _ _) hv) (by omega)
  rw [nat_mask1] at h
  rw [e]; exact h
theorem pow8 {t : Nat} (h : t < 8) : 1 ≤ 2 ^ t ∧ 2 ^ t ≤ 128 := ⟨Nat.one_le_two_pow, Nat.pow_le_pow_right (by omega) (show t ≤ 7 by omega)⟩
theorem or_bit {x b t : Nat} (hx : x < 2 ^ t) (ht : t < 8) (hb : b < 2) : bits .or .u8 (x : Int) ((b : Int) * 2 ^ t % 256) = ((x + b * 2 ^ t : Nat) : Int) := by
  obtain ⟨p1, p2⟩ := pow8 ht
  have hbt : b * 2 ^ t ≤ 1 * 2 ^ t := Nat.mul_le_mul_right _ (by omega)
  have e : (b : Int) * 2 ^ t % 256 = ((b * 2 ^ t : Nat) : Int) := by
    have : (b : Int) * 2 ^ t = ((b * 2 ^ t : Nat) : Int) := by simp
    rw [this]; omega
  rw [e, u8_or_nat x (b * 2 ^ t) (by omega) (by omega), Nat.or_comm, nat_join t (b * 2 ^ t) x (by simp) hx, Nat.add_comm]
theorem pack_bits {x v j t : Nat} (hx : x < 2 ^ t) (ht : t < 8) (hv : U64 v) : bits .or .u8 (x : Int) (bits .and .u64 ((v : Int) / 2 ^ j) 1 % 256 * 2 ^ t % 256) = ((x + v / 2 ^ j % 2 * 2 ^ t : Nat) : Int) := by
  have h2 : v / 2 ^ j % 2 < 2 := Nat.mod_lt _ (by omega)
  rw [and1 hv, show ((v / 2 ^ j % 2 : Nat) : Int) % 256 = ((v / 2 ^ j % 2 : Nat) : Int) by omega]
  exact or_bit hx ht h2
theorem or_one {x t : Nat} (hx : x < 2 ^ t) (ht : t < 8) : bits .or .u8 (x : Int) (2 ^ t % 256) = ((x + 1 * 2 ^ t : Nat) : Int) := by
  have h := or_bit (b := 1) hx ht (by omega)
  rwa [show ((1 : Nat) : Int) * 2 ^ t = 2 ^ t by omega] at h
theorem bitOf_at {l : List Nat} {w i j v : Nat} (hv : l[i]? = some v) (hj : j < w) : bitOf l w (i * w + j) = v / 2 ^ j % 2 := by
  have e1 : (i * w + j) / w = i := by rw [Nat.mul_comm, Nat.mul_add_div (by omega), Nat.div_eq_of_lt hj, Nat.add_zero]
  have e2 : (i * w + j) % w = j := by rw [Nat.mul_comm, Nat.mul_add_mod, Nat.mod_eq_of_lt hj]
  rw [bitOf, e1, e2, List.getD, hv]; rfl


/-- The numbers with the bits below m alone. -/
def pv (f : Nat → Nat) (w n m : Nat) : List Nat := (List.range n).map fun t => vsum f (t * w) (min w (m - t * w))
theorem pv_len (f : Nat → Nat) (w n m : Nat) : (pv f w n m).length = n := by simp [pv]
theorem pv_zero (f : Nat → Nat) (w n : Nat) : pv f w n 0 = List.replicate n 0 := by
  apply List.ext_getElem
  · simp [pv]
  · intro i h1 h2; simp [pv, vsum]
theorem pv_get {f : Nat → Nat} {w n i k : Nat} (hi : i < n) (hk : k ≤ w) : (pv f w n (i * w + k))[i]? = some (vsum f (i * w) k) := by
  simp only [pv, List.getElem?_map, List.getElem?_range hi, Option.map_some]
  rw [Nat.add_sub_cancel_left, Nat.min_eq_right hk]
theorem pv_set {f : Nat → Nat} {w n i k : Nat} (hk : k < w) : (pv f w n (i * w + k)).set i (vsum f (i * w) k + f (i * w + k) * 2 ^ k) = pv f w n (i * w + k + 1) := by
  apply List.ext_getElem
  · simp [pv]
  · intro t h1 h2
    rw [List.getElem_set]
    by_cases h : i = t
    · subst h
      rw [if_pos rfl]
      simp only [pv, List.getElem_map, List.getElem_range]
      rw [Nat.add_assoc, Nat.add_sub_cancel_left, Nat.min_eq_right (by omega), vsum]
    · rw [if_neg h]
      simp only [pv, List.getElem_map, List.getElem_range]
      congr 1
      rcases Nat.lt_or_gt_of_ne h with hlt | hgt
      · have hm : i * w + w ≤ t * w := by rw [← Nat.succ_mul]; exact Nat.mul_le_mul_right _ hlt
        rw [Nat.sub_eq_zero_of_le (by omega), Nat.sub_eq_zero_of_le (by omega)]
      · have hm : t * w + w ≤ i * w := by rw [← Nat.succ_mul]; exact Nat.mul_le_mul_right _ hgt
        rw [Nat.min_eq_left (by omega), Nat.min_eq_left (by omega)]
theorem pv_full (s : List UInt8) (w n : Nat) {m : Nat} (h : n * w ≤ m) : pv (sbit s) w n m = unpackV s w n := by
  unfold pv unpackV
  apply List.map_congr_left
  intro t ht
  rw [List.mem_range] at ht
  have hm : t * w + w ≤ n * w := by rw [← Nat.succ_mul]; exact Nat.mul_le_mul_right _ ht
  rw [Nat.min_eq_left (by omega)]
theorem sbit_at {s : ByteArray} {m : Nat} (h : m / 8 < s.size) : sbit s.data.toList m = s[m / 8].toNat / 2 ^ (m % 8) % 2 := by
  have h' : m / 8 < s.data.size := h
  unfold sbit
  rw [List.getD, Array.getElem?_toList, Array.getElem?_eq_getElem h']
  rfl
/-- The bits behind the numbers are 0 exactly if the rest of the last byte is. -/
theorem clean_iff {s : List UInt8} {m : Nat} (hs : s.length = (m + 7) / 8) : clean s m ↔ (m % 8 = 0 ∨ (s.getD (m / 8) 0).toNat / 2 ^ (m % 8) = 0) := by
  constructor
  · intro hc
    by_cases h8 : m % 8 = 0
    · exact .inl h8
    · refine .inr ?_
      have hlt : m / 8 < s.length := by omega
      have hb := UInt8.toNat_lt (s.getD (m / 8) 0)
      apply Nat.eq_of_testBit_eq
      intro u
      rw [Nat.zero_testBit, Nat.testBit_div_two_pow]
      by_cases hu : m % 8 + u < 8
      · have h1 := hc (m / 8 * 8 + (m % 8 + u)) (by omega) (by omega)
        unfold sbit at h1
        rw [show (m / 8 * 8 + (m % 8 + u)) / 8 = m / 8 by omega, show (m / 8 * 8 + (m % 8 + u)) % 8 = m % 8 + u by omega] at h1
        rw [Nat.testBit_eq_decide_div_mod_eq, Nat.add_comm u, h1]; simp
      · rw [Nat.testBit_lt_two_pow]
        have : (2 : Nat) ^ 8 ≤ 2 ^ (u + m % 8) := Nat.pow_le_pow_right (by omega) (by omega)
        omega
  · intro h j h1 h2
    rcases h with h8 | h0
    · omega
    · have hj : j / 8 = m / 8 := by omega
      unfold sbit
      rw [hj]
      have e : j % 8 = m % 8 + (j % 8 - m % 8) := by omega
      rw [e, Nat.pow_add, ← Nat.div_div_eq_div_mul, h0]; simp
theorem and1u8 {b t : Nat} (hb : b < 256) : bits .and .u8 ((b : Int) / 2 ^ t) 1 = ((b / 2 ^ t % 2 : Nat) : Int) := by
  have e : (b : Int) / 2 ^ t = ((b / 2 ^ t : Nat) : Int) := by simp
  have h := u8_and_nat (b / 2 ^ t) 1 (Nat.lt_of_le_of_lt (Nat.div_le_self _ _) hb) (by omega)
  rw [nat_mask1] at h
  rw [e]; exact h
theorem or_u64 {x b k : Nat} (hx : x < 2 ^ k) (hk : k < 64) (hb : b < 2) : bits .or .u64 (x : Int) (IntKind.u64.wrap ((b : Int) * 2 ^ k)) = ((x + b * 2 ^ k : Nat) : Int) := by
  have p2 : (2 : Nat) ^ k ≤ 2 ^ 63 := Nat.pow_le_pow_right (by omega) (by omega)
  have hbt : b * 2 ^ k ≤ 1 * 2 ^ k := Nat.mul_le_mul_right _ (by omega)
  have e : IntKind.u64.wrap ((b : Int) * 2 ^ k) = ((b * 2 ^ k : Nat) : Int) := by
    have e1 : (b : Int) * 2 ^ k = ((b * 2 ^ k : Nat) : Int) := by simp
    have w1 : ∀ m : Int, IntKind.u64.wrap m = m % 18446744073709551616 := fun m => by simp [IntKind.wrap, IntKind.bits, IntKind.signed]
    rw [e1, w1]; omega
  rw [e, u64_or_nat x (b * 2 ^ k) (by omega) (by omega), Nat.or_comm, nat_join k (b * 2 ^ k) x (by simp) hx, Nat.add_comm]

end Go.Proofs.YtodegmphcjgipaaGreatDoor
