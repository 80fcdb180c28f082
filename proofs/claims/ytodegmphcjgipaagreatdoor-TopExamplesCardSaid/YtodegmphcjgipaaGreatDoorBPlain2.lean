/-
  Plain law of layer 2: what the laws say of packR and unpackR.
-/
import Derived.Test.YtodegmphcjgipaaGreatDoorBPlain
namespace Go.Proofs.YtodegmphcjgipaaGreatDoor

theorem packR_ok {xs : List Nat} {k : Nat} (hk : k ≤ 64) (hl : xs.length ≤ 4096) (hw : ∀ v ∈ xs, widthN v ≤ k) : packR xs (k : Int) = (packL xs k, 0) := by
  rw [packR, if_neg (by omega), if_neg (by omega), if_pos (by simpa using hw)]; simp
theorem packR_over {xs : List Nat} {k v : Nat} (hk : k ≤ 64) (hl : xs.length ≤ 4096) (hv : v ∈ xs) (hw : k < widthN v) : packR xs (k : Int) = ([], 8) := by
  rw [packR, if_neg (by omega), if_neg (by omega), if_neg (fun h => by have := h v hv; simp at this; omega)]
theorem needN_nat' (n w : Nat) (hn : n ≤ 4096) (hw : w ≤ 64) : needN n w = (((n * w + 7) / 8 : Nat) : Int) := by
  unfold needN; rw [if_pos (by omega)]; simp
theorem unpackR_pack {xs : List Nat} {k : Nat} (hk : k ≤ 64) (hl : xs.length ≤ 4096) (hw : ∀ v ∈ xs, widthN v ≤ k) : unpackR (packL xs k) (xs.length : Int) (k : Int) = (xs, 0) := by
  have hn := needN_nat' xs.length k hl hk
  have hlen : ((packL xs k).length : Int) = needN xs.length k := by rw [hn, packL_len]
  unfold unpackR
  rw [if_neg (by omega), if_neg (by omega), if_neg (by omega), if_pos (by simpa using clean_pack xs k)]
  simp [unpack_pack hw]
theorem unpackR_more {xs : List Nat} {k : Nat} {b : UInt8} (hk : k ≤ 64) (hl : xs.length ≤ 4096) : unpackR (packL xs k ++ [b]) (xs.length : Int) (k : Int) = ([], 2) := by
  have hn := needN_nat' xs.length k hl hk
  have hlen : ((packL xs k ++ [b]).length : Int) = needN xs.length k + 1 := by rw [hn, List.length_append, packL_len]; rfl
  unfold unpackR
  rw [if_neg (by omega), if_neg (by omega), if_pos (by omega)]
theorem unpackR_less {xs : List Nat} {k : Nat} {s : List UInt8} (hk : k ≤ 64) (hl : xs.length ≤ 4096) (hs : s.length < (packL xs k).length) : unpackR s (xs.length : Int) (k : Int) = ([], 10) := by
  have hn := needN_nat' xs.length k hl hk
  rw [packL_len] at hs
  unfold unpackR
  rw [if_neg (by omega), if_pos (by omega)]
theorem unpackR_len (s : List UInt8) (n k : Int) : (unpackR s n k).1.length ≤ 4096 := by
  unfold unpackR
  repeat' split
  all_goals simp [unpackV]
  omega

theorem bitOf_left {x y : List Nat} {w j : Nat} (h : j < x.length * w) : bitOf (x ++ y) w j = bitOf x w j := by
  unfold bitOf
  have hw : 0 < w := by rcases Nat.eq_zero_or_pos w with h0 | h0
                        · subst h0; omega
                        · exact h0
  have : j / w < x.length := (Nat.div_lt_iff_lt_mul hw).2 h
  rw [List.getD, List.getD, List.getElem?_append_left this]
theorem bitOf_right {x y : List Nat} {w j : Nat} (h0 : 0 < w) : bitOf (x ++ y) w (x.length * w + j) = bitOf y w j := by
  unfold bitOf
  have e1 : (x.length * w + j) / w = x.length + j / w := by rw [Nat.mul_comm, Nat.mul_add_div h0]
  have e2 : (x.length * w + j) % w = j % w := by rw [Nat.mul_comm, Nat.mul_add_mod]
  rw [e1, e2, List.getD, List.getD, List.getElem?_append_right (Nat.le_add_right _ _), Nat.add_sub_cancel_left]
theorem packB_append {f g h : Nat → Nat} {a m : Nat} (hl : ∀ j, j < 8 * a → f j = g j) (hr : ∀ j, j < m → f (8 * a + j) = h j) :
    packB f (8 * a + m) (a + (m + 7) / 8) = packB g (8 * a) a ++ packB h m ((m + 7) / 8) := by
  apply List.ext_getElem
  · simp [packB]
  · intro i h1 h2
    rw [packB_len] at h1
    by_cases hi : i < a
    · rw [List.getElem_append_left (by rw [packB_len]; exact hi)]
      simp only [packB, List.getElem_map, List.getElem_range]
      exact byteOf_congr fun t ht => ⟨by omega, fun _ => hl _ (by omega)⟩
    · rw [List.getElem_append_right (by rw [packB_len]; omega)]
      simp only [packB, List.getElem_map, List.getElem_range, List.length_map, List.length_range]
      exact byteOf_congr fun t ht => ⟨by omega, fun hlt => by rw [← hr _ (by omega)]; congr 1; omega⟩
theorem packL_append {x y : List Nat} {w : Nat} (h8 : x.length % 8 = 0) : packL (x ++ y) w = packL x w ++ packL y w := by
  obtain ⟨q, hq⟩ : ∃ q, x.length = 8 * q := ⟨x.length / 8, by omega⟩
  have hx : x.length * w = 8 * (q * w) := by rw [hq, Nat.mul_assoc]
  have hn : (x ++ y).length * w = 8 * (q * w) + y.length * w := by rw [List.length_append, Nat.add_mul, hx]
  have hb := packB_append (f := bitOf (x ++ y) w) (g := bitOf x w) (h := bitOf y w) (a := q * w) (m := y.length * w)
    (fun j hj => bitOf_left (by omega)) (fun j hj => by
      have h0 : 0 < w := by
        rcases Nat.eq_zero_or_pos w with h0 | h0
        · subst h0; simp at hj
        · exact h0
      rw [← hx]; exact bitOf_right h0)
  unfold packL
  rw [hn, hx, show (8 * (q * w) + y.length * w + 7) / 8 = q * w + (y.length * w + 7) / 8 by omega, show (8 * (q * w) + 7) / 8 = q * w by omega, hb, List.map_append]

end Go.Proofs.YtodegmphcjgipaaGreatDoor
