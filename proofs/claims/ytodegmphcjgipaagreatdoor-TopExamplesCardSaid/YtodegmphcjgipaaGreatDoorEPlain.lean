/-
  Plain law of layer 11: lists by the differences of neighbours, without any program.
-/
import Derived.Test.YtodegmphcjgipaaGreatDoorEBlock
namespace Go.Proofs.YtodegmphcjgipaaGreatDoor
open Go.RowKit

/-- Difference number i. -/
def diffA (l : List Int) (i : Nat) : Int := wrap64 (l.getD (i + 1) 0 - l.getD i 0)
def diffs (l : List Int) : List Int := (List.range (l.length - 1)).map (diffA l)
/-- Block number k of the differences. -/
def part (d : List Int) (k : Nat) : List Int := (d.drop (32 * k)).take 32
def encB (d : List Int) (m : Nat) : List UInt8 := (List.range m).flatMap (fun k => blockL (part d k))
def encD (l : List Int) : List UInt8 := if l = [] ∨ 4096 < l.length then [] else putL (zigN (l.getD 0 0)) ++ encB (diffs l) (((diffs l).length + 31) / 32)

theorem I64_wrap (x : Int) : I64 (wrap64 x) := by unfold I64 wrap64; omega
theorem diffs_len (l : List Int) : (diffs l).length = l.length - 1 := by simp [diffs]
theorem diffs_I64 (l : List Int) : ∀ z ∈ diffs l, I64 z := by
  intro z hz
  simp only [diffs, List.mem_map] at hz
  obtain ⟨i, _, rfl⟩ := hz
  exact I64_wrap _
theorem part_len (d : List Int) (k : Nat) : (part d k).length = min 32 (d.length - 32 * k) := by simp [part]
theorem part_I64 {d : List Int} (h : ∀ z ∈ d, I64 z) (k : Nat) : ∀ z ∈ part d k, I64 z := fun z hz => h z (List.mem_of_mem_drop (List.mem_of_mem_take hz))
theorem encB_succ (d : List Int) (m : Nat) : encB d (m + 1) = encB d m ++ blockL (part d m) := by simp [encB, List.range_succ]
theorem blockL_len {d : List Int} (hz : ∀ z ∈ d, I64 z) (h0 : d ≠ []) : (blockL d).length ≤ 11 + (d.length * 64 + 7) / 8 := by
  have h1 := putL_len (zigN_U64 (hz _ (minI_mem h0)))
  have h2 := maxW_le (off_U64 hz)
  have h3 : (offs d).length = d.length := by simp [offs]
  have h4 : d.length * maxW (offs d) ≤ d.length * 64 := Nat.mul_le_mul_left _ h2
  unfold blockL
  rw [List.length_append, List.length_append, packL_len, h3]
  simp
  omega
theorem encB_len {d : List Int} (hz : ∀ z ∈ d, I64 z) : ∀ m, 32 * m ≤ d.length + 31 → (encB d m).length ≤ 300 * m
  | 0, _ => by simp [encB]
  | m + 1, h => by
    rw [encB_succ, List.length_append]
    have h1 := encB_len hz m (by omega)
    have hp := part_len d m
    have h2 := blockL_len (part_I64 hz m) (by intro e; rw [e] at hp; simp at hp; omega)
    omega

end Go.Proofs.YtodegmphcjgipaaGreatDoor
