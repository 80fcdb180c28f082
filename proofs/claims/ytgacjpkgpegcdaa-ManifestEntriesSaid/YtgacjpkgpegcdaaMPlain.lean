/-
  Plain law of layer 19: entries, records, when they are valid, and their bytes, without any program.
-/
import Derived.Test.YtgacjpkgpegcdaaVVal
namespace Go.Proofs.Ytgacjpkgpegcdaa
open Go.RowKit

structure En where
  id : Int
  rows : Int
  live : Int
  lo : Rk
  hi : Rk
  del : Int
structure Rc where
  kind : Int
  version : Int
  nextSeq : Int
  nextId : Int
  add : List En
  rem : List Int

/-! ### Valid entries and records -/
def objB (n : Int) : Bool := decide (1 ≤ n) && decide (n ≤ 2147483647)
def plainB (v : Vl) : Bool := if v.null then v.n == 0 && decide (v.s.size = 0) else decide (v.s.size ≤ 64)
def rankB (r : Rk) : Bool := plainB r.key && decide (0 ≤ r.seq) && decide (r.seq ≤ 1099511627776)
def entB (e : En) : Bool := objB e.id && decide (1 ≤ e.rows) && decide (e.rows ≤ 1024) && decide (1 ≤ e.live) && decide (e.live ≤ e.rows) && rankB e.lo && rankB e.hi && (e.del == 0 || objB e.del)
/-- Number i of the entries is valid and behind the one ahead of it. -/
def goodE (l : List En) (i : Nat) : Prop := ∃ e, l[i]? = some e ∧ entB e = true ∧ ∀ p, 0 < i → l[i - 1]? = some p → p.id < e.id
def goodN (l : List Int) (i : Nat) : Prop := ∃ n, l[i]? = some n ∧ objB n = true ∧ ∀ p, 0 < i → l[i - 1]? = some p → p < n
def addOk (l : List En) : Prop := ∀ i, i < l.length → goodE l i
def remOk (l : List Int) : Prop := ∀ i, i < l.length → goodN l i
def numsOk (r : Rc) : Prop := 0 ≤ r.version ∧ r.version ≤ 2147483647 ∧ 0 ≤ r.nextSeq ∧ r.nextSeq ≤ 1099511627777 ∧ objB r.nextId = true
instance (r : Rc) : Decidable (numsOk r) := by unfold numsOk; infer_instance
open Classical in
/-- The first error of a record. -/
noncomputable def chkR (r : Rc) : Int :=
  if r.kind ≠ 1 ∧ r.kind ≠ 2 then 1 else
  if ¬ numsOk r then 4 else
  if 256 < r.add.length ∨ 256 < r.rem.length then 7 else
  if ¬ addOk r.add ∨ (r.kind = 1 ∧ r.rem ≠ []) ∨ ¬ remOk r.rem then 1 else 0
section
variable {r : Rc}
theorem chk_kind (h1 : r.kind ≠ 1) (h2 : r.kind ≠ 2) : chkR r = 1 := by rw [chkR, if_pos ⟨h1, h2⟩]
theorem chk_nums (h1 : r.kind = 1 ∨ r.kind = 2) (h : ¬ numsOk r) : chkR r = 4 := by rw [chkR, if_neg (by omega), if_pos h]
theorem chk_full (h1 : r.kind = 1 ∨ r.kind = 2) (h : numsOk r) (h2 : 256 < r.add.length ∨ 256 < r.rem.length) : chkR r = 7 := by rw [chkR, if_neg (by omega), if_neg (by simpa using h), if_pos h2]
theorem chk_bad (h1 : r.kind = 1 ∨ r.kind = 2) (h : numsOk r) (h2 : r.add.length ≤ 256) (h3 : r.rem.length ≤ 256) (h4 : ¬ addOk r.add ∨ (r.kind = 1 ∧ r.rem ≠ []) ∨ ¬ remOk r.rem) : chkR r = 1 := by
  rw [chkR, if_neg (by omega), if_neg (by simpa using h), if_neg (by omega), if_pos h4]
theorem chk_ok (h1 : r.kind = 1 ∨ r.kind = 2) (h : numsOk r) (h2 : r.add.length ≤ 256) (h3 : r.rem.length ≤ 256) (h4 : addOk r.add) (h5 : r.kind = 1 → r.rem = []) (h6 : remOk r.rem) : chkR r = 0 := by
  rw [chkR, if_neg (by omega), if_neg (by simpa using h), if_neg (by omega), if_neg]
  rintro (h | ⟨h, h'⟩ | h)
  · exact h h4
  · exact h' (h5 h)
  · exact h h6
theorem chk_zero (h : chkR r = 0) : (r.kind = 1 ∨ r.kind = 2) ∧ numsOk r ∧ r.add.length ≤ 256 ∧ r.rem.length ≤ 256 ∧ addOk r.add ∧ (r.kind = 1 → r.rem = []) ∧ remOk r.rem := by
  unfold chkR at h
  split at h
  · cases h
  · split at h
    · cases h
    · split at h
      · cases h
      · split at h
        · cases h
        · rename_i h1 h2 h3 h4
          refine ⟨by omega, Classical.not_not.1 h2, by omega, by omega, Classical.byContradiction fun h5 => h4 (.inl h5), fun h5 => Classical.byContradiction fun h6 => h4 (.inr (.inl ⟨h5, h6⟩)), Classical.byContradiction fun h5 => h4 (.inr (.inr h5))⟩
end
theorem obj_iff {n : Int} : objB n = true ↔ 1 ≤ n ∧ n ≤ 2147483647 := by unfold objB; simp
theorem rank_iff {r : Rk} : rankB r = true ↔ plainB r.key = true ∧ 0 ≤ r.seq ∧ r.seq ≤ 1099511627776 := by unfold rankB; simp [and_assoc]
theorem plain_size {v : Vl} (h : plainB v = true) : v.s.size ≤ 64 := by
  unfold plainB at h
  split at h
  · rw [Bool.and_eq_true, decide_eq_true_eq] at h; omega
  · simpa using h
theorem ent_iff {e : En} : entB e = true ↔ (1 ≤ e.id ∧ e.id ≤ 2147483647) ∧ (1 ≤ e.rows ∧ e.rows ≤ 1024) ∧ (1 ≤ e.live ∧ e.live ≤ e.rows) ∧ rankB e.lo = true ∧ rankB e.hi = true ∧ (0 ≤ e.del ∧ e.del ≤ 2147483647) := by
  unfold entB objB
  simp only [Bool.and_eq_true, decide_eq_true_eq, Bool.or_eq_true, beq_iff_eq]
  constructor
  · rintro ⟨⟨⟨⟨⟨⟨⟨h1, h2⟩, h3⟩, h4⟩, h5⟩, h6⟩, h7⟩, h8⟩
    exact ⟨h1, ⟨h2, h3⟩, ⟨h4, h5⟩, h6, h7, by omega⟩
  · rintro ⟨h1, ⟨h2, h3⟩, ⟨h4, h5⟩, h6, h7, h8⟩
    exact ⟨⟨⟨⟨⟨⟨⟨h1, h2⟩, h3⟩, h4⟩, h5⟩, h6⟩, h7⟩, by omega⟩

/-! ### The bytes -/
def fourL (v : Nat) : List UInt8 := [UInt8.ofNat (v % 256), UInt8.ofNat (v / 256 % 256), UInt8.ofNat (v / 65536 % 256), UInt8.ofNat (v / 16777216 % 256)]
def numP (n : Int) : List UInt8 := putL n.toNat
def rankP (r : Rk) : List UInt8 := valP r.key ++ numP r.seq
def entP (e : En) : List UInt8 := numP e.id ++ numP e.rows ++ numP e.live ++ rankP e.lo ++ rankP e.hi ++ numP e.del
def bodyP (r : Rc) : List UInt8 := [UInt8.ofNat r.kind.toNat] ++ numP r.version ++ numP r.nextSeq ++ numP r.nextId ++ putL r.add.length ++ r.add.flatMap entP ++ putL r.rem.length ++ r.rem.flatMap numP
/-- A step of the table's numbers, the table, a step of the sum. -/
def bitC (v : Nat) : Nat := if v % 2 = 1 then v / 2 ^^^ 2197175160 else v / 2
def bitsC : Nat → Nat → Nat | 0, v => v | k + 1, v => bitC (bitsC k v)
def tabC (i : Nat) : Nat := bitsC 8 i
def stepC (v : Nat) (b : UInt8) : Nat := v / 256 ^^^ tabC (v % 256 ^^^ b.toNat)
def crcL (s : List UInt8) : Nat := 4294967295 - s.foldl stepC 4294967295
def sealL (p : List UInt8) : List UInt8 := fourL p.length ++ p
def encR (r : Rc) : List UInt8 := sealL (bodyP r) ++ fourL (crcL (sealL (bodyP r)))
theorem fourL_len (v : Nat) : (fourL v).length = 4 := rfl
theorem numP_len {n : Int} (h : n.toNat < 18446744073709551616) : (numP n).length ≤ 10 := putL_len h

/-! ### Lengths -/
theorem putL_small {k v : Nat} (h : v < 128 ^ (k + 1)) : (putL v).length ≤ k + 1 := putL_len_of k v h
theorem rankP_len {r : Rk} (hn : I64 r.key.n) (h : rankB r = true) : (rankP r).length ≤ 82 := by
  obtain ⟨h1, h2, h3⟩ := rank_iff.1 h
  have h4 := plain_size h1
  have h5 : (valP r.key).length ≤ 76 := by
    cases hv : r.key.null
    · rw [valP_some hv]
      have h6 := putL_len (zigN_U64 hn)
      have h7 := putL_small (k := 0) (v := r.key.s.size) (by omega)
      simp
      omega
    · rw [valP_null hv]; simp
  have h8 := putL_small (k := 5) (v := r.seq.toNat) (by omega)
  unfold rankP numP
  rw [List.length_append]
  omega
def keysI (e : En) : Prop := I64 e.lo.key.n ∧ I64 e.hi.key.n
theorem entP_len {e : En} (hn : keysI e) (h : entB e = true) : (entP e).length ≤ 178 := by
  obtain ⟨h1, h2, h3, h4, h5, h6⟩ := ent_iff.1 h
  have l1 := putL_small (k := 4) (v := e.id.toNat) (by omega)
  have l2 := putL_small (k := 1) (v := e.rows.toNat) (by omega)
  have l3 := putL_small (k := 1) (v := e.live.toNat) (by omega)
  have l4 := rankP_len hn.1 h4
  have l5 := rankP_len hn.2 h5
  have l6 := putL_small (k := 4) (v := e.del.toNat) (by omega)
  unfold entP numP
  simp only [List.length_append]
  omega
theorem flat_le {α : Type} {f : α → List UInt8} {k : Nat} : ∀ {l : List α}, (∀ a ∈ l, (f a).length ≤ k) → (l.flatMap f).length ≤ k * l.length
  | [], _ => by simp
  | a :: l, h => by
    rw [List.flatMap_cons, List.length_append, List.length_cons, Nat.mul_succ]
    have h1 := h a (by simp)
    have h2 := flat_le (l := l) (fun b hb => h b (by simp [hb]))
    omega
theorem addOk_mem {l : List En} (h : addOk l) {e : En} (he : e ∈ l) : entB e = true := by
  obtain ⟨i, hi, rfl⟩ := List.mem_iff_getElem.1 he
  obtain ⟨e', h1, h2, _⟩ := h i hi
  rw [List.getElem?_eq_getElem hi] at h1
  cases h1
  exact h2
theorem remOk_mem {l : List Int} (h : remOk l) {e : Int} (he : e ∈ l) : objB e = true := by
  obtain ⟨i, hi, rfl⟩ := List.mem_iff_getElem.1 he
  obtain ⟨e', h1, h2, _⟩ := h i hi
  rw [List.getElem?_eq_getElem hi] at h1
  cases h1
  exact h2
def keysOk (r : Rc) : Prop := ∀ e ∈ r.add, keysI e
theorem bodyP_len {r : Rc} (hk : keysOk r) (h : chkR r = 0) : (bodyP r).length ≤ 21 + 178 * r.add.length + 5 * r.rem.length := by
  obtain ⟨_, ⟨h1, h2, h3, h4, h5⟩, h6, h7, h8, _, h9⟩ := chk_zero h
  have h5' := obj_iff.1 h5
  have l1 := putL_small (k := 4) (v := r.version.toNat) (by omega)
  have l2 := putL_small (k := 5) (v := r.nextSeq.toNat) (by omega)
  have l3 := putL_small (k := 4) (v := r.nextId.toNat) (by omega)
  have l4 := putL_small (k := 1) (v := r.add.length) (by omega)
  have l5 := putL_small (k := 1) (v := r.rem.length) (by omega)
  have l6 := flat_le (f := entP) (k := 178) (l := r.add) (fun e he => entP_len (hk e he) (addOk_mem h8 he))
  have l7 := flat_le (f := numP) (k := 5) (l := r.rem) (fun e he => by
    have := obj_iff.1 (remOk_mem h9 he)
    exact putL_small (k := 4) (by omega))
  unfold bodyP numP
  unfold numP at l7
  simp only [List.length_append, List.length_cons, List.length_nil]
  omega
theorem encR_len (r : Rc) : (encR r).length = (bodyP r).length + 8 := by
  unfold encR sealL
  simp only [List.length_append, fourL_len]
  omega

end Go.Proofs.Ytgacjpkgpegcdaa
