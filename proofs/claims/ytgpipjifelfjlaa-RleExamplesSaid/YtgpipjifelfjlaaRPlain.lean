/-
  Plain law of layer 9: lists by their runs, without any program.
-/
import Derived.Test.YtgpipjifelfjlaaVPlain
namespace Go.Proofs.Ytgpipjifelfjlaa

/-- The length of the first run. -/
def runN : List Int → Nat
  | [] => 1
  | x :: l => 1 + (l.takeWhile (· == x)).length
theorem runN_pos (l : List Int) : 1 ≤ runN l := by cases l <;> simp [runN]
theorem takeWhile_le {p : Int → Bool} : ∀ l : List Int, (l.takeWhile p).length ≤ l.length
  | [] => by simp
  | x :: l => by
    rw [List.takeWhile_cons]; split
    · simpa using takeWhile_le l
    · simp
theorem runN_le (x : Int) (l : List Int) : runN (x :: l) ≤ (x :: l).length := by
  have := takeWhile_le (p := (· == x)) l
  simp [runN]; omega
theorem tw_eq (x : Int) : ∀ (l : List Int) (k : Nat), (∀ j, j < k → l[j]? = some x) → (l[k]? ≠ some x) → (l.takeWhile (· == x)).length = k
  | l, 0, _, h => by
    cases l with
    | nil => rfl
    | cons y l => rw [List.takeWhile_cons, if_neg (by simpa using h)]; rfl
  | l, k + 1, hj, h => by
    cases l with
    | nil => have := hj 0 (by omega); simp at this
    | cons y l =>
      have h0 : y = x := by simpa using hj 0 (by omega)
      rw [List.takeWhile_cons, if_pos (by simpa using h0)]
      have := tw_eq x l k (fun j hjk => by simpa using hj (j + 1) (by omega)) (by simpa using h)
      simp [this]
theorem runN_eq {x : Int} {l : List Int} {k : Nat} (hk : 1 ≤ k) (hj : ∀ j, j < k → (x :: l)[j]? = some x) (h : (x :: l)[k]? ≠ some x) : runN (x :: l) = k := by
  obtain ⟨k, rfl⟩ : ∃ m, k = m + 1 := ⟨k - 1, by omega⟩
  rw [runN, tw_eq x l k (fun j hjk => by simpa using hj (j + 1) (by omega)) (by simpa using h)]; omega
theorem run_same {x : Int} {l : List Int} : ∀ j, j < runN (x :: l) → (x :: l)[j]? = some x := by
  have h : ∀ (l : List Int) j, j < (l.takeWhile (· == x)).length → l[j]? = some x := by
    intro l
    induction l with
    | nil => intro j hj; simp at hj
    | cons y l ih =>
      intro j hj
      rw [List.takeWhile_cons] at hj
      split at hj
      · next hy =>
        cases j with
        | zero => simpa using hy
        | succ j => simpa using ih j (by simpa using hj)
      · simp at hj
  intro j hj
  cases j with
  | zero => simp
  | succ j => simpa using h l j (by simp [runN] at hj; omega)
theorem run_split (x : Int) (l : List Int) : x :: l = List.replicate (runN (x :: l)) x ++ (x :: l).drop (runN (x :: l)) := by
  have h : (x :: l).take (runN (x :: l)) = List.replicate (runN (x :: l)) x := by
    apply List.ext_getElem?
    intro j
    rw [List.getElem?_take, List.getElem?_replicate]
    split
    · next hj => rw [run_same j hj]
    · rfl
  conv => lhs; rw [← List.take_append_drop (runN (x :: l)) (x :: l), h]
theorem run_next (x : Int) (l : List Int) : ((x :: l).drop (runN (x :: l)))[0]? ≠ some x := by
  have h : ∀ l : List Int, (l.drop (l.takeWhile (· == x)).length)[0]? ≠ some x := by
    intro l
    induction l with
    | nil => simp
    | cons y l ih =>
      rw [List.takeWhile_cons]
      split
      · simpa using ih
      · next hy => simpa using hy
  have := h l
  rw [runN, show 1 + (l.takeWhile (· == x)).length = (l.takeWhile (· == x)).length + 1 by omega]
  simpa using this

/-- The encoding of a list. -/
def encR : List Int → List UInt8
  | [] => []
  | x :: l => putL (runN (x :: l)) ++ putL (zigN x) ++ encR ((x :: l).drop (runN (x :: l)))
termination_by l => l.length
decreasing_by have := runN_pos (x :: l); simp only [List.length_drop, List.length_cons]; omega
theorem encR_cons (x : Int) (l : List Int) : encR (x :: l) = putL (runN (x :: l)) ++ putL (zigN x) ++ encR ((x :: l).drop (runN (x :: l))) := by rw [encR]
theorem encR_nil : encR [] = [] := by rw [encR]

theorem putL_le : ∀ v : Nat, 1 ≤ v → (putL v).length ≤ v := by
  intro v
  induction v using Nat.strongRecOn with
  | ind v ih =>
    intro h
    by_cases hv : v < 128
    · rw [putL_lt hv]; simpa using h
    · rw [putL_ge hv]
      have := ih (v / 128) (by omega) (by omega)
      simp; omega
theorem encR_len : ∀ (n : Nat) (l : List Int), l.length ≤ n → (∀ z ∈ l, I64 z) → (encR l).length ≤ 11 * l.length := by
  intro n
  induction n with
  | zero => intro l hl _; have : l = [] := List.eq_nil_of_length_eq_zero (by omega); subst this; rw [encR_nil]; simp
  | succ n ih =>
    intro l hl hz
    cases l with
    | nil => rw [encR_nil]; simp
    | cons x l =>
      have hp := runN_pos (x :: l)
      have hle := runN_le x l
      have h1 := putL_le _ hp
      have h2 := putL_len (zigN_U64 (hz x (by simp)))
      have h3 := ih ((x :: l).drop (runN (x :: l))) (by simp only [List.length_drop] at *; omega) (fun z h => hz z (List.mem_of_mem_drop h))
      rw [encR_cons]
      simp only [List.length_append, List.length_drop] at *
      omega

/-- The number of runs; 'p': what stands ahead. -/
def chgP : Option Int → List Int → Nat
  | _, [] => 0
  | p, y :: l => (if p = some y then 0 else 1) + chgP (some y) l
theorem chgP_le : ∀ (p : Option Int) (l : List Int), chgP p l ≤ l.length
  | _, [] => by simp [chgP]
  | p, y :: l => by have := chgP_le (some y) l; simp only [chgP, List.length_cons]; split <;> omega
theorem chgP_run (x : Int) : ∀ l : List Int, chgP (some x) l = chgP none (l.drop (l.takeWhile (· == x)).length)
  | [] => by simp [chgP]
  | y :: l => by
    by_cases h : y = x
    · subst h
      rw [List.takeWhile_cons, if_pos (by simp)]
      simp only [chgP, List.length_cons, List.drop_succ_cons, if_true]
      rw [chgP_run y l]; omega
    · rw [List.takeWhile_cons, if_neg (by simpa using h)]
      simp only [chgP, List.length_nil, List.drop_zero]
      rw [if_neg (by simpa using fun e => h e.symm), if_neg (by simp)]
theorem chgP_cons (x : Int) (l : List Int) : chgP none (x :: l) = 1 + chgP none ((x :: l).drop (runN (x :: l))) := by
  rw [chgP, if_neg (by simp), chgP_run, runN, show 1 + (l.takeWhile (· == x)).length = (l.takeWhile (· == x)).length + 1 by omega]; simp

/-- The size of an encoding, by the number of runs. -/
theorem encR_size : ∀ (n : Nat) (l : List Int), l.length ≤ n → l.length < 16384 → (∀ z ∈ l, I64 z) → 2 * chgP none l ≤ (encR l).length ∧ (encR l).length ≤ 12 * chgP none l := by
  intro n
  induction n with
  | zero => intro l hl _ _; have : l = [] := List.eq_nil_of_length_eq_zero (by omega); subst this; rw [encR_nil]; simp [chgP]
  | succ n ih =>
    intro l hl hm hz
    cases l with
    | nil => rw [encR_nil]; simp [chgP]
    | cons x l =>
      have hp := runN_pos (x :: l)
      have hle := runN_le x l
      have h0 := putL_pos (runN (x :: l))
      have h0' := putL_pos (zigN x)
      have h1 : (putL (runN (x :: l))).length ≤ 2 := putL_len_of 1 _ (by simp at *; omega)
      have h2 := putL_len (zigN_U64 (hz x (by simp)))
      have h3 := ih ((x :: l).drop (runN (x :: l))) (by simp only [List.length_drop] at *; omega) (by simp only [List.length_drop] at *; omega) (fun z h => hz z (List.mem_of_mem_drop h))
      rw [encR_cons, chgP_cons]
      simp only [List.length_append] at *
      omega


/-! ### Decoding -/
theorem getL_drop {s r : List UInt8} {v i : Nat} (hv : U64 v) (h : s.drop i = putL v ++ r) : getL s i = (v, ((i + (putL v).length : Nat) : Int), 0) := by
  have hi : i ≤ s.length := by
    rcases Nat.lt_or_ge s.length i with h1 | h1
    · have := putL_pos v
      rw [List.drop_eq_nil_of_le (by omega)] at h
      have := congrArg List.length h
      simp at this; omega
    · exact h1
  rw [getL_in hi]
  have := getGo_put s r i v 0 0 (by simpa using h) (by unfold U64 at hv; omega) (Or.inl rfl)
  simpa using this
/-- What was read at an index. -/
theorem getL_read {s : List UInt8} {i v : Nat} {j : Int} (h : getL s i = (v, j, 0)) : ∃ m : Nat, j = ((i + m : Nat) : Int) ∧ 1 ≤ m ∧ i + m ≤ s.length ∧ s.drop i = putL v ++ s.drop (i + m) := by
  have hi : i ≤ s.length := by
    rcases Nat.lt_or_ge s.length i with h1 | h1
    · rw [getL_out (Or.inr (by omega))] at h; cases h
    · exact h1
  rw [getL_in hi] at h
  rcases getGo_short s i 10 0 0 v j 0 rfl h with ⟨_, x, n, hv, hj, h1, h2, h3, _⟩ | ⟨h0, _⟩
  · refine ⟨n, by simpa using hj, h1, by simpa using h2, ?_⟩
    have e : v = x := by simpa using hv
    subst e
    rw [h3, Nat.add_zero, ← List.drop_drop, List.take_append_drop]
  · exact absurd rfl h0
theorem getL_err {s : List UInt8} {i : Int} : (getL s i).2.2 = 0 ∨ (getL s i).2.2 = 2 ∨ (getL s i).2.2 = 4 ∨ (getL s i).2.2 = 8 ∨ (getL s i).2.2 = 10 := by
  have h : ∀ (f k v b : Nat), (getGo s b f k v).2.2 = 0 ∨ (getGo s b f k v).2.2 = 2 ∨ (getGo s b f k v).2.2 = 4 ∨ (getGo s b f k v).2.2 = 8 ∨ (getGo s b f k v).2.2 = 10 := by
    intro f
    induction f with
    | zero => intro k v b; simp [getGo]
    | succ f ih =>
      intro k v b
      rw [getGo]
      split
      · simp
      · split
        · simp
        · split
          · split <;> simp
          · exact ih _ _ _
  unfold getL
  split
  · simp
  · exact h _ _ _ _

/-- One pass of Decode after another: 'f' passes at most, from index 'at_' on, behind 'acc'. -/
def decR (s : List UInt8) (n : Nat) : Nat → Int → List Int → List Int × Int
  | 0, _, _ => ([], 2)
  | f + 1, at_, acc =>
    if acc.length < n then
      if (getL s at_).2.2 = 0 then
        if (getL s at_).1 = 0 ∨ n - acc.length < (getL s at_).1 then ([], 2)
        else if (getL s (getL s at_).2.1).2.2 = 0 then
          if acc.getLast? = some (zagI (getL s (getL s at_).2.1).1) then ([], 2)
          else decR s n f (getL s (getL s at_).2.1).2.1 (acc ++ List.replicate (getL s at_).1 (zagI (getL s (getL s at_).2.1).1))
        else ([], (getL s (getL s at_).2.1).2.2)
      else ([], (getL s at_).2.2)
    else if at_ < s.length then ([], 2) else (acc, 0)
/-- What Decode returns. -/
def decodeR (s : List UInt8) (n : Int) : List Int × Int := if n < 0 ∨ 4096 < n then ([], 4) else decR s n.toNat (n.toNat + 1) 0 []

theorem decR_enc (s : List UInt8) (n : Nat) : ∀ (f : Nat) (l acc : List Int) (i : Nat), l.length < f → acc.length + l.length = n → s.drop i = encR l → (∀ z ∈ l, I64 z) → n ≤ 4096 → (l = [] ∨ l.head? ≠ acc.getLast?) →
    decR s n f i acc = (acc ++ l, 0) := by
  intro f
  induction f with
  | zero => intro l _ _ h; omega
  | succ f ih =>
    intro l acc i hf hn hs hz hm hh
    cases l with
    | nil =>
      rw [encR_nil] at hs
      have := List.drop_eq_nil_iff.1 hs
      rw [decR, if_neg (by simp at hn; omega), if_neg (by omega)]; simp
    | cons x l =>
      have hp := runN_pos (x :: l)
      have hle := runN_le x l
      have hr := run_split x l
      have hnx := run_next x l
      rw [encR_cons, List.append_assoc] at hs
      generalize hR : runN (x :: l) = k at *
      generalize hL : (x :: l).drop k = l' at *
      have hk : k + l'.length = (x :: l).length := by rw [← hL]; simp only [List.length_drop]; omega
      have hxz := hz x (by simp)
      have g1 := getL_drop (by unfold U64; omega) hs
      have hs2 : s.drop (i + (putL k).length) = putL (zigN x) ++ encR l' := by rw [← List.drop_drop, hs]; simp
      have g2 := getL_drop (zigN_U64 hxz) hs2
      rw [decR, if_pos (by simp at hn; omega), g1]
      simp only []
      rw [if_pos trivial, if_neg (by omega), g2]
      simp only []
      rw [if_pos trivial, zag_zig, if_neg (by rcases hh with h | h
                                              · cases h
                                              · simpa using fun e => h e.symm), ih l' (acc ++ List.replicate k x) _ (by omega) (by simp; omega) (by rw [← List.drop_drop, hs2]; simp) (fun z h => hz z (by rw [hr]; simp [h])) hm ?_]
      · rw [List.append_assoc, ← hr]
      · cases l' with
        | nil => exact .inl rfl
        | cons y l' =>
          refine .inr ?_
          have hne : (acc ++ List.replicate k x).getLast? = some x := by
            rw [List.getLast?_append, List.getLast?_replicate, if_neg (by omega)]; rfl
          rw [hne]
          simpa using hnx
theorem decodeR_enc {l : List Int} (hz : ∀ z ∈ l, I64 z) (hl : l.length ≤ 4096) : decodeR (encR l) l.length = (l, 0) := by
  rw [decodeR, if_neg (by omega)]
  have := decR_enc (encR l) l.length (l.length + 1) l [] 0 (by omega) (by simp) (by simp) hz hl (by cases l <;> simp)
  simpa using this

theorem runN_rep {x : Int} {k : Nat} {l : List Int} (hk : 1 ≤ k) (h : l = [] ∨ l.head? ≠ some x) : runN (List.replicate k x ++ l) = k := by
  obtain ⟨k, rfl⟩ : ∃ m, k = m + 1 := ⟨k - 1, by omega⟩
  rw [List.replicate_succ, List.cons_append]
  refine runN_eq (by omega) (fun j hj => ?_) ?_
  · rw [← List.cons_append, ← List.replicate_succ, List.getElem?_append_left (by simp; omega), List.getElem?_replicate, if_pos hj]
  · rw [← List.cons_append, ← List.replicate_succ, List.getElem?_append_right (by simp)]
    simp only [List.length_replicate, Nat.sub_self]
    rcases h with rfl | h
    · simp
    · cases l with
      | nil => simp
      | cons y l => simpa using h
theorem decR_only (s : List UInt8) (n : Nat) : ∀ (f : Nat) (acc out : List Int) (i : Nat), acc.length ≤ n → i ≤ s.length → decR s n f i acc = (out, 0) →
    ∃ l, out = acc ++ l ∧ encR l = s.drop i ∧ acc.length + l.length = n ∧ (l = [] ∨ l.head? ≠ acc.getLast?) ∧ ∀ z ∈ l, I64 z := by
  intro f
  induction f with
  | zero => intro acc out i _ _ h; rw [decR] at h; cases h
  | succ f ih =>
    intro acc out i ha hi h
    rw [decR] at h
    by_cases hn : acc.length < n
    · rw [if_pos hn] at h
      by_cases h1 : (getL s i).2.2 = 0
      · rw [if_pos h1] at h
        by_cases h2 : (getL s i).1 = 0 ∨ n - acc.length < (getL s i).1
        · rw [if_pos h2] at h; cases h
        · rw [if_neg h2] at h
          obtain ⟨m, hj, hm, him, hd⟩ := getL_read (s := s) (i := i) (v := (getL s i).1) (j := (getL s i).2.1) (by rw [← h1])
          rw [hj] at h
          by_cases h3 : (getL s ((i + m : Nat) : Int)).2.2 = 0
          · rw [if_pos h3] at h
            obtain ⟨m', hj', hm', him', hd'⟩ := getL_read (s := s) (i := i + m) (v := (getL s ((i + m : Nat) : Int)).1) (j := (getL s ((i + m : Nat) : Int)).2.1) (by rw [← h3])
            have hU := getL_U64 s ((i + m : Nat) : Int)
            rw [hj'] at h
            generalize (getL s ((i + m : Nat) : Int)).1 = z at *
            generalize (getL s (i : Int)).1 = k at *
            by_cases h4 : acc.getLast? = some (zagI z)
            · rw [if_pos h4] at h; cases h
            · rw [if_neg h4] at h
              obtain ⟨l, ho, he, hl, hh, hz⟩ := ih _ _ _ (by simp; omega) him' h
              have hlast : (acc ++ List.replicate k (zagI z)).getLast? = some (zagI z) := by
                rw [List.getLast?_append, List.getLast?_replicate, if_neg (by omega)]; rfl
              rw [hlast] at hh
              have hrun := runN_rep (x := zagI z) (k := k) (l := l) (by omega) hh
              obtain ⟨k', hk'⟩ : ∃ m, k = m + 1 := ⟨k - 1, by omega⟩
              have hcons : List.replicate k (zagI z) ++ l = zagI z :: (List.replicate k' (zagI z) ++ l) := by rw [hk', List.replicate_succ]; rfl
              refine ⟨List.replicate k (zagI z) ++ l, by rw [ho]; simp, ?_, by simp at hl ⊢; omega, .inr ?_, ?_⟩
              · rw [hcons, encR_cons, ← hcons, hrun, zig_zag, hd, hd', ← he]
                simp
              · rw [hcons]; simpa using fun e => h4 e.symm
              · intro y hy
                rcases List.mem_append.1 hy with h5 | h5
                · rw [(List.mem_replicate.1 h5).2]; exact zagI_I64 hU
                · exact hz y h5
          · rw [if_neg h3] at h; injection h with _ h; exact absurd h h3
      · rw [if_neg h1] at h; injection h with _ h; exact absurd h h1
    · rw [if_neg hn] at h
      by_cases h1 : (i : Int) < s.length
      · rw [if_pos h1] at h; cases h
      · rw [if_neg h1] at h
        cases h
        refine ⟨[], by simp, ?_, by simp; omega, .inl rfl, by simp⟩
        rw [encR_nil, List.drop_eq_nil_of_le (by omega)]
theorem decodeR_only {s : List UInt8} {n : Nat} {out : List Int} (h : decodeR s n = (out, 0)) : encR out = s ∧ out.length = n ∧ ∀ z ∈ out, I64 z := by
  unfold decodeR at h
  by_cases hn : (n : Int) < 0 ∨ 4096 < (n : Int)
  · rw [if_pos hn] at h; cases h
  · rw [if_neg hn] at h
    obtain ⟨l, ho, he, hl, _, hz⟩ := decR_only s _ _ [] out 0 (by simp) (by simp) h
    simp at ho hl he
    subst ho
    exact ⟨he, hl, hz⟩

/-- An error gives no list. -/
theorem decR_nil (s : List UInt8) (n : Nat) : ∀ (f : Nat) (acc : List Int) (i : Int), (decR s n f i acc).2 ≠ 0 → (decR s n f i acc).1 = [] := by
  intro f
  induction f with
  | zero => intro acc i _; rfl
  | succ f ih =>
    intro acc i
    rw [decR]
    repeat' split
    all_goals first | exact ih _ _ | (intro _; rfl) | (intro h; exact absurd rfl h)
theorem decodeR_nil {s : List UInt8} {n : Int} {xs : List Int} {e : Int} (h : decodeR s n = (xs, e)) (he : e ≠ 0) : xs = [] := by
  unfold decodeR at h
  split at h
  · cases h; rfl
  · have := decR_nil s n.toNat (n.toNat + 1) [] 0
    rw [h] at this
    exact this he

end Go.Proofs.Ytgpipjifelfjlaa
