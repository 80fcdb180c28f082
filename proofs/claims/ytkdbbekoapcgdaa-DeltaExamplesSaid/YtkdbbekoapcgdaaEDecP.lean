/-
  Plain law of layer 11: what Decode returns, and that it returns what was encoded.
-/
import Derived.Test.YtkdbbekoapcgdaaEPlain
import Derived.Test.YtkdbbekoapcgdaaVRead
import Derived.Test.YtkdbbekoapcgdaaBPlain2
namespace Go.Proofs.Ytkdbbekoapcgdaa
open Go.RowKit

/-- The greatest offset that fits above a least difference. -/
def roomN (least : Int) : Nat := (9223372036854775807 - least).toNat
/-- The numbers of a block are in order: the least is 0, the width is that of the greatest, none leaves the range. -/
def goodU (least : Int) (w : Nat) (u : List Nat) : Prop := 0 ∈ u ∧ maxW u = w ∧ ∀ v ∈ u, v ≤ roomN least
instance (least : Int) (w : Nat) (u : List Nat) : Decidable (goodU least w u) := by unfold goodU; infer_instance
/-- The differences of a block. -/
def upD (least : Int) (u : List Nat) : List Int := u.map (fun v : Nat => wrap64 (least + (v : Int)))
def cutB (s : List UInt8) (a k : Nat) : List UInt8 := (s.drop a).take k
/-- A block of n differences at an index: the differences, the index behind them, the error. -/
noncomputable def offsL (s : List UInt8) (at_ n : Nat) : List Int × Nat × Int :=
  match getL s at_ with
  | (z, a, e) =>
    if e ≠ 0 then ([], 0, e) else
    if a.toNat = s.length then ([], 0, 10) else
    let w := (s.getD a.toNat 0).toNat
    if 64 < w then ([], 0, 2) else
    if s.length < a.toNat + 1 + (n * w + 7) / 8 then ([], 0, 10) else
    match unpackR (cutB s (a.toNat + 1) ((n * w + 7) / 8)) n w with
    | (u, e) => if e ≠ 0 ∨ ¬ goodU (zagI z) w u then ([], 0, 2) else (upD (zagI z) u, a.toNat + 1 + (n * w + 7) / 8, 0)

section
variable {s : List UInt8} {at_ n z a w : Nat} {e : Int} {u : List Nat}
theorem offsL_err {v : Nat} {j : Int} (h : getL s at_ = (v, j, e)) (he : e ≠ 0) : offsL s at_ n = ([], 0, e) := by
  unfold offsL; rw [h]; simp [he]
theorem offsL_end (h : getL s at_ = (z, (a : Int), 0)) (ha : a = s.length) : offsL s at_ n = ([], 0, 10) := by
  unfold offsL; rw [h]; simp [ha]
theorem offsL_wide (h : getL s at_ = (z, (a : Int), 0)) (ha : a < s.length) (hw : (s.getD a 0).toNat = w) (h64 : 64 < w) : offsL s at_ n = ([], 0, 2) := by
  unfold offsL; rw [h]; dsimp only
  rw [if_neg (by simp), Int.toNat_natCast, if_neg (by omega), hw, if_pos h64]
theorem offsL_short (h : getL s at_ = (z, (a : Int), 0)) (ha : a < s.length) (hw : (s.getD a 0).toNat = w) (h64 : ¬ 64 < w) (hs : s.length < a + 1 + (n * w + 7) / 8) : offsL s at_ n = ([], 0, 10) := by
  unfold offsL; rw [h]; dsimp only
  rw [if_neg (by simp), Int.toNat_natCast, if_neg (by omega), hw, if_neg h64, if_pos hs]
theorem offsL_bad (h : getL s at_ = (z, (a : Int), 0)) (ha : a < s.length) (hw : (s.getD a 0).toNat = w) (h64 : ¬ 64 < w) (hs : ¬ s.length < a + 1 + (n * w + 7) / 8)
    (hu : unpackR (cutB s (a + 1) ((n * w + 7) / 8)) n w = (u, e)) (hb : e ≠ 0 ∨ ¬ goodU (zagI z) w u) : offsL s at_ n = ([], 0, 2) := by
  unfold offsL; rw [h]; dsimp only
  rw [if_neg (by simp), Int.toNat_natCast, if_neg (by omega), hw, if_neg h64, if_neg hs, hu]; dsimp only
  rw [if_pos hb]
theorem offsL_ok (h : getL s at_ = (z, (a : Int), 0)) (ha : a < s.length) (hw : (s.getD a 0).toNat = w) (h64 : ¬ 64 < w) (hs : ¬ s.length < a + 1 + (n * w + 7) / 8)
    (hu : unpackR (cutB s (a + 1) ((n * w + 7) / 8)) n w = (u, 0)) (hb : goodU (zagI z) w u) : offsL s at_ n = (upD (zagI z) u, a + 1 + (n * w + 7) / 8, 0) := by
  unfold offsL; rw [h]; dsimp only
  rw [if_neg (by simp), Int.toNat_natCast, if_neg (by omega), hw, if_neg h64, if_neg hs, hu]; dsimp only
  rw [if_neg (by simpa using hb)]
end
theorem unpackR_length {s : List UInt8} {n k : Nat} {u : List Nat} (h : unpackR s n k = (u, 0)) : u.length = n ∧ n ≤ 4096 ∧ k ≤ 64 := by
  unfold unpackR at h
  repeat' split at h
  all_goals cases h
  simp [unpackV]; omega

/-! ### The list -/
/-- A list with sums behind it. -/
def sumsL (l d : List Int) : List Int := d.foldl (fun l v => l ++ [wrap64 (l.getLastD 0 + v)]) l
theorem sumsL_nil (l : List Int) : sumsL l [] = l := rfl
theorem sumsL_next {l d : List Int} {i : Nat} {v : Int} (h : d[i]? = some v) : sumsL l (d.take (i + 1)) = sumsL l (d.take i) ++ [wrap64 ((sumsL l (d.take i)).getLastD 0 + v)] := by
  unfold sumsL; rw [List.take_add_one, h, List.foldl_append]; rfl
theorem sumsL_len (l d : List Int) : (sumsL l d).length = l.length + d.length := by
  unfold sumsL
  induction d generalizing l with
  | nil => simp
  | cons v d ih => rw [List.foldl_cons, ih]; simp; omega
theorem sumsL_I64 {l : List Int} (h : ∀ z ∈ l, I64 z) (d : List Int) : ∀ z ∈ sumsL l d, I64 z := by
  unfold sumsL
  induction d generalizing l with
  | nil => exact h
  | cons v d ih =>
    rw [List.foldl_cons]
    refine ih fun z hz => ?_
    rcases List.mem_append.1 hz with hz | hz
    · exact h z hz
    · simp at hz; subst hz; exact I64_wrap _
/-- The rest of the list from an index on; the first number bounds the rounds. -/
noncomputable def decGo (s : List UInt8) (n : Nat) : Nat → List Int → Nat → List Int × Int
  | 0, _, _ => ([], 0)
  | f + 1, l, at_ =>
    if n ≤ l.length then (if at_ < s.length then ([], 2) else (l, 0)) else
    match offsL s at_ (min 32 (n - l.length)) with
    | (d, a, e) => if e ≠ 0 then ([], e) else decGo s n f (sumsL l d) a
noncomputable def decR (s : List UInt8) (n : Int) : List Int × Int :=
  if n < 0 ∨ 4096 < n then ([], 4) else
  if n = 0 then (if s ≠ [] then ([], 2) else ([], 0)) else
  match getL s 0 with
  | (z, a, e) => if e ≠ 0 then ([], e) else decGo s n.toNat (n.toNat + 1) [zagI z] a.toNat
section
variable {s : List UInt8} {n f at_ a : Nat} {l d : List Int} {e : Int}
theorem decGo_more (hl : n ≤ l.length) (ha : at_ < s.length) : decGo s n (f + 1) l at_ = ([], 2) := by rw [decGo, if_pos hl, if_pos ha]
theorem decGo_done (hl : n ≤ l.length) (ha : ¬ at_ < s.length) : decGo s n (f + 1) l at_ = (l, 0) := by rw [decGo, if_pos hl, if_neg ha]
theorem decGo_err (hl : l.length < n) (h : offsL s at_ (min 32 (n - l.length)) = (d, a, e)) (he : e ≠ 0) : decGo s n (f + 1) l at_ = ([], e) := by
  rw [decGo, if_neg (by omega), h]; simp [he]
theorem decGo_next (hl : l.length < n) (h : offsL s at_ (min 32 (n - l.length)) = (d, a, 0)) : decGo s n (f + 1) l at_ = decGo s n f (sumsL l d) a := by
  rw [decGo, if_neg (by omega), h]; simp
theorem decR_out {n : Int} (h : n < 0 ∨ 4096 < n) : decR s n = ([], 4) := by rw [decR, if_pos h]
theorem decR_full (h : s ≠ []) : decR s 0 = ([], 2) := by rw [decR, if_neg (by omega), if_pos rfl, if_pos h]
theorem decR_none : decR [] 0 = ([], 0) := rfl
theorem decR_err {z : Nat} {a : Int} (h0 : 0 < n) (hn : n ≤ 4096) (h : getL s 0 = (z, a, e)) (he : e ≠ 0) : decR s n = ([], e) := by
  rw [decR, if_neg (by omega), if_neg (by omega), h]; simp [he]
theorem decR_in {z a : Nat} (h0 : 0 < n) (hn : n ≤ 4096) (h : getL s 0 = (z, (a : Int), 0)) : decR s n = decGo s n (n + 1) [zagI z] a := by
  rw [decR, if_neg (by omega), if_neg (by omega), h]; simp
end

/-! ### What the code asks of the numbers of a block -/
theorem min_zero {u : List Nat} (h0 : u ≠ []) : minI (u.map (fun v : Nat => (v : Int))) = 0 ↔ 0 ∈ u := by
  have hn : u.map (fun v : Nat => (v : Int)) ≠ [] := by simpa using h0
  constructor
  · intro h
    have := minI_mem hn
    rw [h] at this
    simp only [List.mem_map] at this
    obtain ⟨v, hv, e⟩ := this
    have : v = 0 := by omega
    subst this; exact hv
  · intro h
    have h1 := minI_le (L := u.map (fun v : Nat => (v : Int))) (y := ((0 : Nat) : Int)) (List.mem_map.2 ⟨0, h, rfl⟩)
    have h2 := minI_mem hn
    simp only [List.mem_map] at h2
    obtain ⟨v, _, e⟩ := h2
    omega
theorem width_mono {a b : Nat} (h : a ≤ b) : widthN a ≤ widthN b := (width_le _ _).2 (Nat.lt_of_le_of_lt h ((width_le _ _).1 (Nat.le_refl _)))
theorem max_width {u : List Nat} (h0 : u ≠ []) (hU : ∀ v ∈ u, U64 v) : ∃ m : Nat, maxI (u.map (fun v : Nat => (v : Int))) = (m : Int) ∧ U64 m ∧ widthN m = maxW u := by
  have hn : u.map (fun v : Nat => (v : Int)) ≠ [] := by simpa using h0
  have h := maxI_mem hn
  simp only [List.mem_map] at h
  obtain ⟨m, hm, e⟩ := h
  refine ⟨m, e.symm, hU m hm, Nat.le_antisymm (maxW_ge hm) ?_⟩
  rcases (fold_maxW u 0).2.2 with h | ⟨x, hx, h⟩
  · unfold maxW; rw [h]; exact Nat.zero_le _
  · unfold maxW; rw [h]
    refine width_mono ?_
    have := maxI_ge (L := u.map (fun v : Nat => (v : Int))) (y := (x : Int)) (List.mem_map.2 ⟨x, hx, rfl⟩)
    omega
theorem min_upD {least : Int} {u : List Nat} (hl : I64 least) (hU : ∀ v ∈ u, U64 v) (h0 : 0 ∈ u) : minI (upD least u) = least ↔ ∀ v ∈ u, v ≤ roomN least := by
  have hmem : ∀ v ∈ u, wrap64 (least + (v : Int)) ∈ upD least u := fun v hv => List.mem_map.2 ⟨v, hv, rfl⟩
  unfold I64 at hl
  have hw0 : wrap64 (least + ((0 : Nat) : Int)) = least := by unfold wrap64; omega
  have hn : upD least u ≠ [] := List.ne_nil_of_mem (hmem 0 h0)
  constructor
  · intro h v hv
    have h1 := minI_le (hmem v hv)
    rw [h] at h1
    have h2 := hU v hv
    unfold U64 at h2
    unfold roomN
    unfold wrap64 at h1
    omega
  · intro h
    have h1 := minI_le (hmem 0 h0)
    rw [hw0] at h1
    have h2 := minI_mem hn
    simp only [upD, List.mem_map] at h2
    obtain ⟨v, hv, e⟩ := h2
    have h3 := h v hv
    have h4 := hU v hv
    unfold U64 at h4
    unfold roomN at h3
    change wrap64 (least + (v : Int)) = minI (upD least u) at e
    rw [← e] at h1 ⊢
    unfold wrap64 at h1 ⊢
    omega
theorem add_wrap (a b : Int) : wrap64 (a + wrap64 b) = wrap64 (a + b) := by unfold wrap64; omega
theorem add_wrap' (a b : Int) : wrap64 (wrap64 a + b) = wrap64 (a + b) := by unfold wrap64; omega
theorem upD_len (least : Int) (u : List Nat) : (upD least u).length = u.length := by simp [upD]
theorem upD_at {least : Int} {u : List Nat} {i v : Nat} (h : u[i]? = some v) : (upD least u)[i]? = some (wrap64 (least + (v : Int))) := by unfold upD; rw [List.getElem?_map, h]; rfl
theorem upD_I64 (least : Int) (u : List Nat) : ∀ z ∈ upD least u, I64 z := by
  intro z hz
  simp only [upD, List.mem_map] at hz
  obtain ⟨v, _, rfl⟩ := hz
  exact I64_wrap _
theorem offsL_cases (s : List UInt8) (at_ n : Nat) : (∃ d a, offsL s at_ n = (d, a, 0) ∧ d.length = n ∧ a ≤ s.length ∧ ∀ z ∈ d, I64 z) ∨ (∃ e : Int, e ≠ 0 ∧ offsL s at_ n = ([], 0, e)) := by
  rcases getL_cases s at_ with ⟨z, a, m, ha, hg, hU, hm1, hle, _⟩ | ⟨e, he, hg⟩
  · have hat : at_ = a := by omega
    subst hat
    by_cases h1 : at_ + m = s.length
    · exact .inr ⟨10, by decide, offsL_end hg h1⟩
    · obtain ⟨w, hw⟩ : ∃ w, (s.getD (at_ + m) 0).toNat = w := ⟨_, rfl⟩
      by_cases h2 : 64 < w
      · exact .inr ⟨2, by decide, offsL_wide hg (by omega) hw h2⟩
      · by_cases h3 : s.length < at_ + m + 1 + (n * w + 7) / 8
        · exact .inr ⟨10, by decide, offsL_short hg (by omega) hw h2 h3⟩
        · obtain ⟨u, e, hu⟩ : ∃ u e, unpackR (cutB s (at_ + m + 1) ((n * w + 7) / 8)) n w = (u, e) := ⟨_, _, rfl⟩
          by_cases h4 : e ≠ 0 ∨ ¬ goodU (zagI z) w u
          · exact .inr ⟨2, by decide, offsL_bad hg (by omega) hw h2 h3 hu h4⟩
          · have he0 : e = 0 := by
              rcases Classical.em (e = 0) with h | h
              · exact h
              · exact absurd (Or.inl h) h4
            subst he0
            have hgd : goodU (zagI z) w u := by
              rcases Classical.em (goodU (zagI z) w u) with h | h
              · exact h
              · exact absurd (Or.inr h) h4
            exact .inl ⟨_, _, offsL_ok hg (by omega) hw h2 h3 hu hgd, by rw [upD_len]; exact (unpackR_length hu).1, by omega, upD_I64 _ _⟩
  · exact .inr ⟨e, he, offsL_err hg he⟩

/-! ### What was encoded -/
theorem offs_len (d : List Int) : (offs d).length = d.length := by simp [offs]
theorem good_offs {d : List Int} (h0 : d ≠ []) (hz : ∀ z ∈ d, I64 z) : goodU (minI d) (maxW (offs d)) (offs d) := by
  refine ⟨?_, rfl, fun v hv => ?_⟩
  · simp only [offs, List.mem_map]
    exact ⟨minI d, minI_mem h0, by omega⟩
  · simp only [offs, List.mem_map] at hv
    obtain ⟨x, hx, rfl⟩ := hv
    have := hz x hx
    unfold I64 at this; unfold roomN
    omega
theorem upD_offs {d : List Int} (hz : ∀ z ∈ d, I64 z) : upD (minI d) (offs d) = d := by
  unfold upD offs
  rw [List.map_map]
  conv => rhs; rw [← List.map_id d]
  refine List.map_congr_left fun x hx => ?_
  have h1 := minI_le hx
  have h2 := hz x hx
  unfold I64 at h2
  simp only [Function.comp]
  unfold wrap64
  rw [Int.toNat_of_nonneg (by omega)]
  show _ = x
  omega
theorem offsL_put {s r : List UInt8} {d : List Int} {at_ : Nat} (h0 : d ≠ []) (hn : d.length ≤ 4096) (hz : ∀ z ∈ d, I64 z) (hs : s.drop at_ = blockL d ++ r) :
    offsL s at_ d.length = (d, at_ + (blockL d).length, 0) := by
  have hU := zigN_U64 (hz _ (minI_mem h0))
  have hW := maxW_le (off_U64 hz)
  have hs' : s.drop at_ = putL (zigN (minI d)) ++ ([UInt8.ofNat (maxW (offs d))] ++ packL (offs d) (maxW (offs d)) ++ r) := by rw [hs, blockL]; simp
  have hg := getL_drop hU hs'
  obtain ⟨a, ha⟩ : ∃ a, a = at_ + (putL (zigN (minI d))).length := ⟨_, rfl⟩
  rw [← ha] at hg
  have hda : s.drop a = UInt8.ofNat (maxW (offs d)) :: (packL (offs d) (maxW (offs d)) ++ r) := by
    rw [ha, ← List.drop_drop, hs', List.drop_left]; simp
  have hda1 : s.drop (a + 1) = packL (offs d) (maxW (offs d)) ++ r := by rw [← List.drop_drop, hda]; rfl
  have hpl := packL_len (offs d) (maxW (offs d))
  rw [offs_len] at hpl
  have hlen : a + 1 + (packL (offs d) (maxW (offs d))).length + r.length = s.length := by
    have h1 := congrArg List.length hda
    simp only [List.length_drop, List.length_cons, List.length_append] at h1
    omega
  have hw : (s.getD a 0).toNat = maxW (offs d) := by
    have h1 : s[a]? = some (UInt8.ofNat (maxW (offs d))) := (get_at hda).1
    rw [List.getD, h1]; simp; omega
  have hcut : cutB s (a + 1) ((d.length * maxW (offs d) + 7) / 8) = packL (offs d) (maxW (offs d)) := by
    unfold cutB; rw [hda1, ← hpl, List.take_left]
  have hun := unpackR_pack (xs := offs d) (k := maxW (offs d)) hW (by rw [offs_len]; exact hn) (fun v hv => maxW_ge hv)
  rw [offs_len] at hun
  rw [offsL_ok hg (by omega) hw (by omega) (by omega) (by rw [hcut]; exact hun) (by rw [zag_zig]; exact good_offs h0 hz), zag_zig, upD_offs hz]
  have : (blockL d).length = (putL (zigN (minI d))).length + 1 + (d.length * maxW (offs d) + 7) / 8 := by
    unfold blockL; rw [List.length_append, List.length_append, hpl]; simp
  rw [this, ha]
  simp only [Prod.mk.injEq, true_and, and_true]
  omega
theorem sums_next {l : List Int} {i : Nat} {x y : Int} (hy : I64 y) (h1 : l[i]? = some x) (h2 : l[i + 1]? = some y) : wrap64 (x + diffA l i) = y := by
  unfold diffA
  rw [List.getD, List.getD, h1, h2]
  unfold I64 at hy
  simp only [Option.getD_some]
  unfold wrap64
  omega
theorem getLastD_take {l : List Int} {i : Nat} {x : Int} (h : l[i]? = some x) : (l.take (i + 1)).getLastD 0 = x := by
  rw [List.take_add_one, h]; simp
theorem sums_take {l : List Int} (hz : ∀ z ∈ l, I64 z) (i : Nat) : ∀ j, i + j + 1 ≤ l.length → sumsL (l.take (i + 1)) (((diffs l).drop i).take j) = l.take (i + 1 + j)
  | 0, _ => by simp [sumsL]
  | j + 1, h => by
    have hd : ((diffs l).drop i)[j]? = some (diffA l (i + j)) := by
      rw [List.getElem?_drop, diffs, List.getElem?_map, List.getElem?_range (by omega)]; rfl
    obtain ⟨x, hx⟩ : ∃ x, l[i + j]? = some x := ⟨_, List.getElem?_eq_getElem (by omega)⟩
    obtain ⟨y, hy⟩ : ∃ y, l[i + j + 1]? = some y := ⟨_, List.getElem?_eq_getElem (by omega)⟩
    rw [sumsL_next hd, sums_take hz i j (by omega), show i + 1 + j = (i + j) + 1 by omega, getLastD_take hx, sums_next (hz y (List.mem_of_getElem? hy)) hx hy, show i + 1 + (j + 1) = i + j + 1 + 1 by omega, List.take_add_one (i := i + j + 1), hy]
    rfl
theorem decGo_enc {l : List Int} {s : List UInt8} (hz : ∀ z ∈ l, I64 z) (hn : l.length ≤ 4096) (h0 : 0 < l.length) : ∀ (m k f at_ : Nat), k + m = (l.length - 1 + 31) / 32 → m < f →
    s.drop at_ = (List.range m).flatMap (fun i => blockL (part (diffs l) (k + i))) → at_ ≤ s.length → decGo s l.length f (l.take (1 + 32 * k)) at_ = (l, 0)
  | 0, k, f, at_, hk, hf, hs, ha => by
    obtain ⟨g, rfl⟩ : ∃ g, f = g + 1 := ⟨f - 1, by omega⟩
    have hal : s.length ≤ at_ := by
      have h1 := congrArg List.length hs
      simp at h1
      omega
    rw [List.take_of_length_le (by omega), decGo_done (Nat.le_refl _) (by omega)]
  | m + 1, k, f, at_, hk, hf, hs, ha => by
    obtain ⟨g, rfl⟩ : ∃ g, f = g + 1 := ⟨f - 1, by omega⟩
    have hlt : (l.take (1 + 32 * k)).length = 1 + 32 * k := by rw [List.length_take]; omega
    have hp := part_len (diffs l) k
    rw [diffs_len] at hp
    have hpn : part (diffs l) k ≠ [] := by intro e; rw [e] at hp; simp at hp; omega
    have hs' : s.drop at_ = blockL (part (diffs l) k) ++ (List.range m).flatMap (fun i => blockL (part (diffs l) (k + 1 + i))) := by
      rw [hs, List.range_succ_eq_map, List.flatMap_cons, List.flatMap_map]
      congr 1
      refine congrArg (fun f => List.flatMap f (List.range m)) (funext fun i => ?_)
      rw [show k + Nat.succ i = k + 1 + i by omega]
    have ho := offsL_put hpn (by omega) (part_I64 (diffs_I64 l) k) hs'
    have hpl : (part (diffs l) k).length = min 32 (l.length - (l.take (1 + 32 * k)).length) := by rw [hlt, hp]; omega
    rw [hpl] at ho
    rw [decGo_next (by omega) ho]
    have hsum : sumsL (l.take (1 + 32 * k)) (part (diffs l) k) = l.take (1 + 32 * (k + 1)) := by
      have h1 : part (diffs l) k = ((diffs l).drop (32 * k)).take (part (diffs l) k).length := by
        unfold part
        rw [List.length_take, ← List.take_take, List.take_length]
      rw [h1, show 1 + 32 * k = 32 * k + 1 by omega, sums_take hz _ _ (by omega)]
      rcases Nat.lt_or_ge (32 * k + 33) (l.length + 1) with h2 | h2
      · congr 1; omega
      · rw [List.take_of_length_le (by omega), List.take_of_length_le (by omega)]
    rw [hsum]
    refine decGo_enc hz hn h0 m (k + 1) g _ (by omega) (by omega) ?_ ?_
    · rw [← List.drop_drop, hs', List.drop_left]
    · have h1 := congrArg List.length hs'
      simp only [List.length_drop, List.length_append] at h1
      have h2 : 1 ≤ (blockL (part (diffs l) k)).length := by unfold blockL; simp; omega
      omega
/-- Decode returns the list that was encoded. -/
theorem decR_enc {l : List Int} (hz : ∀ z ∈ l, I64 z) (hn : l.length ≤ 4096) : decR (encD l) l.length = (l, 0) := by
  cases l with
  | nil => rfl
  | cons x t =>
    obtain ⟨l, hl⟩ : ∃ l, l = x :: t := ⟨_, rfl⟩
    rw [← hl] at hz hn ⊢
    have h0 : 0 < l.length := by rw [hl]; simp
    have hx : l.getD 0 0 = x := by rw [hl]; rfl
    have hU := zigN_U64 (hz x (by rw [hl]; simp))
    have he : encD l = putL (zigN x) ++ encB (diffs l) ((l.length - 1 + 31) / 32) := by
      unfold encD; rw [if_neg (by rintro (h | h); rw [hl] at h; cases h; omega), hx, diffs_len]
    have hg : getL (encD l) 0 = (zigN x, ((putL (zigN x)).length : Int), 0) := by
      have := getL_drop (i := 0) (r := encB (diffs l) ((l.length - 1 + 31) / 32)) hU (s := encD l) (by rw [he]; rfl)
      simpa using this
    rw [decR_in h0 hn hg, zag_zig]
    have h1 : [x] = l.take (1 + 32 * 0) := by rw [hl]; rfl
    rw [h1]
    refine decGo_enc hz hn h0 ((l.length - 1 + 31) / 32) 0 _ _ (by omega) (by omega) ?_ ?_
    · rw [he, List.drop_left]; simp [encB]
    · rw [he]; simp
/-- Numbers with equal differences take at most eleven bytes for each block, and ten for the first one. -/
theorem encD_steady {l : List Int} {t : Int} (hz : ∀ z ∈ l, I64 z) (ht : I64 t) (hd : ∀ x ∈ diffs l, x = t) : (encD l).length ≤ 10 + 11 * ((l.length - 1 + 31) / 32) := by
  unfold encD
  split
  · simp
  · rename_i h
    have h0 : l ≠ [] := fun e => h (.inl e)
    have hU : U64 (zigN (l.getD 0 0)) := zigN_U64 (by
      cases l with
      | nil => exact absurd rfl h0
      | cons x t => exact hz x (by simp))
    have h1 := putL_len hU
    have key : ∀ m, 32 * m ≤ (diffs l).length + 31 → (encB (diffs l) m).length ≤ 11 * m := by
      intro m
      induction m with
      | zero => simp [encB]
      | succ m ih =>
        intro hm
        rw [encB_succ, List.length_append]
        have := ih (by omega)
        have hp := part_len (diffs l) m
        have hpn : part (diffs l) m ≠ [] := by intro e; rw [e] at hp; simp at hp; omega
        have hpt : ∀ x ∈ part (diffs l) m, x = t := fun x hx => hd x (List.mem_of_mem_drop (List.mem_of_mem_take hx))
        have hmin : minI (part (diffs l) m) = t := hpt _ (minI_mem hpn)
        have hoff : ∀ u ∈ offs (part (diffs l) m), u = 0 := by
          intro u hu
          simp only [offs, List.mem_map] at hu
          obtain ⟨v, hv, rfl⟩ := hu
          rw [hmin, hpt v hv]; simp
        have hw : maxW (offs (part (diffs l) m)) = 0 := by
          rcases (fold_maxW (offs (part (diffs l) m)) 0).2.2 with e | ⟨u, hu, e⟩
          · exact e
          · unfold maxW; rw [e, hoff u hu, widthN_zero]
        have h2 := putL_len (zigN_U64 ht)
        unfold blockL
        rw [hw, hmin, List.length_append, List.length_append, packL_len]
        simp
        omega
    rw [List.length_append, diffs_len]
    rw [diffs_len] at key
    have := key ((l.length - 1 + 31) / 32) (by omega)
    omega

end Go.Proofs.Ytkdbbekoapcgdaa
