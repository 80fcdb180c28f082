/-
  Plain law of layer 19: what the decoders read where a valid record was put.
-/
import Derived.Test.YtgacjpkgpegcdaaMDecQ
namespace Go.Proofs.Ytgacjpkgpegcdaa
open Go.RowKit

theorem extract_eq {s b : ByteArray} {k : Nat} {r : List UInt8} (h : s.data.toList.drop k = b.data.toList ++ r) : s.extract k (k + b.size) = b := by
  apply ByteArray.ext
  apply Array.toList_inj.1
  rw [ByteArray.data_extract, Array.toList_extract, List.extract_eq_take_drop, h, Nat.add_sub_cancel_left, ← size_list b, List.take_left]
theorem valG_put {s : ByteArray} {i : Nat} {v : Vl} {r : List UInt8} (h : s.data.toList.drop i = valP v ++ r) (hn : I64 v.n) (hs : v.s.size ≤ 1000000000000) (hnull : v.null = true → v = nullVl) : valG s i = (v, ((i + (valP v).length : Nat) : Int), 0) := by
  cases hv : v.null
  · rw [valP_some hv] at h ⊢
    rw [List.append_assoc, List.append_assoc, List.append_assoc] at h
    obtain ⟨h1, d1⟩ := get_at (show s.data.toList.drop i = 1 :: (putL (zigN v.n) ++ (putL v.s.size ++ (v.s.data.toList ++ r))) from h)
    have hi : i < s.size := by
      have := (List.getElem?_eq_some_iff.1 h1).1
      rwa [size_list] at this
    have g1 := getL_drop (zigN_U64 hn) d1
    have d2 : s.data.toList.drop (i + 1 + (putL (zigN v.n)).length) = putL v.s.size ++ (v.s.data.toList ++ r) := by
      rw [← List.drop_drop, d1, List.drop_left]
    have g2 := getL_drop (v := v.s.size) (by unfold U64; omega) d2
    have d3 : s.data.toList.drop (i + 1 + (putL (zigN v.n)).length + (putL v.s.size).length) = v.s.data.toList ++ r := by
      rw [← List.drop_drop, d2, List.drop_left]
    have hl : i + 1 + (putL (zigN v.n)).length + (putL v.s.size).length + v.s.size ≤ s.size := by
      have h3 := congrArg List.length d3
      rw [List.length_drop, List.length_append, size_list, size_list] at h3
      have := putL_pos v.s.size
      rcases Nat.lt_or_ge s.size (i + 1 + (putL (zigN v.n)).length + (putL v.s.size).length) with h4 | h4
      · have h5 : (putL v.s.size ++ (v.s.data.toList ++ r)).length = s.size - (i + 1 + (putL (zigN v.n)).length) := by rw [← d2, List.length_drop, size_list]
        rw [List.length_append] at h5
        omega
      · omega
    have e1 : (((i + 1 : Nat) : Int)) = (i : Int) + 1 := by omega
    rw [e1] at g1
    rw [valG_ok h1 hi rfl g1 g2 (by omega), zag_zig, extract_eq d3]
    obtain ⟨vn, vi, vz⟩ := v
    dsimp only at hv
    subst hv
    simp only [List.length_append, List.length_cons, List.length_nil, size_list, Prod.mk.injEq, true_and, and_true]
    omega
  · rw [valP_null hv] at h ⊢
    obtain ⟨h1, _⟩ := get_at (show s.data.toList.drop i = 0 :: r from h)
    have hi : i < s.size := by
      have := (List.getElem?_eq_some_iff.1 h1).1
      rwa [size_list] at this
    rw [valG_null h1 hi rfl, hnull hv]; rfl

/-! ### One after another -/
theorem drop_more {s p r : List UInt8} {a : Nat} (h : s.drop a = p ++ r) : s.drop (a + p.length) = r := by rw [← List.drop_drop, h, List.drop_left]
theorem plain_null {v : Vl} (h : plainB v = true) (hv : v.null = true) : v = nullVl := by
  obtain ⟨vn, vi, vz⟩ := v
  dsimp only at hv
  subst hv
  unfold plainB at h
  simp only [if_true, Bool.and_eq_true, beq_iff_eq, decide_eq_true_eq] at h
  obtain ⟨h1, h2⟩ := h
  subst h1
  have : vz = ⟨#[]⟩ := by
    apply ByteArray.ext
    apply Array.toList_inj.1
    have h3 := size_list vz
    rw [h2] at h3
    exact (List.length_eq_zero_iff.1 h3).trans rfl
  rw [this]
  rfl
section
variable {s : ByteArray} {a : Nat} {r : List UInt8} {n : Int} {most : Nat}
theorem num_get (h : s.data.toList.drop a = numP n ++ r) (h1 : n ≤ 4611686018427387904) : getL s.data.toList a = (n.toNat, ((a + (numP n).length : Nat) : Int), 0) := getL_drop (by unfold U64; omega) h
theorem numT_read (h : s.data.toList.drop a = numP n ++ r) (h0 : 0 ≤ n) (h1 : n ≤ 4611686018427387904) : numT s (a, false) = (n, ((a + (numP n).length : Nat) : Int), false) := by
  rw [numT_ok (num_get h h1) (by omega)]
  exact Prod.ext (by show ((n.toNat : Nat) : Int) = n; omega) rfl
theorem numM_read (h : s.data.toList.drop a = numP n ++ r) (h0 : 0 ≤ n) (h1 : n ≤ most) (hm : most ≤ 4611686018427387904) : numM s most (a, false) = (n, ((a + (numP n).length : Nat) : Int), false) := by
  rw [numM_ok (num_get h (by omega)) (by omega)]
  exact Prod.ext (by show ((n.toNat : Nat) : Int) = n; omega) rfl
theorem rankT_read {k : Rk} (h : s.data.toList.drop a = rankP k ++ r) (hn : I64 k.key.n) (hk : rankB k = true) : rankT s (a, false) = (k, ((a + (rankP k).length : Nat) : Int), false) := by
  obtain ⟨h1, h2, h3⟩ := rank_iff.1 hk
  rw [rankP, List.append_assoc] at h
  rw [rankT_ok (valG_put h hn (by have := plain_size h1; omega) (plain_null h1)), numT_read (drop_more h) h2 (by omega)]
  rw [rankP, List.length_append, Nat.add_assoc]
theorem rankM_read {k : Rk} (h : s.data.toList.drop a = rankP k ++ r) (hn : I64 k.key.n) (hk : rankB k = true) : rankM s (a, false) = (k, ((a + (rankP k).length : Nat) : Int), false) := by
  obtain ⟨h1, h2, h3⟩ := rank_iff.1 hk
  rw [rankP, List.append_assoc] at h
  rw [rankM_ok (valG_put h hn (by have := plain_size h1; omega) (plain_null h1)), numM_read (drop_more h) h2 (by omega) (by omega)]
  rw [rankP, List.length_append, Nat.add_assoc]
theorem entT_read {e : En} (h : s.data.toList.drop a = entP e ++ r) (hn : keysI e) (he : entB e = true) : entT s (a, false) = (e, ((a + (entP e).length : Nat) : Int), false) := by
  obtain ⟨h1, h2, h3, h4, h5, h6⟩ := ent_iff.1 he
  simp only [entP, List.append_assoc] at h
  have d1 := drop_more h
  have d2 := drop_more d1
  have d3 := drop_more d2
  have d4 := drop_more d3
  have d5 := drop_more d4
  unfold entT
  rw [numT_read h (by omega) (by omega)]; dsimp only
  rw [numT_read d1 (by omega) (by omega)]; dsimp only
  rw [numT_read d2 (by omega) (by omega)]; dsimp only
  rw [rankT_read d3 hn.1 h4]; dsimp only
  rw [rankT_read d4 hn.2 h5]; dsimp only
  rw [numT_read d5 (by omega) (by omega)]
  simp only [entP, List.length_append, Nat.add_assoc]
theorem entM_read {e : En} (h : s.data.toList.drop a = entP e ++ r) (hn : keysI e) (he : entB e = true) : entM s (a, false) = (e, ((a + (entP e).length : Nat) : Int), false) := by
  obtain ⟨h1, h2, h3, h4, h5, h6⟩ := ent_iff.1 he
  simp only [entP, List.append_assoc] at h
  have d1 := drop_more h
  have d2 := drop_more d1
  have d3 := drop_more d2
  have d4 := drop_more d3
  have d5 := drop_more d4
  unfold entM
  rw [numM_read h (by omega) (by omega) (by omega)]; dsimp only
  rw [numM_read d1 (by omega) (by omega) (by omega)]; dsimp only
  rw [numM_read d2 (by omega) (by omega) (by omega)]; dsimp only
  rw [rankM_read d3 hn.1 h4]; dsimp only
  rw [rankM_read d4 hn.2 h5]; dsimp only
  rw [numM_read d5 (by omega) (by omega) (by omega)]
  simp only [entP, List.length_append, Nat.add_assoc]
end
theorem entsM_read {s : ByteArray} : ∀ {l : List En} {a : Nat} {r : List UInt8}, s.data.toList.drop a = l.flatMap entP ++ r → (∀ e ∈ l, keysI e ∧ entB e = true) → entsM s l.length (a, false) = (l, ((a + (l.flatMap entP).length : Nat) : Int), false)
  | [], a, r, _, _ => by simp [entsM]
  | e :: l, a, r, h, hl => by
    rw [List.flatMap_cons, List.append_assoc] at h
    have h1 := hl e (by simp)
    rw [List.length_cons, entsM_next, entM_read h h1.1 h1.2]
    dsimp only
    rw [entsM_read (drop_more h) (fun x hx => hl x (by simp [hx]))]
    simp only [List.flatMap_cons, List.length_append, Nat.add_assoc]
theorem remsM_read {s : ByteArray} : ∀ {l : List Int} {a : Nat} {r : List UInt8}, s.data.toList.drop a = l.flatMap numP ++ r → (∀ e ∈ l, objB e = true) → remsM s l.length (a, false) = (l, ((a + (l.flatMap numP).length : Nat) : Int), false)
  | [], a, r, _, _ => by simp [remsM]
  | e :: l, a, r, h, hl => by
    rw [List.flatMap_cons, List.append_assoc] at h
    have h1 := obj_iff.1 (hl e (by simp))
    rw [List.length_cons, remsM_next, numM_read h (by omega) (by omega) (by omega)]
    dsimp only
    rw [remsM_read (drop_more h) (fun x hx => hl x (by simp [hx]))]
    simp only [List.flatMap_cons, List.length_append, Nat.add_assoc]
theorem entsT_read {s : ByteArray} {l : List En} {a : Nat} {r : List UInt8} (h : s.data.toList.drop a = l.flatMap entP ++ r) (hl : ∀ e ∈ l, keysI e ∧ entB e = true) : ∀ k, k ≤ l.length → entsT s k (a, false) = (l.take k, ((a + ((l.take k).flatMap entP).length : Nat) : Int), false)
  | 0, _ => by simp [entsT]
  | k + 1, hk => by
    have hk' : k < l.length := by omega
    have h1 := hl l[k] (List.getElem_mem hk')
    have hd : s.data.toList.drop (a + ((l.take k).flatMap entP).length) = entP l[k] ++ ((l.drop (k + 1)).flatMap entP ++ r) := by
      refine drop_more (p := (l.take k).flatMap entP) ?_
      rw [h]
      conv => lhs; rw [← List.take_append_drop k l, List.flatMap_append, List.drop_eq_getElem_cons hk', List.flatMap_cons]
      simp only [List.append_assoc]
    rw [entsT, entsT_read h hl k (by omega)]
    dsimp only
    rw [entT_read hd h1.1 h1.2]
    dsimp only
    rw [← List.take_append_getElem hk', List.flatMap_append, List.length_append, List.flatMap_cons, List.flatMap_nil, List.append_nil, Nat.add_assoc]
theorem remsT_read {s : ByteArray} {l : List Int} {a : Nat} {r : List UInt8} (h : s.data.toList.drop a = l.flatMap numP ++ r) (hl : ∀ e ∈ l, objB e = true) : ∀ k, k ≤ l.length → remsT s k (a, false) = (l.take k, ((a + ((l.take k).flatMap numP).length : Nat) : Int), false)
  | 0, _ => by simp [remsT]
  | k + 1, hk => by
    have hk' : k < l.length := by omega
    have h1 := obj_iff.1 (hl l[k] (List.getElem_mem hk'))
    have hd : s.data.toList.drop (a + ((l.take k).flatMap numP).length) = numP l[k] ++ ((l.drop (k + 1)).flatMap numP ++ r) := by
      refine drop_more (p := (l.take k).flatMap numP) ?_
      rw [h]
      conv => lhs; rw [← List.take_append_drop k l, List.flatMap_append, List.drop_eq_getElem_cons hk', List.flatMap_cons]
      simp only [List.append_assoc]
    rw [remsT, remsT_read h hl k (by omega)]
    dsimp only
    rw [numT_read hd (by omega) (by omega)]
    dsimp only
    rw [← List.take_append_getElem hk', List.flatMap_append, List.length_append, List.flatMap_cons, List.flatMap_nil, List.append_nil, Nat.add_assoc]

/-! ### A whole record -/
theorem body_parts {s : ByteArray} {r : Rc} (hs : s.data.toList = bodyP r) : s.data.toList.drop 1 = numP r.version ++ (numP r.nextSeq ++ (numP r.nextId ++ (numP (r.add.length : Int) ++ (r.add.flatMap entP ++ (numP (r.rem.length : Int) ++ (r.rem.flatMap numP ++ [])))))) := by
  rw [hs]
  simp only [bodyP, numP, List.append_assoc, List.cons_append, List.nil_append, List.drop_succ_cons, List.drop_zero, Int.toNat_natCast, List.append_nil]
theorem body_kind {s : ByteArray} {r : Rc} (hs : s.data.toList = bodyP r) (h : r.kind = 1 ∨ r.kind = 2) : byte0 s = r.kind := by
  unfold byte0
  rw [hs]
  rcases h with h | h <;> rw [bodyP, h] <;> rfl
theorem body_pos {s : ByteArray} {r : Rc} (hs : s.data.toList = bodyP r) : ¬ s.size = 0 := by
  have := congrArg List.length hs
  rw [size_list] at this
  simp only [bodyP, List.length_append, List.length_cons] at this
  omega
theorem decT_read {s : ByteArray} {r : Rc} (hs : s.data.toList = bodyP r) (hk : keysOk r) (h : chkR r = 0) : decT s = r := by
  obtain ⟨h1, ⟨v1, v2, q1, q2, hi⟩, h2, h3, h4, _, h5⟩ := chk_zero h
  have hi' := obj_iff.1 hi
  have d0 := body_parts hs
  have d1 := drop_more d0
  have d2 := drop_more d1
  have d3 := drop_more d2
  have d4 := drop_more d3
  have d5 := drop_more d4
  have d6 := drop_more d5
  have e3 := cntT_ok (numT_read d3 (by omega) (by omega)) (by omega)
  have e4 := entsT_read d4 (fun e he => ⟨hk e he, addOk_mem h4 he⟩) r.add.length (Nat.le_refl _)
  rw [List.take_length] at e4
  have e5 := cntT_ok (numT_read d5 (by omega) (by omega)) (by omega)
  have e6 := remsT_read d6 (fun e he => remOk_mem h5 he) r.rem.length (Nat.le_refl _)
  rw [List.take_length] at e6
  rw [decT, if_neg (body_pos hs)]
  dsimp only
  rw [show ((1 : Int), false) = (((1 : Nat) : Int), false) from rfl, numT_read d0 (by omega) (by omega)]; dsimp only
  rw [numT_read d1 (by omega) (by omega)]; dsimp only
  rw [numT_read d2 (by omega) (by omega)]; dsimp only
  rw [e3]; dsimp only
  rw [Int.toNat_natCast, e4]; dsimp only
  rw [e5]; dsimp only
  rw [Int.toNat_natCast, e6, body_kind hs h1]
theorem payM_read {s : ByteArray} {r : Rc} (hs : s.data.toList = bodyP r) (hk : keysOk r) (h : chkR r = 0) : payM s = (r, true) := by
  obtain ⟨h1, ⟨v1, v2, q1, q2, hi⟩, h2, h3, h4, _, h5⟩ := chk_zero h
  have hi' := obj_iff.1 hi
  have d0 := body_parts hs
  have d1 := drop_more d0
  have d2 := drop_more d1
  have d3 := drop_more d2
  have d4 := drop_more d3
  have d5 := drop_more d4
  have d6 := drop_more d5
  have e4 := entsM_read d4 (fun e he => ⟨hk e he, addOk_mem h4 he⟩)
  have e6 := remsM_read d6 (fun e he => remOk_mem h5 he)
  have hl : s.size = 1 + (numP r.version).length + (numP r.nextSeq).length + (numP r.nextId).length + (numP (r.add.length : Int)).length + (r.add.flatMap entP).length + (numP (r.rem.length : Int)).length + (r.rem.flatMap numP).length := by
    rw [← size_list, hs]
    simp only [bodyP, numP, List.length_append, List.length_cons, List.length_nil, Int.toNat_natCast]
  rw [payM, if_neg (body_pos hs)]
  dsimp only
  rw [show ((1 : Int), false) = (((1 : Nat) : Int), false) from rfl, numM_read d0 (by omega) (by omega) (by omega)]; dsimp only
  rw [numM_read d1 (by omega) (by omega) (by omega)]; dsimp only
  rw [numM_read d2 (by omega) (by omega) (by omega)]; dsimp only
  rw [numM_read d3 (by omega) (by omega) (by omega)]; dsimp only
  rw [Int.toNat_natCast, e4]; dsimp only
  rw [numM_read d5 (by omega) (by omega) (by omega)]; dsimp only
  rw [Int.toNat_natCast, e6, body_kind hs h1]; dsimp only
  rw [show (⟨r.kind, r.version, r.nextSeq, r.nextId, r.add, r.rem⟩ : Rc) = r from rfl, h, ← hl]
  simp

end Go.Proofs.Ytgacjpkgpegcdaa
