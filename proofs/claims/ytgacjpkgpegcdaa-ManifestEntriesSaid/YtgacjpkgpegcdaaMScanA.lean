/-
  MScanA: texts of layer 19 in one.
-/
import Derived.Test.YtgacjpkgpegcdaaMDecQ
import Derived.Test.YtgacjpkgpegcdaaMFour
import Derived.Test.YtgacjpkgpegcdaaMDecR
import Derived.Lib.BufferOwn
/-! Plain law of layer 19: what the decoders read where a valid record was put. -/
namespace Go.Proofs.Ytgacjpkgpegcdaa
open Go.RowKit

theorem extract_eq {s b : ByteArray} {k : Nat} {r : List UInt8} (h : s.data.toList.drop k = b.data.toList ++ r) : s.extract k (k + b.size) = b := by
  apply ByteArray.ext
  apply Array.toList_inj.1
  rw [ByteArray.data_extract, Array.toList_extract, List.extract_eq_take_drop, h, Nat.add_sub_cancel_left, ← size_list b, List.take_left]
theorem valG_put {s : ByteArray} {i : Nat} {v : Vl} {r : List UInt8} (h : s.data.toList.drop i = valP v ++ r) (hn : I64 v.n) (hs : v.s.size ≤ 1000000000000) (hnull : v.null = true → v = nullVl) : valG s i = (v, ((i + (valP v).length : Nat) : Int), 0) := by
  cases hv : v.null
  · rw [valP_some hv] at h ⊢
    rw [List.append_assoc, List.append_assoc, List.append_assoc] at h
    obtain ⟨h1, d1⟩ := get_at (show s.data.toList.drop i = 1 :: (putL (zigN v.n) ++ (putL v.s.size ++ (v.s.data.toList ++ r))) from h)
    have hi : i < s.size := by
      have := (List.getElem?_eq_some_iff.1 h1).1
      rwa [size_list] at this
    have g1 := getL_drop (zigN_U64 hn) d1
    have d2 : s.data.toList.drop (i + 1 + (putL (zigN v.n)).length) = putL v.s.size ++ (v.s.data.toList ++ r) := by
      rw [← List.drop_drop, d1, List.drop_left]
    have g2 := getL_drop (v := v.s.size) (by unfold U64; omega) d2
    have d3 : s.data.toList.drop (i + 1 + (putL (zigN v.n)).length + (putL v.s.size).length) = v.s.data.toList ++ r := by
      rw [← List.drop_drop, d2, List.drop_left]
    have hl : i + 1 + (putL (zigN v.n)).length + (putL v.s.size).length + v.s.size ≤ s.size := by
      have h3 := congrArg List.length d3
      rw [List.length_drop, List.length_append, size_list, size_list] at h3
      have := putL_pos v.s.size
      rcases Nat.lt_or_ge s.size (i + 1 + (putL (zigN v.n)).length + (putL v.s.size).length) with h4 | h4
      · have h5 : (putL v.s.size ++ (v.s.data.toList ++ r)).length = s.size - (i + 1 + (putL (zigN v.n)).length) := by rw [← d2, List.length_drop, size_list]
        rw [List.length_append] at h5
        omega
      · omega
    have e1 : (((i + 1 : Nat) : Int)) = (i : Int) + 1 := by omega
    rw [e1] at g1
    rw [valG_ok h1 hi rfl g1 g2 (by omega), zag_zig, extract_eq d3]
    obtain ⟨vn, vi, vz⟩ := v
    dsimp only at hv
    subst hv
    simp only [List.length_append, List.length_cons, List.length_nil, size_list, Prod.mk.injEq, true_and, and_true]
    omega
  · rw [valP_null hv] at h ⊢
    obtain ⟨h1, _⟩ := get_at (show s.data.toList.drop i = 0 :: r from h)
    have hi : i < s.size := by
      have := (List.getElem?_eq_some_iff.1 h1).1
      rwa [size_list] at this
    rw [valG_null h1 hi rfl, hnull hv]; rfl

/-! ### One after another -/
theorem drop_more {s p r : List UInt8} {a : Nat} (h : s.drop a = p ++ r) : s.drop (a + p.length) = r := by rw [← List.drop_drop, h, List.drop_left]
theorem plain_null {v : Vl} (h : plainB v = true) (hv : v.null = true) : v = nullVl := by
  obtain ⟨vn, vi, vz⟩ := v
  dsimp only at hv
  subst hv
  unfold plainB at h
  simp only [if_true, Bool.and_eq_true, beq_iff_eq, decide_eq_true_eq] at h
  obtain ⟨h1, h2⟩ := h
  subst h1
  have : vz = ⟨#[]⟩ := by
    apply ByteArray.ext
    apply Array.toList_inj.1
    have h3 := size_list vz
    rw [h2] at h3
    exact (List.length_eq_zero_iff.1 h3).trans rfl
  rw [this]
  rfl
section
variable {s : ByteArray} {a : Nat} {r : List UInt8} {n : Int} {most : Nat}
theorem num_get (h : s.data.toList.drop a = numP n ++ r) (h1 : n ≤ 4611686018427387904) : getL s.data.toList a = (n.toNat, ((a + (numP n).length : Nat) : Int), 0) := getL_drop (by unfold U64; omega) h
theorem numT_read (h : s.data.toList.drop a = numP n ++ r) (h0 : 0 ≤ n) (h1 : n ≤ 4611686018427387904) : numT s (a, false) = (n, ((a + (numP n).length : Nat) : Int), false) := by
  rw [numT_ok (num_get h h1) (by omega)]
  exact Prod.ext (by show ((n.toNat : Nat) : Int) = n; omega) rfl
theorem numM_read (h : s.data.toList.drop a = numP n ++ r) (h0 : 0 ≤ n) (h1 : n ≤ most) (hm : most ≤ 4611686018427387904) : numM s most (a, false) = (n, ((a + (numP n).length : Nat) : Int), false) := by
  rw [numM_ok (num_get h (by omega)) (by omega)]
  exact Prod.ext (by show ((n.toNat : Nat) : Int) = n; omega) rfl
theorem rankT_read {k : Rk} (h : s.data.toList.drop a = rankP k ++ r) (hn : I64 k.key.n) (hk : rankB k = true) : rankT s (a, false) = (k, ((a + (rankP k).length : Nat) : Int), false) := by
  obtain ⟨h1, h2, h3⟩ := rank_iff.1 hk
  rw [rankP, List.append_assoc] at h
  rw [rankT_ok (valG_put h hn (by have := plain_size h1; omega) (plain_null h1)), numT_read (drop_more h) h2 (by omega)]
  rw [rankP, List.length_append, Nat.add_assoc]
theorem rankM_read {k : Rk} (h : s.data.toList.drop a = rankP k ++ r) (hn : I64 k.key.n) (hk : rankB k = true) : rankM s (a, false) = (k, ((a + (rankP k).length : Nat) : Int), false) := by
  obtain ⟨h1, h2, h3⟩ := rank_iff.1 hk
  rw [rankP, List.append_assoc] at h
  rw [rankM_ok (valG_put h hn (by have := plain_size h1; omega) (plain_null h1)), numM_read (drop_more h) h2 (by omega) (by omega)]
  rw [rankP, List.length_append, Nat.add_assoc]
theorem entT_read {e : En} (h : s.data.toList.drop a = entP e ++ r) (hn : keysI e) (he : entB e = true) : entT s (a, false) = (e, ((a + (entP e).length : Nat) : Int), false) := by
  obtain ⟨h1, h2, h3, h4, h5, h6⟩ := ent_iff.1 he
  simp only [entP, List.append_assoc] at h
  have d1 := drop_more h
  have d2 := drop_more d1
  have d3 := drop_more d2
  have d4 := drop_more d3
  have d5 := drop_more d4
  unfold entT
  rw [numT_read h (by omega) (by omega)]; dsimp only
  rw [numT_read d1 (by omega) (by omega)]; dsimp only
  rw [numT_read d2 (by omega) (by omega)]; dsimp only
  rw [rankT_read d3 hn.1 h4]; dsimp only
  rw [rankT_read d4 hn.2 h5]; dsimp only
  rw [numT_read d5 (by omega) (by omega)]
  simp only [entP, List.length_append, Nat.add_assoc]
theorem entM_read {e : En} (h : s.data.toList.drop a = entP e ++ r) (hn : keysI e) (he : entB e = true) : entM s (a, false) = (e, ((a + (entP e).length : Nat) : Int), false) := by
  obtain ⟨h1, h2, h3, h4, h5, h6⟩ := ent_iff.1 he
  simp only [entP, List.append_assoc] at h
  have d1 := drop_more h
  have d2 := drop_more d1
  have d3 := drop_more d2
  have d4 := drop_more d3
  have d5 := drop_more d4
  unfold entM
  rw [numM_read h (by omega) (by omega) (by omega)]; dsimp only
  rw [numM_read d1 (by omega) (by omega) (by omega)]; dsimp only
  rw [numM_read d2 (by omega) (by omega) (by omega)]; dsimp only
  rw [rankM_read d3 hn.1 h4]; dsimp only
  rw [rankM_read d4 hn.2 h5]; dsimp only
  rw [numM_read d5 (by omega) (by omega) (by omega)]
  simp only [entP, List.length_append, Nat.add_assoc]
end
theorem entsM_read {s : ByteArray} : ∀ {l : List En} {a : Nat} {r : List UInt8}, s.data.toList.drop a = l.flatMap entP ++ r → (∀ e ∈ l, keysI e ∧ entB e = true) → entsM s l.length (a, false) = (l, ((a + (l.flatMap entP).length : Nat) : Int), false)
  | [], a, r, _, _ => by simp [entsM]
  | e :: l, a, r, h, hl => by
    rw [List.flatMap_cons, List.append_assoc] at h
    have h1 := hl e (by simp)
    rw [List.length_cons, entsM_next, entM_read h h1.1 h1.2]
    dsimp only
    rw [entsM_read (drop_more h) (fun x hx => hl x (by simp [hx]))]
    simp only [List.flatMap_cons, List.length_append, Nat.add_assoc]
theorem remsM_read {s : ByteArray} : ∀ {l : List Int} {a : Nat} {r : List UInt8}, s.data.toList.drop a = l.flatMap numP ++ r → (∀ e ∈ l, objB e = true) → remsM s l.length (a, false) = (l, ((a + (l.flatMap numP).length : Nat) : Int), false)
  | [], a, r, _, _ => by simp [remsM]
  | e :: l, a, r, h, hl => by
    rw [List.flatMap_cons, List.append_assoc] at h
    have h1 := obj_iff.1 (hl e (by simp))
    rw [List.length_cons, remsM_next, numM_read h (by omega) (by omega) (by omega)]
    dsimp only
    rw [remsM_read (drop_more h) (fun x hx => hl x (by simp [hx]))]
    simp only [List.flatMap_cons, List.length_append, Nat.add_assoc]
theorem entsT_read {s : ByteArray} {l : List En} {a : Nat} {r : List UInt8} (h : s.data.toList.drop a = l.flatMap entP ++ r) (hl : ∀ e ∈ l, keysI e ∧ entB e = true) : ∀ k, k ≤ l.length → entsT s k (a, false) = (l.take k, ((a + ((l.take k).flatMap entP).length : Nat) : Int), false)
  | 0, _ => by simp [entsT]
  | k + 1, hk => by
    have hk' : k < l.length := by omega
    have h1 := hl l[k] (List.getElem_mem hk')
    have hd : s.data.toList.drop (a + ((l.take k).flatMap entP).length) = entP l[k] ++ ((l.drop (k + 1)).flatMap entP ++ r) := by
      refine drop_more (p := (l.take k).flatMap entP) ?_
      rw [h]
      conv => lhs; rw [← List.take_append_drop k l, List.flatMap_append, List.drop_eq_getElem_cons hk', List.flatMap_cons]
      simp only [List.append_assoc]
    rw [entsT, entsT_read h hl k (by omega)]
    dsimp only
    rw [entT_read hd h1.1 h1.2]
    dsimp only
    rw [← List.take_append_getElem hk', List.flatMap_append, List.length_append, List.flatMap_cons, List.flatMap_nil, List.append_nil, Nat.add_assoc]
theorem remsT_read {s : ByteArray} {l : List Int} {a : Nat} {r : List UInt8} (h : s.data.toList.drop a = l.flatMap numP ++ r) (hl : ∀ e ∈ l, objB e = true) : ∀ k, k ≤ l.length → remsT s k (a, false) = (l.take k, ((a + ((l.take k).flatMap numP).length : Nat) : Int), false)
  | 0, _ => by simp [remsT]
  | k + 1, hk => by
    have hk' : k < l.length := by omega
    have h1 := obj_iff.1 (hl l[k] (List.getElem_mem hk'))
    have hd : s.data.toList.drop (a + ((l.take k).flatMap numP).length) = numP l[k] ++ ((l.drop (k + 1)).flatMap numP ++ r) := by
      refine drop_more (p := (l.take k).flatMap numP) ?_
      rw [h]
      conv => lhs; rw [← List.take_append_drop k l, List.flatMap_append, List.drop_eq_getElem_cons hk', List.flatMap_cons]
      simp only [List.append_assoc]
    rw [remsT, remsT_read h hl k (by omega)]
    dsimp only
    rw [numT_read hd (by omega) (by omega)]
    dsimp only
    rw [← List.take_append_getElem hk', List.flatMap_append, List.length_append, List.flatMap_cons, List.flatMap_nil, List.append_nil, Nat.add_assoc]

/-! ### A whole record -/
theorem body_parts {s : ByteArray} {r : Rc} (hs : s.data.toList = bodyP r) : s.data.toList.drop 1 = numP r.version ++ (numP r.nextSeq ++ (numP r.nextId ++ (numP (r.add.length : Int) ++ (r.add.flatMap entP ++ (numP (r.rem.length : Int) ++ (r.rem.flatMap numP ++ [])))))) := by
  rw [hs]
  simp only [bodyP, numP, List.append_assoc, List.cons_append, List.nil_append, List.drop_succ_cons, List.drop_zero, Int.toNat_natCast, List.append_nil]
theorem body_kind {s : ByteArray} {r : Rc} (hs : s.data.toList = bodyP r) (h : r.kind = 1 ∨ r.kind = 2) : byte0 s = r.kind := by
  unfold byte0
  rw [hs]
  rcases h with h | h <;> rw [bodyP, h] <;> rfl
theorem body_pos {s : ByteArray} {r : Rc} (hs : s.data.toList = bodyP r) : ¬ s.size = 0 := by
  have := congrArg List.length hs
  rw [size_list] at this
  simp only [bodyP, List.length_append, List.length_cons] at this
  omega
theorem decT_read {s : ByteArray} {r : Rc} (hs : s.data.toList = bodyP r) (hk : keysOk r) (h : chkR r = 0) : decT s = r := by
  obtain ⟨h1, ⟨v1, v2, q1, q2, hi⟩, h2, h3, h4, _, h5⟩ := chk_zero h
  have hi' := obj_iff.1 hi
  have d0 := body_parts hs
  have d1 := drop_more d0
  have d2 := drop_more d1
  have d3 := drop_more d2
  have d4 := drop_more d3
  have d5 := drop_more d4
  have d6 := drop_more d5
  have e3 := cntT_ok (numT_read d3 (by omega) (by omega)) (by omega)
  have e4 := entsT_read d4 (fun e he => ⟨hk e he, addOk_mem h4 he⟩) r.add.length (Nat.le_refl _)
  rw [List.take_length] at e4
  have e5 := cntT_ok (numT_read d5 (by omega) (by omega)) (by omega)
  have e6 := remsT_read d6 (fun e he => remOk_mem h5 he) r.rem.length (Nat.le_refl _)
  rw [List.take_length] at e6
  rw [decT, if_neg (body_pos hs)]
  dsimp only
  rw [show ((1 : Int), false) = (((1 : Nat) : Int), false) from rfl, numT_read d0 (by omega) (by omega)]; dsimp only
  rw [numT_read d1 (by omega) (by omega)]; dsimp only
  rw [numT_read d2 (by omega) (by omega)]; dsimp only
  rw [e3]; dsimp only
  rw [Int.toNat_natCast, e4]; dsimp only
  rw [e5]; dsimp only
  rw [Int.toNat_natCast, e6, body_kind hs h1]
theorem payM_read {s : ByteArray} {r : Rc} (hs : s.data.toList = bodyP r) (hk : keysOk r) (h : chkR r = 0) : payM s = (r, true) := by
  obtain ⟨h1, ⟨v1, v2, q1, q2, hi⟩, h2, h3, h4, _, h5⟩ := chk_zero h
  have hi' := obj_iff.1 hi
  have d0 := body_parts hs
  have d1 := drop_more d0
  have d2 := drop_more d1
  have d3 := drop_more d2
  have d4 := drop_more d3
  have d5 := drop_more d4
  have d6 := drop_more d5
  have e4 := entsM_read d4 (fun e he => ⟨hk e he, addOk_mem h4 he⟩)
  have e6 := remsM_read d6 (fun e he => remOk_mem h5 he)
  have hl : s.size = 1 + (numP r.version).length + (numP r.nextSeq).length + (numP r.nextId).length + (numP (r.add.length : Int)).length + (r.add.flatMap entP).length + (numP (r.rem.length : Int)).length + (r.rem.flatMap numP).length := by
    rw [← size_list, hs]
    simp only [bodyP, numP, List.length_append, List.length_cons, List.length_nil, Int.toNat_natCast]
  rw [payM, if_neg (body_pos hs)]
  dsimp only
  rw [show ((1 : Int), false) = (((1 : Nat) : Int), false) from rfl, numM_read d0 (by omega) (by omega) (by omega)]; dsimp only
  rw [numM_read d1 (by omega) (by omega) (by omega)]; dsimp only
  rw [numM_read d2 (by omega) (by omega) (by omega)]; dsimp only
  rw [numM_read d3 (by omega) (by omega) (by omega)]; dsimp only
  rw [Int.toNat_natCast, e4]; dsimp only
  rw [numM_read d5 (by omega) (by omega) (by omega)]; dsimp only
  rw [Int.toNat_natCast, e6, body_kind hs h1]; dsimp only
  rw [show (⟨r.kind, r.version, r.nextSeq, r.nextId, r.add, r.rem⟩ : Rc) = r from rfl, h, ← hl]
  simp

end Go.Proofs.Ytgacjpkgpegcdaa
/-! Plain law of layer 19: whatever the reference's decoder accepts is the encoding of its result. -/
namespace Go.Proofs.Ytgacjpkgpegcdaa
open Go.RowKit

/-- Unless something was wrong, the bytes between the two states are p. -/
def Rds (s : ByteArray) (st st' : St) (p : List UInt8) : Prop := st'.2 = false → st.2 = false ∧ ∀ k : Nat, st.1 = (k : Int) → ∃ m : Nat, st'.1 = ((k + m : Nat) : Int) ∧ s.data.toList.drop k = p ++ s.data.toList.drop (k + m)
section
variable {s : ByteArray} {st st1 st2 : St} {p q : List UInt8} {most : Nat}
theorem Rds.trans (h : Rds s st st1 p) (k : Rds s st1 st2 q) : Rds s st st2 (p ++ q) := fun h2 => by
  obtain ⟨h1, k1⟩ := k h2
  obtain ⟨h0, k0⟩ := h h1
  refine ⟨h0, fun n hn => ?_⟩
  obtain ⟨m, e1, d1⟩ := k0 n hn
  obtain ⟨m2, e2, d2⟩ := k1 (n + m) e1
  exact ⟨m + m2, by rw [e2]; congr 1; omega, by rw [d1, d2, List.append_assoc, Nat.add_assoc]⟩
theorem Rds.refl (s : ByteArray) (st : St) : Rds s st st [] := fun h => ⟨h, fun k hk => ⟨0, by simpa using hk, by simp⟩⟩
theorem numM_rds (s : ByteArray) (most : Nat) (st : St) : Rds s st (numM s most st).2 (numP (numM s most st).1) := by
  obtain ⟨a, b⟩ := st
  cases b
  · rcases getL_cases s.data.toList a with ⟨v, a0, m, ha, hg, hU, hm1, hle, hd⟩ | ⟨e, he, hg⟩
    · by_cases hv : most < v
      · rw [numM_big hg hv]; intro h; cases h
      · rw [numM_ok hg hv]
        refine fun _ => ⟨rfl, fun k hk => ?_⟩
        dsimp only at hk
        have : k = a0 := by omega
        subst this
        exact ⟨m, rfl, hd⟩
    · rw [numM_err hg he]; intro h; cases h
  · rw [numM_bad]; intro h; cases h
theorem valG_read {a j : Int} {x : Vl} (h : valG s a = (x, j, 0)) : I64 x.n ∧ ∀ k : Nat, a = (k : Int) → ∃ m : Nat, j = ((k + m : Nat) : Int) ∧ s.data.toList.drop k = valP x ++ s.data.toList.drop (k + m) := by
  by_cases h0 : a < 0 ∨ (s.size : Int) < a
  · rw [valG_out h0] at h; cases h
  · obtain ⟨n, rfl⟩ := Int.eq_ofNat_of_zero_le (show 0 ≤ a by omega)
    by_cases he : n = s.size
    · rw [valG_end he] at h; cases h
    · have hn : n < s.size := by omega
      have HB : s.data.toList[n]? = some s[n] := by
        rw [Array.getElem?_toList, Array.getElem?_eq_getElem (by simpa using hn)]; rfl
      have hd0 : s.data.toList.drop n = s[n] :: s.data.toList.drop (n + 1) := by
        obtain ⟨hl, hx⟩ := List.getElem?_eq_some_iff.1 HB
        rw [List.drop_eq_getElem_cons hl, hx]
      by_cases hb0 : s[n].toNat = 0
      · rw [valG_null HB hn hb0] at h
        cases h
        refine ⟨by show I64 0; unfold I64; omega, fun k hk => ⟨1, by omega, ?_⟩⟩
        have : k = n := by omega
        subst this
        rw [hd0, show s[k] = 0 from UInt8.toNat_inj.1 hb0]
        rfl
      · by_cases hb1 : 1 < s[n].toNat
        · rw [valG_form HB hn hb1] at h; cases h
        · have hb2 : s[n].toNat = 1 := by omega
          rcases getL_cases s.data.toList ((n : Int) + 1) with ⟨v, a0, m, ha, hg, hU, _, hle, hd⟩ | ⟨e, he1, hg⟩
          · rcases getL_cases s.data.toList ((a0 + m : Nat) : Int) with ⟨v2, a2, m2, ha2, hg2, _, _, hle2, hd2⟩ | ⟨e, he2, hg2⟩
            · by_cases hl : (s.size : Int) - ((a2 + m2 : Nat) : Int) < v2
              · rw [valG_short HB hn hb2 hg hg2 hl] at h; cases h
              · rw [valG_ok HB hn hb2 hg hg2 hl] at h
                cases h
                refine ⟨zagI_I64 hU, fun k hk => ⟨1 + m + m2 + v2, by omega, ?_⟩⟩
                have e1 : k = n := by omega
                subst e1
                have e2 : a0 = k + 1 := by omega
                subst e2
                have e3 : a2 = k + 1 + m := by omega
                subst e3
                have hz : (s.extract (k + 1 + m + m2) (k + 1 + m + m2 + v2)).size = v2 := by rw [ByteArray.size_extract]; omega
                rw [valP_some rfl, hd0, hd, hd2, hz, zig_zag, show s[k] = 1 from UInt8.toNat_inj.1 hb2]
                rw [ByteArray.data_extract, Array.toList_extract, List.extract_eq_take_drop, Nat.add_sub_cancel_left]
                have h3 := List.take_append_drop v2 (s.data.toList.drop (k + 1 + m + m2))
                rw [List.drop_drop] at h3
                rw [show k + (1 + m + m2 + v2) = k + 1 + m + m2 + v2 by omega]
                simp only [List.append_assoc, List.cons_append, List.nil_append]
                rw [h3]
            · rw [valG_e2 HB hn hb2 hg hg2 he2] at h
              exact absurd (congrArg (fun x : Vl × Int × Int => x.2.2) h) he2
          · rw [valG_e1 HB hn hb2 hg he1] at h
            exact absurd (congrArg (fun x : Vl × Int × Int => x.2.2) h) he1
theorem rankM_rds (s : ByteArray) (st : St) : Rds s st (rankM s st).2 (rankP (rankM s st).1) ∧ I64 (rankM s st).1.key.n := by
  obtain ⟨a, b⟩ := st
  have hz : I64 zRk.key.n := by show I64 0; unfold I64; omega
  cases b
  · obtain ⟨x, j, e, hv⟩ : ∃ x j e, valG s a = (x, j, e) := ⟨_, _, _, rfl⟩
    by_cases he : e = 0
    · subst he
      obtain ⟨h1, h2⟩ := valG_read hv
      rw [rankM_ok hv]
      refine ⟨?_, h1⟩
      refine Rds.trans (st1 := (j, false)) (p := valP x) (fun _ => ⟨rfl, h2⟩) (numM_rds s _ _)
    · rw [rankM_err hv he]; exact ⟨(fun h => by cases h), hz⟩
  · rw [rankM_bad]; exact ⟨(fun h => by cases h), hz⟩
theorem entM_rds (s : ByteArray) (st : St) : Rds s st (entM s st).2 (entP (entM s st).1) ∧ keysI (entM s st).1 := by
  unfold entM
  dsimp only
  exact ⟨((((((numM_rds s _ _).trans (numM_rds s _ _)).trans (numM_rds s _ _)).trans (rankM_rds s _).1).trans (rankM_rds s _).1).trans (numM_rds s _ _)), (rankM_rds s _).2, (rankM_rds s _).2⟩
theorem entsM_rds (s : ByteArray) : ∀ (n : Nat) (st : St), Rds s st (entsM s n st).2 ((entsM s n st).1.flatMap entP) ∧ (∀ e ∈ (entsM s n st).1, keysI e) ∧ ((entsM s n st).2.2 = false → (entsM s n st).1.length = n)
  | 0, st => ⟨Rds.refl s st, by simp [entsM], fun _ => rfl⟩
  | n + 1, (a, true) => by rw [entsM_bad]; exact ⟨(fun h => by cases h), by simp, (fun h => by cases h)⟩
  | n + 1, (a, false) => by
    obtain ⟨h1, h2, h3⟩ := entsM_rds s n (entM s (a, false)).2
    rw [entsM_next]
    refine ⟨?_, ?_, fun h => by simp [h3 h]⟩
    · rw [List.flatMap_cons]
      exact (entM_rds s _).1.trans h1
    · intro e he
      rcases List.mem_cons.1 he with rfl | he
      · exact (entM_rds s _).2
      · exact h2 e he
theorem remsM_rds (s : ByteArray) : ∀ (n : Nat) (st : St), Rds s st (remsM s n st).2 ((remsM s n st).1.flatMap numP) ∧ ((remsM s n st).2.2 = false → (remsM s n st).1.length = n)
  | 0, st => ⟨Rds.refl s st, fun _ => rfl⟩
  | n + 1, (a, true) => by rw [remsM_bad]; exact ⟨(fun h => by cases h), (fun h => by cases h)⟩
  | n + 1, (a, false) => by
    obtain ⟨h1, h3⟩ := remsM_rds s n (numM s 2147483647 (a, false)).2
    rw [remsM_next]
    refine ⟨?_, fun h => by simp [h3 h]⟩
    rw [List.flatMap_cons]
    exact (numM_rds s _ _).trans h1
end
theorem head_drop {l : List UInt8} (h : 0 < l.length) : l = l.headD 0 :: l.drop 1 := by
  cases l with
  | nil => simp at h
  | cons a t => rfl
theorem payM_inv {s : ByteArray} {r : Rc} (h : payM s = (r, true)) : chkR r = 0 ∧ bodyP r = s.data.toList ∧ keysOk r := by
  by_cases h0 : s.size = 0
  · rw [payM, if_pos h0] at h; cases h
  · rw [payM, if_neg h0] at h
    dsimp only at h
    have i1 := numM_rds s 2147483647 (1, false)
    generalize numM s 2147483647 (1, false) = x1 at *
    have i2 := numM_rds s 1099511627777 x1.2
    generalize numM s 1099511627777 x1.2 = x2 at *
    have i3 := numM_rds s 2147483647 x2.2
    generalize numM s 2147483647 x2.2 = x3 at *
    have i4 := numM_rds s 256 x3.2
    have g4 := numM_rng (most := 256) s x3.2
    generalize numM s 256 x3.2 = x4 at *
    have i5 := entsM_rds s x4.1.toNat x4.2
    generalize entsM s x4.1.toNat x4.2 = x5 at *
    have i6 := numM_rds s 256 x5.2
    have g6 := numM_rng (most := 256) s x5.2
    generalize numM s 256 x5.2 = x6 at *
    have i7 := remsM_rds s x6.1.toNat x6.2
    generalize remsM s x6.1.toNat x6.2 = x7 at *
    obtain ⟨rfl, hx⟩ := Prod.mk.inj h
    replace h := hx
    clear hx
    simp only [Bool.and_eq_true, Bool.not_eq_true', beq_iff_eq] at h
    obtain ⟨⟨hb, hat⟩, hc⟩ := h
    have l7 := i7.2 hb
    have l5 := i5.2.2 (i6 (i7.1 hb).1).1
    have hall := ((((((i1.trans i2).trans i3).trans i4).trans i5.1).trans i6).trans i7.1) hb
    obtain ⟨m, hm, hd⟩ := hall.2 1 rfl
    have hz : 0 < s.data.toList.length := by rw [size_list]; omega
    refine ⟨hc, ?_, i5.2.1⟩
    have hk : UInt8.ofNat (byte0 s).toNat = s.data.toList.headD 0 := by
      unfold byte0
      rw [Int.toNat_natCast, UInt8.ofNat_toNat]
    have hm2 : 1 + m = s.size := by omega
    have he : s.data.toList.drop s.size = [] := List.drop_eq_nil_of_le (by rw [size_list]; exact Nat.le_refl _)
    rw [hm2, he, List.append_nil] at hd
    rw [head_drop hz, hd]
    unfold bodyP
    dsimp only
    rw [hk, l5, l7]
    have n4 : numP x4.1 = putL x4.1.toNat := rfl
    have n6 : numP x6.1 = putL x6.1.toNat := rfl
    rw [n4, n6]
    simp only [List.append_assoc, List.cons_append, List.nil_append]

end Go.Proofs.Ytgacjpkgpegcdaa
/-! Plain law of layer 19: which record stands at the beginning of a file; that both scans' tests tell it. -/
namespace Go.Proofs.Ytgacjpkgpegcdaa
open Go.RowKit

theorem word_four {v : Nat} (hv : v < 4294967296) (r : List UInt8) : wordL (fourL v ++ r) 0 = v := by
  simp only [wordL, fourL, List.cons_append, List.nil_append, List.getD_cons_zero, List.getD_cons_succ, UInt8.toNat_ofNat']
  omega
theorem word_drop (t : List UInt8) (i : Nat) : wordL t i = wordL (t.drop i) 0 := by
  simp [wordL, List.getD_eq_getElem?_getD]
theorem four_word {t : List UInt8} (h : 4 ≤ t.length) : t.take 4 = fourL (wordL t 0) := by
  match t, h with
  | a :: b :: c :: d :: t, _ =>
    have ha := a.toNat_lt; have hb := b.toNat_lt; have hc := c.toNat_lt; have hd := d.toNat_lt
    simp only [wordL, fourL, List.getD_cons_zero, List.getD_cons_succ, List.take_succ_cons, List.take_zero]
    refine List.cons_eq_cons.2 ⟨?_, List.cons_eq_cons.2 ⟨?_, List.cons_eq_cons.2 ⟨?_, List.cons_eq_cons.2 ⟨?_, rfl⟩⟩⟩⟩ <;> (apply UInt8.toNat_inj.1; rw [UInt8.toNat_ofNat']; omega)
theorem word_lt (t : List UInt8) (i : Nat) : wordL t i < 4294967296 := by
  have ha := (t.getD i 0).toNat_lt; have hb := (t.getD (i + 1) 0).toNat_lt; have hc := (t.getD (i + 2) 0).toNat_lt; have hd := (t.getD (i + 3) 0).toNat_lt
  unfold wordL
  omega
/-- A checked record stands at the beginning. -/
def Stands (t : List UInt8) (r : Rc) : Prop := chkR r = 0 ∧ keysOk r ∧ encR r <+: t
/-- The payload that the first four bytes tell. -/
def payL (t : List UInt8) : ByteArray := ⟨((t.drop 4).take (wordL t 0)).toArray⟩
theorem payL_list (t : List UInt8) : (payL t).data.toList = (t.drop 4).take (wordL t 0) := rfl
theorem stands_pay {t : List UInt8} {r : Rc} (h : Stands t r) : wordL t 0 = (bodyP r).length ∧ (bodyP r).length + 8 ≤ t.length ∧ (payL t).data.toList = bodyP r ∧ wordL t ((bodyP r).length + 4) = crcL (t.take ((bodyP r).length + 4)) := by
  obtain ⟨h1, h2, u, rfl⟩ := h
  have hl := bodyP_len h2 h1
  obtain ⟨_, _, h3, h4, _⟩ := chk_zero h1
  have hlt : (bodyP r).length < 4294967296 := by omega
  have e0 : encR r ++ u = fourL (bodyP r).length ++ (bodyP r ++ (fourL (crcL (sealL (bodyP r))) ++ u)) := by simp only [encR, sealL, List.append_assoc]
  have hw : wordL (encR r ++ u) 0 = (bodyP r).length := by rw [e0]; exact word_four hlt _
  have et : (encR r ++ u).take ((bodyP r).length + 4) = sealL (bodyP r) := by
    rw [encR, List.append_assoc]
    refine List.take_left' ?_
    rw [sealL, List.length_append, fourL_len]; omega
  refine ⟨hw, by rw [List.length_append, encR_len]; omega, ?_, ?_⟩
  · rw [payL_list, hw, e0]
    rw [show (4 : Nat) = (fourL (bodyP r).length).length from rfl, List.drop_left, List.take_left]
  · rw [et, word_drop]
    have ed : (encR r ++ u).drop ((bodyP r).length + 4) = fourL (crcL (sealL (bodyP r))) ++ u := by
      rw [encR, List.append_assoc]
      refine List.drop_left' ?_
      rw [sealL, List.length_append, fourL_len]; omega
    rw [ed]
    exact word_four (crcL_lt _) _
theorem stands_dec {t : List UInt8} {r : Rc} (h : Stands t r) : decT (payL t) = r := decT_read (stands_pay h).2.2.1 h.2.1 h.1
theorem stands_payM {t : List UInt8} {r : Rc} (h : Stands t r) : payM (payL t) = (r, true) := payM_read (stands_pay h).2.2.1 h.2.1 h.1
theorem stands_uniq {t : List UInt8} {r r' : Rc} (h : Stands t r) (h' : Stands t r') : r = r' := (stands_dec h).symm.trans (stands_dec h')
/-- The reference's tests. -/
theorem stands_of_ref {t : List UInt8} {r : Rc} (hl : wordL t 0 + 8 ≤ t.length) (hc : wordL t (wordL t 0 + 4) = crcL (t.take (wordL t 0 + 4))) (hp : payM (payL t) = (r, true)) : Stands t r := by
  obtain ⟨h1, h2, h3⟩ := payM_inv hp
  refine ⟨h1, h3, ?_⟩
  rw [payL_list] at h2
  have e1 : sealL (bodyP r) = t.take (wordL t 0 + 4) := by
    rw [sealL, h2, List.length_take, List.length_drop, Nat.min_eq_left (by omega), ← four_word (by omega), Nat.add_comm (wordL t 0) 4, List.take_add]
  have e2 : encR r = t.take (wordL t 0 + 4 + 4) := by
    have e3 := four_word (t := t.drop (wordL t 0 + 4)) (by rw [List.length_drop]; omega)
    rw [← word_drop] at e3
    rw [encR, e1, ← hc, ← e3]
    exact (List.take_add (l := t) (i := wordL t 0 + 4) (j := 4)).symm
  rw [e2]
  exact List.take_prefix _ _
/-- The program's tests. -/
theorem decT_keys (s : ByteArray) : keysOk (decT s) := by
  have hr : ∀ st, I64 (rankT s st).1.key.n := by
    rintro ⟨a, b⟩
    have hz : I64 zRk.key.n := by show I64 0; unfold I64; omega
    cases b
    · obtain ⟨x, j, e, hv⟩ : ∃ x j e, valG s a = (x, j, e) := ⟨_, _, _, rfl⟩
      by_cases he : e = 0
      · subst he
        rw [rankT_ok hv]
        exact (valG_read hv).1
      · rw [rankT_err hv he]; exact hz
    · rw [rankT_bad]; exact hz
  have he : ∀ n st, ∀ e ∈ (entsT s n st).1, keysI e := by
    intro n st
    induction n with
    | zero => simp [entsT]
    | succ n ih =>
      intro e h
      rw [entsT] at h
      rcases List.mem_append.1 h with h | h
      · exact ih e h
      · rw [List.mem_singleton.1 h]
        exact ⟨hr _, hr _⟩
  unfold decT
  split
  · intro e h; cases h
  · exact he _ _
theorem stands_of_prog {t : List UInt8} (h : chkR (decT (payL t)) = 0) (hp : encR (decT (payL t)) <+: t) : Stands t (decT (payL t)) := ⟨h, decT_keys _, hp⟩

end Go.Proofs.Ytgacjpkgpegcdaa
/-! Plain law of layer 19: what a scan returns, as a relation. -/
namespace Go.Proofs.Ytgacjpkgpegcdaa
open Go.RowKit

/-- The records at the beginning of a file, and the number of their bytes. -/
inductive ScanR : List UInt8 → List Rc → Nat → Prop where
  | stop {t : List UInt8} (h : ∀ r, ¬ Stands t r) : ScanR t [] 0
  | more {t : List UInt8} {r : Rc} {l : List Rc} {n : Nat} (h : Stands t r) (k : ScanR (t.drop (encR r).length) l n) : ScanR t (r :: l) ((encR r).length + n)
theorem ScanR.one {t : List UInt8} {l l' : List Rc} {n n' : Nat} (h : ScanR t l n) : ScanR t l' n' → l = l' ∧ n = n' := by
  induction h generalizing l' n' with
  | stop h =>
    intro k
    cases k with
    | stop _ => exact ⟨rfl, rfl⟩
    | more h2 _ => exact absurd h2 (h _)
  | more h _ ih =>
    intro k
    cases k with
    | stop h2 => exact absurd h (h2 _)
    | more h2 k2 =>
      have e := stands_uniq h h2
      subst e
      obtain ⟨e1, e2⟩ := ih k2
      rw [e1, e2]
      exact ⟨rfl, rfl⟩
theorem stands_len {t : List UInt8} {r : Rc} (h : Stands t r) : (encR r).length ≤ t.length ∧ 8 ≤ (encR r).length := by
  obtain ⟨u, rfl⟩ := h.2.2
  rw [List.length_append, encR_len]
  omega
/-- What remains to be scanned, as it is told in a loop. -/
def ScanFrom (L : List UInt8) (at_ : Nat) (l : List Rc) : Prop := ∀ l' n, ScanR (L.drop at_) l' n → ScanR L (l ++ l') (at_ + n)
theorem ScanFrom.start (L : List UInt8) : ScanFrom L 0 [] := fun l' n h => by simpa using h
theorem ScanFrom.next {L : List UInt8} {at_ : Nat} {l : List Rc} {r : Rc} (h : ScanFrom L at_ l) (hs : Stands (L.drop at_) r) : ScanFrom L (at_ + (encR r).length) (l ++ [r]) := fun l' n k => by
  have h1 := h (r :: l') ((encR r).length + n) (ScanR.more hs (by rw [List.drop_drop]; exact k))
  rw [← Nat.add_assoc] at h1
  simpa using h1
theorem ScanFrom.done {L : List UInt8} {at_ : Nat} {l : List Rc} (h : ScanFrom L at_ l) (hs : ∀ r, ¬ Stands (L.drop at_) r) : ScanR L l at_ := by
  simpa using h [] 0 (.stop hs)
/-- There is no record at the beginning. -/
theorem no_short {t : List UInt8} (h : t.length < 8) (r : Rc) : ¬ Stands t r := fun k => by
  have := stands_len k
  omega
theorem no_size {t : List UInt8} (h : t.length < wordL t 0 + 8) (r : Rc) : ¬ Stands t r := fun k => by
  obtain ⟨h1, h2, _⟩ := stands_pay k
  omega
theorem no_crc {t : List UInt8} (h : wordL t (wordL t 0 + 4) ≠ crcL (t.take (wordL t 0 + 4))) (r : Rc) : ¬ Stands t r := fun k => by
  obtain ⟨h1, _, _, h2⟩ := stands_pay k
  exact h (by rw [h1]; exact h2)
theorem no_pay {t : List UInt8} {x : Rc} (h : payM (payL t) = (x, false)) (r : Rc) : ¬ Stands t r := fun k => by
  have := stands_payM k
  rw [h] at this
  exact absurd (congrArg Prod.snd this) (by simp)
theorem no_chk {t : List UInt8} (h : chkR (decT (payL t)) ≠ 0) (r : Rc) : ¬ Stands t r := fun k => h (by rw [stands_dec k]; exact k.1)
theorem no_pre {t : List UInt8} (h : ¬ encR (decT (payL t)) <+: t) (r : Rc) : ¬ Stands t r := fun k => h (by rw [stands_dec k]; exact k.2.2)
theorem no_len {t : List UInt8} (h : (encR (decT (payL t))).length ≠ wordL t 0 + 8) (r : Rc) : ¬ Stands t r := fun k => h (by rw [stands_dec k, (stands_pay k).1, encR_len])

end Go.Proofs.Ytgacjpkgpegcdaa
/-! A list of records, and slices.Clip of it. -/
namespace Go.Proofs.Ytgacjpkgpegcdaa
open Go.RowKit

/-- A record with its two slices. -/
structure RV where
  r : Rc
  v : Value
  v2 : Value
def recC (x : RV) : List Value := [.int .i64 x.r.kind, .int .i64 x.r.version, .int .i64 x.r.nextSeq, .int .i64 x.r.nextId, x.v, x.v2]
/-- Its lists lie outside the row v. -/
def InA (w : World) (v : Value) (x : RV) : Prop :=
  ∃ A c A2 c2, x.v = .slice A x.r.add.length c ∧ x.r.add.length ≤ c ∧ x.v2 = .slice A2 x.r.rem.length c2 ∧ x.r.rem.length ≤ c2 ∧ RdA w v A (x.r.add.flatMap entC) ∧ RdA w v A2 (x.r.rem.map Iv)
/-- A list of records that can be read. -/
def RecsAt (w : World) (A : Option Addr) (xs : List RV) : Prop :=
  Rd w w.heap.size A (xs.flatMap recC) ∧ ∀ x ∈ xs, ∃ A1 c1 A2 c2, x.v = .slice A1 x.r.add.length c1 ∧ x.r.add.length ≤ c1 ∧ x.v2 = .slice A2 x.r.rem.length c2 ∧ x.r.rem.length ≤ c2 ∧ Rd w w.heap.size A1 (x.r.add.flatMap entC) ∧ Rd w w.heap.size A2 (x.r.rem.map Iv)
theorem RecsAt.call {w w' : World} {A : Option Addr} {xs : List RV} (h : RecsAt w A xs) (hb : Below w.heap.size w w') : RecsAt w' A xs :=
  ⟨h.1.call hb, fun x hx => by
    obtain ⟨A1, c1, A2, c2, e1, l1, e2, l2, r1, r2⟩ := h.2 x hx
    exact ⟨A1, c1, A2, c2, e1, l1, e2, l2, r1.call hb, r2.call hb⟩⟩
abbrev zeroRcV : Value := .agg #[.int .i64 0, .int .i64 0, .int .i64 0, .int .i64 0, .slice none 0 0, .slice none 0 0]
theorem infoRc : (Try.prog.info? 31).map (fun i => (i.zero, i.size, i.bytes)) = some (some zeroRcV, 6, 80) := by kernel_rfl
theorem recs : SlTy Try.prog 22 31 zeroRcV 6 80 := ⟨Try.underlying22, info_parts infoRc⟩
set_option maxRecDepth 100000 in
theorem clip_any (A : Option Addr) (n c : Nat) (w : World) (hc : n ≤ c) : Calls Try.prog 33 #[.slice A n c] w fun e w' => e = .returned (.slice A n n) ∧ w = w' := by
  go_enter Try.func33, Try.ntmps33
  go_wp2
  go_ret
  exact ⟨rfl, rfl⟩

end Go.Proofs.Ytgacjpkgpegcdaa
/-! The reference's Scan. -/
namespace Go.Proofs.Ytgacjpkgpegcdaa
open Go.RowKit

/-- What a scan returns. -/
def ScanPost (w : World) (s : ByteArray) (e : Ending) (w' : World) : Prop :=
  ∃ (A : Option Addr) (c n : Nat) (xs : List RV), e = .returned (.tuple #[.slice A xs.length c, .int .i64 (n : Int)]) ∧ xs.length ≤ c ∧ n ≤ s.size ∧ RecsAt w' A xs ∧ (∀ x ∈ xs, chkR x.r = 0 ∧ keysOk x.r) ∧ ScanR s.data.toList (xs.map RV.r) n ∧ Below w.heap.size w w'
/-- A scan at work. -/
structure ScanI (w wr : World) (L : List UInt8) (v : Value) (xs : List RV) (i : Nat) : Prop where
  own : Own w wr 31 6 v xs.length (xs.flatMap recC)
  lie : ∀ x ∈ xs, InA wr v x
  ok : ∀ x ∈ xs, chkR x.r = 0 ∧ keysOk x.r
  frm : ScanFrom L i (xs.map RV.r)
  sm : xs.length * 8 ≤ i
theorem InA.call {w w' : World} {v : Value} {x : RV} (h : InA w v x) (hb : Below w.heap.size w w') : InA w' v x := by
  obtain ⟨A, c, A2, c2, e1, l1, e2, l2, r1, r2⟩ := h
  exact ⟨A, c, A2, c2, e1, l1, e2, l2, r1.call hb, r2.call hb⟩
theorem Own.below {w0 w w' : World} {e : TypeId} {size n : Nat} {v : Value} {xs : List Value} (h : Own w0 w e size v n xs) (hb : Below w.heap.size w w') : Own w0 w' e size v n xs := h.call hb
theorem ScanI.call {w wr w' : World} {L : List UInt8} {v : Value} {xs : List RV} {i : Nat} (h : ScanI w wr L v xs i) (hb : Below wr.heap.size wr w') : ScanI w w' L v xs i :=
  ⟨h.own.call hb, fun x hx => (h.lie x hx).call hb, h.ok, h.frm, h.sm⟩
theorem ScanI.start (w : World) (L : List UInt8) : ScanI w w L (.slice none 0 0) [] 0 := ⟨Own.nil _ _ _, by simp, by simp, ScanFrom.start L, by simp⟩
/-- The end of a scan. -/
theorem ScanI.post {w wr : World} {s : ByteArray} {A : Option Addr} {q c i : Nat} {xs : List RV} (h : ScanI w wr s.data.toList (.slice A q c) xs i) (hi : i ≤ s.size) (hs : ∀ r, ¬ Stands (s.data.toList.drop i) r) : ScanPost w s (.returned (.tuple #[.slice A q c, .int .i64 (i : Int)])) wr := by
  obtain ⟨rfl, hc⟩ := own_len h.own.1
  refine ⟨A, c, i, xs, rfl, hc, hi, ⟨Rd.of_own h.own.1, fun x hx => ?_⟩, h.ok, h.frm.done hs, h.own.2⟩
  obtain ⟨A1, c1, A2, c2, e1, l1, e2, l2, r1, r2⟩ := h.lie x hx
  exact ⟨A1, c1, A2, c2, e1, l1, e2, l2, r1.rd, r2.rd⟩
/-- A scan with the next record in a variable. -/
structure ScanX (w wr : World) (L : List UInt8) (v : Value) (xs : List RV) (i g : Nat) (x : RV) : Prop where
  scn : ScanI w wr L v xs i
  blk : Blk wr g 31 (recC x)
  lie : InA wr v x
theorem ScanX.call {w wr w' : World} {L : List UInt8} {v : Value} {xs : List RV} {i g : Nat} {x : RV} (h : ScanX w wr L v xs i g x) (hb : Below wr.heap.size wr w') : ScanX w w' L v xs i g x := ⟨h.scn.call hb, h.blk.call hb, h.lie.call hb⟩
theorem ScanX.begin {w w3 w4 : World} {L : List UInt8} {v : Value} {xs : List RV} {i : Nat} {x : RV} (h : ScanI w w3 L v xs i) (o1 : w4.ownsRow w3.heap.size 40 12 x.v x.r.add.length (x.r.add.flatMap entC)) (o2 : w4.ownsRow w3.heap.size 3 1 x.v2 x.r.rem.length (x.r.rem.map Iv)) (hb : Below w3.heap.size w3 w4) :
    ScanX w (w4.alloc (.cells #[.int .i64 x.r.kind, .int .i64 x.r.version, .int .i64 x.r.nextSeq, .int .i64 x.r.nextId, x.v, x.v2] 31)) L v xs i w4.heap.size x := by
  have h1 := Blk.new' w4 31 #[.int .i64 x.r.kind, .int .i64 x.r.version, .int .i64 x.r.nextSeq, .int .i64 x.r.nextId, x.v, x.v2]
  have hX : Below w4.heap.size w4 (w4.alloc (.cells #[.int .i64 x.r.kind, .int .i64 x.r.version, .int .i64 x.r.nextSeq, .int .i64 x.r.nextId, x.v, x.v2] 31)) := (Below.refl _ _).alloc (Nat.le_refl _) _
  obtain ⟨A, c, e1, l1⟩ := own_form o1
  have k1 := o1
  rw [e1] at k1
  obtain ⟨A2, c2, e2, l2⟩ := own_form o2
  have k2 := o2
  rw [e2] at k2
  have hl : InA w4 v x := ⟨A, c, A2, c2, e1, l1, e2, l2, RdA.new h.own k1, RdA.new h.own k2⟩
  exact ⟨(h.call hb).call hX, h1, hl.call hX⟩
theorem one_rc (r : Rc) (A A2 : Option Addr) (q c q2 c2 : Nat) : ∀ u ∈ recC ⟨r, .slice A q c, .slice A2 q2 c2⟩, u.oneCell' = true := by
  intro u hu
  simp only [recC, List.mem_cons, List.not_mem_nil, or_false] at hu
  rcases hu with rfl | rfl | rfl | rfl | rfl | rfl <;> rfl
/-- The record is appended. -/
theorem ScanI.next {w wz w' : World} {L : List UInt8} {v v' : Value} {xs : List RV} {i : Nat} {x : RV} (h : ScanI w wz L v xs i) (hin : InA wz v x) (hx : chkR x.r = 0 ∧ keysOk x.r) (hs : Stands (L.drop i) x.r) (ha : After2 w wz 31 6 v xs.length (xs.flatMap recC) (recC x) v' w') : ScanI w w' L v' (xs ++ [x]) (i + (encR x.r).length) := by
  have hm : ∀ y, InA wz v y → InA w' v' y := fun y hy => by
    obtain ⟨A, c, A2, c2, e1, l1, e2, l2, r1, r2⟩ := hy
    exact ⟨A, c, A2, c2, e1, l1, e2, l2, ha.2 _ _ r1, ha.2 _ _ r2⟩
  have h8 := (stands_len hs).2
  have hsm := h.sm
  refine ⟨?_, fun y hy => ?_, fun y hy => ?_, ?_, by rw [List.length_append, List.length_singleton]; omega⟩
  · have := ha.1
    rw [List.length_append, List.length_singleton, List.flatMap_append]
    simpa using this
  · rcases List.mem_append.1 hy with h1 | h1
    · exact hm y (h.lie y h1)
    · rw [List.mem_singleton.1 h1]; exact hm x hin
  · rcases List.mem_append.1 hy with h1 | h1
    · exact h.ok y h1
    · rw [List.mem_singleton.1 h1]; exact hx
  · rw [List.map_append]
    exact h.frm.next hs
theorem pay_ext {T : ByteArray} {L : List UInt8} {N : Nat} (h : T.data.toList = L) (hN : wordL T.data.toList 0 = N) : T.extract 4 (N + 4) = payL L := by
  subst h; subst hN
  apply ByteArray.ext
  apply Array.toList_inj.1
  rw [ByteArray.data_extract, Array.toList_extract, List.extract_eq_take_drop]
  simp [payL]
theorem payL_size (L : List UInt8) : (payL L).size ≤ L.length := by
  show ((L.drop 4).take _).toArray.size ≤ _
  simp
  omega

end Go.Proofs.Ytgacjpkgpegcdaa
