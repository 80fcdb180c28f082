/-
  Plain law of layer 19: whatever the reference's decoder accepts is the encoding of its result.
-/
import Derived.Test.YtgacjpkgpegcdaaMCan
namespace Go.Proofs.Ytgacjpkgpegcdaa
open Go.RowKit

/-- Unless something was wrong, the bytes between the two states are p. -/
def Rds (s : ByteArray) (st st' : St) (p : List UInt8) : Prop := st'.2 = false → st.2 = false ∧ ∀ k : Nat, st.1 = (k : Int) → ∃ m : Nat, st'.1 = ((k + m : Nat) : Int) ∧ s.data.toList.drop k = p ++ s.data.toList.drop (k + m)
section
variable {s : ByteArray} {st st1 st2 : St} {p q : List UInt8} {most : Nat}
theorem Rds.trans (h : Rds s st st1 p) (k : Rds s st1 st2 q) : Rds s st st2 (p ++ q) := fun h2 => by
  obtain ⟨h1, k1⟩ := k h2
  obtain ⟨h0, k0⟩ := h h1
  refine ⟨h0, fun n hn => ?_⟩
  obtain ⟨m, e1, d1⟩ := k0 n hn
  obtain ⟨m2, e2, d2⟩ := k1 (n + m) e1
  exact ⟨m + m2, by rw [e2]; congr 1; omega, by rw [d1, d2, List.append_assoc, Nat.add_assoc]⟩
theorem Rds.refl (s : ByteArray) (st : St) : Rds s st st [] := fun h => ⟨h, fun k hk => ⟨0, by simpa using hk, by simp⟩⟩
theorem numM_rds (s : ByteArray) (most : Nat) (st : St) : Rds s st (numM s most st).2 (numP (numM s most st).1) := by
  obtain ⟨a, b⟩ := st
  cases b
  · rcases getL_cases s.data.toList a with ⟨v, a0, m, ha, hg, hU, hm1, hle, hd⟩ | ⟨e, he, hg⟩
    · by_cases hv : most < v
      · rw [numM_big hg hv]; intro h; cases h
      · rw [numM_ok hg hv]
        refine fun _ => ⟨rfl, fun k hk => ?_⟩
        dsimp only at hk
        have : k = a0 := by omega
        subst this
        exact ⟨m, rfl, hd⟩
    · rw [numM_err hg he]; intro h; cases h
  · rw [numM_bad]; intro h; cases h
theorem valG_read {a j : Int} {x : Vl} (h : valG s a = (x, j, 0)) : I64 x.n ∧ ∀ k : Nat, a = (k : Int) → ∃ m : Nat, j = ((k + m : Nat) : Int) ∧ s.data.toList.drop k = valP x ++ s.data.toList.drop (k + m) := by
  by_cases h0 : a < 0 ∨ (s.size : Int) < a
  · rw [valG_out h0] at h; cases h
  · obtain ⟨n, rfl⟩ := Int.eq_ofNat_of_zero_le (show 0 ≤ a by omega)
    by_cases he : n = s.size
    · rw [valG_end he] at h; cases h
    · have hn : n < s.size := by omega
      have HB : s.data.toList[n]? = some s[n] := by
        rw [Array.getElem?_toList, Array.getElem?_eq_getElem (by simpa using hn)]; rfl
      have hd0 : s.data.toList.drop n = s[n] :: s.data.toList.drop (n + 1) := by
        obtain ⟨hl, hx⟩ := List.getElem?_eq_some_iff.1 HB
        rw [List.drop_eq_getElem_cons hl, hx]
      by_cases hb0 : s[n].toNat = 0
      · rw [valG_null HB hn hb0] at h
        cases h
        refine ⟨by show I64 0; unfold I64; omega, fun k hk => ⟨1, by omega, ?_⟩⟩
        have : k = n := by omega
        subst this
        rw [hd0, show s[k] = 0 from UInt8.toNat_inj.1 hb0]
        rfl
      · by_cases hb1 : 1 < s[n].toNat
        · rw [valG_form HB hn hb1] at h; cases h
        · have hb2 : s[n].toNat = 1 := by omega
          rcases getL_cases s.data.toList ((n : Int) + 1) with ⟨v, a0, m, ha, hg, hU, _, hle, hd⟩ | ⟨e, he1, hg⟩
          · rcases getL_cases s.data.toList ((a0 + m : Nat) : Int) with ⟨v2, a2, m2, ha2, hg2, _, _, hle2, hd2⟩ | ⟨e, he2, hg2⟩
            · by_cases hl : (s.size : Int) - ((a2 + m2 : Nat) : Int) < v2
              · rw [valG_short HB hn hb2 hg hg2 hl] at h; cases h
              · rw [valG_ok HB hn hb2 hg hg2 hl] at h
                cases h
                refine ⟨zagI_I64 hU, fun k hk => ⟨1 + m + m2 + v2, by omega, ?_⟩⟩
                have e1 : k = n := by omega
                subst e1
                have e2 : a0 = k + 1 := by omega
                subst e2
                have e3 : a2 = k + 1 + m := by omega
                subst e3
                have hz : (s.extract (k + 1 + m + m2) (k + 1 + m + m2 + v2)).size = v2 := by rw [ByteArray.size_extract]; omega
                rw [valP_some rfl, hd0, hd, hd2, hz, zig_zag, show s[k] = 1 from UInt8.toNat_inj.1 hb2]
                rw [ByteArray.data_extract, Array.toList_extract, List.extract_eq_take_drop, Nat.add_sub_cancel_left]
                have h3 := List.take_append_drop v2 (s.data.toList.drop (k + 1 + m + m2))
                rw [List.drop_drop] at h3
                rw [show k + (1 + m + m2 + v2) = k + 1 + m + m2 + v2 by omega]
                simp only [List.append_assoc, List.cons_append, List.nil_append]
                rw [h3]
            · rw [valG_e2 HB hn hb2 hg hg2 he2] at h
              exact absurd (congrArg (fun x : Vl × Int × Int => x.2.2) h) he2
          · rw [valG_e1 HB hn hb2 hg he1] at h
            exact absurd (congrArg (fun x : Vl × Int × Int => x.2.2) h) he1
theorem rankM_rds (s : ByteArray) (st : St) : Rds s st (rankM s st).2 (rankP (rankM s st).1) ∧ I64 (rankM s st).1.key.n := by
  obtain ⟨a, b⟩ := st
  have hz : I64 zRk.key.n := by show I64 0; unfold I64; omega
  cases b
  · obtain ⟨x, j, e, hv⟩ : ∃ x j e, valG s a = (x, j, e) := ⟨_, _, _, rfl⟩
    by_cases he : e = 0
    · subst he
      obtain ⟨h1, h2⟩ := valG_read hv
      rw [rankM_ok hv]
      refine ⟨?_, h1⟩
      refine Rds.trans (st1 := (j, false)) (p := valP x) (fun _ => ⟨rfl, h2⟩) (numM_rds s _ _)
    · rw [rankM_err hv he]; exact ⟨(fun h => by cases h), hz⟩
  · rw [rankM_bad]; exact ⟨(fun h => by cases h), hz⟩
theorem entM_rds (s : ByteArray) (st : St) : Rds s st (entM s st).2 (entP (entM s st).1) ∧ keysI (entM s st).1 := by
  unfold entM
  dsimp only
  exact ⟨((((((numM_rds s _ _).trans (numM_rds s _ _)).trans (numM_rds s _ _)).trans (rankM_rds s _).1).trans (rankM_rds s _).1).trans (numM_rds s _ _)), (rankM_rds s _).2, (rankM_rds s _).2⟩
theorem entsM_rds (s : ByteArray) : ∀ (n : Nat) (st : St), Rds s st (entsM s n st).2 ((entsM s n st).1.flatMap entP) ∧ (∀ e ∈ (entsM s n st).1, keysI e) ∧ ((entsM s n st).2.2 = false → (entsM s n st).1.length = n)
  | 0, st => ⟨Rds.refl s st, by simp [entsM], fun _ => rfl⟩
  | n + 1, (a, true) => by rw [entsM_bad]; exact ⟨(fun h => by cases h), by simp, (fun h => by cases h)⟩
  | n + 1, (a, false) => by
    obtain ⟨h1, h2, h3⟩ := entsM_rds s n (entM s (a, false)).2
    rw [entsM_next]
    refine ⟨?_, ?_, fun h => by simp [h3 h]⟩
    · rw [List.flatMap_cons]
      exact (entM_rds s _).1.trans h1
    · intro e he
      rcases List.mem_cons.1 he with rfl | he
      · exact (entM_rds s _).2
      · exact h2 e he
theorem remsM_rds (s : ByteArray) : ∀ (n : Nat) (st : St), Rds s st (remsM s n st).2 ((remsM s n st).1.flatMap numP) ∧ ((remsM s n st).2.2 = false → (remsM s n st).1.length = n)
  | 0, st => ⟨Rds.refl s st, fun _ => rfl⟩
  | n + 1, (a, true) => by rw [remsM_bad]; exact ⟨(fun h => by cases h), (fun h => by cases h)⟩
  | n + 1, (a, false) => by
    obtain ⟨h1, h3⟩ := remsM_rds s n (numM s 2147483647 (a, false)).2
    rw [remsM_next]
    refine ⟨?_, fun h => by simp [h3 h]⟩
    rw [List.flatMap_cons]
    exact (numM_rds s _ _).trans h1
end
theorem head_drop {l : List UInt8} (h : 0 < l.length) : l = l.headD 0 :: l.drop 1 := by
  cases l with
  | nil => simp at h
  | cons a t => rfl
theorem payM_inv {s : ByteArray} {r : Rc} (h : payM s = (r, true)) : chkR r = 0 ∧ bodyP r = s.data.toList ∧ keysOk r := by
  by_cases h0 : s.size = 0
  · rw [payM, if_pos h0] at h; cases h
  · rw [payM, if_neg h0] at h
    dsimp only at h
    have i1 := numM_rds s 2147483647 (1, false)
    generalize numM s 2147483647 (1, false) = x1 at *
    have i2 := numM_rds s 1099511627777 x1.2
    generalize numM s 1099511627777 x1.2 = x2 at *
    have i3 := numM_rds s 2147483647 x2.2
    generalize numM s 2147483647 x2.2 = x3 at *
    have i4 := numM_rds s 256 x3.2
    have g4 := numM_rng (most := 256) s x3.2
    generalize numM s 256 x3.2 = x4 at *
    have i5 := entsM_rds s x4.1.toNat x4.2
    generalize entsM s x4.1.toNat x4.2 = x5 at *
    have i6 := numM_rds s 256 x5.2
    have g6 := numM_rng (most := 256) s x5.2
    generalize numM s 256 x5.2 = x6 at *
    have i7 := remsM_rds s x6.1.toNat x6.2
    generalize remsM s x6.1.toNat x6.2 = x7 at *
    obtain ⟨rfl, hx⟩ := Prod.mk.inj h
    replace h := hx
    clear hx
    simp only [Bool.and_eq_true, Bool.not_eq_true', beq_iff_eq] at h
    obtain ⟨⟨hb, hat⟩, hc⟩ := h
    have l7 := i7.2 hb
    have l5 := i5.2.2 (i6 (i7.1 hb).1).1
    have hall := ((((((i1.trans i2).trans i3).trans i4).trans i5.1).trans i6).trans i7.1) hb
    obtain ⟨m, hm, hd⟩ := hall.2 1 rfl
    have hz : 0 < s.data.toList.length := by rw [size_list]; omega
    refine ⟨hc, ?_, i5.2.1⟩
    have hk : UInt8.ofNat (byte0 s).toNat = s.data.toList.headD 0 := by
      unfold byte0
      rw [Int.toNat_natCast, UInt8.ofNat_toNat]
    have hm2 : 1 + m = s.size := by omega
    have he : s.data.toList.drop s.size = [] := List.drop_eq_nil_of_le (by rw [size_list]; exact Nat.le_refl _)
    rw [hm2, he, List.append_nil] at hd
    rw [head_drop hz, hd]
    unfold bodyP
    dsimp only
    rw [hk, l5, l7]
    have n4 : numP x4.1 = putL x4.1.toNat := rfl
    have n6 : numP x6.1 = putL x6.1.toNat := rfl
    rw [n4, n6]
    simp only [List.append_assoc, List.cons_append, List.nil_append]

end Go.Proofs.Ytgacjpkgpegcdaa
