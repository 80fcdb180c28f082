/-
  Plain law of layer 19: which record stands at the beginning of a file; that both scans' tests tell it.
-/
import Derived.Test.YtgacjpkgpegcdaaMInv
import Derived.Test.YtgacjpkgpegcdaaMFour
namespace Go.Proofs.Ytgacjpkgpegcdaa
open Go.RowKit

theorem word_four {v : Nat} (hv : v < 4294967296) (r : List UInt8) : wordL (fourL v ++ r) 0 = v := by
  simp only [wordL, fourL, List.cons_append, List.nil_append, List.getD_cons_zero, List.getD_cons_succ, UInt8.toNat_ofNat']
  omega
theorem word_drop (t : List UInt8) (i : Nat) : wordL t i = wordL (t.drop i) 0 := by
  simp [wordL, List.getD_eq_getElem?_getD]
theorem four_word {t : List UInt8} (h : 4 ≤ t.length) : t.take 4 = fourL (wordL t 0) := by
  match t, h with
  | a :: b :: c :: d :: t, _ =>
    have ha := a.toNat_lt; have hb := b.toNat_lt; have hc := c.toNat_lt; have hd := d.toNat_lt
    simp only [wordL, fourL, List.getD_cons_zero, List.getD_cons_succ, List.take_succ_cons, List.take_zero]
    refine List.cons_eq_cons.2 ⟨?_, List.cons_eq_cons.2 ⟨?_, List.cons_eq_cons.2 ⟨?_, List.cons_eq_cons.2 ⟨?_, rfl⟩⟩⟩⟩ <;> (apply UInt8.toNat_inj.1; rw [UInt8.toNat_ofNat']; omega)
theorem word_lt (t : List UInt8) (i : Nat) : wordL t i < 4294967296 := by
  have ha := (t.getD i 0).toNat_lt; have hb := (t.getD (i + 1) 0).toNat_lt; have hc := (t.getD (i + 2) 0).toNat_lt; have hd := (t.getD (i + 3) 0).toNat_lt
  unfold wordL
  omega
/-- A checked record stands at the beginning. -/
def Stands (t : List UInt8) (r : Rc) : Prop := chkR r = 0 ∧ keysOk r ∧ encR r <+: t
/-- The payload that the first four bytes tell. -/
def payL (t : List UInt8) : ByteArray := ⟨((t.drop 4).take (wordL t 0)).toArray⟩
theorem payL_list (t : List UInt8) : (payL t).data.toList = (t.drop 4).take (wordL t 0) := rfl
theorem stands_pay {t : List UInt8} {r : Rc} (h : Stands t r) : wordL t 0 = (bodyP r).length ∧ (bodyP r).length + 8 ≤ t.length ∧ (payL t).data.toList = bodyP r ∧ wordL t ((bodyP r).length + 4) = crcL (t.take ((bodyP r).length + 4)) := by
  obtain ⟨h1, h2, u, rfl⟩ := h
  have hl := bodyP_len h2 h1
  obtain ⟨_, _, h3, h4, _⟩ := chk_zero h1
  have hlt : (bodyP r).length < 4294967296 := by omega
  have e0 : encR r ++ u = fourL (bodyP r).length ++ (bodyP r ++ (fourL (crcL (sealL (bodyP r))) ++ u)) := by simp only [encR, sealL, List.append_assoc]
  have hw : wordL (encR r ++ u) 0 = (bodyP r).length := by rw [e0]; exact word_four hlt _
  have et : (encR r ++ u).take ((bodyP r).length + 4) = sealL (bodyP r) := by
    rw [encR, List.append_assoc]
    refine List.take_left' ?_
    rw [sealL, List.length_append, fourL_len]; omega
  refine ⟨hw, by rw [List.length_append, encR_len]; omega, ?_, ?_⟩
  · rw [payL_list, hw, e0]
    rw [show (4 : Nat) = (fourL (bodyP r).length).length from rfl, List.drop_left, List.take_left]
  · rw [et, word_drop]
    have ed : (encR r ++ u).drop ((bodyP r).length + 4) = fourL (crcL (sealL (bodyP r))) ++ u := by
      rw [encR, List.append_assoc]
      refine List.drop_left' ?_
      rw [sealL, List.length_append, fourL_len]; omega
    rw [ed]
    exact word_four (crcL_lt _) _
theorem stands_dec {t : List UInt8} {r : Rc} (h : Stands t r) : decT (payL t) = r := decT_read (stands_pay h).2.2.1 h.2.1 h.1
theorem stands_payM {t : List UInt8} {r : Rc} (h : Stands t r) : payM (payL t) = (r, true) := payM_read (stands_pay h).2.2.1 h.2.1 h.1
theorem stands_uniq {t : List UInt8} {r r' : Rc} (h : Stands t r) (h' : Stands t r') : r = r' := (stands_dec h).symm.trans (stands_dec h')
/-- The reference's tests. -/
theorem stands_of_ref {t : List UInt8} {r : Rc} (hl : wordL t 0 + 8 ≤ t.length) (hc : wordL t (wordL t 0 + 4) = crcL (t.take (wordL t 0 + 4))) (hp : payM (payL t) = (r, true)) : Stands t r := by
  obtain ⟨h1, h2, h3⟩ := payM_inv hp
  refine ⟨h1, h3, ?_⟩
  rw [payL_list] at h2
  have e1 : sealL (bodyP r) = t.take (wordL t 0 + 4) := by
    rw [sealL, h2, List.length_take, List.length_drop, Nat.min_eq_left (by omega), ← four_word (by omega), Nat.add_comm (wordL t 0) 4, List.take_add]
  have e2 : encR r = t.take (wordL t 0 + 4 + 4) := by
    have e3 := four_word (t := t.drop (wordL t 0 + 4)) (by rw [List.length_drop]; omega)
    rw [← word_drop] at e3
    rw [encR, e1, ← hc, ← e3]
    exact (List.take_add (l := t) (i := wordL t 0 + 4) (j := 4)).symm
  rw [e2]
  exact List.take_prefix _ _
/-- The program's tests. -/
theorem decT_keys (s : ByteArray) : keysOk (decT s) := by
  have hr : ∀ st, I64 (rankT s st).1.key.n := by
    rintro ⟨a, b⟩
    have hz : I64 zRk.key.n := by show I64 0; unfold I64; omega
    cases b
    · obtain ⟨x, j, e, hv⟩ : ∃ x j e, valG s a = (x, j, e) := ⟨_, _, _, rfl⟩
      by_cases he : e = 0
      · subst he
        rw [rankT_ok hv]
        exact (valG_read hv).1
      · rw [rankT_err hv he]; exact hz
    · rw [rankT_bad]; exact hz
  have he : ∀ n st, ∀ e ∈ (entsT s n st).1, keysI e := by
    intro n st
    induction n with
    | zero => simp [entsT]
    | succ n ih =>
      intro e h
      rw [entsT] at h
      rcases List.mem_append.1 h with h | h
      · exact ih e h
      · rw [List.mem_singleton.1 h]
        exact ⟨hr _, hr _⟩
  unfold decT
  split
  · intro e h; cases h
  · exact he _ _
theorem stands_of_prog {t : List UInt8} (h : chkR (decT (payL t)) = 0) (hp : encR (decT (payL t)) <+: t) : Stands t (decT (payL t)) := ⟨h, decT_keys _, hp⟩

end Go.Proofs.Ytgacjpkgpegcdaa
