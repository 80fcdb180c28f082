/-
  What is read of the bytes of a value: value.Get and the reference's.
-/
import Derived.Test.YtgacjpkgpegcdaaVVal
import Derived.Test.YtgacjpkgpegcdaaRegL
namespace Go.Proofs.Ytgacjpkgpegcdaa
open Go.RowKit

/-- What is read at an index: the value, the index behind it, the error. -/
def valG (s : ByteArray) (i : Int) : Vl × Int × Int :=
  if i < 0 ∨ (s.size : Int) < i then (zeroVl0, 0, 4) else
  match s.data.toList[i.toNat]? with
  | none => (zeroVl0, 0, 10)
  | some b => if b.toNat = 0 then (nullVl, i + 1, 0) else if b.toNat = 1 then
      (if (getL s.data.toList (i + 1)).2.2 = 0 then
        (if (getL s.data.toList (getL s.data.toList (i + 1)).2.1).2.2 = 0 then
          (if (s.size : Int) - (getL s.data.toList (getL s.data.toList (i + 1)).2.1).2.1 < (getL s.data.toList (getL s.data.toList (i + 1)).2.1).1 then (zeroVl0, 0, 10)
          else (⟨false, zagI (getL s.data.toList (i + 1)).1, s.extract (getL s.data.toList (getL s.data.toList (i + 1)).2.1).2.1.toNat ((getL s.data.toList (getL s.data.toList (i + 1)).2.1).2.1.toNat + (getL s.data.toList (getL s.data.toList (i + 1)).2.1).1)⟩, (getL s.data.toList (getL s.data.toList (i + 1)).2.1).2.1 + (getL s.data.toList (getL s.data.toList (i + 1)).2.1).1, 0))
        else (zeroVl0, 0, (getL s.data.toList (getL s.data.toList (i + 1)).2.1).2.2))
      else (zeroVl0, 0, (getL s.data.toList (i + 1)).2.2))
    else (zeroVl0, 0, 2)
section
variable {s : ByteArray} {i : Int} {n : Nat}
theorem valG_out (h : i < 0 ∨ (s.size : Int) < i) : valG s i = (zeroVl0, 0, 4) := if_pos h
theorem valG_end (h : n = s.size) : valG s n = (zeroVl0, 0, 10) := by
  unfold valG
  rw [if_neg (by omega), show ((n : Int)).toNat = n from rfl, List.getElem?_eq_none (by simp; omega)]
theorem valG_at {b : UInt8} (h : s.data.toList[n]? = some b) (hn : n < s.size) : valG s n = if b.toNat = 0 then (nullVl, (n : Int) + 1, 0) else if b.toNat = 1 then
      (if (getL s.data.toList ((n : Int) + 1)).2.2 = 0 then
        (if (getL s.data.toList (getL s.data.toList ((n : Int) + 1)).2.1).2.2 = 0 then
          (if (s.size : Int) - (getL s.data.toList (getL s.data.toList ((n : Int) + 1)).2.1).2.1 < (getL s.data.toList (getL s.data.toList ((n : Int) + 1)).2.1).1 then (zeroVl0, 0, 10)
          else (⟨false, zagI (getL s.data.toList ((n : Int) + 1)).1, s.extract (getL s.data.toList (getL s.data.toList ((n : Int) + 1)).2.1).2.1.toNat ((getL s.data.toList (getL s.data.toList ((n : Int) + 1)).2.1).2.1.toNat + (getL s.data.toList (getL s.data.toList ((n : Int) + 1)).2.1).1)⟩, (getL s.data.toList (getL s.data.toList ((n : Int) + 1)).2.1).2.1 + (getL s.data.toList (getL s.data.toList ((n : Int) + 1)).2.1).1, 0))
        else (zeroVl0, 0, (getL s.data.toList (getL s.data.toList ((n : Int) + 1)).2.1).2.2))
      else (zeroVl0, 0, (getL s.data.toList ((n : Int) + 1)).2.2))
    else (zeroVl0, 0, 2) := by
  rw [valG, if_neg (by omega), show ((n : Int)).toNat = n from rfl, h]
theorem valG_null {b : UInt8} (h : s.data.toList[n]? = some b) (hn : n < s.size) (hb : b.toNat = 0) : valG s n = (nullVl, (n : Int) + 1, 0) := by rw [valG_at h hn, if_pos hb]
theorem valG_form {b : UInt8} (h : s.data.toList[n]? = some b) (hn : n < s.size) (hb : 1 < b.toNat) : valG s n = (zeroVl0, 0, 2) := by rw [valG_at h hn, if_neg (by omega), if_neg (by omega)]
theorem valG_e1 {b : UInt8} {e : Int} (h : s.data.toList[n]? = some b) (hn : n < s.size) (hb : b.toNat = 1) (h1 : getL s.data.toList ((n : Int) + 1) = (0, 0, e)) (he : e ≠ 0) : valG s n = (zeroVl0, 0, e) := by
  rw [valG_at h hn, if_neg (by omega), if_pos hb, h1, if_neg he]
theorem valG_e2 {b : UInt8} {e j : Int} {v : Nat} (h : s.data.toList[n]? = some b) (hn : n < s.size) (hb : b.toNat = 1) (h1 : getL s.data.toList ((n : Int) + 1) = (v, j, 0)) (h2 : getL s.data.toList j = (0, 0, e)) (he : e ≠ 0) : valG s n = (zeroVl0, 0, e) := by
  rw [valG_at h hn, if_neg (by omega), if_pos hb, h1, if_pos rfl, h2, if_neg he]
theorem valG_short {b : UInt8} {j : Int} {v k m : Nat} (h : s.data.toList[n]? = some b) (hn : n < s.size) (hb : b.toNat = 1) (h1 : getL s.data.toList ((n : Int) + 1) = (v, j, 0)) (h2 : getL s.data.toList j = (m, (k : Int), 0)) (hl : (s.size : Int) - k < m) : valG s n = (zeroVl0, 0, 10) := by
  rw [valG_at h hn, if_neg (by omega), if_pos hb, h1, if_pos rfl, h2, if_pos rfl, if_pos hl]
theorem valG_ok {b : UInt8} {j : Int} {v k m : Nat} (h : s.data.toList[n]? = some b) (hn : n < s.size) (hb : b.toNat = 1) (h1 : getL s.data.toList ((n : Int) + 1) = (v, j, 0)) (h2 : getL s.data.toList j = (m, (k : Int), 0)) (hl : ¬ (s.size : Int) - k < m) : valG s n = (⟨false, zagI v, s.extract k (k + m)⟩, (k : Int) + m, 0) := by
  rw [valG_at h hn, if_neg (by omega), if_pos hb, h1, if_pos rfl, h2, if_pos rfl, if_neg hl]; rfl
end
abbrev vgetV (r : Vl × Int × Int) : Value := .tuple #[Vv r.1, .int .i64 r.2.1, .int .i64 r.2.2]

theorem wr_sum {k v n : Nat} (h : k + v ≤ n) (hn : n ≤ 1000000000000000) : IntKind.i64.wrap (v : Int) = (v : Int) ∧ wrap64 (v : Int) = (v : Int) ∧ IntKind.i64.wrap ((k : Int) + (v : Int)) = (k : Int) + (v : Int) ∧ wrap64 ((k : Int) + (v : Int)) = (k : Int) + (v : Int) ∧ (0 : Int) ≤ (k : Int) ∧ (k : Int) ≤ (k : Int) + (v : Int) ∧ (k : Int) + (v : Int) ≤ (n : Int) :=
  ⟨IntWalk.i64_in _ (by omega), IntWalk.wrap64_in _ (by omega), IntWalk.i64_in _ (by omega), IntWalk.wrap64_in _ (by omega), by omega, by omega, by omega⟩
theorem below_set1 {B g i : Nat} {a w : World} {u : Value} (h : Below B a w) (hg : B ≤ g) : Below B a (w.setCell ⟨g, i, none⟩ u) := h.setCell (p := ⟨g, i, none⟩) hg u
set_option maxRecDepth 100000 in
set_option maxHeartbeats 2000000 in
theorem vget_any (s : ByteArray) (i : Int) (w : World) (hsz : s.size ≤ 1000000000000000) : Calls Try.prog 81 #[.string s, .int .i64 i] w fun e w' => e = .returned (vgetV (valG s i)) ∧ Below w.heap.size w w' := by
  have hZ := Blk.new' w 36 #[.bool false, .int .i64 0, .string ⟨#[]⟩]
  have hbel : Below w.heap.size w (w.alloc (.cells #[.bool false, .int .i64 0, .string ⟨#[]⟩] 36)) := (Below.refl _ _).alloc (Nat.le_refl _) _
  by_cases h0 : i < 0
  · have HV := Lib.hid (valG_out (s := s) (.inl h0))
    go_enter Try.func81, Try.ntmps81
    go_upto_region 1 with fail
    generalize w.alloc (.cells #[.bool false, .int .i64 0, .string ⟨#[]⟩] 36) = wa at *
    have zf := fun j => hZ.frozen j
    have z0 := hZ.cellAt 0 rfl
    have z1 := hZ.cellAt 1 rfl
    have z2 := hZ.cellAt 2 rfl
    go_wp2
    exact bodyPost_ret (v := .tuple #[.agg #[.bool false, .int .i64 0, .string ⟨#[]⟩], .int .i64 (0), .int .i64 (4)]) (by simp [results, Try.results81, go_sem, z0, z1, z2]) rfl ⟨by first | (rw [HV.out]; done) | (rw [HV.out]; rfl), by repeat' (first | refine below_set1 ?_ (by omega) | refine Below.drew ?_ | exact hbel)⟩
  · by_cases h1 : (s.size : Int) < i
    · have HV := Lib.hid (valG_out (s := s) (.inr h1))
      go_enter Try.func81, Try.ntmps81
      go_upto_region 1 with fail
      generalize w.alloc (.cells #[.bool false, .int .i64 0, .string ⟨#[]⟩] 36) = wa at *
      have zf := fun j => hZ.frozen j
      have z0 := hZ.cellAt 0 rfl
      have z1 := hZ.cellAt 1 rfl
      have z2 := hZ.cellAt 2 rfl
      go_wp2
      exact bodyPost_ret (v := .tuple #[.agg #[.bool false, .int .i64 0, .string ⟨#[]⟩], .int .i64 (0), .int .i64 (4)]) (by simp [results, Try.results81, go_sem, z0, z1, z2]) rfl ⟨by first | (rw [HV.out]; done) | (rw [HV.out]; rfl), by repeat' (first | refine below_set1 ?_ (by omega) | refine Below.drew ?_ | exact hbel)⟩
    · obtain ⟨n, rfl⟩ := Int.eq_ofNat_of_zero_le (show 0 ≤ i by omega)
      have hd0 : decide ((n : Int) < 0) = false := by simp
      have hd1 : decide (s.size < n) = false := by simp; omega
      by_cases he : n = s.size
      · subst he
        have HV := Lib.hid (valG_end (s := s) rfl)
        go_enter Try.func81, Try.ntmps81
        go_upto_region 1 with fail
        generalize w.alloc (.cells #[.bool false, .int .i64 0, .string ⟨#[]⟩] 36) = wa at *
        have zf := fun j => hZ.frozen j
        have z0 := hZ.cellAt 0 rfl
        have z1 := hZ.cellAt 1 rfl
        have z2 := hZ.cellAt 2 rfl
        go_wp2
        exact bodyPost_ret (v := .tuple #[.agg #[.bool false, .int .i64 0, .string ⟨#[]⟩], .int .i64 (0), .int .i64 (10)]) (by simp [results, Try.results81, go_sem, z0, z1, z2]) rfl ⟨by first | (rw [HV.out]; done) | (rw [HV.out]; rfl), by repeat' (first | refine below_set1 ?_ (by omega) | refine Below.drew ?_ | exact hbel)⟩
      · have hn : n < s.size := by omega
        have hq : ((n : Int) == (s.size : Int)) = false := by simp; omega
        have hqn : (n == s.size) = false := by simpa using he
        have HB : s.data.toList[n]? = some s[n] := by
          rw [Array.getElem?_toList, Array.getElem?_eq_getElem (by simpa using hn)]; rfl
        by_cases hb0 : s[n].toNat = 0
        · have HV := Lib.hid (valG_null HB hn hb0)
          have hbq : ((s[n].toNat : Int) == 0) = true := by simp; omega
          have hbd : decide ((1 : Int) < (s[n].toNat : Int)) = false := by simp; omega
          clear HB
          go_enter Try.func81, Try.ntmps81
          go_upto_region 1 with fail
          generalize w.alloc (.cells #[.bool false, .int .i64 0, .string ⟨#[]⟩] 36) = wa at *
          have zf := fun j => hZ.frozen j
          have z0 := hZ.cellAt 0 rfl
          have z1 := hZ.cellAt 1 rfl
          have z2 := hZ.cellAt 2 rfl
          go_wp2
          exact bodyPost_ret (v := .tuple #[.agg #[.bool true, .int .i64 0, .string ⟨#[]⟩], .int .i64 ((n : Int) + 1), .int .i64 (0)]) (by simp [results, Try.results81, go_sem, z0, z1, z2]) rfl ⟨by first | (rw [HV.out]; done) | (rw [HV.out]; rfl), by repeat' (first | refine below_set1 ?_ (by omega) | refine Below.drew ?_ | exact hbel)⟩
        · have hbq : ((s[n].toNat : Int) == 0) = false := by simp; omega
          by_cases hb1 : 1 < s[n].toNat
          · have HV := Lib.hid (valG_form HB hn hb1)
            have hbd : decide ((1 : Int) < (s[n].toNat : Int)) = true := by simp; omega
            have hbe : ((s[n].toNat : Int) == 1) = false := by simp; omega
            have hbf : ((s[n].toNat : Int) != 1) = true := by simp; omega
            clear HB
            go_enter Try.func81, Try.ntmps81
            go_upto_region 1 with fail
            generalize w.alloc (.cells #[.bool false, .int .i64 0, .string ⟨#[]⟩] 36) = wa at *
            have zf := fun j => hZ.frozen j
            have z0 := hZ.cellAt 0 rfl
            have z1 := hZ.cellAt 1 rfl
            have z2 := hZ.cellAt 2 rfl
            go_wp2
            exact bodyPost_ret (v := .tuple #[.agg #[.bool false, .int .i64 0, .string ⟨#[]⟩], .int .i64 (0), .int .i64 (2)]) (by simp [results, Try.results81, go_sem, z0, z1, z2]) rfl ⟨by first | (rw [HV.out]; done) | (rw [HV.out]; rfl), by repeat' (first | refine below_set1 ?_ (by omega) | refine Below.drew ?_ | exact hbel)⟩
          · have hb2 : s[n].toNat = 1 := by omega
            have hbd : decide ((1 : Int) < (s[n].toNat : Int)) = false := by simp; omega
            have hbe : ((s[n].toNat : Int) == 1) = true := by simp; omega
            have hbf : ((s[n].toNat : Int) != 1) = false := by simp; omega
            have hlen : s.data.toList.length = s.size := size_list s
            have hwn : IntKind.i64.wrap ((n : Int) + 1) = (n : Int) + 1 := IntWalk.i64_in _ (by omega)
            have hwn2 : wrap64 ((n : Int) + 1) = (n : Int) + 1 := IntWalk.wrap64_in _ (by omega)
            rcases getL_cases s.data.toList ((n : Int) + 1) with ⟨v, a, m, ha, hr, hU, hm1, hm2, _⟩ | ⟨e, he1, hr⟩
            · have hj : a + m ≤ s.size := by omega
              clear ha hm1 hm2
              generalize a + m = j at *
              rcases getL_cases s.data.toList (j : Int) with ⟨v2, a2, m2, ha2, hr2, hU2, hm3, hm4, _⟩ | ⟨e, he2, hr2⟩
              · have hk : a2 + m2 ≤ s.size := by omega
                clear ha2 hm3 hm4
                generalize a2 + m2 = k at *
                have hwk : IntKind.u64.wrap ((s.size : Int) - (k : Int)) = (s.size : Int) - (k : Int) := IntWalk.u64_in _ (by omega)
                have hwm : IntKind.i64.wrap ((s.size : Int) - (k : Int)) = (s.size : Int) - (k : Int) := IntWalk.i64_in _ (by omega)
                have hwm2 : wrap64 ((s.size : Int) - (k : Int)) = (s.size : Int) - (k : Int) := IntWalk.wrap64_in _ (by omega)
                have HR := Lib.hid hr
                have HR2 := Lib.hid hr2
                clear hr hr2
                by_cases hl : (s.size : Int) - (k : Int) < v2
                · have HV := Lib.hid (valG_short HB hn hb2 HR.out HR2.out hl)
                  clear HB
                  go_enter Try.func81, Try.ntmps81
                  go_upto_region 1 with fail
                  generalize w.alloc (.cells #[.bool false, .int .i64 0, .string ⟨#[]⟩] 36) = wa at *
                  go_wp2_with fail
                  refine (get_any s ((n : Int) + 1) _ hsz).mono ?_; rintro e w1 ⟨rfl, rfl⟩
                  rw [HR.out]
                  go_wp2_with fail
                  refine (get_any s _ _ hsz).mono ?_; rintro e w1 ⟨rfl, rfl⟩
                  rw [HR2.out]
                  have zf := fun j => hZ.frozen j
                  have z0 := hZ.cellAt 0 rfl
                  have z1 := hZ.cellAt 1 rfl
                  have z2 := hZ.cellAt 2 rfl
                  go_wp2
                  exact bodyPost_ret (v := .tuple #[.agg #[.bool false, .int .i64 0, .string ⟨#[]⟩], .int .i64 (0), .int .i64 (10)]) (by simp [results, Try.results81, go_sem, z0, z1, z2]) rfl ⟨by first | (rw [HV.out]; done) | (rw [HV.out]; rfl), by repeat' (first | refine below_set1 ?_ (by omega) | refine Below.drew ?_ | exact hbel)⟩
                · have HV := Lib.hid (valG_ok HB hn hb2 HR.out HR2.out hl)
                  have hl2 : k + v2 ≤ s.size := by omega
                  have q1 := (wr_sum hl2 hsz).2.2.2.2.1; have q2 := (wr_sum hl2 hsz).2.2.2.2.2.1; have q3 := (wr_sum hl2 hsz).2.2.2.2.2.2
                  clear HB
                  go_enter Try.func81, Try.ntmps81
                  go_upto_region 1 with fail
                  generalize w.alloc (.cells #[.bool false, .int .i64 0, .string ⟨#[]⟩] 36) = wa at *
                  go_wp2_with fail
                  refine (get_any s ((n : Int) + 1) _ hsz).mono ?_; rintro e w1 ⟨rfl, rfl⟩
                  rw [HR.out]
                  go_wp2_with fail
                  refine (get_any s _ _ hsz).mono ?_; rintro e w1 ⟨rfl, rfl⟩
                  rw [HR2.out]
                  have zf := fun j => hZ.frozen j
                  have z0 := hZ.cellAt 0 rfl
                  have z1 := hZ.cellAt 1 rfl
                  have z2 := hZ.cellAt 2 rfl
                  go_upto_region 18 with fail
                  refine wp_region_L (fun _ _ => True) (by kernel_rfl) ?_
                  have hZd : Blk wa.drew w.heap.size 36 [.bool false, .int .i64 0, .string ⟨#[]⟩] := hZ
                  have hbel := hbel.drew
                  clear zf z0 z1 z2
                  generalize wa.drew = wx at *
                  have zf := fun j => hZd.frozen j
                  have z0 := hZd.cellAt 0 rfl
                  have z1 := hZd.cellAt 1 rfl
                  have z2 := hZd.cellAt 2 rfl
                  refine wpAnyL_takeD (fun _ => True) (i := 0) (v := (.int .u64 v)) (some 76) rfl rfl (by kernel_rfl) (by kernel_rfl) (by kernel_rfl) (fun _ _ _ h => h) (fun _ _ _ _ _ _ => trivial) (fun _ _ _ => Iff.rfl) trivial (Or.inl ⟨by rfl, fun w' hw' => by go_simp⟩) trivial ?_
                  simp only [Act.put, List.setIfInBounds_toArray, List.set_cons_zero, List.set_cons_succ]
                  refine wpAnyL_takeD (fun _ => True) (i := 2) (v := (.string s)) (some 78) rfl rfl (by kernel_rfl) (by kernel_rfl) (by kernel_rfl) (fun _ _ _ h => h) (fun _ _ _ _ _ _ => trivial) (fun _ _ _ => Iff.rfl) trivial (Or.inl ⟨by rfl, fun w' hw' => by go_simp⟩) trivial ?_
                  simp only [Act.put, List.setIfInBounds_toArray, List.set_cons_zero, List.set_cons_succ]
                  refine wpAnyL_takeD (fun _ => True) (i := 3) (v := (.int .i64 k)) (some 79) rfl rfl (by kernel_rfl) (by kernel_rfl) (by kernel_rfl) (fun _ _ _ h => h) (fun _ _ _ _ _ _ => trivial) (fun _ _ _ => Iff.rfl) trivial (Or.inl ⟨by rfl, fun w' hw' => by go_simp⟩) trivial ?_
                  simp only [Act.put, List.setIfInBounds_toArray, List.set_cons_zero, List.set_cons_succ]
                  refine wpAnyL_takeD (fun _ => True) (i := 4) (v := (.int .i64 ((k : Int) + (v2 : Int)))) (some 80) rfl rfl (by kernel_rfl) (by kernel_rfl) (by kernel_rfl) (fun _ _ _ h => h) (fun _ _ _ _ _ _ => trivial) (fun _ _ _ => Iff.rfl) trivial (Or.inl ⟨by rfl, fun w' hw' => by go_simp⟩) trivial ?_
                  simp only [Act.put, List.setIfInBounds_toArray, List.set_cons_zero, List.set_cons_succ]
                  refine wpAnyL_takeD (fun _ => True) (i := 5) (v := (.string (s.extract k (k + v2)))) (some 81) rfl rfl (by kernel_rfl) (by kernel_rfl) (by kernel_rfl) (fun _ _ _ h => h) (fun _ _ _ _ _ _ => trivial) (fun _ _ _ => Iff.rfl) trivial (Or.inl ⟨by rfl, fun w' hw' => by go_simp; first | done | exact (wr_sum hl2 hsz).1 | exact (wr_sum hl2 hsz).2.2.1 | rw [show ((k : Int) + (v2 : Int)).toNat = k + v2 from by omega]⟩) trivial ?_
                  simp only [Act.put, List.setIfInBounds_toArray, List.set_cons_zero, List.set_cons_succ]
                  refine wpAnyL_takeD (fun _ => True) (i := 7) (v := (.int .i64 ((k : Int) + (v2 : Int)))) (some 83) rfl rfl (by kernel_rfl) (by kernel_rfl) (by kernel_rfl) (fun _ _ _ h => h) (fun _ _ _ _ _ _ => trivial) (fun _ _ _ => Iff.rfl) trivial (Or.inl ⟨by rfl, fun w' hw' => by go_simp⟩) trivial ?_
                  simp only [Act.put, List.setIfInBounds_toArray, List.set_cons_zero, List.set_cons_succ]
                  refine wpAnyL_one (i := 1) (by decide +kernel) ?_
                  refine wpOp_go (o := _) rfl (fun K hK => ?_)
                  go_simp
                  go_at_call 87
                  refine (zag_any v _ hU).mono ?_; rintro e w5 ⟨rfl, rfl⟩
                  refine hK _ _ ⟨trivial, ?_⟩
                  clear hK K
                  refine wpAnyL_takeD (fun _ => True) (i := 6) (v := (.agg #[.bool false, .int .i64 (zagI v), .string (s.extract k (k + v2))])) (some 82) rfl rfl (by kernel_rfl) (by kernel_rfl) (by kernel_rfl) (fun _ _ _ h => h) (fun _ _ _ _ _ _ => trivial) (fun _ _ _ => Iff.rfl) trivial (Or.inl ⟨by rfl, fun w' hw' => by go_simp⟩) trivial ?_
                  simp only [Act.put, List.setIfInBounds_toArray, List.set_cons_zero, List.set_cons_succ]
                  refine wpAnyL_one (i := 8) (by decide +kernel) ?_
                  refine wpOp_go (o := _) rfl (fun K hK => ?_)
                  go_simp
                  refine hK _ _ ⟨trivial, ?_⟩
                  clear hK K
                  refine wpAnyL_takeD (fun _ => True) (i := 9) (v := (.int .i64 ((k : Int) + (v2 : Int)))) (some 5) rfl rfl (by kernel_rfl) (by kernel_rfl) (by kernel_rfl) (fun _ _ _ h => h) (fun _ _ _ _ _ _ => trivial) (fun _ _ _ => Iff.rfl) trivial (Or.inl ⟨by rfl, fun w' hw' => by go_simp⟩) trivial ?_
                  simp only [Act.put, List.setIfInBounds_toArray, List.set_cons_zero, List.set_cons_succ]
                  refine wpAnyL_takeD (fun _ => True) (i := 10) (v := (.int .i64 0)) (some 6) rfl rfl (by kernel_rfl) (by kernel_rfl) (by kernel_rfl) (fun _ _ _ h => h) (fun _ _ _ _ _ _ => trivial) (fun _ _ _ => Iff.rfl) trivial (Or.inl ⟨by rfl, fun w' hw' => by go_simp⟩) trivial ?_
                  simp only [Act.put, List.setIfInBounds_toArray, List.set_cons_zero, List.set_cons_succ]
                  refine wpAnyL_done (by decide +kernel) ?_ _
                  go_wp2
                  exact bodyPost_ret (v := .tuple #[.agg #[.bool false, .int .i64 (zagI v), .string (s.extract k (k + v2))], .int .i64 ((k : Int) + v2), .int .i64 (0)]) (by simp [results, Try.results81, go_sem, z0, z1, z2]) rfl ⟨by first | (rw [HV.out]; done) | (rw [HV.out]; rfl), by repeat' (first | refine below_set1 ?_ (by omega) | refine Below.drew ?_ | exact hbel)⟩
              · have hq9 : (e == 0) = false := by simpa using he2
                have hq8 : (e != 0) = true := by simpa using he2
                have HV := Lib.hid (valG_e2 HB hn hb2 hr hr2 he2)
                have HR := Lib.hid hr
                have HR2 := Lib.hid hr2
                clear HB hr hr2 he2
                go_enter Try.func81, Try.ntmps81
                go_upto_region 1 with fail
                generalize w.alloc (.cells #[.bool false, .int .i64 0, .string ⟨#[]⟩] 36) = wa at *
                go_wp2_with fail
                refine (get_any s ((n : Int) + 1) _ hsz).mono ?_; rintro _ w1 ⟨rfl, rfl⟩
                rw [HR.out]
                go_wp2_with fail
                refine (get_any s _ _ hsz).mono ?_; rintro _ w1 ⟨rfl, rfl⟩
                rw [HR2.out]
                have zf := fun j => hZ.frozen j
                have z0 := hZ.cellAt 0 rfl
                have z1 := hZ.cellAt 1 rfl
                have z2 := hZ.cellAt 2 rfl
                go_wp2
                exact bodyPost_ret (v := .tuple #[.agg #[.bool false, .int .i64 0, .string ⟨#[]⟩], .int .i64 (0), .int .i64 (e)]) (by simp [results, Try.results81, go_sem, z0, z1, z2]) rfl ⟨by first | (rw [HV.out]; done) | (rw [HV.out]; rfl), by repeat' (first | refine below_set1 ?_ (by omega) | refine Below.drew ?_ | exact hbel)⟩
            · have hq9 : (e == 0) = false := by simpa using he1
              have hq8 : (e != 0) = true := by simpa using he1
              have HV := Lib.hid (valG_e1 HB hn hb2 hr he1)
              have HR := Lib.hid hr
              clear HB hr he1
              go_enter Try.func81, Try.ntmps81
              go_upto_region 1 with fail
              generalize w.alloc (.cells #[.bool false, .int .i64 0, .string ⟨#[]⟩] 36) = wa at *
              go_wp2_with fail
              refine (get_any s ((n : Int) + 1) _ hsz).mono ?_; rintro _ w1 ⟨rfl, rfl⟩
              rw [HR.out]
              have zf := fun j => hZ.frozen j
              have z0 := hZ.cellAt 0 rfl
              have z1 := hZ.cellAt 1 rfl
              have z2 := hZ.cellAt 2 rfl
              go_wp2
              exact bodyPost_ret (v := .tuple #[.agg #[.bool false, .int .i64 0, .string ⟨#[]⟩], .int .i64 (0), .int .i64 (e)]) (by simp [results, Try.results81, go_sem, z0, z1, z2]) rfl ⟨by first | (rw [HV.out]; done) | (rw [HV.out]; rfl), by repeat' (first | refine below_set1 ?_ (by omega) | refine Below.drew ?_ | exact hbel)⟩
set_option maxRecDepth 100000 in
set_option maxHeartbeats 2000000 in
theorem rvget_any (s : ByteArray) (i : Int) (w : World) (hsz : s.size ≤ 1000000000000000) : Calls Try.prog 85 #[.string s, .int .i64 i] w fun e w' => e = .returned (vgetV (valG s i)) ∧ Below w.heap.size w w' := by
  have hZ := Blk.new' w 36 #[.bool false, .int .i64 0, .string ⟨#[]⟩]
  have hbel : Below w.heap.size w (w.alloc (.cells #[.bool false, .int .i64 0, .string ⟨#[]⟩] 36)) := (Below.refl _ _).alloc (Nat.le_refl _) _
  by_cases h0 : i < 0
  · have HV := Lib.hid (valG_out (s := s) (.inl h0))
    go_enter Try.func85, Try.ntmps85
    go_upto_region 1 with fail
    generalize w.alloc (.cells #[.bool false, .int .i64 0, .string ⟨#[]⟩] 36) = wa at *
    have zf := fun j => hZ.frozen j
    have z0 := hZ.cellAt 0 rfl
    have z1 := hZ.cellAt 1 rfl
    have z2 := hZ.cellAt 2 rfl
    go_wp2
    exact bodyPost_ret (v := .tuple #[.agg #[.bool false, .int .i64 0, .string ⟨#[]⟩], .int .i64 (0), .int .i64 (4)]) (by simp [results, Try.results85, go_sem, z0, z1, z2]) rfl ⟨by first | (rw [HV.out]; done) | (rw [HV.out]; rfl), by repeat' (first | refine below_set1 ?_ (by omega) | refine Below.drew ?_ | exact hbel)⟩
  · by_cases h1 : (s.size : Int) < i
    · have HV := Lib.hid (valG_out (s := s) (.inr h1))
      go_enter Try.func85, Try.ntmps85
      go_upto_region 1 with fail
      generalize w.alloc (.cells #[.bool false, .int .i64 0, .string ⟨#[]⟩] 36) = wa at *
      have zf := fun j => hZ.frozen j
      have z0 := hZ.cellAt 0 rfl
      have z1 := hZ.cellAt 1 rfl
      have z2 := hZ.cellAt 2 rfl
      go_wp2
      exact bodyPost_ret (v := .tuple #[.agg #[.bool false, .int .i64 0, .string ⟨#[]⟩], .int .i64 (0), .int .i64 (4)]) (by simp [results, Try.results85, go_sem, z0, z1, z2]) rfl ⟨by first | (rw [HV.out]; done) | (rw [HV.out]; rfl), by repeat' (first | refine below_set1 ?_ (by omega) | refine Below.drew ?_ | exact hbel)⟩
    · obtain ⟨n, rfl⟩ := Int.eq_ofNat_of_zero_le (show 0 ≤ i by omega)
      have hd0 : decide ((n : Int) < 0) = false := by simp
      have hd1 : decide (s.size < n) = false := by simp; omega
      by_cases he : n = s.size
      · subst he
        have HV := Lib.hid (valG_end (s := s) rfl)
        go_enter Try.func85, Try.ntmps85
        go_upto_region 1 with fail
        generalize w.alloc (.cells #[.bool false, .int .i64 0, .string ⟨#[]⟩] 36) = wa at *
        have zf := fun j => hZ.frozen j
        have z0 := hZ.cellAt 0 rfl
        have z1 := hZ.cellAt 1 rfl
        have z2 := hZ.cellAt 2 rfl
        go_wp2
        exact bodyPost_ret (v := .tuple #[.agg #[.bool false, .int .i64 0, .string ⟨#[]⟩], .int .i64 (0), .int .i64 (10)]) (by simp [results, Try.results85, go_sem, z0, z1, z2]) rfl ⟨by first | (rw [HV.out]; done) | (rw [HV.out]; rfl), by repeat' (first | refine below_set1 ?_ (by omega) | refine Below.drew ?_ | exact hbel)⟩
      · have hn : n < s.size := by omega
        have hq : ((n : Int) == (s.size : Int)) = false := by simp; omega
        have hqn : (n == s.size) = false := by simpa using he
        have HB : s.data.toList[n]? = some s[n] := by
          rw [Array.getElem?_toList, Array.getElem?_eq_getElem (by simpa using hn)]; rfl
        by_cases hb0 : s[n].toNat = 0
        · have HV := Lib.hid (valG_null HB hn hb0)
          have hbq : ((s[n].toNat : Int) == 0) = true := by simp; omega
          have hbd : decide ((1 : Int) < (s[n].toNat : Int)) = false := by simp; omega
          clear HB
          go_enter Try.func85, Try.ntmps85
          go_upto_region 1 with fail
          generalize w.alloc (.cells #[.bool false, .int .i64 0, .string ⟨#[]⟩] 36) = wa at *
          have zf := fun j => hZ.frozen j
          have z0 := hZ.cellAt 0 rfl
          have z1 := hZ.cellAt 1 rfl
          have z2 := hZ.cellAt 2 rfl
          go_wp2
          exact bodyPost_ret (v := .tuple #[.agg #[.bool true, .int .i64 0, .string ⟨#[]⟩], .int .i64 ((n : Int) + 1), .int .i64 (0)]) (by simp [results, Try.results85, go_sem, z0, z1, z2]) rfl ⟨by first | (rw [HV.out]; done) | (rw [HV.out]; rfl), by repeat' (first | refine below_set1 ?_ (by omega) | refine Below.drew ?_ | exact hbel)⟩
        · have hbq : ((s[n].toNat : Int) == 0) = false := by simp; omega
          by_cases hb1 : 1 < s[n].toNat
          · have HV := Lib.hid (valG_form HB hn hb1)
            have hbd : decide ((1 : Int) < (s[n].toNat : Int)) = true := by simp; omega
            have hbe : ((s[n].toNat : Int) == 1) = false := by simp; omega
            have hbf : ((s[n].toNat : Int) != 1) = true := by simp; omega
            clear HB
            go_enter Try.func85, Try.ntmps85
            go_upto_region 1 with fail
            generalize w.alloc (.cells #[.bool false, .int .i64 0, .string ⟨#[]⟩] 36) = wa at *
            have zf := fun j => hZ.frozen j
            have z0 := hZ.cellAt 0 rfl
            have z1 := hZ.cellAt 1 rfl
            have z2 := hZ.cellAt 2 rfl
            go_wp2
            exact bodyPost_ret (v := .tuple #[.agg #[.bool false, .int .i64 0, .string ⟨#[]⟩], .int .i64 (0), .int .i64 (2)]) (by simp [results, Try.results85, go_sem, z0, z1, z2]) rfl ⟨by first | (rw [HV.out]; done) | (rw [HV.out]; rfl), by repeat' (first | refine below_set1 ?_ (by omega) | refine Below.drew ?_ | exact hbel)⟩
          · have hb2 : s[n].toNat = 1 := by omega
            have hbd : decide ((1 : Int) < (s[n].toNat : Int)) = false := by simp; omega
            have hbe : ((s[n].toNat : Int) == 1) = true := by simp; omega
            have hbf : ((s[n].toNat : Int) != 1) = false := by simp; omega
            have hlen : s.data.toList.length = s.size := size_list s
            have hwn : IntKind.i64.wrap ((n : Int) + 1) = (n : Int) + 1 := IntWalk.i64_in _ (by omega)
            have hwn2 : wrap64 ((n : Int) + 1) = (n : Int) + 1 := IntWalk.wrap64_in _ (by omega)
            rcases getL_cases s.data.toList ((n : Int) + 1) with ⟨v, a, m, ha, hr, hU, hm1, hm2, _⟩ | ⟨e, he1, hr⟩
            · have hj : a + m ≤ s.size := by omega
              clear ha hm1 hm2
              generalize a + m = j at *
              rcases getL_cases s.data.toList (j : Int) with ⟨v2, a2, m2, ha2, hr2, hU2, hm3, hm4, _⟩ | ⟨e, he2, hr2⟩
              · have hk : a2 + m2 ≤ s.size := by omega
                clear ha2 hm3 hm4
                generalize a2 + m2 = k at *
                have hwk : IntKind.u64.wrap ((s.size : Int) - (k : Int)) = (s.size : Int) - (k : Int) := IntWalk.u64_in _ (by omega)
                have hwm : IntKind.i64.wrap ((s.size : Int) - (k : Int)) = (s.size : Int) - (k : Int) := IntWalk.i64_in _ (by omega)
                have hwm2 : wrap64 ((s.size : Int) - (k : Int)) = (s.size : Int) - (k : Int) := IntWalk.wrap64_in _ (by omega)
                have HR := Lib.hid hr
                have HR2 := Lib.hid hr2
                clear hr hr2
                by_cases hl : (s.size : Int) - (k : Int) < v2
                · have HV := Lib.hid (valG_short HB hn hb2 HR.out HR2.out hl)
                  clear HB
                  go_enter Try.func85, Try.ntmps85
                  go_upto_region 1 with fail
                  generalize w.alloc (.cells #[.bool false, .int .i64 0, .string ⟨#[]⟩] 36) = wa at *
                  go_wp2_with fail
                  refine (rget_any s ((n : Int) + 1) _ hsz).mono ?_; rintro e w1 ⟨rfl, rfl⟩
                  rw [HR.out]
                  go_wp2_with fail
                  refine (rget_any s _ _ hsz).mono ?_; rintro e w1 ⟨rfl, rfl⟩
                  rw [HR2.out]
                  have zf := fun j => hZ.frozen j
                  have z0 := hZ.cellAt 0 rfl
                  have z1 := hZ.cellAt 1 rfl
                  have z2 := hZ.cellAt 2 rfl
                  go_wp2
                  exact bodyPost_ret (v := .tuple #[.agg #[.bool false, .int .i64 0, .string ⟨#[]⟩], .int .i64 (0), .int .i64 (10)]) (by simp [results, Try.results85, go_sem, z0, z1, z2]) rfl ⟨by first | (rw [HV.out]; done) | (rw [HV.out]; rfl), by repeat' (first | refine below_set1 ?_ (by omega) | refine Below.drew ?_ | exact hbel)⟩
                · have HV := Lib.hid (valG_ok HB hn hb2 HR.out HR2.out hl)
                  have hl2 : k + v2 ≤ s.size := by omega
                  have q1 := (wr_sum hl2 hsz).2.2.2.2.1; have q2 := (wr_sum hl2 hsz).2.2.2.2.2.1; have q3 := (wr_sum hl2 hsz).2.2.2.2.2.2
                  clear HB
                  go_enter Try.func85, Try.ntmps85
                  go_upto_region 1 with fail
                  generalize w.alloc (.cells #[.bool false, .int .i64 0, .string ⟨#[]⟩] 36) = wa at *
                  go_wp2_with fail
                  refine (rget_any s ((n : Int) + 1) _ hsz).mono ?_; rintro e w1 ⟨rfl, rfl⟩
                  rw [HR.out]
                  go_wp2_with fail
                  refine (rget_any s _ _ hsz).mono ?_; rintro e w1 ⟨rfl, rfl⟩
                  rw [HR2.out]
                  have zf := fun j => hZ.frozen j
                  have z0 := hZ.cellAt 0 rfl
                  have z1 := hZ.cellAt 1 rfl
                  have z2 := hZ.cellAt 2 rfl
                  go_upto_region 17 with fail
                  refine wp_region_L (fun _ _ => True) (by kernel_rfl) ?_
                  have hZd : Blk wa.drew w.heap.size 36 [.bool false, .int .i64 0, .string ⟨#[]⟩] := hZ
                  have hbel := hbel.drew
                  clear zf z0 z1 z2
                  generalize wa.drew = wx at *
                  have zf := fun j => hZd.frozen j
                  have z0 := hZd.cellAt 0 rfl
                  have z1 := hZd.cellAt 1 rfl
                  have z2 := hZd.cellAt 2 rfl
                  refine wpAnyL_takeD (fun _ => True) (i := 0) (v := (.int .u64 v)) (some 67) rfl rfl (by kernel_rfl) (by kernel_rfl) (by kernel_rfl) (fun _ _ _ h => h) (fun _ _ _ _ _ _ => trivial) (fun _ _ _ => Iff.rfl) trivial (Or.inl ⟨by rfl, fun w' hw' => by go_simp⟩) trivial ?_
                  simp only [Act.put, List.setIfInBounds_toArray, List.set_cons_zero, List.set_cons_succ]
                  refine wpAnyL_takeD (fun _ => True) (i := 2) (v := (.string s)) (some 69) rfl rfl (by kernel_rfl) (by kernel_rfl) (by kernel_rfl) (fun _ _ _ h => h) (fun _ _ _ _ _ _ => trivial) (fun _ _ _ => Iff.rfl) trivial (Or.inl ⟨by rfl, fun w' hw' => by go_simp⟩) trivial ?_
                  simp only [Act.put, List.setIfInBounds_toArray, List.set_cons_zero, List.set_cons_succ]
                  refine wpAnyL_takeD (fun _ => True) (i := 3) (v := (.int .i64 k)) (some 70) rfl rfl (by kernel_rfl) (by kernel_rfl) (by kernel_rfl) (fun _ _ _ h => h) (fun _ _ _ _ _ _ => trivial) (fun _ _ _ => Iff.rfl) trivial (Or.inl ⟨by rfl, fun w' hw' => by go_simp⟩) trivial ?_
                  simp only [Act.put, List.setIfInBounds_toArray, List.set_cons_zero, List.set_cons_succ]
                  refine wpAnyL_takeD (fun _ => True) (i := 4) (v := (.int .i64 k)) (some 71) rfl rfl (by kernel_rfl) (by kernel_rfl) (by kernel_rfl) (fun _ _ _ h => h) (fun _ _ _ _ _ _ => trivial) (fun _ _ _ => Iff.rfl) trivial (Or.inl ⟨by rfl, fun w' hw' => by go_simp⟩) trivial ?_
                  simp only [Act.put, List.setIfInBounds_toArray, List.set_cons_zero, List.set_cons_succ]
                  refine wpAnyL_takeD (fun _ => True) (i := 5) (v := (.int .u64 v2)) (some 72) rfl rfl (by kernel_rfl) (by kernel_rfl) (by kernel_rfl) (fun _ _ _ h => h) (fun _ _ _ _ _ _ => trivial) (fun _ _ _ => Iff.rfl) trivial (Or.inl ⟨by rfl, fun w' hw' => by go_simp⟩) trivial ?_
                  simp only [Act.put, List.setIfInBounds_toArray, List.set_cons_zero, List.set_cons_succ]
                  refine wpAnyL_takeD (fun _ => True) (i := 6) (v := (.int .i64 v2)) (some 73) rfl rfl (by kernel_rfl) (by kernel_rfl) (by kernel_rfl) (fun _ _ _ h => h) (fun _ _ _ _ _ _ => trivial) (fun _ _ _ => Iff.rfl) trivial (Or.inl ⟨by rfl, fun w' hw' => by go_simp; first | done | exact (wr_sum hl2 hsz).1 | exact (wr_sum hl2 hsz).2.2.1 | rw [show ((k : Int) + (v2 : Int)).toNat = k + v2 from by omega]⟩) trivial ?_
                  simp only [Act.put, List.setIfInBounds_toArray, List.set_cons_zero, List.set_cons_succ]
                  refine wpAnyL_takeD (fun _ => True) (i := 7) (v := (.int .i64 ((k : Int) + (v2 : Int)))) (some 74) rfl rfl (by kernel_rfl) (by kernel_rfl) (by kernel_rfl) (fun _ _ _ h => h) (fun _ _ _ _ _ _ => trivial) (fun _ _ _ => Iff.rfl) trivial (Or.inl ⟨by rfl, fun w' hw' => by go_simp; first | done | exact (wr_sum hl2 hsz).1 | exact (wr_sum hl2 hsz).2.2.1 | rw [show ((k : Int) + (v2 : Int)).toNat = k + v2 from by omega]⟩) trivial ?_
                  simp only [Act.put, List.setIfInBounds_toArray, List.set_cons_zero, List.set_cons_succ]
                  refine wpAnyL_takeD (fun _ => True) (i := 8) (v := (.string (s.extract k (k + v2)))) (some 75) rfl rfl (by kernel_rfl) (by kernel_rfl) (by kernel_rfl) (fun _ _ _ h => h) (fun _ _ _ _ _ _ => trivial) (fun _ _ _ => Iff.rfl) trivial (Or.inl ⟨by rfl, fun w' hw' => by go_simp; first | done | exact (wr_sum hl2 hsz).1 | exact (wr_sum hl2 hsz).2.2.1 | rw [show ((k : Int) + (v2 : Int)).toNat = k + v2 from by omega]⟩) trivial ?_
                  simp only [Act.put, List.setIfInBounds_toArray, List.set_cons_zero, List.set_cons_succ]
                  refine wpAnyL_takeD (fun _ => True) (i := 10) (v := (.int .i64 k)) (some 77) rfl rfl (by kernel_rfl) (by kernel_rfl) (by kernel_rfl) (fun _ _ _ h => h) (fun _ _ _ _ _ _ => trivial) (fun _ _ _ => Iff.rfl) trivial (Or.inl ⟨by rfl, fun w' hw' => by go_simp⟩) trivial ?_
                  simp only [Act.put, List.setIfInBounds_toArray, List.set_cons_zero, List.set_cons_succ]
                  refine wpAnyL_takeD (fun _ => True) (i := 11) (v := (.int .u64 v2)) (some 78) rfl rfl (by kernel_rfl) (by kernel_rfl) (by kernel_rfl) (fun _ _ _ h => h) (fun _ _ _ _ _ _ => trivial) (fun _ _ _ => Iff.rfl) trivial (Or.inl ⟨by rfl, fun w' hw' => by go_simp⟩) trivial ?_
                  simp only [Act.put, List.setIfInBounds_toArray, List.set_cons_zero, List.set_cons_succ]
                  refine wpAnyL_takeD (fun _ => True) (i := 12) (v := (.int .i64 v2)) (some 79) rfl rfl (by kernel_rfl) (by kernel_rfl) (by kernel_rfl) (fun _ _ _ h => h) (fun _ _ _ _ _ _ => trivial) (fun _ _ _ => Iff.rfl) trivial (Or.inl ⟨by rfl, fun w' hw' => by go_simp; first | done | exact (wr_sum hl2 hsz).1 | exact (wr_sum hl2 hsz).2.2.1 | rw [show ((k : Int) + (v2 : Int)).toNat = k + v2 from by omega]⟩) trivial ?_
                  simp only [Act.put, List.setIfInBounds_toArray, List.set_cons_zero, List.set_cons_succ]
                  refine wpAnyL_takeD (fun _ => True) (i := 13) (v := (.int .i64 ((k : Int) + (v2 : Int)))) (some 80) rfl rfl (by kernel_rfl) (by kernel_rfl) (by kernel_rfl) (fun _ _ _ h => h) (fun _ _ _ _ _ _ => trivial) (fun _ _ _ => Iff.rfl) trivial (Or.inl ⟨by rfl, fun w' hw' => by go_simp; first | done | exact (wr_sum hl2 hsz).1 | exact (wr_sum hl2 hsz).2.2.1 | rw [show ((k : Int) + (v2 : Int)).toNat = k + v2 from by omega]⟩) trivial ?_
                  simp only [Act.put, List.setIfInBounds_toArray, List.set_cons_zero, List.set_cons_succ]
                  refine wpAnyL_one (i := 1) (by decide +kernel) ?_
                  refine wpOp_go (o := _) rfl (fun K hK => ?_)
                  go_simp
                  go_at_call 89
                  refine (rzag_any v _ hU).mono ?_; rintro e w5 ⟨rfl, rfl⟩
                  refine hK _ _ ⟨trivial, ?_⟩
                  clear hK K
                  refine wpAnyL_takeD (fun _ => True) (i := 9) (v := (.agg #[.bool false, .int .i64 (zagI v), .string (s.extract k (k + v2))])) (some 76) rfl rfl (by kernel_rfl) (by kernel_rfl) (by kernel_rfl) (fun _ _ _ h => h) (fun _ _ _ _ _ _ => trivial) (fun _ _ _ => Iff.rfl) trivial (Or.inl ⟨by rfl, fun w' hw' => by go_simp⟩) trivial ?_
                  simp only [Act.put, List.setIfInBounds_toArray, List.set_cons_zero, List.set_cons_succ]
                  refine wpAnyL_one (i := 14) (by decide +kernel) ?_
                  refine wpOp_go (o := _) rfl (fun K hK => ?_)
                  go_simp
                  refine hK _ _ ⟨trivial, ?_⟩
                  clear hK K
                  refine wpAnyL_takeD (fun _ => True) (i := 15) (v := (.int .i64 ((k : Int) + (v2 : Int)))) (some 5) rfl rfl (by kernel_rfl) (by kernel_rfl) (by kernel_rfl) (fun _ _ _ h => h) (fun _ _ _ _ _ _ => trivial) (fun _ _ _ => Iff.rfl) trivial (Or.inl ⟨by rfl, fun w' hw' => by go_simp⟩) trivial ?_
                  simp only [Act.put, List.setIfInBounds_toArray, List.set_cons_zero, List.set_cons_succ]
                  refine wpAnyL_takeD (fun _ => True) (i := 16) (v := (.int .i64 0)) (some 6) rfl rfl (by kernel_rfl) (by kernel_rfl) (by kernel_rfl) (fun _ _ _ h => h) (fun _ _ _ _ _ _ => trivial) (fun _ _ _ => Iff.rfl) trivial (Or.inl ⟨by rfl, fun w' hw' => by go_simp⟩) trivial ?_
                  simp only [Act.put, List.setIfInBounds_toArray, List.set_cons_zero, List.set_cons_succ]
                  refine wpAnyL_done (by decide +kernel) ?_ _
                  go_wp2
                  exact bodyPost_ret (v := .tuple #[.agg #[.bool false, .int .i64 (zagI v), .string (s.extract k (k + v2))], .int .i64 ((k : Int) + v2), .int .i64 (0)]) (by simp [results, Try.results85, go_sem, z0, z1, z2]) rfl ⟨by first | (rw [HV.out]; done) | (rw [HV.out]; rfl), by repeat' (first | refine below_set1 ?_ (by omega) | refine Below.drew ?_ | exact hbel)⟩
              · have hq9 : (e == 0) = false := by simpa using he2
                have hq8 : (e != 0) = true := by simpa using he2
                have HV := Lib.hid (valG_e2 HB hn hb2 hr hr2 he2)
                have HR := Lib.hid hr
                have HR2 := Lib.hid hr2
                clear HB hr hr2 he2
                go_enter Try.func85, Try.ntmps85
                go_upto_region 1 with fail
                generalize w.alloc (.cells #[.bool false, .int .i64 0, .string ⟨#[]⟩] 36) = wa at *
                go_wp2_with fail
                refine (rget_any s ((n : Int) + 1) _ hsz).mono ?_; rintro _ w1 ⟨rfl, rfl⟩
                rw [HR.out]
                go_wp2_with fail
                refine (rget_any s _ _ hsz).mono ?_; rintro _ w1 ⟨rfl, rfl⟩
                rw [HR2.out]
                have zf := fun j => hZ.frozen j
                have z0 := hZ.cellAt 0 rfl
                have z1 := hZ.cellAt 1 rfl
                have z2 := hZ.cellAt 2 rfl
                go_wp2
                exact bodyPost_ret (v := .tuple #[.agg #[.bool false, .int .i64 0, .string ⟨#[]⟩], .int .i64 (0), .int .i64 (e)]) (by simp [results, Try.results85, go_sem, z0, z1, z2]) rfl ⟨by first | (rw [HV.out]; done) | (rw [HV.out]; rfl), by repeat' (first | refine below_set1 ?_ (by omega) | refine Below.drew ?_ | exact hbel)⟩
            · have hq9 : (e == 0) = false := by simpa using he1
              have hq8 : (e != 0) = true := by simpa using he1
              have HV := Lib.hid (valG_e1 HB hn hb2 hr he1)
              have HR := Lib.hid hr
              clear HB hr he1
              go_enter Try.func85, Try.ntmps85
              go_upto_region 1 with fail
              generalize w.alloc (.cells #[.bool false, .int .i64 0, .string ⟨#[]⟩] 36) = wa at *
              go_wp2_with fail
              refine (rget_any s ((n : Int) + 1) _ hsz).mono ?_; rintro _ w1 ⟨rfl, rfl⟩
              rw [HR.out]
              have zf := fun j => hZ.frozen j
              have z0 := hZ.cellAt 0 rfl
              have z1 := hZ.cellAt 1 rfl
              have z2 := hZ.cellAt 2 rfl
              go_wp2
              exact bodyPost_ret (v := .tuple #[.agg #[.bool false, .int .i64 0, .string ⟨#[]⟩], .int .i64 (0), .int .i64 (e)]) (by simp [results, Try.results85, go_sem, z0, z1, z2]) rfl ⟨by first | (rw [HV.out]; done) | (rw [HV.out]; rfl), by repeat' (first | refine below_set1 ?_ (by omega) | refine Below.drew ?_ | exact hbel)⟩

end Go.Proofs.Ytgacjpkgpegcdaa
