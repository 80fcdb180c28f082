/-
  Plain law of layer 14, fifth part: what is read where a zone was put.
-/
import Derived.Test.YtnichmblekbccaaZGet
namespace Go.Proofs.Ytnichmblekbccaa

theorem extract_eq {s b : ByteArray} {k : Nat} {r : List UInt8} (h : s.data.toList.drop k = b.data.toList ++ r) : s.extract k (k + b.size) = b := by
  apply ByteArray.ext
  apply Array.toList_inj.1
  rw [ByteArray.data_extract, Array.toList_extract, List.extract_eq_take_drop, h, Nat.add_sub_cancel_left, ← size_list b, List.take_left]
theorem valG_put {s : ByteArray} {i : Nat} {v : Vl} {r : List UInt8} (h : s.data.toList.drop i = valP v ++ r) (hn : I64 v.n) (hs : v.s.size ≤ 1000000000000) (hnull : v.null = true → v = nullVl) : valG s i = (v, ((i + (valP v).length : Nat) : Int), 0) := by
  cases hv : v.null
  · rw [valP_some hv] at h ⊢
    rw [List.append_assoc, List.append_assoc, List.append_assoc] at h
    obtain ⟨h1, d1⟩ := get_at (show s.data.toList.drop i = 1 :: (putL (zigN v.n) ++ (putL v.s.size ++ (v.s.data.toList ++ r))) from h)
    have hi : i < s.size := by
      have := (List.getElem?_eq_some_iff.1 h1).1
      rwa [size_list] at this
    have g1 := getL_drop (zigN_U64 hn) d1
    have d2 : s.data.toList.drop (i + 1 + (putL (zigN v.n)).length) = putL v.s.size ++ (v.s.data.toList ++ r) := by
      rw [← List.drop_drop, d1, List.drop_left]
    have g2 := getL_drop (v := v.s.size) (by unfold U64; omega) d2
    have d3 : s.data.toList.drop (i + 1 + (putL (zigN v.n)).length + (putL v.s.size).length) = v.s.data.toList ++ r := by
      rw [← List.drop_drop, d2, List.drop_left]
    have hl : i + 1 + (putL (zigN v.n)).length + (putL v.s.size).length + v.s.size ≤ s.size := by
      have h3 := congrArg List.length d3
      rw [List.length_drop, List.length_append, size_list, size_list] at h3
      have := putL_pos v.s.size
      rcases Nat.lt_or_ge s.size (i + 1 + (putL (zigN v.n)).length + (putL v.s.size).length) with h4 | h4
      · have h5 : (putL v.s.size ++ (v.s.data.toList ++ r)).length = s.size - (i + 1 + (putL (zigN v.n)).length) := by rw [← d2, List.length_drop, size_list]
        rw [List.length_append] at h5
        omega
      · omega
    have e1 : (((i + 1 : Nat) : Int)) = (i : Int) + 1 := by omega
    rw [e1] at g1
    rw [valG_ok h1 hi rfl g1 g2 (by omega), zag_zig, extract_eq d3]
    obtain ⟨vn, vi, vz⟩ := v
    dsimp only at hv
    subst hv
    simp only [List.length_append, List.length_cons, List.length_nil, size_list, Prod.mk.injEq, true_and, and_true]
    omega
  · rw [valP_null hv] at h ⊢
    obtain ⟨h1, _⟩ := get_at (show s.data.toList.drop i = 0 :: r from h)
    have hi : i < s.size := by
      have := (List.getElem?_eq_some_iff.1 h1).1
      rwa [size_list] at this
    rw [valG_null h1 hi rfl, hnull hv]; rfl
theorem zoneG_put {s : ByteArray} {i : Nat} {z : Zn} {r : List UInt8} (h : s.data.toList.drop i = zoneP z ++ r) (hr : 0 ≤ z.rows) (hr2 : z.rows ≤ 4096) (hn : 0 ≤ z.nulls) (hn2 : z.nulls ≤ 4096)
    (m1 : I64 z.mn.n) (s1 : z.mn.s.size ≤ 1000000000000) (n1 : z.mn.null = true → z.mn = nullVl) (m2 : I64 z.mx.n) (s2 : z.mx.s.size ≤ 1000000000000) (n2 : z.mx.null = true → z.mx = nullVl) :
    zoneG s i = (z, ((i + (zoneP z).length : Nat) : Int), 0) := by
  obtain ⟨zr, zn, mn, mx⟩ := z
  dsimp only at *
  obtain ⟨a, rfl⟩ := Int.eq_ofNat_of_zero_le hr
  obtain ⟨b, rfl⟩ := Int.eq_ofNat_of_zero_le hn
  have e : zoneP ⟨a, b, mn, mx⟩ = putL a ++ (putL b ++ (valP mn ++ valP mx)) := by
    show putL a ++ putL b ++ valP mn ++ valP mx = _
    simp only [List.append_assoc]
  rw [e] at h ⊢
  have h' : s.data.toList.drop i = putL a ++ (putL b ++ (valP mn ++ (valP mx ++ r))) := by rw [h]; simp only [List.append_assoc]
  have g1 := getL_drop (v := a) (by unfold U64; omega) h'
  have d2 : s.data.toList.drop (i + (putL a).length) = putL b ++ (valP mn ++ (valP mx ++ r)) := by rw [← List.drop_drop, h', List.drop_left]
  have g2 := getL_drop (v := b) (by unfold U64; omega) d2
  have d3 : s.data.toList.drop (i + (putL a).length + (putL b).length) = valP mn ++ (valP mx ++ r) := by rw [← List.drop_drop, d2, List.drop_left]
  have g3 := valG_put d3 m1 s1 n1
  have d4 : s.data.toList.drop (i + (putL a).length + (putL b).length + (valP mn).length) = valP mx ++ r := by rw [← List.drop_drop, d3, List.drop_left]
  have g4 := valG_put d4 m2 s2 n2
  rw [zG_ok g1 (by omega) g2 (by omega) g3 g4]
  simp only [List.length_append, Prod.mk.injEq, and_true, true_and]
  omega

end Go.Proofs.Ytnichmblekbccaa
