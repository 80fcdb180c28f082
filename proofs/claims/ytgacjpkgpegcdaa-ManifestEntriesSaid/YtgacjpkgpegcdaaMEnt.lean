/-
  When an entry is valid: manifest.Entry and the reference's.
-/
import Derived.Test.YtgacjpkgpegcdaaMPlain
import Derived.Test.YtgacjpkgpegcdaaOList
namespace Go.Proofs.Ytgacjpkgpegcdaa
open Go.RowKit

abbrev Ev (e : En) : Value := .agg #[.int .i64 e.id, .int .i64 e.rows, .int .i64 e.live, .bool e.lo.key.null, .int .i64 e.lo.key.n, .string e.lo.key.s, .int .i64 e.lo.seq, .bool e.hi.key.null, .int .i64 e.hi.key.n, .string e.hi.key.s, .int .i64 e.hi.seq, .int .i64 e.del]
def entC (e : En) : List Value := [.int .i64 e.id, .int .i64 e.rows, .int .i64 e.live, .bool e.lo.key.null, .int .i64 e.lo.key.n, .string e.lo.key.s, .int .i64 e.lo.seq, .bool e.hi.key.null, .int .i64 e.hi.key.n, .string e.hi.key.s, .int .i64 e.hi.seq, .int .i64 e.del]
theorem ret_b {a b : Bool} (h : a = b) : Ending.returned (.bool a) = .returned (.bool b) := by rw [h]
theorem bool_of {a b : Bool} {p : Prop} (h : a = true ↔ p) (hp : p) (hb : b = true) : b = a := by rw [hb, h.2 hp]
theorem bool_no {a b : Bool} {p : Prop} (h : a = true ↔ p) (hp : ¬ p) (hb : b = false) : b = a := by
  rw [hb]; cases ha : a
  · rfl
  · exact absurd (h.1 ha) hp

set_option maxRecDepth 100000 in
theorem object_any (n : Int) (w : World) : Calls Try.prog 47 #[.int .i64 n] w fun e w' => e = .returned (.bool (objB n)) ∧ w = w' := by
  by_cases h1 : 1 ≤ n
  · by_cases h2 : n ≤ 2147483647
    · have HR := Lib.hid (show objB n = true by unfold objB; simp; omega)
      go_enter Try.func47, Try.ntmps47
      go_wp2
      go_ret
      exact ⟨ret_b (by rw [HR.out] <;> first | rfl | (simp; done) | (simp; omega)), rfl⟩
    · have HR := Lib.hid (show objB n = false by unfold objB; simp; omega)
      go_enter Try.func47, Try.ntmps47
      go_wp2
      go_ret
      exact ⟨ret_b (by rw [HR.out] <;> first | rfl | (simp; done) | (simp; omega)), rfl⟩
  · have HR := Lib.hid (show objB n = false by unfold objB; simp; omega)
    go_enter Try.func47, Try.ntmps47
    go_wp2
    go_ret
    exact ⟨ret_b (by rw [HR.out] <;> first | rfl | (simp; done) | (simp; omega)), rfl⟩
def inB (n lo hi : Int) : Bool := decide (lo ≤ n) && decide (n ≤ hi)
set_option maxRecDepth 100000 in
theorem rin_any (n lo hi : Int) (w : World) : Calls Try.prog 49 #[.int .i64 n, .int .i64 lo, .int .i64 hi] w fun e w' => e = .returned (.bool (inB n lo hi)) ∧ w = w' := by
  by_cases h1 : lo ≤ n
  · by_cases h2 : n ≤ hi
    · have HR := Lib.hid (show inB n lo hi = true by unfold inB; simp; omega)
      go_enter Try.func49, Try.ntmps49
      go_wp2
      go_ret
      exact ⟨ret_b (by rw [HR.out] <;> first | rfl | (simp; done) | (simp; omega)), rfl⟩
    · have HR := Lib.hid (show inB n lo hi = false by unfold inB; simp; omega)
      go_enter Try.func49, Try.ntmps49
      go_wp2
      go_ret
      exact ⟨ret_b (by rw [HR.out] <;> first | rfl | (simp; done) | (simp; omega)), rfl⟩
  · have HR := Lib.hid (show inB n lo hi = false by unfold inB; simp; omega)
    go_enter Try.func49, Try.ntmps49
    go_wp2
    go_ret
    exact ⟨ret_b (by rw [HR.out] <;> first | rfl | (simp; done) | (simp; omega)), rfl⟩
theorem size_zero {s : ByteArray} (h : s.size = 0) : s = ⟨#[]⟩ := by
  apply ByteArray.ext; apply Array.toList_inj.1
  have := size_list s
  rw [h] at this
  exact List.eq_nil_of_length_eq_zero this
theorem str_empty {s : ByteArray} (h : ¬ s.size = 0) : s.toList.isEmpty = false := by
  cases e : s.toList.isEmpty with
  | false => rfl
  | true =>
    rw [ByteArray.toList_eq] at e
    have := size_list s
    rw [List.isEmpty_iff.1 e] at this
    exact absurd this.symm h
set_option maxRecDepth 100000 in
set_option maxHeartbeats 400000 in
theorem plain_any (v : Vl) (w : World) : Calls Try.prog 72 #[Vv v] w fun e w' => e = .returned (.bool (plainB v)) ∧ Below w.heap.size w w' := by
  obtain ⟨vn, vi, vz⟩ := v
  dsimp only [Vv]
  have hA := Blk.new' w 36 #[.bool vn, .int .i64 vi, .string vz]
  have hbel : Below w.heap.size w (w.alloc (.cells #[.bool vn, .int .i64 vi, .string vz] 36)) := (Below.refl _ _).alloc (Nat.le_refl _) _
  cases vn
  · have HR : Hid (plainB ⟨false, vi, vz⟩ = decide (vz.size ≤ 64)) := by show _ = _; unfold plainB; simp
    go_enter Try.func72, Try.ntmps72
    go_wp2
    go_ret
    exact ⟨ret_b (by rw [HR.out]; simp; omega), hbel⟩
  · by_cases h1 : vi = 0
    · subst h1
      by_cases h2 : vz.size = 0
      · have HR : Hid (plainB ⟨true, 0, vz⟩ = true) := by show _ = _; unfold plainB; simp [h2]
        have e2 := size_zero h2
        clear h2
        subst e2
        go_enter Try.func72, Try.ntmps72
        go_wp2
        go_ret
        exact ⟨ret_b (by rw [HR.out] <;> first | rfl | (simp; done) | (simp; omega)), hbel⟩
      · have HR : Hid (plainB ⟨true, 0, vz⟩ = false) := by show _ = _; unfold plainB; rw [if_pos rfl, decide_eq_false h2]; simp
        have hb := str_empty h2
        clear h2
        go_enter Try.func72, Try.ntmps72
        go_wp2
        go_ret
        exact ⟨ret_b (by rw [HR.out] <;> first | rfl | (simp; done) | (simp; omega)), hbel⟩
    · have HR : Hid (plainB ⟨true, vi, vz⟩ = false) := by show _ = _; unfold plainB; simp [h1]
      have hb : (vi == 0) = false := by simpa using h1
      clear h1
      go_enter Try.func72, Try.ntmps72
      go_wp2
      go_ret
      exact ⟨ret_b (by rw [HR.out] <;> first | rfl | (simp; done) | (simp; omega)), hbel⟩

def rkC (p : Rk) : Array Value := #[.bool p.key.null, .int .i64 p.key.n, .string p.key.s, .int .i64 p.seq]
set_option maxRecDepth 100000 in
set_option maxHeartbeats 400000 in
theorem mrank_any (p : Rk) (w : World) : Calls Try.prog 48 #[Rv p] w fun e w' => e = .returned (.bool (rankB p)) ∧ Below w.heap.size w w' := by
  obtain ⟨⟨pn, pi, pz⟩, pq⟩ := p
  dsimp only [Rv]
  have hA := Blk.new' w 38 #[.bool pn, .int .i64 pi, .string pz, .int .i64 pq]
  have hbel : Below w.heap.size w (w.alloc (.cells #[.bool pn, .int .i64 pi, .string pz, .int .i64 pq] 38)) := (Below.refl _ _).alloc (Nat.le_refl _) _
  have HB : Hid (rankB ⟨⟨pn, pi, pz⟩, pq⟩ = (plainB ⟨pn, pi, pz⟩ && decide (0 ≤ pq) && decide (pq ≤ 1099511627776))) := by show _ = _; rfl
  go_enter Try.func48, Try.ntmps48
  go_wp2_with fail
  generalize w.alloc (.cells #[.bool pn, .int .i64 pi, .string pz, .int .i64 pq] 38) = wa at *
  refine (plain_any ⟨pn, pi, pz⟩ _).mono ?_; rintro e w1 ⟨rfl, hb1⟩
  have c3 := (hA.call hb1).cellAt 3 rfl
  generalize plainB ⟨pn, pi, pz⟩ = b at *
  clear hA
  cases b
  · have HR : Hid (rankB ⟨⟨pn, pi, pz⟩, pq⟩ = false) := by show _ = _; rw [HB.out]; simp
    go_wp2
    go_ret
    exact ⟨ret_b (by rw [HR.out] <;> first | rfl | (simp; done) | (simp; omega)), bt hbel hb1⟩
  · by_cases h1 : 0 ≤ pq
    · by_cases h2 : pq ≤ 1099511627776
      · have HR : Hid (rankB ⟨⟨pn, pi, pz⟩, pq⟩ = true) := by show _ = _; rw [HB.out]; simp [h1, h2]
        go_wp2
        go_ret
        exact ⟨ret_b (by rw [HR.out] <;> first | rfl | (simp; done) | (simp; omega)), bt hbel hb1⟩
      · have HR : Hid (rankB ⟨⟨pn, pi, pz⟩, pq⟩ = false) := by show _ = _; rw [HB.out]; simp [h2]
        go_wp2
        go_ret
        exact ⟨ret_b (by rw [HR.out] <;> first | rfl | (simp; done) | (simp; omega)), bt hbel hb1⟩
    · have HR : Hid (rankB ⟨⟨pn, pi, pz⟩, pq⟩ = false) := by show _ = _; rw [HB.out]; simp [h1]
      go_wp2
      go_ret
      exact ⟨ret_b (by rw [HR.out] <;> first | rfl | (simp; done) | (simp; omega)), bt hbel hb1⟩
set_option maxRecDepth 100000 in
set_option maxHeartbeats 400000 in
theorem rplain_any (p : Rk) (w : World) : Calls Try.prog 50 #[Rv p] w fun e w' => e = .returned (.bool (rankB p)) ∧ Below w.heap.size w w' := by
  obtain ⟨⟨pn, pi, pz⟩, pq⟩ := p
  dsimp only [Rv]
  have hA : Blk ((w.alloc (.cells #[.bool pn, .int .i64 pi, .string pz, .int .i64 pq] 38)).alloc (.cells #[.bool pn, .int .i64 pi, .string pz] 36)) w.heap.size 38 [.bool pn, .int .i64 pi, .string pz, .int .i64 pq] := (Blk.new' w 38 #[.bool pn, .int .i64 pi, .string pz, .int .i64 pq]).alloc _
  have hbel : Below w.heap.size w ((w.alloc (.cells #[.bool pn, .int .i64 pi, .string pz, .int .i64 pq] 38)).alloc (.cells #[.bool pn, .int .i64 pi, .string pz] 36)) := ((Below.refl _ _).alloc (Nat.le_refl _) _).alloc (by simp) _
  have HB : Hid (rankB ⟨⟨pn, pi, pz⟩, pq⟩ = (plainB ⟨pn, pi, pz⟩ && decide (0 ≤ pq) && decide (pq ≤ 1099511627776))) := by show _ = _; rfl
  by_cases h1 : 0 ≤ pq
  · by_cases h2 : pq ≤ 1099511627776
    · cases pn
      · have HR : Hid (rankB ⟨⟨false, pi, pz⟩, pq⟩ = decide (pz.size ≤ 64)) := by show _ = _; rw [HB.out, decide_eq_true h1, decide_eq_true h2]; unfold plainB; simp
        go_enter Try.func50, Try.ntmps50
        go_wp2
        go_ret
        exact ⟨ret_b (by rw [HR.out]; simp; omega), hbel⟩
      · by_cases h3 : pi = 0
        · subst h3
          by_cases h4 : pz.size = 0
          · have HR : Hid (rankB ⟨⟨true, 0, pz⟩, pq⟩ = true) := by show _ = _; rw [HB.out, decide_eq_true h1, decide_eq_true h2]; unfold plainB; simp [h4]
            have e2 := size_zero h4
            clear h4
            subst e2
            go_enter Try.func50, Try.ntmps50
            go_wp2
            go_ret
            exact ⟨ret_b (by rw [HR.out] <;> first | rfl | (simp; done) | (simp; omega)), hbel⟩
          · have HR : Hid (rankB ⟨⟨true, 0, pz⟩, pq⟩ = false) := by show _ = _; rw [HB.out]; unfold plainB; rw [if_pos rfl, decide_eq_false h4]; simp
            have hb := str_empty h4
            clear h4
            go_enter Try.func50, Try.ntmps50
            go_wp2
            go_ret
            exact ⟨ret_b (by rw [HR.out] <;> first | rfl | (simp; done) | (simp; omega)), hbel⟩
        · have HR : Hid (rankB ⟨⟨true, pi, pz⟩, pq⟩ = false) := by show _ = _; rw [HB.out]; unfold plainB; simp [h3]
          have hb : (pi == 0) = false := by simpa using h3
          clear h3
          go_enter Try.func50, Try.ntmps50
          go_wp2
          go_ret
          exact ⟨ret_b (by rw [HR.out] <;> first | rfl | (simp; done) | (simp; omega)), hbel⟩
    · have HR : Hid (rankB ⟨⟨pn, pi, pz⟩, pq⟩ = false) := by show _ = _; rw [HB.out]; simp [h2]
      go_enter Try.func50, Try.ntmps50
      go_wp2
      go_ret
      exact ⟨ret_b (by rw [HR.out] <;> first | rfl | (simp; done) | (simp; omega)), hbel⟩
  · have HR : Hid (rankB ⟨⟨pn, pi, pz⟩, pq⟩ = false) := by show _ = _; rw [HB.out]; simp [h1]
    go_enter Try.func50, Try.ntmps50
    go_wp2
    go_ret
    exact ⟨ret_b (by rw [HR.out] <;> first | rfl | (simp; done) | (simp; omega)), hbel⟩

end Go.Proofs.Ytgacjpkgpegcdaa
