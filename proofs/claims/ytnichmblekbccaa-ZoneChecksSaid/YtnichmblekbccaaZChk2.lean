/-
  The reference's test of a value of a column.
-/
import Derived.Test.YtnichmblekbccaaZChk
namespace Go.Proofs.Ytnichmblekbccaa
open Go.RowKit

theorem known_cases {ct : Int} (h : knownB ct = true) : ct = 1 ∨ ct = 2 ∨ ct = 3 ∨ ct = 4 ∨ ct = 5 := by
  simp [knownB] at h; omega
theorem nil_list {z : ByteArray} (h : ¬ z = ⟨#[]⟩) : z.toList ≠ [] := by
  have := list_ne h
  simpa using this
set_option maxRecDepth 100000 in
set_option maxHeartbeats 4000000 in
theorem rvcheck_any (c : Cl) (v : Vl) (w : World) : Calls Try.prog 36 #[Cv c, Vv v] w fun e w' => e = .returned (.int .i64 (chkV c v)) ∧ Below w.heap.size w w' := by
  obtain ⟨cm, ct, cs, cl⟩ := c
  obtain ⟨vn, vi, vz⟩ := v
  dsimp only [Vv, Cv]
  have hC := (Blk.new' w 32 #[.string cm, .int .i64 ct, .int .i64 cs, .bool cl]).alloc (.cells #[.bool vn, .int .i64 vi, .string vz] 23)
  have hV := Blk.new' (w.alloc (.cells #[.string cm, .int .i64 ct, .int .i64 cs, .bool cl] 32)) 23 #[.bool vn, .int .i64 vi, .string vz]
  have s1 : (w.alloc (.cells #[.string cm, .int .i64 ct, .int .i64 cs, .bool cl] 32)).heap.size = w.heap.size + 1 := by simp
  rw [s1] at hV
  clear s1
  have hbel : Below w.heap.size w ((w.alloc (.cells #[.string cm, .int .i64 ct, .int .i64 cs, .bool cl] 32)).alloc (.cells #[.bool vn, .int .i64 vi, .string vz] 23)) := ((Below.refl _ _).alloc (Nat.le_refl _) _).alloc (by simp) _
  go_enter Try.func36, Try.ntmps36
  go_upto_region 1 with fail
  generalize (w.alloc (.cells #[.string cm, .int .i64 ct, .int .i64 cs, .bool cl] 32)).alloc (.cells #[.bool vn, .int .i64 vi, .string vz] 23) = wa at *
  have c0 := hC.cellAt 0 rfl
  have c1 := hC.cellAt 1 rfl
  have c2 := hC.cellAt 2 rfl
  have c3 := hC.cellAt 3 rfl
  have v0 := hV.cellAt 0 rfl
  have v1 := hV.cellAt 1 rfl
  have v2 := hV.cellAt 2 rfl
  go_wp2_with fail
  refine (rtyped_any ct _).mono ?_; rintro e w1 ⟨rfl, rfl⟩
  cases hk : knownB ct
  · have HR : Hid (chkV ⟨cm, ct, cs, cl⟩ ⟨vn, vi, vz⟩ = 1) := by show _ = _; simp [chkV, hk]
    clear hk
    go_wp2
    go_ret
    exact ⟨by first | (rw [HR.out]; done) | (rw [HR.out]; rfl), hbel⟩
  · have HK := Lib.hid hk
    cases vn
    · rcases known_cases hk with rfl | rfl | rfl | rfl | rfl
      · clear hk
        by_cases hz : vz = ⟨#[]⟩
        · subst hz
          have HR : Hid (chkV ⟨cm, 1, cs, cl⟩ ⟨false, vi, ⟨#[]⟩⟩ = 0) := by show _ = _; simp [chkV, HK.out, permV]
          go_wp2
          go_ret
          exact ⟨by first | (rw [HR.out]; done) | (rw [HR.out]; rfl), hbel⟩
        · have q5 := list_ne hz
          have HR : Hid (chkV ⟨cm, 1, cs, cl⟩ ⟨false, vi, vz⟩ = 11) := by show _ = _; simp [chkV, HK.out, nil_list hz]
          clear hz
          go_wp2
          go_ret
          exact ⟨by first | (rw [HR.out]; done) | (rw [HR.out]; rfl), hbel⟩
      · clear hk
        by_cases hz : vz = ⟨#[]⟩
        · subst hz
          by_cases n0 : vi = 0
          · subst n0
            have HR : Hid (chkV ⟨cm, 2, cs, cl⟩ ⟨false, 0, ⟨#[]⟩⟩ = 0) := by show _ = _; simp [chkV, HK.out, permV]
            go_wp2
            go_ret
            exact ⟨by first | (rw [HR.out]; done) | (rw [HR.out]; rfl), hbel⟩
          · by_cases n1 : vi = 1
            · subst n1
              have HR : Hid (chkV ⟨cm, 2, cs, cl⟩ ⟨false, 1, ⟨#[]⟩⟩ = 0) := by show _ = _; simp [chkV, HK.out, permV]
              go_wp2
              go_ret
              exact ⟨by first | (rw [HR.out]; done) | (rw [HR.out]; rfl), hbel⟩
            · have q0 : (vi == 0) = false := by simpa using n0
              have q1 : (vi == 1) = false := by simpa using n1
              have HR : Hid (chkV ⟨cm, 2, cs, cl⟩ ⟨false, vi, ⟨#[]⟩⟩ = 4) := by show _ = _; simp [chkV, HK.out, permV, n0, n1]
              clear n0 n1
              go_wp2
              go_ret
              exact ⟨by first | (rw [HR.out]; done) | (rw [HR.out]; rfl), hbel⟩
        · have q5 := list_ne hz
          have HR : Hid (chkV ⟨cm, 2, cs, cl⟩ ⟨false, vi, vz⟩ = 11) := by show _ = _; simp [chkV, HK.out, nil_list hz]
          clear hz
          go_wp2
          go_ret
          exact ⟨by first | (rw [HR.out]; done) | (rw [HR.out]; rfl), hbel⟩
      · clear hk
        by_cases hi : vi = 0
        · subst hi
          by_cases hs : vz.size ≤ 64
          · have hd : decide ((vz.size : Int) ≤ 64) = true := by simp; omega
            have HR : Hid (chkV ⟨cm, 3, cs, cl⟩ ⟨false, 0, vz⟩ = 0) := by show _ = _; simp [chkV, HK.out, permV, hs]
            go_wp2
            go_ret
            exact ⟨by first | (rw [HR.out]; done) | (rw [HR.out]; rfl), hbel⟩
          · have hd : decide ((vz.size : Int) ≤ 64) = false := by simp; omega
            have HR : Hid (chkV ⟨cm, 3, cs, cl⟩ ⟨false, 0, vz⟩ = 4) := by show _ = _; simp [chkV, HK.out, permV, hs]
            go_wp2
            go_ret
            exact ⟨by first | (rw [HR.out]; done) | (rw [HR.out]; rfl), hbel⟩
        · have q0 : (vi == 0) = false := by simpa using hi
          have q1 : (vi != 0) = true := by simpa using hi
          have HR : Hid (chkV ⟨cm, 3, cs, cl⟩ ⟨false, vi, vz⟩ = 11) := by show _ = _; simp [chkV, HK.out, hi]
          clear hi
          go_wp2
          go_ret
          exact ⟨by first | (rw [HR.out]; done) | (rw [HR.out]; rfl), hbel⟩
      · clear hk
        by_cases hz : vz = ⟨#[]⟩
        · subst hz
          by_cases l1 : -719162 ≤ vi
          · have d1 : decide (-719162 ≤ vi) = true := decide_eq_true l1
            by_cases l2 : vi ≤ 2932896
            · have d2 : decide (vi ≤ 2932896) = true := decide_eq_true l2
              have HR : Hid (chkV ⟨cm, 4, cs, cl⟩ ⟨false, vi, ⟨#[]⟩⟩ = 0) := by show _ = _; simp [chkV, HK.out, permV, l1, l2]
              go_wp2
              go_ret
              exact ⟨by first | (rw [HR.out]; done) | (rw [HR.out]; rfl), hbel⟩
            · have d2 : decide (vi ≤ 2932896) = false := decide_eq_false l2
              have HR : Hid (chkV ⟨cm, 4, cs, cl⟩ ⟨false, vi, ⟨#[]⟩⟩ = 4) := by show _ = _; simp [chkV, HK.out, permV]; omega
              go_wp2
              go_ret
              exact ⟨by first | (rw [HR.out]; done) | (rw [HR.out]; rfl), hbel⟩
          · have d1 : decide (-719162 ≤ vi) = false := decide_eq_false l1
            have HR : Hid (chkV ⟨cm, 4, cs, cl⟩ ⟨false, vi, ⟨#[]⟩⟩ = 4) := by show _ = _; simp [chkV, HK.out, permV]; omega
            go_wp2
            go_ret
            exact ⟨by first | (rw [HR.out]; done) | (rw [HR.out]; rfl), hbel⟩
        · have q5 := list_ne hz
          have HR : Hid (chkV ⟨cm, 4, cs, cl⟩ ⟨false, vi, vz⟩ = 11) := by show _ = _; simp [chkV, HK.out, nil_list hz]
          clear hz
          go_wp2
          go_ret
          exact ⟨by first | (rw [HR.out]; done) | (rw [HR.out]; rfl), hbel⟩
      · clear hk
        by_cases hz : vz = ⟨#[]⟩
        · subst hz
          by_cases l1 : -999999999999999999 ≤ vi
          · have d1 : decide (-999999999999999999 ≤ vi) = true := decide_eq_true l1
            by_cases l2 : vi ≤ 999999999999999999
            · have d2 : decide (vi ≤ 999999999999999999) = true := decide_eq_true l2
              have HR : Hid (chkV ⟨cm, 5, cs, cl⟩ ⟨false, vi, ⟨#[]⟩⟩ = 0) := by show _ = _; simp [chkV, HK.out, permV, l1, l2]
              go_wp2
              go_ret
              exact ⟨by first | (rw [HR.out]; done) | (rw [HR.out]; rfl), hbel⟩
            · have d2 : decide (vi ≤ 999999999999999999) = false := decide_eq_false l2
              have HR : Hid (chkV ⟨cm, 5, cs, cl⟩ ⟨false, vi, ⟨#[]⟩⟩ = 4) := by show _ = _; simp [chkV, HK.out, permV]; omega
              go_wp2
              go_ret
              exact ⟨by first | (rw [HR.out]; done) | (rw [HR.out]; rfl), hbel⟩
          · have d1 : decide (-999999999999999999 ≤ vi) = false := decide_eq_false l1
            have HR : Hid (chkV ⟨cm, 5, cs, cl⟩ ⟨false, vi, ⟨#[]⟩⟩ = 4) := by show _ = _; simp [chkV, HK.out, permV]; omega
            go_wp2
            go_ret
            exact ⟨by first | (rw [HR.out]; done) | (rw [HR.out]; rfl), hbel⟩
        · have q5 := list_ne hz
          have HR : Hid (chkV ⟨cm, 5, cs, cl⟩ ⟨false, vi, vz⟩ = 11) := by show _ = _; simp [chkV, HK.out, nil_list hz]
          clear hz
          go_wp2
          go_ret
          exact ⟨by first | (rw [HR.out]; done) | (rw [HR.out]; rfl), hbel⟩
    · clear hk
      by_cases hi : vi = 0
      · subst hi
        by_cases hz : vz = ⟨#[]⟩
        · subst hz
          cases cl
          · have HR : Hid (chkV ⟨cm, ct, cs, false⟩ ⟨true, 0, ⟨#[]⟩⟩ = 12) := by show _ = _; simp [chkV, HK.out]
            go_wp2
            go_ret
            exact ⟨by first | (rw [HR.out]; done) | (rw [HR.out]; rfl), hbel⟩
          · have HR : Hid (chkV ⟨cm, ct, cs, true⟩ ⟨true, 0, ⟨#[]⟩⟩ = 0) := by show _ = _; simp [chkV, HK.out]
            go_wp2
            go_ret
            exact ⟨by first | (rw [HR.out]; done) | (rw [HR.out]; rfl), hbel⟩
        · have q5 := list_ne hz
          have HR : Hid (chkV ⟨cm, ct, cs, cl⟩ ⟨true, 0, vz⟩ = 11) := by show _ = _; simp [chkV, HK.out, nil_list hz]
          clear hz
          go_wp2
          go_ret
          exact ⟨by first | (rw [HR.out]; done) | (rw [HR.out]; rfl), hbel⟩
      · have q0 : (vi == 0) = false := by simpa using hi
        have q1 : (vi != 0) = true := by simpa using hi
        have HR : Hid (chkV ⟨cm, ct, cs, cl⟩ ⟨true, vi, vz⟩ = 11) := by show _ = _; simp [chkV, HK.out, hi]
        clear hi
        go_wp2
        go_ret
        exact ⟨by first | (rw [HR.out]; done) | (rw [HR.out]; rfl), hbel⟩

end Go.Proofs.Ytnichmblekbccaa
