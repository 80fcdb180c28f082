/-
  Decode of layer 9 and its reference: both return what decodeR says; and the comparison of two lists.
-/
import Derived.Test.YtgpipjifelfjlaaRWalks
namespace Go.Proofs.Ytgpipjifelfjlaa
open Go.RowKit

def DecPost (w : World) (s : List UInt8) (n : Int) (e : Ending) (w' : World) : Prop :=
  ∃ (v : Value) (xs : List Int) (err : Int), e = .returned (.tuple #[v, .int .i64 err]) ∧ decodeR s n = (xs, err) ∧ w'.ownsRow w.heap.size 2 1 v xs.length (xs.map Iv) ∧ (∀ z ∈ xs, I64 z) ∧ Below w.heap.size w w'
def DecInv (w : World) (s : List UInt8) (n : Nat) (a b : Value) (wr : World) : Prop :=
  ∃ (i f : Nat) (acc : List Int), b = .int .i64 (i : Int) ∧ Own w wr 2 1 a acc.length (acc.map Iv) ∧ acc.length ≤ n ∧ i ≤ s.length ∧ n < f + acc.length ∧ decR s n f i acc = decR s n (n + 1) 0 [] ∧ ∀ z ∈ acc, I64 z
def HidRep (w : World) (acc : List Int) (v : Int) (k : Nat) (a : Value) (j : Nat) (wr : World) : Prop :=
  Own w wr 2 1 a (acc.length + j) ((acc ++ List.replicate j v).map Iv) ∧ j ≤ k

theorem ret_pair {v : Value} {a b : Int} (h : a = b) : Ending.returned (.tuple #[v, .int .i64 a]) = .returned (.tuple #[v, .int .i64 b]) := by rw [h]
theorem decodeR_in {s : List UInt8} {n : Nat} (h : n ≤ 4096) : decodeR s n = decR s n (n + 1) 0 [] := by
  rw [decodeR, if_neg (by omega)]; rfl
theorem decodeR_out {s : List UInt8} {n : Int} (h : n < 0 ∨ 4096 < n) : decodeR s n = ([], 4) := if_pos h

/-- A pass, case by case. -/
theorem decR_e1 {s : List UInt8} {n f : Nat} {i : Int} {acc : List Int} {k : Nat} {j e : Int} (hf : 0 < f) (hn : acc.length < n) (h : getL s i = (k, j, e)) (he : e ≠ 0) : decR s n f i acc = ([], e) := by
  obtain ⟨f, rfl⟩ : ∃ m, f = m + 1 := ⟨f - 1, by omega⟩
  rw [decR, if_pos hn, h]; simp only []; rw [if_neg he]
theorem decR_bad {s : List UInt8} {n f : Nat} {i : Int} {acc : List Int} {k : Nat} {j : Int} (hf : 0 < f) (hn : acc.length < n) (h : getL s i = (k, j, 0)) (hk : k = 0 ∨ n - acc.length < k) : decR s n f i acc = ([], 2) := by
  obtain ⟨f, rfl⟩ : ∃ m, f = m + 1 := ⟨f - 1, by omega⟩
  rw [decR, if_pos hn, h]; simp only []; rw [if_pos trivial, if_pos hk]
theorem decR_e2 {s : List UInt8} {n f : Nat} {i : Int} {acc : List Int} {k z : Nat} {j j' e : Int} (hf : 0 < f) (hn : acc.length < n) (h : getL s i = (k, j, 0)) (hk : ¬ (k = 0 ∨ n - acc.length < k)) (h' : getL s j = (z, j', e)) (he : e ≠ 0) :
    decR s n f i acc = ([], e) := by
  obtain ⟨f, rfl⟩ : ∃ m, f = m + 1 := ⟨f - 1, by omega⟩
  rw [decR, if_pos hn, h]; simp only []; rw [if_pos trivial, if_neg hk, h']; simp only []; rw [if_neg he]
theorem decR_twice {s : List UInt8} {n f : Nat} {i : Int} {acc : List Int} {k z : Nat} {j j' : Int} (hf : 0 < f) (hn : acc.length < n) (h : getL s i = (k, j, 0)) (hk : ¬ (k = 0 ∨ n - acc.length < k)) (h' : getL s j = (z, j', 0)) (hl : acc.getLast? = some (zagI z)) :
    decR s n f i acc = ([], 2) := by
  obtain ⟨f, rfl⟩ : ∃ m, f = m + 1 := ⟨f - 1, by omega⟩
  rw [decR, if_pos hn, h]; simp only []; rw [if_pos trivial, if_neg hk, h']; simp only []; rw [if_pos trivial, if_pos hl]
theorem decR_on {s : List UInt8} {n f : Nat} {i : Int} {acc : List Int} {k z : Nat} {j j' : Int} (hf : 0 < f) (hn : acc.length < n) (h : getL s i = (k, j, 0)) (hk : ¬ (k = 0 ∨ n - acc.length < k)) (h' : getL s j = (z, j', 0)) (hl : acc.getLast? ≠ some (zagI z)) :
    decR s n f i acc = decR s n (f - 1) j' (acc ++ List.replicate k (zagI z)) := by
  obtain ⟨f, rfl⟩ : ∃ m, f = m + 1 := ⟨f - 1, by omega⟩
  rw [decR, if_pos hn, h]; simp only []; rw [if_pos trivial, if_neg hk, h']; simp only []; rw [if_pos trivial, if_neg hl]; rfl
theorem decR_rest {s : List UInt8} {n f : Nat} {i : Int} {acc : List Int} (hf : 0 < f) (hn : ¬ acc.length < n) (hi : i < s.length) : decR s n f i acc = ([], 2) := by
  obtain ⟨f, rfl⟩ : ∃ m, f = m + 1 := ⟨f - 1, by omega⟩
  rw [decR, if_neg hn, if_pos hi]
theorem decR_done {s : List UInt8} {n f : Nat} {i : Int} {acc : List Int} (hf : 0 < f) (hn : ¬ acc.length < n) (hi : ¬ i < s.length) : decR s n f i acc = (acc, 0) := by
  obtain ⟨f, rfl⟩ : ∃ m, f = m + 1 := ⟨f - 1, by omega⟩
  rw [decR, if_neg hn, if_neg hi]

set_option maxRecDepth 100000 in
set_option maxHeartbeats 1000000 in
theorem decode_in (s : ByteArray) (n : Nat) (w : World) (hsz : s.size ≤ 1000000000000000) (hn : n ≤ 4096) :
    Calls Try.prog 18 #[.string s, .int .i64 (n : Int)] w (DecPost w s.data.toList n) := by
  have HD := Lib.hid (decodeR_in (s := s.data.toList) hn)
  have hsl := Lib.hid (size_list s)
  obtain ⟨i0, hi1, hi2, hi3, hi4⟩ := Try.i64s.info
  have hmk : ∀ W : World, (Instr.makeSlice 23 (.int .i64 0) (.int .i64 (n : Int))).run Try.prog W = .ok (.slice (some ⟨W.heap.size, 0, none⟩) 0 n) (W.alloc (.cells (madeCells #[Value.int .i64 0] n) 2)) := fun W => by
    have := run_make (P := Try.prog) W 23 2 i0 (.int .i64 0) Try.i64s.und hi1 hi2 .i64 .i64 0 (n : Int) (by omega) (by omega) (by rw [hi4]; omega) (by omega)
    rw [hi3] at this
    simp only [Int.toNat_natCast, Int.toNat_zero, Nat.mul_one] at this
    exact this
  have hst : DecInv w s.data.toList n (.slice (some ⟨w.heap.size, 0, none⟩) 0 n) (.int .i64 0) (w.alloc (.cells (madeCells #[Value.int .i64 0] n) 2)) :=
    ⟨0, n + 1, [], rfl, ⟨World.ownsRow_made w _ n (Nat.le_refl _) (by unfold maxLen; omega) (by rw [size_madeCells, Nat.mul_one]), (Below.refl _ _).alloc (Nat.le_refl _) _⟩, by simp, by simp, by simp, rfl, by simp⟩
  clear hi1 hi2 hi3 hi4
  have hlow : decide ((n : Int) < 0) = false := by simp
  have hhigh : decide ((4096 : Int) < (n : Int)) = false := by simp; omega
  go_enter Try.func18, Try.ntmps18
  go_wp2
  generalize w.alloc (.cells (madeCells #[Value.int .i64 0] n) 2) = w0 at *
  go_loopw [6, 7] (fun a b wr => DecInv w s.data.toList n a b wr) (fun a _ _ => n - lenOf a)
  case atStart => exact hst
  case round =>
    clear hst
    obtain ⟨i, f, acc, rfl, ho, hacc, his, hf, he, hI⟩ := hrel
    have HE := Lib.hid he
    have HI := Lib.hid hI
    have f0 : 0 < f := by omega
    have hsz' := his
    rw [hsl.out] at hsz'
    clear he hI
    obtain ⟨B, cp, rfl, hcp⟩ := own_form ho.1
    by_cases hlt : acc.length < n
    · obtain ⟨k, j, e, hg⟩ : ∃ k j e, getL s.data.toList i = (k, j, e) := ⟨_, _, _, rfl⟩
      have hU := getL_U64 s.data.toList i
      have hget := fun W => get_any s i W hsz
      rw [hg] at hU
      simp only [hg] at hget
      have HG := Lib.hid hget
      have Hg := Lib.hid hg
      clear hget hg
      go_wp2_with fail
      refine (HG.out _).mono ?_; rintro e1 w1 ⟨rfl, rfl⟩
      by_cases he : e = 0
      · subst he
        obtain ⟨m, rfl, hm1, him, _⟩ := getL_read Hg.out
        generalize i + m = i2 at *
        by_cases hk : k = 0 ∨ n - acc.length < k
        · by_cases hk0 : k = 0
          · subst hk0
            clear hk
            go_wp2
            go_ret2
            exact ⟨_, [], 2, rfl, by rw [HD.out, ← HE.out, decR_bad f0 hlt Hg.out (Or.inl rfl)], World.ownsRow_nil _ _ _ _, by simp, ho.2⟩
          · have hb0 : ((k : Int) == 0) = false := by simpa using hk0
            have hk1 : (n : Int) - (acc.length : Int) < (k : Int) := by omega
            have hw : IntKind.u64.wrap ((n : Int) - (acc.length : Int)) = (n : Int) - (acc.length : Int) := IntWalk.u64_in _ (by omega)
            have HK := Lib.hid hk
            clear hk
            go_wp2
            go_ret2
            exact ⟨_, [], 2, rfl, by rw [HD.out, ← HE.out, decR_bad f0 hlt Hg.out HK.out], World.ownsRow_nil _ _ _ _, by simp, ho.2⟩
        · have hk0 : k ≠ 0 := fun h => hk (Or.inl h)
          have hk2 : ¬ n - acc.length < k := fun h => hk (Or.inr h)
          have hb0 : ((k : Int) == 0) = false := by simpa using hk0
          have hk1 : ¬ (n : Int) - (acc.length : Int) < (k : Int) := by omega
          have hkn : acc.length + k ≤ n := by omega
          have hkp : 0 < k := by omega
          have hw : IntKind.u64.wrap ((n : Int) - (acc.length : Int)) = (n : Int) - (acc.length : Int) := IntWalk.u64_in _ (by omega)
          have HK := Lib.hid hk
          clear hk hk0
          obtain ⟨z, j', e', hg'⟩ : ∃ z j e, getL s.data.toList i2 = (z, j, e) := ⟨_, _, _, rfl⟩
          have hU' := getL_U64 s.data.toList i2
          have hget := fun W => get_any s i2 W hsz
          rw [hg'] at hU'
          simp only [hg'] at hget
          have HG' := Lib.hid hget
          have Hg' := Lib.hid hg'
          clear hget hg'
          go_wp2_with fail
          refine (HG'.out _).mono ?_; rintro e1 w1 ⟨rfl, rfl⟩
          by_cases he : e' = 0
          · subst he
            obtain ⟨m', rfl, hm2, him2, _⟩ := getL_read Hg'.out
            generalize i2 + m' = i3 at *
            have hi3 : i3 ≤ s.data.toList.length := him2
            have HI2 : Hid (∀ y ∈ acc ++ List.replicate k (zagI z), I64 y) := fun y hy => by
              rcases List.mem_append.1 hy with h5 | h5
              · exact HI.out y h5
              · rw [(List.mem_replicate.1 h5).2]; exact zagI_I64 hU'
            go_wp2_with fail
            refine (zag_any z _ hU').mono ?_; rintro e1 w1 ⟨rfl, rfl⟩
            by_cases h0 : 0 < acc.length
            · obtain ⟨y, hy⟩ : ∃ y, acc[acc.length - 1]? = some y := ⟨_, List.getElem?_eq_getElem (by omega)⟩
              have hlast : acc.getLast? = some y := by rw [List.getLast?_eq_getElem?]; exact hy
              obtain ⟨ad, rfl, _, hc⟩ := (Rd.of_own ho.1).at_ (j := acc.length - 1) (u := Iv y) (by rw [List.getElem?_map, hy]; rfl)
              have HLast := Lib.hid hlast
              clear hy hlast
              by_cases hyv : y = zagI z
              · have hby : (y == zagI z) = true := by simpa using hyv
                have HY := Lib.hid hyv
                clear hyv
                go_wp2
                go_ret2
                exact ⟨_, [], 2, rfl, by rw [HD.out, ← HE.out, decR_twice f0 hlt Hg.out HK.out Hg'.out (by rw [HLast.out, HY.out])], World.ownsRow_nil _ _ _ _, by simp, ho.2⟩
              · have hby : (y == zagI z) = false := by simpa using hyv
                have HON := Lib.hid (HE.out.symm.trans (decR_on f0 hlt Hg.out HK.out Hg'.out (by rw [HLast.out]; simpa using hyv))).symm
                have h9 : HidRep w acc (zagI z) k (.slice (some ad) acc.length cp) 0 wr := ⟨by simpa using ho, Nat.zero_le _⟩
                go_wp2
                go_loopw [6, 72] (fun a b wx => ∃ j : Nat, b = .int .u64 (j : Int) ∧ HidRep w acc (zagI z) k a j wx) (fun _ b _ => k - (intOf b).toNat)
                case atStart => exact ⟨0, by simp, h9⟩
                case round =>
                  clear h9 ho
                  obtain ⟨j, rfl, hrep⟩ := hrel
                  have hjk := hrep.2
                  have ho := hrep.1
                  clear hrep
                  by_cases hj : j < k
                  · go_wp2_with (at_builtin; refine own_one ho Try.i64s rfl (by decide) rfl (one_i64 _) (by omega) (by unfold maxLen; omega) ?_ rfl _ _ rfl rfl rfl)
                    intro v6 w6 h6
                    go_wp2
                    go_roundw
                    case rel =>
                      refine ⟨j + 1, by go_num, ?_, by omega⟩
                      have e1 : (acc ++ List.replicate (j + 1) (zagI z)).map Iv = (acc ++ List.replicate j (zagI z)).map Iv ++ [Iv (zagI z)] := by simp [List.replicate_succ']
                      rw [e1]; simpa [Nat.add_assoc] using h6
                    case measure => simp [intOf]; omega
                  · have hjk2 : j = k := by omega
                    subst hjk2
                    go_wp2
                    go_roundw
                    case rel => exact ⟨i3, f - 1, _, rfl, by simpa using ho, by simp; omega, hi3, by simp; omega, HON.out, HI2.out⟩
                    case measure =>
                      obtain ⟨B2, cp2, rfl, _⟩ := own_form ho.1
                      show n - (acc.length + j) < n - acc.length
                      omega
            · have hac : acc = [] := List.eq_nil_of_length_eq_zero (by omega)
              have HON := Lib.hid (HE.out.symm.trans (decR_on f0 hlt Hg.out HK.out Hg'.out (by rw [hac]; simp))).symm
              clear hac
              have h9 : HidRep w acc (zagI z) k (.slice B acc.length cp) 0 wr := ⟨by simpa using ho, Nat.zero_le _⟩
              go_wp2
              go_loopw [6, 72] (fun a b wx => ∃ j : Nat, b = .int .u64 (j : Int) ∧ HidRep w acc (zagI z) k a j wx) (fun _ b _ => k - (intOf b).toNat)
              case atStart => exact ⟨0, by simp, h9⟩
              case round =>
                clear h9 ho
                obtain ⟨j, rfl, hrep⟩ := hrel
                have hjk := hrep.2
                have ho := hrep.1
                clear hrep
                by_cases hj : j < k
                · go_wp2_with (at_builtin; refine own_one ho Try.i64s rfl (by decide) rfl (one_i64 _) (by omega) (by unfold maxLen; omega) ?_ rfl _ _ rfl rfl rfl)
                  intro v6 w6 h6
                  go_wp2
                  go_roundw
                  case rel =>
                    refine ⟨j + 1, by go_num, ?_, by omega⟩
                    have e1 : (acc ++ List.replicate (j + 1) (zagI z)).map Iv = (acc ++ List.replicate j (zagI z)).map Iv ++ [Iv (zagI z)] := by simp [List.replicate_succ']
                    rw [e1]; simpa [Nat.add_assoc] using h6
                  case measure => simp [intOf]; omega
                · have hjk2 : j = k := by omega
                  subst hjk2
                  go_wp2
                  go_roundw
                  case rel => exact ⟨i3, f - 1, _, rfl, by simpa using ho, by simp; omega, hi3, by simp; omega, HON.out, HI2.out⟩
                  case measure =>
                    obtain ⟨B2, cp2, rfl, _⟩ := own_form ho.1
                    show n - (acc.length + j) < n - acc.length
                    omega
          · have hb : (e' != 0) = true := by simpa using he
            go_wp2
            go_ret2
            exact ⟨_, [], e', rfl, by rw [HD.out, ← HE.out, decR_e2 f0 hlt Hg.out HK.out Hg'.out he], World.ownsRow_nil _ _ _ _, by simp, ho.2⟩
      · have hb : (e != 0) = true := by simpa using he
        go_wp2
        go_ret2
        exact ⟨_, [], e, rfl, by rw [HD.out, ← HE.out, decR_e1 f0 hlt Hg.out he], World.ownsRow_nil _ _ _ _, by simp, ho.2⟩
    · by_cases hrest : (i : Int) < s.data.toList.length
      · have hr2 : i < s.size := by rw [← hsl.out]; omega
        go_wp2
        go_ret2
        exact ⟨_, [], 2, rfl, by rw [HD.out, ← HE.out, decR_rest f0 (by omega) (by omega)], World.ownsRow_nil _ _ _ _, by simp, ho.2⟩
      · have hr2 : ¬ i < s.size := by rw [← hsl.out]; omega
        go_wp2
        go_ret2
        exact ⟨_, acc, 0, rfl, by rw [HD.out, ← HE.out, decR_done f0 (by omega) (by omega)], ho.1, HI.out, ho.2⟩

theorem decode_out (s : ByteArray) (n : Int) (w : World) (hn : n < 0 ∨ 4096 < n) :
    Calls Try.prog 18 #[.string s, .int .i64 n] w (DecPost w s.data.toList n) := by
  have HD := Lib.hid (decodeR_out (s := s.data.toList) hn)
  by_cases h0 : n < 0
  · clear hn
    go_enter Try.func18, Try.ntmps18
    go_wp2
    go_ret2
    exact ⟨_, [], 4, rfl, HD.out, World.ownsRow_nil _ _ _ _, by simp, Below.refl _ _⟩
  · have h1 : 4096 < n := by omega
    clear hn
    go_enter Try.func18, Try.ntmps18
    go_wp2
    go_ret2
    exact ⟨_, [], 4, rfl, HD.out, World.ownsRow_nil _ _ _ _, by simp, Below.refl _ _⟩
theorem decode_any (s : ByteArray) (n : Int) (w : World) (hsz : s.size ≤ 1000000000000000) :
    Calls Try.prog 18 #[.string s, .int .i64 n] w (DecPost w s.data.toList n) := by
  by_cases h : n < 0 ∨ 4096 < n
  · exact decode_out s n w h
  · obtain ⟨m, rfl⟩ := Int.eq_ofNat_of_zero_le (show 0 ≤ n by omega)
    exact decode_in s m w hsz (by omega)

theorem size_in (n : Nat) (w : World) (hn : n ≤ 4096) : Calls Try.prog 32 #[.int .i64 (n : Int)] w fun e w' => e = .returned (.bool true) ∧ w = w' := by
  go_enter Try.func32, Try.ntmps32
  go_wp2
  go_ret
  exact ⟨ret_bool (by first | rfl | (simp; done) | (simp; omega)), rfl⟩
theorem size_out (n : Int) (w : World) (hn : n < 0 ∨ 4096 < n) : Calls Try.prog 32 #[.int .i64 n] w fun e w' => e = .returned (.bool false) ∧ w = w' := by
  have ret_no : ∀ {b : Bool}, b = false → Ending.returned (.bool b) = .returned (.bool false) := fun h => by rw [h]
  by_cases h0 : n < 0
  · clear hn
    go_enter Try.func32, Try.ntmps32
    go_wp2
    go_ret
    exact ⟨ret_no (by first | rfl | (simp; done) | (simp; omega)), rfl⟩
  · have h1 : ¬ n ≤ 4096 := by omega
    clear hn
    go_enter Try.func32, Try.ntmps32
    go_wp2
    go_ret
    exact ⟨ret_no (by first | rfl | (simp; done) | (simp; omega)), rfl⟩

set_option maxRecDepth 100000 in
set_option maxHeartbeats 1000000 in
theorem rdecode_in (s : ByteArray) (n : Nat) (w : World) (hsz : s.size ≤ 1000000000000000) (hn : n ≤ 4096) :
    Calls Try.prog 29 #[.string s, .int .i64 (n : Int)] w (DecPost w s.data.toList n) := by
  have HD := Lib.hid (decodeR_in (s := s.data.toList) hn)
  have hsl := Lib.hid (size_list s)
  have hst : DecInv w s.data.toList n (.slice none 0 0) (.int .i64 0) w := ⟨0, n + 1, [], rfl, Own.nil _ _ _, by simp, by simp, by simp, rfl, by simp⟩
  go_enter Try.func29, Try.ntmps29
  go_wp2_with fail
  refine (size_in n _ hn).mono ?_; rintro e w1 ⟨rfl, rfl⟩
  go_wp2
  go_loopw [6, 7] (fun a b wr => DecInv w s.data.toList n a b wr) (fun a _ _ => n - lenOf a)
  case atStart => exact hst
  case round =>
    clear hst
    obtain ⟨i, f, acc, rfl, ho, hacc, his, hf, he, hI⟩ := hrel
    have HE := Lib.hid he
    have HI := Lib.hid hI
    have f0 : 0 < f := by omega
    have hsz' := his
    rw [hsl.out] at hsz'
    clear he hI
    obtain ⟨B, cp, rfl, hcp⟩ := own_form ho.1
    by_cases hlt : acc.length < n
    · obtain ⟨k, j, e, hg⟩ : ∃ k j e, getL s.data.toList i = (k, j, e) := ⟨_, _, _, rfl⟩
      have hU := getL_U64 s.data.toList i
      have hget := fun W => rget_any s i W hsz
      rw [hg] at hU
      simp only [hg] at hget
      have HG := Lib.hid hget
      have Hg := Lib.hid hg
      clear hget hg
      go_wp2_with fail
      refine (HG.out _).mono ?_; rintro e1 w1 ⟨rfl, rfl⟩
      by_cases he : e = 0
      · subst he
        obtain ⟨m, rfl, hm1, him, _⟩ := getL_read Hg.out
        generalize i + m = i2 at *
        by_cases hk : k = 0 ∨ n - acc.length < k
        · by_cases hk0 : k = 0
          · subst hk0
            clear hk
            go_wp2
            go_ret2
            exact ⟨_, [], 2, rfl, by rw [HD.out, ← HE.out, decR_bad f0 hlt Hg.out (Or.inl rfl)], World.ownsRow_nil _ _ _ _, by simp, ho.2⟩
          · have hb0 : ((k : Int) == 0) = false := by simpa using hk0
            have hk1 : (n : Int) - (acc.length : Int) < (k : Int) := by omega
            have hw : IntKind.u64.wrap ((n : Int) - (acc.length : Int)) = (n : Int) - (acc.length : Int) := IntWalk.u64_in _ (by omega)
            have HK := Lib.hid hk
            clear hk
            go_wp2
            go_ret2
            exact ⟨_, [], 2, rfl, by rw [HD.out, ← HE.out, decR_bad f0 hlt Hg.out HK.out], World.ownsRow_nil _ _ _ _, by simp, ho.2⟩
        · have hk0 : k ≠ 0 := fun h => hk (Or.inl h)
          have hk2 : ¬ n - acc.length < k := fun h => hk (Or.inr h)
          have hb0 : ((k : Int) == 0) = false := by simpa using hk0
          have hk1 : ¬ (n : Int) - (acc.length : Int) < (k : Int) := by omega
          have hkn : acc.length + k ≤ n := by omega
          have hkp : 0 < k := by omega
          have hw : IntKind.u64.wrap ((n : Int) - (acc.length : Int)) = (n : Int) - (acc.length : Int) := IntWalk.u64_in _ (by omega)
          have HK := Lib.hid hk
          clear hk hk0
          obtain ⟨z, j', e', hg'⟩ : ∃ z j e, getL s.data.toList i2 = (z, j, e) := ⟨_, _, _, rfl⟩
          have hU' := getL_U64 s.data.toList i2
          have hget := fun W => rget_any s i2 W hsz
          rw [hg'] at hU'
          simp only [hg'] at hget
          have HG' := Lib.hid hget
          have Hg' := Lib.hid hg'
          clear hget hg'
          go_wp2_with fail
          refine (HG'.out _).mono ?_; rintro e1 w1 ⟨rfl, rfl⟩
          by_cases he : e' = 0
          · subst he
            obtain ⟨m', rfl, hm2, him2, _⟩ := getL_read Hg'.out
            generalize i2 + m' = i3 at *
            have hi3 : i3 ≤ s.data.toList.length := him2
            have HI2 : Hid (∀ y ∈ acc ++ List.replicate k (zagI z), I64 y) := fun y hy => by
              rcases List.mem_append.1 hy with h5 | h5
              · exact HI.out y h5
              · rw [(List.mem_replicate.1 h5).2]; exact zagI_I64 hU'
            go_wp2_with fail
            refine (rzag_any z _ hU').mono ?_; rintro e1 w1 ⟨rfl, rfl⟩
            by_cases h0 : 0 < acc.length
            · obtain ⟨y, hy⟩ : ∃ y, acc[acc.length - 1]? = some y := ⟨_, List.getElem?_eq_getElem (by omega)⟩
              have hlast : acc.getLast? = some y := by rw [List.getLast?_eq_getElem?]; exact hy
              obtain ⟨ad, rfl, _, hc⟩ := (Rd.of_own ho.1).at_ (j := acc.length - 1) (u := Iv y) (by rw [List.getElem?_map, hy]; rfl)
              have HLast := Lib.hid hlast
              clear hy hlast
              by_cases hyv : y = zagI z
              · have hby : (y == zagI z) = true := by simpa using hyv
                have HY := Lib.hid hyv
                clear hyv
                go_wp2
                go_ret2
                exact ⟨_, [], 2, rfl, by rw [HD.out, ← HE.out, decR_twice f0 hlt Hg.out HK.out Hg'.out (by rw [HLast.out, HY.out])], World.ownsRow_nil _ _ _ _, by simp, ho.2⟩
              · have hby : (y == zagI z) = false := by simpa using hyv
                have HON := Lib.hid (HE.out.symm.trans (decR_on f0 hlt Hg.out HK.out Hg'.out (by rw [HLast.out]; simpa using hyv))).symm
                have h9 : HidRep w acc (zagI z) k (.slice (some ad) acc.length cp) 0 wr := ⟨by simpa using ho, Nat.zero_le _⟩
                go_wp2
                go_loopw [6, 8] (fun a b wx => ∃ j : Nat, b = .int .u64 ((k - j : Nat) : Int) ∧ HidRep w acc (zagI z) k a j wx) (fun _ b _ => (intOf b).toNat)
                case atStart => exact ⟨0, by simp, h9⟩
                case round =>
                  clear h9 ho
                  obtain ⟨j, rfl, hrep⟩ := hrel
                  have hjk := hrep.2
                  have ho := hrep.1
                  clear hrep
                  by_cases hj : j < k
                  · go_wp2_with (at_builtin; refine own_one ho Try.i64s rfl (by decide) rfl (one_i64 _) (by omega) (by unfold maxLen; omega) ?_ rfl _ _ rfl rfl rfl)
                    intro v6 w6 h6
                    go_wp2
                    go_roundw
                    case rel =>
                      refine ⟨j + 1, by (congr 1; omega), ?_, by omega⟩
                      have e1 : (acc ++ List.replicate (j + 1) (zagI z)).map Iv = (acc ++ List.replicate j (zagI z)).map Iv ++ [Iv (zagI z)] := by simp [List.replicate_succ']
                      rw [e1]; simpa [Nat.add_assoc] using h6
                    case measure => simp [intOf]; omega
                  · have hjk2 : j = k := by omega
                    subst hjk2
                    go_wp2
                    go_roundw
                    case rel => exact ⟨i3, f - 1, _, rfl, by simpa using ho, by simp; omega, hi3, by simp; omega, HON.out, HI2.out⟩
                    case measure =>
                      obtain ⟨B2, cp2, rfl, _⟩ := own_form ho.1
                      show n - (acc.length + j) < n - acc.length
                      omega
            · have hac : acc = [] := List.eq_nil_of_length_eq_zero (by omega)
              have HON := Lib.hid (HE.out.symm.trans (decR_on f0 hlt Hg.out HK.out Hg'.out (by rw [hac]; simp))).symm
              clear hac
              have h9 : HidRep w acc (zagI z) k (.slice B acc.length cp) 0 wr := ⟨by simpa using ho, Nat.zero_le _⟩
              go_wp2
              go_loopw [6, 8] (fun a b wx => ∃ j : Nat, b = .int .u64 ((k - j : Nat) : Int) ∧ HidRep w acc (zagI z) k a j wx) (fun _ b _ => (intOf b).toNat)
              case atStart => exact ⟨0, by simp, h9⟩
              case round =>
                clear h9 ho
                obtain ⟨j, rfl, hrep⟩ := hrel
                have hjk := hrep.2
                have ho := hrep.1
                clear hrep
                by_cases hj : j < k
                · go_wp2_with (at_builtin; refine own_one ho Try.i64s rfl (by decide) rfl (one_i64 _) (by omega) (by unfold maxLen; omega) ?_ rfl _ _ rfl rfl rfl)
                  intro v6 w6 h6
                  go_wp2
                  go_roundw
                  case rel =>
                    refine ⟨j + 1, by (congr 1; omega), ?_, by omega⟩
                    have e1 : (acc ++ List.replicate (j + 1) (zagI z)).map Iv = (acc ++ List.replicate j (zagI z)).map Iv ++ [Iv (zagI z)] := by simp [List.replicate_succ']
                    rw [e1]; simpa [Nat.add_assoc] using h6
                  case measure => simp [intOf]; omega
                · have hjk2 : j = k := by omega
                  subst hjk2
                  go_wp2
                  go_roundw
                  case rel => exact ⟨i3, f - 1, _, rfl, by simpa using ho, by simp; omega, hi3, by simp; omega, HON.out, HI2.out⟩
                  case measure =>
                    obtain ⟨B2, cp2, rfl, _⟩ := own_form ho.1
                    show n - (acc.length + j) < n - acc.length
                    omega
          · have hb : (e' != 0) = true := by simpa using he
            go_wp2
            go_ret2
            exact ⟨_, [], e', rfl, by rw [HD.out, ← HE.out, decR_e2 f0 hlt Hg.out HK.out Hg'.out he], World.ownsRow_nil _ _ _ _, by simp, ho.2⟩
      · have hb : (e != 0) = true := by simpa using he
        go_wp2
        go_ret2
        exact ⟨_, [], e, rfl, by rw [HD.out, ← HE.out, decR_e1 f0 hlt Hg.out he], World.ownsRow_nil _ _ _ _, by simp, ho.2⟩
    · by_cases hrest : (i : Int) < s.data.toList.length
      · have hr2 : i < s.size := by rw [← hsl.out]; omega
        go_wp2
        go_ret2
        exact ⟨_, [], 2, rfl, by rw [HD.out, ← HE.out, decR_rest f0 (by omega) (by omega)], World.ownsRow_nil _ _ _ _, by simp, ho.2⟩
      · have hr2 : ¬ i < s.size := by rw [← hsl.out]; omega
        go_wp2
        go_ret2
        exact ⟨_, acc, 0, rfl, by rw [HD.out, ← HE.out, decR_done f0 (by omega) (by omega)], ho.1, HI.out, ho.2⟩
theorem rdecode_any (s : ByteArray) (n : Int) (w : World) (hsz : s.size ≤ 1000000000000000) :
    Calls Try.prog 29 #[.string s, .int .i64 n] w (DecPost w s.data.toList n) := by
  by_cases h : n < 0 ∨ 4096 < n
  · have HD := Lib.hid (decodeR_out (s := s.data.toList) h)
    go_enter Try.func29, Try.ntmps29
    go_wp2_with fail
    refine (size_out n _ h).mono ?_; rintro e w1 ⟨rfl, rfl⟩
    go_wp2
    go_ret2
    exact ⟨_, [], 4, rfl, HD.out, World.ownsRow_nil _ _ _ _, by simp, Below.refl _ _⟩
  · obtain ⟨m, rfl⟩ := Int.eq_ofNat_of_zero_le (show 0 ≤ n by omega)
    exact rdecode_in s m w hsz (by omega)

end Go.Proofs.Ytgpipjifelfjlaa
