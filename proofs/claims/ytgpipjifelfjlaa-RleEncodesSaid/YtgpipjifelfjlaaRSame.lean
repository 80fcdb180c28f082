/-
  Same at equal lists; decodes; RunsOf; awake of layer 9.
-/
import Derived.Test.YtgpipjifelfjlaaRDec
namespace Go.Proofs.Ytgpipjifelfjlaa
open Go.RowKit

set_option maxRecDepth 100000 in
set_option maxHeartbeats 400000 in
theorem same_i64 (A B : Option Addr) (n c d : Nat) (zs : List Int) (w : World) (hA : Rd w w.heap.size A (zs.map Iv)) (hB : Rd w w.heap.size B (zs.map Iv)) (hn : zs.length = n) (hm : n ≤ 1000000000000000) :
    Calls Try.prog 19 #[.slice A n c, .slice B n d] w fun e w' => e = .returned (.bool true) ∧ ∃ q, w.drewN q = w' := by
  have HN := Lib.hid hn
  clear hn
  go_enter Try.func19, Try.ntmps19
  go_wp2
  go_loopw [13] (fun a wr => ∃ k q : Nat, a = .int .i64 (k : Int) ∧ k ≤ n ∧ wr = w.drewN q) (fun a _ => n - (intOf a).toNat)
  case atStart => exact ⟨0, 0, rfl, by omega, rfl⟩
  case round =>
    obtain ⟨k, q, rfl, hk, rfl⟩ := hrel
    by_cases hlt : k < n
    · obtain ⟨z, hz⟩ : ∃ z, zs[k]? = some z := ⟨_, List.getElem?_eq_getElem (by rw [HN.out]; exact hlt)⟩
      obtain ⟨ad, rfl, _, hc⟩ := hA.at_ (j := k) (u := Iv z) (by rw [List.getElem?_map, hz]; rfl)
      obtain ⟨bd, rfl, _, hc'⟩ := hB.at_ (j := k) (u := Iv z) (by rw [List.getElem?_map, hz]; rfl)
      clear hz
      go_wp2
      go_quiet (fail)
      go_wp2
      go_roundw
      case rel => exact ⟨k + 1, _, by go_num, by omega, rfl⟩
      case measure => simp [intOf]; omega
    · go_wp2
      go_ret
      exact ⟨rfl, q, rfl⟩

set_option maxRecDepth 100000 in
set_option maxHeartbeats 400000 in
theorem decodes_any (s : ByteArray) (n : Int) (w : World) (hsz : s.size ≤ 1000000000000000) :
    Calls Try.prog 16 #[.string s, .int .i64 n] w fun e w' => e = .returned (.bool true) ∧ Below w.heap.size w w' := by
  go_enter Try.func16, Try.ntmps16
  go_wp2_with fail
  refine (decode_any s n _ hsz).mono ?_; rintro e w1 ⟨v, xs, err, rfl, hd, ho, hI, hb1⟩
  obtain ⟨A, c, rfl, _⟩ := own_form ho
  have HD := Lib.hid hd
  have HI := Lib.hid hI
  clear hd hI
  go_wp2_with fail
  refine (rdecode_any s n _ hsz).mono ?_; rintro e w2 ⟨v', ys, err', rfl, hd', ho', _, hb2⟩
  obtain ⟨B, d, rfl, _⟩ := own_form ho'
  rw [HD.out] at hd'
  cases hd'
  have hl : xs.length ≤ 4096 := by
    have h := HD.out
    by_cases h0 : n < 0 ∨ 4096 < n
    · rw [decodeR_out h0] at h; cases h; simp
    · obtain ⟨m, rfl⟩ := Int.eq_ofNat_of_zero_le (show 0 ≤ n by omega)
      by_cases he : err = 0
      · subst he; have := (decodeR_only h).2.1; omega
      · have hz : xs = [] := decodeR_nil h he
        rw [hz]; simp
  have r1 := (Rd.of_own ho).call hb2
  have r2 := Rd.of_own ho'
  clear ho ho'
  go_wp2_with fail
  refine (same_i64 A B _ c d xs _ r1 r2 rfl (by omega)).mono ?_; rintro e w3 ⟨rfl, q, rfl⟩
  go_wp2
  go_ret
  exact ⟨ret_bool (by first | rfl | (simp; done)), below_drewN (bt hb1 hb2) q⟩


/-- What stands ahead of index i. -/
def prevAt (L : List Int) (i : Nat) : Option Int := if i = 0 then none else L[i - 1]?

set_option maxRecDepth 100000 in
set_option maxHeartbeats 1000000 in
theorem runsOf_any (A : Option Addr) (n c : Nat) (L : List Int) (w : World) (hr : Rd w w.heap.size A (L.map Iv)) (hn : L.length = n) (hm : n ≤ 17592186044416) :
    Calls Try.prog 15 #[.slice A n c] w fun e w' => e = .returned (.int .i64 (chgP none L)) ∧ ∃ q, w.drewN q = w' := by
  have HN := Lib.hid hn
  have hlen := chgP_le none L
  rw [hn] at hlen
  clear hn
  go_enter Try.func15, Try.ntmps15
  go_wp2
  go_loopw [3, 7] (fun a b wr => ∃ i k q : Nat, a = .int .i64 (k : Int) ∧ b = .int .i64 (i : Int) ∧ i ≤ n ∧ wr = w.drewN q ∧ k + chgP (prevAt L i) (L.drop i) = chgP none L) (fun _ b _ => n - (intOf b).toNat)
  case atStart => exact ⟨0, 0, 0, rfl, rfl, by omega, rfl, by simp [prevAt]⟩
  case round =>
    obtain ⟨i, k, q, rfl, rfl, hi, rfl, he⟩ := hrel
    by_cases hlt : i < n
    · have hLi : i < L.length := by rw [HN.out]; exact hlt
      obtain ⟨x, hx⟩ : ∃ x, L[i]? = some x := ⟨_, List.getElem?_eq_getElem hLi⟩
      have hd : L.drop i = x :: L.drop (i + 1) := by
        rw [List.drop_eq_getElem_cons hLi]; congr 1
        rw [List.getElem?_eq_getElem hLi] at hx; exact Option.some.inj hx
      have hnext : prevAt L (i + 1) = some x := by unfold prevAt; rw [if_neg (by omega)]; exact hx
      obtain ⟨ad, rfl, _, hc⟩ := hr.at_ (j := i) (u := Iv x) (by rw [List.getElem?_map, hx]; rfl)
      rw [hd] at he
      simp only [chgP] at he
      have hkn : k ≤ n := by omega
      by_cases h0 : i = 0
      · have hp : prevAt L i = none := by unfold prevAt; rw [if_pos h0]
        rw [hp, if_neg (by simp)] at he
        have hk1 : k + 1 ≤ n := by omega
        have hb0 : ((i : Int) == 0) = true := by simp; omega
        have HE := Lib.hid he
        have HX := Lib.hid hnext
        clear he hx hd hnext hp h0
        go_wp2
        go_quiet (fail)
        go_wp2
        go_roundw
        case rel => exact ⟨i + 1, k + 1, _, by go_num, by go_num, by omega, rfl, by rw [← HE.out, HX.out]; omega⟩
        case measure => simp [intOf]; omega
      · obtain ⟨y, hy⟩ : ∃ y, L[i - 1]? = some y := ⟨_, List.getElem?_eq_getElem (by omega)⟩
        have hp : prevAt L i = some y := by unfold prevAt; rw [if_neg h0]; exact hy
        obtain ⟨ad', e, _, hc'⟩ := hr.at_ (j := i - 1) (u := Iv y) (by rw [List.getElem?_map, hy]; rfl)
        cases e
        have hb0 : ((i : Int) == 0) = false := by simp; omega
        have hw : IntKind.i64.wrap ((i : Int) - 1) = (i : Int) - 1 := IntWalk.i64_in _ (by omega)
        have hw1 : 0 ≤ (i : Int) - 1 := by omega
        have hw2 : ((i : Int) - 1).toNat = i - 1 := by omega
        have hw3 : (i : Int) - 1 < (n : Int) := by omega
        have hw4 : (i : Int) < (n : Int) := by omega
        by_cases hxy : x = y
        · rw [hp, if_pos (by rw [hxy])] at he
          have hbx : (x != y) = false := by simpa using hxy
          have HE := Lib.hid he
          have HX := Lib.hid hnext
          clear he hx hd hnext hp h0 hy hxy
          go_wp2
          go_quiet (fail)
          go_wp2
          go_roundw
          case rel => exact ⟨i + 1, k, _, rfl, by go_num, by omega, rfl, by rw [← HE.out, HX.out]; omega⟩
          case measure => simp [intOf]; omega
        · rw [hp, if_neg (by simpa using fun e => hxy e.symm)] at he
          have hbx : (x != y) = true := by simpa using hxy
          have hk1 : k + 1 ≤ n := by omega
          have HE := Lib.hid he
          have HX := Lib.hid hnext
          clear he hx hd hnext hp h0 hy hxy
          go_wp2
          go_quiet (fail)
          go_wp2
          go_roundw
          case rel => exact ⟨i + 1, k + 1, _, by go_num, by go_num, by omega, rfl, by rw [← HE.out, HX.out]; omega⟩
          case measure => simp [intOf]; omega
    · have hn0 : L.drop i = [] := List.drop_eq_nil_iff.2 (by rw [HN.out]; omega)
      rw [hn0] at he
      simp only [chgP] at he
      have HE := Lib.hid he
      clear he hn0
      go_wp2
      go_ret
      exact ⟨ret_int (by rw [← HE.out]; simp), q, rfl⟩

theorem encR_ex : encR [7, 7, 7, -1] = [3, 14, 1, 1] := by
  rw [encR_cons, show runN [7, 7, 7, -1] = 3 from by decide, show ([7, 7, 7, -1] : List Int).drop 3 = [-1] from rfl, encR_cons, show runN [-1] = 1 from by decide, show ([-1] : List Int).drop 1 = [] from rfl, encR_nil,
    putL_lt (by decide), putL_lt (by decide), putL_lt (by decide), putL_lt (by decide)]
  decide

set_option maxRecDepth 100000 in
set_option maxHeartbeats 400000 in
theorem awake9 (w : World) : Calls Try.prog 12 #[] w fun e w' => e = .returned (.bool true) ∧ Below w.heap.size w w' := by
  have hcv : ∀ W : World, Calls Try.prog 10 #[.slice (some ⟨W.heap.size, 0, none⟩) 4 4] (W.alloc (.cells #[.int .i64 7, .int .i64 7, .int .i64 7, .int .i64 (-1)] 2)) fun e w' =>
      e = .returned (.string ⟨#[3, 14, 1, 1]⟩) ∧ Below (W.alloc (.cells #[.int .i64 7, .int .i64 7, .int .i64 7, .int .i64 (-1)] 2)).heap.size (W.alloc (.cells #[.int .i64 7, .int .i64 7, .int .i64 7, .int .i64 (-1)] 2)) w' := fun W => by
    have h := encode_any (some ⟨W.heap.size, 0, none⟩) 4 4 [7, 7, 7, -1] (W.alloc (.cells #[.int .i64 7, .int .i64 7, .int .i64 7, .int .i64 (-1)] 2)) (.inr ⟨_, rfl, by simp, fun j u hj => by
      have e0 : (⟨W.heap.size, 0, none⟩ : Addr).add j = ⟨W.heap.size, j, none⟩ := by unfold Addr.add; split <;> simp_all
      rw [e0, World.cell?_alloc_mark]
      simpa using hj⟩) rfl (by omega) (by omega) (by intro z hz; simp at hz; unfold I64; omega)
    rw [encR_ex] at h
    exact h
  have HC := Lib.hid hcv
  clear hcv
  go_enter Try.func12, Try.ntmps12
  go_wp2_with fail
  refine (HC.out _).mono ?_; rintro e w1 ⟨rfl, hb1⟩
  go_wp2
  go_ret
  exact ⟨ret_bool (by first | rfl | (simp; done)), bt ((Below.refl _ _).alloc (Nat.le_refl _) _) hb1⟩
set_option maxRecDepth 100000 in
set_option maxHeartbeats 400000 in
theorem walk_RleExamples (w : World) : Calls Try.prog 3 #[] w fun e w' => e = .returned (.bool true) ∧ Below w.heap.size w w' := by
  have hcv : ∀ W : World, Calls Try.prog 10 #[.slice (some ⟨W.heap.size, 0, none⟩) 4 4] (W.alloc (.cells #[.int .i64 7, .int .i64 7, .int .i64 7, .int .i64 (-1)] 2)) fun e w' =>
      e = .returned (.string ⟨#[3, 14, 1, 1]⟩) ∧ Below (W.alloc (.cells #[.int .i64 7, .int .i64 7, .int .i64 7, .int .i64 (-1)] 2)).heap.size (W.alloc (.cells #[.int .i64 7, .int .i64 7, .int .i64 7, .int .i64 (-1)] 2)) w' := fun W => by
    have h := encode_any (some ⟨W.heap.size, 0, none⟩) 4 4 [7, 7, 7, -1] (W.alloc (.cells #[.int .i64 7, .int .i64 7, .int .i64 7, .int .i64 (-1)] 2)) (.inr ⟨_, rfl, by simp, fun j u hj => by
      have e0 : (⟨W.heap.size, 0, none⟩ : Addr).add j = ⟨W.heap.size, j, none⟩ := by unfold Addr.add; split <;> simp_all
      rw [e0, World.cell?_alloc_mark]
      simpa using hj⟩) rfl (by omega) (by omega) (by intro z hz; simp at hz; unfold I64; omega)
    rw [encR_ex] at h
    exact h
  have HC := Lib.hid hcv
  clear hcv
  go_enter Try.func3, Try.ntmps3
  go_wp2_with fail
  refine (HC.out _).mono ?_; rintro e w1 ⟨rfl, hb1⟩
  go_wp2
  go_ret
  exact ⟨ret_bool (by first | rfl | (simp; done)), bt ((Below.refl _ _).alloc (Nat.le_refl _) _) hb1⟩

end Go.Proofs.Ytgpipjifelfjlaa
