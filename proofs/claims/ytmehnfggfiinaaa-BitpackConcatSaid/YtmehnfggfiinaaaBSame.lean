/-
  Same at equal lists of numbers, the maker of numbers, awake of layer 2.
-/
import Derived.Test.YtmehnfggfiinaaaBUnp
import Derived.Test.YtmehnfggfiinaaaList
namespace Go.Proofs.Ytmehnfggfiinaaa
open Go.RowKit

set_option maxRecDepth 100000 in
set_option maxHeartbeats 400000 in
theorem same_u64 (A B : Option Addr) (n c d : Nat) (zs : List Nat) (w : World) (hA : Rd w w.heap.size A (zs.map Uv)) (hB : Rd w w.heap.size B (zs.map Uv)) (hn : zs.length = n) (hm : n ≤ 1000000000000000) :
    Calls Try.prog 21 #[.slice A n c, .slice B n d] w fun e w' => e = .returned (.bool true) ∧ ∃ q, w.drewN q = w' := by
  have HN := Lib.hid hn
  clear hn
  go_enter Try.func21, Try.ntmps21
  go_wp2
  go_loopw [13] (fun a wr => ∃ k q : Nat, a = .int .i64 (k : Int) ∧ k ≤ n ∧ wr = w.drewN q) (fun a _ => n - (intOf a).toNat)
  case atStart => exact ⟨0, 0, rfl, by omega, rfl⟩
  case round =>
    obtain ⟨k, q, rfl, hk, rfl⟩ := hrel
    by_cases hlt : k < n
    · obtain ⟨z, hz⟩ : ∃ z, zs[k]? = some z := ⟨_, List.getElem?_eq_getElem (by rw [HN.out]; exact hlt)⟩
      obtain ⟨ad, rfl, _, hc⟩ := hA.at_ (j := k) (u := Uv z) (by rw [List.getElem?_map, hz]; rfl)
      obtain ⟨bd, rfl, _, hc'⟩ := hB.at_ (j := k) (u := Uv z) (by rw [List.getElem?_map, hz]; rfl)
      clear hz
      go_wp2
      go_quiet (fail)
      go_wp2
      go_roundw
      case rel => exact ⟨k + 1, _, by go_num, by omega, rfl⟩
      case measure => simp [intOf]; omega
    · go_wp2
      go_ret
      exact ⟨rfl, q, rfl⟩

/-- What numbers returns. -/
def NumPost (w : World) (n k : Nat) (e : Ending) (w' : World) : Prop :=
  ∃ (v : Value) (xs : List Nat), e = .returned v ∧ w'.ownsRow w.heap.size 25 1 v xs.length (xs.map Uv) ∧ (∀ z ∈ xs, U64 z) ∧ (∀ z ∈ xs, widthN z ≤ k) ∧ xs.length = min n 100 ∧ Below w.heap.size w w'
theorem one_u64 (z : Nat) : ∀ u ∈ (#[Uv z] : Array Value).toList, u.oneCell' = true := by
  intro u hu; simp at hu; subst hu; rfl
theorem snoc_all {p : Nat → Prop} {xs : List Nat} {z : Nat} (h : ∀ x ∈ xs, p x) (hz : p z) : ∀ x ∈ xs ++ [z], p x := by
  intro x hx
  rcases List.mem_append.1 hx with h1 | h1
  · exact h x h1
  · rw [List.mem_singleton.1 h1]; exact hz
theorem u64_of (x : Int) : ∃ V : Nat, IntKind.u64.wrap x = (V : Int) ∧ U64 V := by
  have w1 : IntKind.u64.wrap x = x % 18446744073709551616 := by simp [IntKind.wrap, IntKind.bits, IntKind.signed]
  refine ⟨(x % 18446744073709551616).toNat, by rw [w1]; omega, by unfold U64; omega⟩

theorem mask_u64 {V k : Nat} (hV : U64 V) (hk : k < 64) : bits .and .u64 (V : Int) (IntKind.u64.wrap (IntKind.u64.wrap (2 ^ k) - 1)) = ((V % 2 ^ k : Nat) : Int) := by
  have p1 := Nat.two_pow_pos k
  have p2 : (2 : Nat) ^ k ≤ 2 ^ 63 := Nat.pow_le_pow_right (by omega) (by omega)
  have e : IntKind.u64.wrap (IntKind.u64.wrap (2 ^ k) - 1) = ((2 ^ k - 1 : Nat) : Int) := by
    have w1 : ∀ m : Int, IntKind.u64.wrap m = m % 18446744073709551616 := fun m => by simp [IntKind.wrap, IntKind.bits, IntKind.signed]
    have e1 : (2 : Int) ^ k = ((2 ^ k : Nat) : Int) := by simp
    rw [e1, w1, w1]; omega
  rw [e, u64_and_nat V (2 ^ k - 1) (by unfold U64 at hV; exact hV) (by omega), Nat.and_two_pow_sub_one_eq_mod]

set_option maxRecDepth 100000 in
set_option maxHeartbeats 1000000 in
theorem numbers_any (A : Option Addr) (n c k : Nat) (zs : List Int) (w : World) (hr : Rd w w.heap.size A (zs.map Iv)) (hn : zs.length = n) (hk : k ≤ 64) (hm : n ≤ 17592186044416) :
    Calls Try.prog 18 #[.slice A n c, .int .i64 (k : Int)] w (NumPost w n k) := by
  have HN := Lib.hid hn
  clear hn
  go_enter Try.func18, Try.ntmps18
  go_wp2
  go_loopw [5, 6] (fun a b wr => ∃ (i : Nat) (xs : List Nat), b = .int .i64 (i : Int) ∧ i ≤ n ∧ i ≤ 100 ∧ Own w wr 25 1 a i (xs.map Uv) ∧ Hid (∀ z ∈ xs, U64 z) ∧ Hid (∀ z ∈ xs, widthN z ≤ k)) (fun _ b _ => n - (intOf b).toNat)
  case atStart => exact ⟨0, [], rfl, by omega, by omega, Own.nil _ _ _, by intro z h; simp at h, by intro z h; simp at h⟩
  case round =>
    obtain ⟨i, xs, rfl, hi, h100, ho, hU, hW⟩ := hrel
    by_cases hin : i < n
    · by_cases hin2 : i < 100
      · have hd : decide ((i : Int) < 100) = true := by simp; omega
        obtain ⟨z, hz⟩ : ∃ z, zs[i]? = some z := ⟨_, List.getElem?_eq_getElem (by rw [HN.out]; exact hin)⟩
        obtain ⟨ad, rfl, hadb, hc⟩ := hr.at_ (j := i) (u := Iv z) (by rw [List.getElem?_map, hz]; rfl)
        have hc1 : wr.cell? (ad.add i) = some (Iv z) := (ho.2.cell (by rw [block_of_add]; exact hadb)).trans hc
        clear hz hc
        obtain ⟨B, d, rfl, hBd⟩ := own_form ho.1
        obtain ⟨V, hVe, hV⟩ := u64_of (IntKind.u64.wrap z * 11400714819323198485)
        by_cases hk64 : k < 64
        · have hmask := mask_u64 hV hk64
          have HV : Hid (U64 (V % 2 ^ k)) := Nat.lt_of_le_of_lt (Nat.mod_le _ _) hV
          have HW : Hid (widthN (V % 2 ^ k) ≤ k) := (width_le k _).2 (Nat.mod_lt _ (Nat.two_pow_pos _))
          generalize V % 2 ^ k = V' at *
          clear hV
          go_wp2_with (at_builtin; refine own_one ho u64s rfl (by decide) rfl (one_u64 V') (by omega) (by unfold maxLen; omega) ?_ rfl _ _ rfl rfl rfl)
          intro v' w' ho'
          go_wp2
          go_roundw
          case rel => exact ⟨i + 1, xs ++ [V'], by go_num, by omega, by omega, by simpa using ho', snoc_all hU.out HV.out, snoc_all hW.out HW.out⟩
          case measure => simp [intOf]; omega
        · have HV := Lib.hid hV
          have HW : Hid (widthN V ≤ k) := Nat.le_trans (width_u64 hV) (by omega)
          have hd2 : decide ((k : Int) < 64) = false := by simp; omega
          clear hV
          go_wp2_with (at_builtin; refine own_one ho u64s rfl (by decide) rfl (one_u64 V) (by omega) (by unfold maxLen; omega) ?_ rfl _ _ rfl rfl rfl)
          intro v' w' ho'
          go_wp2
          go_roundw
          case rel => exact ⟨i + 1, xs ++ [V], by go_num, by omega, by omega, by simpa using ho', snoc_all hU.out HV.out, snoc_all hW.out HW.out⟩
          case measure => simp [intOf]; omega
      · have hd : decide ((i : Int) < 100) = false := by simp; omega
        have HL : Hid (i = min n 100) := by show _ = _; omega
        go_wp2
        go_ret
        have hl : xs.length = i := by have := ho.1.1; simpa using this
        exact ⟨_, xs, rfl, by rw [hl]; exact ho.1, hU.out, hW.out, by rw [hl]; exact HL.out, ho.2⟩
    · have HL : Hid (i = min n 100) := by show _ = _; omega
      go_wp2
      go_ret
      have hl : xs.length = i := by have := ho.1.1; simpa using this
      exact ⟨_, xs, rfl, by rw [hl]; exact ho.1, hU.out, hW.out, by rw [hl]; exact HL.out, ho.2⟩

theorem packR_ex : packR [1, 2, 3] 2 = ([57], 0) := by
  have h1 : widthN 1 ≤ 2 := (width_le 2 1).2 (by omega)
  have h2 : widthN 2 ≤ 2 := (width_le 2 2).2 (by omega)
  have h3 : widthN 3 ≤ 2 := (width_le 2 3).2 (by omega)
  rw [packR, if_neg (by omega), if_neg (by simp), if_pos (by intro v hv; simp at hv; rcases hv with rfl | rfl | rfl <;> assumption)]
  rfl
set_option maxRecDepth 100000 in
set_option maxHeartbeats 400000 in
theorem awake2 (w : World) : Calls Try.prog 14 #[] w fun e w' => e = .returned (.bool true) ∧ Below w.heap.size w w' := by
  have hcv : ∀ W : World, Calls Try.prog 10 #[.slice (some ⟨W.heap.size, 0, none⟩) 3 3, .int .i64 2] (W.alloc (.cells #[.int .u64 1, .int .u64 2, .int .u64 3] 25)) fun e w' =>
      e = .returned (.tuple #[.string ⟨#[57]⟩, .int .i64 0]) ∧ Below (W.alloc (.cells #[.int .u64 1, .int .u64 2, .int .u64 3] 25)).heap.size (W.alloc (.cells #[.int .u64 1, .int .u64 2, .int .u64 3] 25)) w' := fun W => by
    have h := pack_any (some ⟨W.heap.size, 0, none⟩) 3 3 2 [1, 2, 3] (W.alloc (.cells #[.int .u64 1, .int .u64 2, .int .u64 3] 25)) (.inr ⟨_, rfl, by simp, fun j u hj => by
      have e0 : (⟨W.heap.size, 0, none⟩ : Addr).add j = ⟨W.heap.size, j, none⟩ := by unfold Addr.add; split <;> simp_all
      rw [e0, World.cell?_alloc_mark]
      simpa [Uv] using hj⟩) rfl (by intro z hz; simp at hz; unfold U64; omega)
    rw [packR_ex] at h
    exact h
  have HC := Lib.hid hcv
  clear hcv
  go_enter Try.func14, Try.ntmps14
  go_wp2_with fail
  refine (HC.out _).mono ?_; rintro e w1 ⟨rfl, hb1⟩
  go_wp2
  go_ret
  exact ⟨ret_bool (by first | rfl | (simp; done)), bt ((Below.refl _ _).alloc (Nat.le_refl _) _) hb1⟩
theorem width300 : widthN 300 = 9 := by
  have h1 : widthN 300 ≤ 9 := (width_le 9 300).2 (by omega)
  have h2 : ¬ widthN 300 ≤ 8 := fun h => by have := (width_le 8 300).1 h; omega
  omega
set_option maxRecDepth 100000 in
set_option maxHeartbeats 400000 in
theorem walk_BitpackExamples (w : World) : Calls Try.prog 3 #[] w fun e w' => e = .returned (.bool true) ∧ Below w.heap.size w w' := by
  have hcv : ∀ W : World, Calls Try.prog 10 #[.slice (some ⟨W.heap.size, 0, none⟩) 3 3, .int .i64 2] (W.alloc (.cells #[.int .u64 1, .int .u64 2, .int .u64 3] 25)) fun e w' =>
      e = .returned (.tuple #[.string ⟨#[57]⟩, .int .i64 0]) ∧ Below (W.alloc (.cells #[.int .u64 1, .int .u64 2, .int .u64 3] 25)).heap.size (W.alloc (.cells #[.int .u64 1, .int .u64 2, .int .u64 3] 25)) w' := fun W => by
    have h := pack_any (some ⟨W.heap.size, 0, none⟩) 3 3 2 [1, 2, 3] (W.alloc (.cells #[.int .u64 1, .int .u64 2, .int .u64 3] 25)) (.inr ⟨_, rfl, by simp, fun j u hj => by
      have e0 : (⟨W.heap.size, 0, none⟩ : Addr).add j = ⟨W.heap.size, j, none⟩ := by unfold Addr.add; split <;> simp_all
      rw [e0, World.cell?_alloc_mark]
      simpa [Uv] using hj⟩) rfl (by intro z hz; simp at hz; unfold U64; omega)
    rw [packR_ex] at h
    exact h
  have HC := Lib.hid hcv
  clear hcv
  have hw := fun W => width_any 300 W (by unfold U64; omega)
  rw [width300] at hw
  have HW := Lib.hid hw
  have hN := fun W => need_any 3 2 W
  rw [show needN 3 2 = 1 from rfl] at hN
  have HN := Lib.hid hN
  clear hw hN
  go_enter Try.func3, Try.ntmps3
  go_wp2_with fail
  refine (HC.out _).mono ?_; rintro e w1 ⟨rfl, hb1⟩
  go_wp2_with fail
  refine (HW.out _).mono ?_; rintro e w2 ⟨rfl, rfl⟩
  go_wp2_with fail
  refine (HN.out _).mono ?_; rintro e w2 ⟨rfl, rfl⟩
  go_wp2
  go_ret
  exact ⟨ret_bool (by first | rfl | (simp; done)), bt ((Below.refl _ _).alloc (Nat.le_refl _) _) hb1⟩

end Go.Proofs.Ytmehnfggfiinaaa
