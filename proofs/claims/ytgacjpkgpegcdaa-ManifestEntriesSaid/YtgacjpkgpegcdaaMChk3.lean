/-
  The first error of a record: the reference's CheckRecord.
-/
import Derived.Test.YtgacjpkgpegcdaaMChk2
namespace Go.Proofs.Ytgacjpkgpegcdaa
open Go.RowKit

set_option maxRecDepth 100000 in
set_option maxHeartbeats 4000000 in
theorem rcheck_any (r : Rc) (A : Option Addr) (n c : Nat) (A2 : Option Addr) (n2 c2 : Nat) (w : World) (hr : RcAt w r A n c A2 n2 c2) :
    Calls Try.prog 27 #[Kv r A n c A2 n2 c2] w fun e w' => e = .returned (.int .i64 (chkR r)) ∧ Below w.heap.size w w' := by
  obtain ⟨kd, ve, ns, ni, add, rem⟩ := r
  dsimp only [Kv]
  have hRb := Blk.new' w 31 #[.int .i64 kd, .int .i64 ve, .int .i64 ns, .int .i64 ni, .slice A n c, .slice A2 n2 c2]
  have hbel : Below w.heap.size w (w.alloc (.cells #[.int .i64 kd, .int .i64 ve, .int .i64 ns, .int .i64 ni, .slice A n c, .slice A2 n2 c2] 31)) := (Below.refl _ _).alloc (Nat.le_refl _) _
  have hr1 := hr.call hbel
  have hsm := hr.sm
  have hsm2 := hr.sm2
  have HLN := Lib.hid hr.ln
  have HLN2 := Lib.hid hr.ln2
  dsimp only at HLN HLN2
  have HNK : Hid (numsOk ⟨kd, ve, ns, ni, add, rem⟩ ↔ inB ve 0 2147483647 = true ∧ 0 ≤ ns ∧ ns ≤ 1099511627777 ∧ inB ni 1 2147483647 = true) := by
    show _ ↔ _
    unfold numsOk inB objB
    simp [and_assoc]
  by_cases hk1 : kd = 1 ∨ kd = 2
  · rcases hk1 with rfl | rfl
    · skip
      go_enter Try.func27, Try.ntmps27
      have k0 := hRb.cellAt 0 rfl
      have k1 := hRb.cellAt 1 rfl
      have k2 := hRb.cellAt 2 rfl
      have k3 := hRb.cellAt 3 rfl
      have k4 := hRb.cellAt 4 rfl
      have k5 := hRb.cellAt 5 rfl
      go_wp2_with fail
      generalize w.alloc (.cells #[.int .i64 1, .int .i64 ve, .int .i64 ns, .int .i64 ni, .slice A n c, .slice A2 n2 c2] 31) = wa at *
      refine (rin_any ve 0 2147483647 _).mono ?_; rintro e w1 ⟨rfl, rfl⟩
      generalize inB ve 0 2147483647 = ob1 at *
      cases ob1
      · have HR := Lib.hid (chk_nums (r := ⟨1, ve, ns, ni, add, rem⟩) (by first | exact .inl rfl | exact .inr rfl) (by rw [HNK.out]; simp))
        go_wp2
        go_ret
        exact ⟨by rw [HR.out] <;> rfl, hbel⟩
      · by_cases s1 : 0 ≤ ns
        · by_cases s2 : ns ≤ 1099511627777
          · have e1 : decide (ns < 0) = false := by simp; omega
            have e2 : decide ((1099511627777 : Int) < ns) = false := by simp; omega
            go_wp2_with fail
            refine (rin_any ni 1 2147483647 _).mono ?_; rintro e w1 ⟨rfl, rfl⟩
            generalize inB ni 1 2147483647 = ob at *
            cases ob
            · have HR := Lib.hid (chk_nums (r := ⟨1, ve, ns, ni, add, rem⟩) (by first | exact .inl rfl | exact .inr rfl) (by rw [HNK.out]; simp))
              go_wp2
              go_ret
              exact ⟨by rw [HR.out] <;> rfl, hbel⟩
            · have HNM : Hid (numsOk ⟨1, ve, ns, ni, add, rem⟩) := HNK.out.2 ⟨by trivial, s1, s2, by trivial⟩
              clear HNK
              by_cases l1 : n ≤ 256
              · by_cases l2 : n2 ≤ 256
                · have d1 : decide ((256 : Int) < (n : Int)) = false := by simp; omega
                  have d2 : decide ((256 : Int) < (n2 : Int)) = false := by simp; omega
                  have HBAD : Hid (¬ addOk add ∨ ((1 : Int) = 1 ∧ rem ≠ []) ∨ ¬ remOk rem → chkR ⟨1, ve, ns, ni, add, rem⟩ = 1) := fun h => chk_bad (by first | exact .inl rfl | exact .inr rfl) HNM.out (by dsimp only; rw [HLN.out]; exact l1) (by dsimp only; rw [HLN2.out]; exact l2) h
                  have HOKK : Hid (addOk add → ((1 : Int) = 1 → rem = []) → remOk rem → chkR ⟨1, ve, ns, ni, add, rem⟩ = 0) := fun h h' h'' => chk_ok (by first | exact .inl rfl | exact .inr rfl) HNM.out (by dsimp only; rw [HLN.out]; exact l1) (by dsimp only; rw [HLN2.out]; exact l2) h h' h''
                  go_wp2_with fail
                  refine (rentries_any A n c add _ hr1.add HLN.out (by omega)).mono ?_; rintro e wr ⟨eb, rfl, heb, hb⟩
                  have hRw := hRb.call hb
                  have HEB := Lib.hid heb
                  clear k0 k1 k2 k3 k4 k5 heb
                  have k0 := hRw.cellAt 0 rfl
                  have k5 := hRw.cellAt 5 rfl
                  cases eb
                  · have HR := Lib.hid (HBAD.out (.inl (fun h => by have := HEB.out.2 h; cases this)))
                    go_wp2
                    go_ret
                    exact ⟨by rw [HR.out] <;> rfl, bt hbel hb⟩
                  · have HADD : Hid (addOk add) := HEB.out.1 (by trivial)
                    cases rem with
                    | nil =>
                      have hn20 : n2 = 0 := by have := HLN2.out; simpa using this.symm
                      subst hn20
                      have HR := Lib.hid (HOKK.out HADD.out (fun _ => rfl) (fun j hj => by simp at hj))
                      go_wp2
                      go_loopw [61] (fun a wx => a = .int .i64 0 ∧ wx = wr) (fun _ _ => 0)
                      case atStart => exact ⟨by trivial, by trivial⟩
                      case round =>
                        obtain ⟨rfl, rfl⟩ := hrel
                        go_wp2
                        go_ret
                        exact ⟨by rw [HR.out] <;> rfl, bt hbel hb⟩
                    | cons z t =>
                      have HR := Lib.hid (HBAD.out (.inr (.inl ⟨by trivial, by simp⟩)))
                      have hn2p : 0 < n2 := by have := HLN2.out; simp at this; omega
                      have hn20 : decide ((0 : Int) < (n2 : Int)) = true := by simp; omega
                      have hn21 : decide (0 < n2) = true := by simp; omega
                      go_wp2
                      go_ret
                      exact ⟨by rw [HR.out] <;> rfl, bt hbel hb⟩
                · have l2' : 256 < n2 := by omega
                  have d1 : decide ((256 : Int) < (n : Int)) = false := by simp; omega
                  have d2 : decide ((256 : Int) < (n2 : Int)) = true := by simp; omega
                  have HR := Lib.hid (chk_full (r := ⟨1, ve, ns, ni, add, rem⟩) (by first | exact .inl rfl | exact .inr rfl) HNM.out (.inr (by dsimp only; rw [HLN2.out]; exact l2')))
                  go_wp2
                  go_ret
                  exact ⟨by rw [HR.out] <;> rfl, hbel⟩
              · have d1 : decide ((256 : Int) < (n : Int)) = true := by simp; omega
                have HR := Lib.hid (chk_full (r := ⟨1, ve, ns, ni, add, rem⟩) (by first | exact .inl rfl | exact .inr rfl) HNM.out (.inl (by dsimp only; rw [HLN.out]; omega)))
                go_wp2
                go_ret
                exact ⟨by rw [HR.out] <;> rfl, hbel⟩
          · have e1 : decide (ns < 0) = false := by simp; omega
            have e2 : decide ((1099511627777 : Int) < ns) = true := by simp; omega
            have HR := Lib.hid (chk_nums (r := ⟨1, ve, ns, ni, add, rem⟩) (by first | exact .inl rfl | exact .inr rfl) (by rw [HNK.out]; exact fun h => s2 h.2.2.1))
            go_wp2
            go_ret
            exact ⟨by rw [HR.out] <;> rfl, hbel⟩
        · have e1 : decide (ns < 0) = true := by simp; omega
          have HR := Lib.hid (chk_nums (r := ⟨1, ve, ns, ni, add, rem⟩) (by first | exact .inl rfl | exact .inr rfl) (by rw [HNK.out]; exact fun h => s1 h.2.1))
          go_wp2
          go_ret
          exact ⟨by rw [HR.out] <;> rfl, hbel⟩
    · skip
      go_enter Try.func27, Try.ntmps27
      have k0 := hRb.cellAt 0 rfl
      have k1 := hRb.cellAt 1 rfl
      have k2 := hRb.cellAt 2 rfl
      have k3 := hRb.cellAt 3 rfl
      have k4 := hRb.cellAt 4 rfl
      have k5 := hRb.cellAt 5 rfl
      go_wp2_with fail
      generalize w.alloc (.cells #[.int .i64 2, .int .i64 ve, .int .i64 ns, .int .i64 ni, .slice A n c, .slice A2 n2 c2] 31) = wa at *
      refine (rin_any ve 0 2147483647 _).mono ?_; rintro e w1 ⟨rfl, rfl⟩
      generalize inB ve 0 2147483647 = ob1 at *
      cases ob1
      · have HR := Lib.hid (chk_nums (r := ⟨2, ve, ns, ni, add, rem⟩) (by first | exact .inl rfl | exact .inr rfl) (by rw [HNK.out]; simp))
        go_wp2
        go_ret
        exact ⟨by rw [HR.out] <;> rfl, hbel⟩
      · by_cases s1 : 0 ≤ ns
        · by_cases s2 : ns ≤ 1099511627777
          · have e1 : decide (ns < 0) = false := by simp; omega
            have e2 : decide ((1099511627777 : Int) < ns) = false := by simp; omega
            go_wp2_with fail
            refine (rin_any ni 1 2147483647 _).mono ?_; rintro e w1 ⟨rfl, rfl⟩
            generalize inB ni 1 2147483647 = ob at *
            cases ob
            · have HR := Lib.hid (chk_nums (r := ⟨2, ve, ns, ni, add, rem⟩) (by first | exact .inl rfl | exact .inr rfl) (by rw [HNK.out]; simp))
              go_wp2
              go_ret
              exact ⟨by rw [HR.out] <;> rfl, hbel⟩
            · have HNM : Hid (numsOk ⟨2, ve, ns, ni, add, rem⟩) := HNK.out.2 ⟨by trivial, s1, s2, by trivial⟩
              clear HNK
              by_cases l1 : n ≤ 256
              · by_cases l2 : n2 ≤ 256
                · have d1 : decide ((256 : Int) < (n : Int)) = false := by simp; omega
                  have d2 : decide ((256 : Int) < (n2 : Int)) = false := by simp; omega
                  have HBAD : Hid (¬ addOk add ∨ ((2 : Int) = 1 ∧ rem ≠ []) ∨ ¬ remOk rem → chkR ⟨2, ve, ns, ni, add, rem⟩ = 1) := fun h => chk_bad (by first | exact .inl rfl | exact .inr rfl) HNM.out (by dsimp only; rw [HLN.out]; exact l1) (by dsimp only; rw [HLN2.out]; exact l2) h
                  have HOKK : Hid (addOk add → ((2 : Int) = 1 → rem = []) → remOk rem → chkR ⟨2, ve, ns, ni, add, rem⟩ = 0) := fun h h' h'' => chk_ok (by first | exact .inl rfl | exact .inr rfl) HNM.out (by dsimp only; rw [HLN.out]; exact l1) (by dsimp only; rw [HLN2.out]; exact l2) h h' h''
                  go_wp2_with fail
                  refine (rentries_any A n c add _ hr1.add HLN.out (by omega)).mono ?_; rintro e wr ⟨eb, rfl, heb, hb⟩
                  have hRw := hRb.call hb
                  have HEB := Lib.hid heb
                  clear k0 k1 k2 k3 k4 k5 heb
                  have k0 := hRw.cellAt 0 rfl
                  have k5 := hRw.cellAt 5 rfl
                  cases eb
                  · have HR := Lib.hid (HBAD.out (.inl (fun h => by have := HEB.out.2 h; cases this)))
                    go_wp2
                    go_ret
                    exact ⟨by rw [HR.out] <;> rfl, bt hbel hb⟩
                  · have HADD : Hid (addOk add) := HEB.out.1 (by trivial)
                    have HB1 : Hid ((2 : Int) = 1 → rem = []) := fun h => absurd h (by decide)
                    go_wp2
                    go_loopw [61] (fun a wx => ∃ i : Nat, a = .int .i64 (i : Int) ∧ i ≤ n2 ∧ Hid (∀ j, j < i → goodN rem j) ∧ wx = wr) (fun a _ => n2 - (intOf a).toNat)
                    case atStart => exact ⟨0, rfl, by omega, (fun j hj => by omega), by trivial⟩
                    case round =>
                      obtain ⟨i, rfl, hi2, HG2, rfl⟩ := hrel
                      by_cases hlt2 : i < n2
                      · obtain ⟨z, hz⟩ : ∃ z, rem[i]? = some z := ⟨_, List.getElem?_eq_getElem (by rw [HLN2.out]; exact hlt2)⟩
                        obtain ⟨bd, rfl, _, cz⟩ := (hr1.rem.below hb).at_ (j := i) (u := Iv z) (by rw [List.getElem?_map, hz]; rfl)
                        have HZ := Lib.hid hz
                        obtain ⟨oz, hoz⟩ : ∃ b, b = objB z := ⟨_, rfl⟩
                        have HOZ := Lib.hid hoz
                        have hobj : ∀ W : World, Calls Try.prog 49 #[.int .i64 z, .int .i64 1, .int .i64 2147483647] W fun e w' => e = .returned (.bool oz) ∧ W = w' := fun W => by rw [hoz]; exact rin_any z 1 2147483647 W
                        have HOB := Lib.hid hobj
                        clear hoz hobj hz
                        cases oz
                        · have HR := Lib.hid (HBAD.out (.inr (.inr (bad_num HZ.out HOZ.out.symm))))
                          go_wp2_with fail
                          refine (HOB.out _).mono ?_; rintro e w1 ⟨rfl, rfl⟩
                          go_wp2
                          go_ret
                          exact ⟨by rw [HR.out] <;> rfl, bt hbel hb⟩
                        · by_cases h0 : i = 0
                          · subst h0
                            have HGD : Hid (goodN rem 0) := goodN_first HZ.out HOZ.out.symm
                            have cz0 : wr.cell? bd = some (Iv z) := by simpa [Addr.add] using cz
                            go_wp2_with fail
                            refine (HOB.out _).mono ?_; rintro e w1 ⟨rfl, rfl⟩
                            go_wp2
                            go_roundw
                            case rel => exact ⟨1, by go_num, by omega, goodN_next HG2.out HGD.out, by trivial⟩
                            case measure => simp [intOf]; omega
                          · have hd0 : decide ((0 : Int) < (i : Int)) = true := by simp; omega
                            have q1 : (1 : Int) ≤ (i : Int) := by omega
                            have q2 : ((i : Int) - 1).toNat = i - 1 := by omega
                            have q3 : (i : Int) - 1 < (n2 : Int) := by omega
                            obtain ⟨pz, hpz⟩ : ∃ p, rem[i - 1]? = some p := ⟨_, List.getElem?_eq_getElem (by rw [HLN2.out]; omega)⟩
                            obtain ⟨_, e1, _, cp⟩ := (hr1.rem.below hb).at_ (j := i - 1) (u := Iv pz) (by rw [List.getElem?_map, hpz]; rfl)
                            cases e1
                            by_cases hle : z ≤ pz
                            · have HR := Lib.hid (HBAD.out (.inr (.inr (bad_ascN (by omega) HZ.out hpz hle))))
                              clear hpz
                              go_wp2_with fail
                              refine (HOB.out _).mono ?_; rintro e w1 ⟨rfl, rfl⟩
                              go_wp2
                              go_ret
                              exact ⟨by rw [HR.out] <;> rfl, bt hbel hb⟩
                            · have HGD : Hid (goodN rem i) := goodN_more HZ.out HOZ.out.symm hpz (by omega)
                              clear hpz
                              go_wp2_with fail
                              refine (HOB.out _).mono ?_; rintro e w1 ⟨rfl, rfl⟩
                              go_wp2
                              go_roundw
                              case rel => exact ⟨i + 1, by go_num, by omega, goodN_next HG2.out HGD.out, by trivial⟩
                              case measure => simp [intOf]; omega
                      · have hi3 : i = n2 := by omega
                        have HR := Lib.hid (HOKK.out HADD.out HB1.out (fun j hj => HG2.out j (by rw [hi3, ← HLN2.out]; exact hj)))
                        go_wp2
                        go_ret
                        exact ⟨by rw [HR.out] <;> rfl, bt hbel hb⟩
                · have l2' : 256 < n2 := by omega
                  have d1 : decide ((256 : Int) < (n : Int)) = false := by simp; omega
                  have d2 : decide ((256 : Int) < (n2 : Int)) = true := by simp; omega
                  have HR := Lib.hid (chk_full (r := ⟨2, ve, ns, ni, add, rem⟩) (by first | exact .inl rfl | exact .inr rfl) HNM.out (.inr (by dsimp only; rw [HLN2.out]; exact l2')))
                  go_wp2
                  go_ret
                  exact ⟨by rw [HR.out] <;> rfl, hbel⟩
              · have d1 : decide ((256 : Int) < (n : Int)) = true := by simp; omega
                have HR := Lib.hid (chk_full (r := ⟨2, ve, ns, ni, add, rem⟩) (by first | exact .inl rfl | exact .inr rfl) HNM.out (.inl (by dsimp only; rw [HLN.out]; omega)))
                go_wp2
                go_ret
                exact ⟨by rw [HR.out] <;> rfl, hbel⟩
          · have e1 : decide (ns < 0) = false := by simp; omega
            have e2 : decide ((1099511627777 : Int) < ns) = true := by simp; omega
            have HR := Lib.hid (chk_nums (r := ⟨2, ve, ns, ni, add, rem⟩) (by first | exact .inl rfl | exact .inr rfl) (by rw [HNK.out]; exact fun h => s2 h.2.2.1))
            go_wp2
            go_ret
            exact ⟨by rw [HR.out] <;> rfl, hbel⟩
        · have e1 : decide (ns < 0) = true := by simp; omega
          have HR := Lib.hid (chk_nums (r := ⟨2, ve, ns, ni, add, rem⟩) (by first | exact .inl rfl | exact .inr rfl) (by rw [HNK.out]; exact fun h => s1 h.2.1))
          go_wp2
          go_ret
          exact ⟨by rw [HR.out] <;> rfl, hbel⟩
  · have hk2 : kd ≠ 1 := fun h => hk1 (.inl h)
    have hk3 : kd ≠ 2 := fun h => hk1 (.inr h)
    have HR := Lib.hid (chk_kind (r := ⟨kd, ve, ns, ni, add, rem⟩) hk2 hk3)
    have b1 : (kd != 1) = true := by simpa using hk2
    have b2 : (kd != 2) = true := by simpa using hk3
    clear hk1 hk2 hk3
    go_enter Try.func27, Try.ntmps27
    go_wp2
    go_ret
    exact ⟨by rw [HR.out] <;> rfl, hbel⟩

end Go.Proofs.Ytgacjpkgpegcdaa
