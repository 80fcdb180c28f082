/-
  The reference's DecodeDelta.
-/
import Derived.Test.YtkdbbekoapcgdaaEDec
import Derived.Test.YtkdbbekoapcgdaaRegL
namespace Go.Proofs.Ytkdbbekoapcgdaa
open Go.RowKit

theorem unpack_err {s : List UInt8} {n k : Nat} {u : List Nat} {e : Int} (hn : n ≤ 4096) (hk : k ≤ 64) (hs : s.length = (n * k + 7) / 8) (h : unpackR s n k = (u, e)) (he : e ≠ 0) : e = 2 := by
  have hnd := needN_nat n k hn hk
  unfold unpackR at h
  rw [if_neg (by omega), if_neg (by omega), if_neg (by omega)] at h
  split at h
  · cases h; exact absurd rfl he
  · cases h; rfl
theorem cutB_len {s : List UInt8} {a k : Nat} (h : a + k ≤ s.length) : (cutB s a k).length = k := by unfold cutB; rw [List.length_take, List.length_drop]; omega
theorem room_eq {z : Int} (h : I64 z) : IntKind.u64.wrap (9223372036854775807 - IntKind.u64.wrap z) = (roomN z : Int) := by
  unfold I64 at h
  unfold roomN
  have e : ∀ x : Int, IntKind.u64.wrap x = x % 18446744073709551616 := fun x => by rw [IntKind.wrap_u64]
  rw [e, e]
  omega
theorem rneed_small (n k : Nat) (hn : n ≤ 4096) (hk : k ≤ 64) (W : World) : Calls Try.prog 37 #[.int .i64 (n : Int), .int .i64 (k : Int)] W fun e w' => e = .returned (.int .i64 (((n * k + 7) / 8 : Nat) : Int)) ∧ W = w' := by
  have h := rneed_any n k W
  rw [needN_nat n k hn hk] at h
  exact h
theorem runpack_cut (s : ByteArray) (a n k : Nat) (W : World) : Calls Try.prog 41 #[.string (s.extract (a + 1) (a + 1 + (n * k + 7) / 8)), .int .i64 (n : Int), .int .i64 (k : Int)] W (UnpPost W (cutB s.data.toList (a + 1) ((n * k + 7) / 8)) n k) := by
  have h := runpack_any (s.extract (a + 1) (a + 1 + (n * k + 7) / 8)) n k W
  rw [cut_list] at h
  exact h
theorem size_in (n : Nat) (w : World) (hn : n ≤ 4096) : Calls Try.prog 38 #[.int .i64 (n : Int)] w fun e w' => e = .returned (.bool true) ∧ w = w' := by
  go_enter Try.func38, Try.ntmps38
  go_wp2
  go_ret
  exact ⟨ret_bool (by first | rfl | (simp; done) | (simp; omega)), rfl⟩
theorem size_out (n : Int) (w : World) (hn : n < 0 ∨ 4096 < n) : Calls Try.prog 38 #[.int .i64 n] w fun e w' => e = .returned (.bool false) ∧ w = w' := by
  have ret_no : ∀ {b : Bool}, b = false → Ending.returned (.bool b) = .returned (.bool false) := fun h => by rw [h]
  by_cases h0 : n < 0
  · clear hn
    go_enter Try.func38, Try.ntmps38
    go_wp2
    go_ret
    exact ⟨ret_no (by first | rfl | (simp; done) | (simp; omega)), rfl⟩
  · have h1 : ¬ n ≤ 4096 := by omega
    clear hn
    go_enter Try.func38, Try.ntmps38
    go_wp2
    go_ret
    exact ⟨ret_no (by first | rfl | (simp; done) | (simp; omega)), rfl⟩
set_option maxRecDepth 100000 in
set_option maxHeartbeats 1000000 in
theorem rdecode_out (s : ByteArray) (n : Int) (w : World) (h : n ≤ 0 ∨ 4096 < n) :
    Calls Try.prog 29 #[.string s, .int .i64 n] w (DecPost w (decR s.data.toList n)) := by
  by_cases h0 : n = 0
  · subst h0
    by_cases hs : s = ⟨#[]⟩
    · subst hs
      clear h
      go_enter Try.func29, Try.ntmps29
      go_wp2_with fail
      refine (size_in 0 _ (by omega)).mono ?_; rintro e w1 ⟨rfl, rfl⟩
      go_wp2
      go_ret2
      exact dec_nil decR_none (Below.refl _ _)
    · have hbs := full_str hs
      have HD := Lib.hid (decR_full (s := s.data.toList) (fun e => hs (by apply ByteArray.ext; apply Array.toList_inj.1; exact e)))
      clear h hs
      go_enter Try.func29, Try.ntmps29
      go_wp2_with fail
      refine (size_in 0 _ (by omega)).mono ?_; rintro e w1 ⟨rfl, rfl⟩
      go_wp2
      go_ret2
      exact dec_nil HD.out (Below.refl _ _)
  · have h' : n < 0 ∨ 4096 < n := by omega
    have HD := Lib.hid (decR_out (s := s.data.toList) h')
    go_enter Try.func29, Try.ntmps29
    go_wp2_with fail
    refine (size_out n _ h').mono ?_; rintro e w1 ⟨rfl, rfl⟩
    go_wp2
    go_ret2
    exact dec_nil HD.out (Below.refl _ _)

/-- The cell that a load reads, until the sum has come. -/
def SLd (p : Addr) (x : Value) (l : Array Bool) (w' : World) : Prop := l.getD 9 false = false → w'.cell? p = some x
theorem SLd.set {p : Addr} {x : Value} {l : Array Bool} {w' : World} {k : Nat} (h : k ≠ 9) : SLd p x (l.setIfInBounds k true) w' ↔ SLd p x l w' := by
  unfold SLd; rw [getD_set_ne false h]
theorem sum3 (x ls : Int) (v : Nat) : wrap64 (x + wrap64 (ls + (v : Int))) = IntKind.i64.wrap (IntKind.i64.wrap (x + ls) + IntKind.i64.wrap (v : Int)) := by
  have e : ∀ y : Int, IntKind.i64.wrap y = wrap64 y := fun y => by simp [IntKind.wrap, IntKind.bits, IntKind.signed, wrap64]; split <;> omega
  rw [e, e, e]
  unfold wrap64
  omega
def RdInv (w : World) (acc : List Int) (ls : Int) (u : List Nat) (K : Nat) (C : Option Addr) (a zb mo ix : Value) (wx : World) : Prop :=
  ∃ (j m : Nat) (z : Bool), ix = .int .i64 (j : Int) ∧ mo = .int .i64 (m : Int) ∧ zb = .bool z ∧ j ≤ K ∧ m ≤ 64 ∧ (z = true ↔ 0 ∈ u.take j) ∧ m = maxW (u.take j) ∧ (∀ v ∈ u.take j, v ≤ roomN ls) ∧ Own w wx 2 1 a (acc.length + j) ((sumsL acc ((upD ls u).take j)).map Iv) ∧ RdA wx a C (u.map Uv)
theorem mem_next {u : List Nat} {j v : Nat} (h : u[j]? = some v) (x : Nat) : x ∈ u.take (j + 1) ↔ x ∈ u.take j ∨ x = v := by rw [List.take_add_one, h]; simp
set_option maxRecDepth 100000 in
set_option maxHeartbeats 2000000 in
theorem rdecode_in (s : ByteArray) (n : Nat) (w : World) (hsz : s.size ≤ 1000000000000000) (h0 : 0 < n) (hn : n ≤ 4096) :
    Calls Try.prog 29 #[.string s, .int .i64 (n : Int)] w (DecPost w (decR s.data.toList n)) := by
  have hsl := Lib.hid (size_list s)
  have hget := fun W => rget_any s ((0 : Nat) : Int) W hsz
  have hd0 : ((n : Int) == 0) = false := by simp; omega
  rcases getL_cases s.data.toList ((0 : Nat) : Int) with ⟨z, a0, m, ha, hg, hU, hm1, hle, _⟩ | ⟨e, he, hg⟩
  · simp only [hg] at hget
    have hat : a0 = 0 := by omega
    subst hat
    rw [hsl.out] at hle
    rw [Nat.zero_add] at hle hget hg
    have HG := Lib.hid hget
    have HE := Lib.hid (decR_in h0 hn hg).symm
    clear hget hg ha hm1
    go_enter Try.func29, Try.ntmps29
    go_wp2_with fail
    refine (size_in n _ hn).mono ?_; rintro e w1 ⟨rfl, rfl⟩
    go_wp2_with fail
    refine (HG.out _).mono ?_; rintro e w1 ⟨rfl, rfl⟩
    go_wp2_with fail
    refine (rzag_any z _ hU).mono ?_; rintro e w2 ⟨rfl, rfl⟩
    have hst := own_lit1 w (zagI z)
    have hz64 := zagI_I64 hU
    generalize zagI z = z0 at *
    go_wp2_with fail
    generalize w.alloc (.cells #[Iv z0] 2) = w0 at *
    have HS : DecInv w s.data.toList n (.int .i64 (m : Int)) (.slice (some ⟨w.heap.size, 0, none⟩) 1 1) w0 := ⟨m, n + 1, [z0], rfl, Nat.le_refl _, by simp; omega, by rw [hsl.out]; exact hle, by simp; omega, hst, by simp; exact hz64, HE.out⟩
    clear hst HE
    go_loopw [7, 9] (fun a b wr => DecInv w s.data.toList n a b wr) (fun _ b _ => n - lenOf b)
    case atStart => exact HS
    case round =>
      clear HS HG hle
      obtain ⟨i, f, acc, rfl, hl1, hln, his, hf, hO, hI, hE⟩ := hrel
      have HI := Lib.hid hI
      have HE := Lib.hid hE
      clear hI hE
      rw [hsl.out] at his
      obtain ⟨B, cp, rfl, hcp⟩ := own_form hO.1
      by_cases hlt : acc.length < n
      · obtain ⟨g, rfl⟩ : ∃ g, f = g + 1 := ⟨f - 1, by omega⟩
        obtain ⟨K, hK⟩ : ∃ K, K = min 32 (n - acc.length) := ⟨_, rfl⟩
        have hmn : min (32 : Int) ((n : Int) - (acc.length : Int)) = (K : Int) := by omega
        have hKn : acc.length + K ≤ n := by omega
        have hK0 : 0 < K := by omega
        have hK3 : K ≤ 32 := by omega
        have HER := Lib.hid (fun (e : Int) (ho : offsL s.data.toList i K = ([], 0, e)) (he : e ≠ 0) => HE.out.symm.trans (decGo_err hlt (by rw [← hK]; exact ho) he))
        have HNX := Lib.hid (fun (d : List Int) (a : Nat) (ho : offsL s.data.toList i K = (d, a, 0)) => (decGo_next hlt (by rw [← hK]; exact ho)).symm.trans HE.out)
        clear hK HE
        have hget := fun W => rget_any s ((i : Nat) : Int) W hsz
        rcases getL_cases s.data.toList ((i : Nat) : Int) with ⟨z, a0, m, ha, hg, hU, hm1, hle, _⟩ | ⟨e, he, hg⟩
        · simp only [hg] at hget
          have hat : a0 = i := by omega
          subst hat
          rw [hsl.out] at hle
          have HG := Lib.hid hget
          have Hg := Lib.hid hg
          clear hget hg ha hm1
          generalize a0 + m = a at *
          go_wp2_with fail
          refine (HG.out _).mono ?_; rintro e w1 ⟨rfl, rfl⟩
          by_cases hae : a = s.size
          · have hb0 : ((a : Int) == (s.size : Int)) = true := by simp; omega
            have HL := Lib.hid (HER.out _ (offsL_end (n := K) Hg.out (by rw [hsl.out]; exact hae)) (by decide))
            clear hae
            go_wp2
            go_ret2
            exact dec_nil HL.out hO.2
          · have hb0 : ((a : Int) == (s.size : Int)) = false := by simp; omega
            have hlta : a < s.size := by omega
            have HW : Hid ((s.data.toList.getD a 0).toNat = s[a].toNat) := by
              show _ = _
              rw [List.getD, Array.getElem?_toList, Array.getElem?_eq_getElem (by simpa using hlta)]; rfl
            have hk8 : s[a].toNat < 256 := UInt8.toNat_lt _
            have HLT : Hid (a < s.data.toList.length) := by show _; rw [hsl.out]; exact hlta
            clear hae
            by_cases h64 : 64 < s[a].toNat
            · have hb1 : decide ((64 : Int) < (s[a].toNat : Int)) = true := by simp; omega
              have HL := Lib.hid (HER.out _ (offsL_wide (n := K) Hg.out HLT.out HW.out h64) (by decide))
              go_wp2
              go_ret2
              exact dec_nil HL.out hO.2
            · have hb1 : decide ((64 : Int) < (s[a].toNat : Int)) = false := by simp; omega
              have hneed := rneed_small K s[a].toNat (by omega) (by omega)
              have hq : (K * s[a].toNat + 7) / 8 ≤ 300 := by
                have : K * s[a].toNat ≤ 32 * 64 := Nat.mul_le_mul hK3 (by omega)
                omega
              have hun := runpack_cut s a K s[a].toNat
              obtain ⟨q, hQ⟩ : ∃ q, q = (K * s[a].toNat + 7) / 8 := ⟨_, rfl⟩
              rw [← hQ] at hq
              simp only [← hQ] at hneed hun
              have HN := Lib.hid hneed
              have HU := Lib.hid hun
              have HQ := Lib.hid hQ
              clear hneed hun hQ
              go_wp2_with fail
              refine (HN.out _).mono ?_; rintro e w1 ⟨rfl, rfl⟩
              generalize s[a].toNat = k at *
              by_cases hs : s.size < a + 1 + q
              · have HL := Lib.hid (HER.out _ (offsL_short (n := K) Hg.out HLT.out HW.out h64 (by rw [hsl.out, ← HQ.out]; exact hs)) (by decide))
                have hb2 : decide ((s.size : Int) < (a : Int) + 1 + (q : Int)) = true := by simp; omega
                go_wp2
                go_ret2
                exact dec_nil HL.out hO.2
              · have HS : Hid (¬ s.data.toList.length < a + 1 + (K * k + 7) / 8) := by show ¬ _; rw [hsl.out, ← HQ.out]; exact hs
                have hb2 : decide ((s.size : Int) < (a : Int) + 1 + (q : Int)) = false := by simp; omega
                have hs2 : a + 1 + q ≤ s.size := by omega
                clear hs
                go_wp2_with fail
                refine (HU.out _).mono ?_; rintro e w3 ⟨v, xs, err, rfl, hu, ho, hUx, hB1⟩
                obtain ⟨C, c3, rfl, hc3⟩ := own_form ho
                have hrd := RdA.new hO ho
                have hO3 := hO.call hB1
                rw [HQ.out] at hu
                have Hu := Lib.hid hu
                have HUx := Lib.hid hUx
                clear hu ho hUx HU HN hO
                by_cases he : err = 0
                · subst he
                  obtain ⟨hxn, _⟩ := unpackR_length Hu.out
                  have HXN := Lib.hid hxn
                  rw [hxn]
                  rw [hxn] at hc3
                  clear hxn
                  have hl64 := zagI_I64 hU
                  have HOK := Lib.hid (fun h : goodU (zagI z) k xs => HNX.out _ _ (offsL_ok (n := K) Hg.out HLT.out HW.out h64 HS.out Hu.out h))
                  have HBD := Lib.hid (fun h : ¬ goodU (zagI z) k xs => HER.out _ (offsL_bad (n := K) Hg.out HLT.out HW.out h64 HS.out Hu.out (Or.inr h)) (by decide))
                  have HRM := Lib.hid (room_eq hl64)
                  have HZG : Hid (∀ ws : World, Calls Try.prog 40 #[.int .u64 (z : Int)] ws fun e w' => e = .returned (.int .i64 (zagI z)) ∧ ws = w') := fun ws => rzag_any z ws hU
                  rw [← HQ.out] at HOK
                  clear HER HNX Hg
                  go_wp2_with fail
                  refine (HZG.out _).mono ?_; rintro e w2 ⟨rfl, rfl⟩
                  generalize zagI z = ls at *
                  go_wp2_with fail
                  rw [HRM.out]
                  have HSR : RdInv w acc ls xs K C (.slice B acc.length cp) (.bool false) (.int .i64 0) (.int .i64 0) w3 := ⟨0, 0, false, rfl, rfl, rfl, by omega, by omega, by simp, rfl, by simp, by simpa [sumsL_nil] using hO3, hrd⟩
                  have hrm : roomN ls ≤ 18446744073709551615 := by unfold roomN; unfold I64 at hl64; omega
                  generalize hrmG : roomN ls = rm at *
                  have HRG := Lib.hid hrmG
                  clear hO3 hrd HRM hrmG
                  go_loopw [9, 17, 18, 100] (fun a zb mo ix wx => RdInv w acc ls xs K C a zb mo ix wx) (fun _ _ _ ix _ => n - (intOf ix).toNat)
                  case atStart => exact HSR
                  case round =>
                    clear HSR
                    obtain ⟨j, m2, zb, rfl, rfl, rfl, hj, hm6, hz0, hmw, hrmv, hO4, hrd⟩ := hrel
                    have HZ0 := Lib.hid hz0
                    have HMW := Lib.hid hmw
                    have HRV := Lib.hid hrmv
                    clear hz0 hmw hrmv
                    obtain ⟨D, c4, rfl, hc4⟩ := own_form hO4.1
                    by_cases hjk : j < K
                    · obtain ⟨v, hv⟩ : ∃ v, xs[j]? = some v := ⟨_, List.getElem?_eq_getElem (by rw [HXN.out]; exact hjk)⟩
                      obtain ⟨bd, rfl, _, cv⟩ := hrd.at_ (j := j) (u := Uv v) (by rw [List.getElem?_map, hv]; rfl)
                      have hvU := HUx.out v (List.mem_of_getElem? hv)
                      have HXV := Lib.hid hv
                      clear hv
                      by_cases hvr : rm < v
                      · have hb3 : decide ((rm : Int) < (v : Int)) = true := by simp; omega
                        have HL := Lib.hid (HBD.out (fun h => by have := h.2.2 v (List.mem_of_getElem? HXV.out); rw [HRG.out] at this; omega))
                        go_wp2
                        go_ret2
                        exact dec_nil HL.out hO4.2
                      · have hb3 : decide ((rm : Int) < (v : Int)) = false := by simp; omega
                        have hsl2 : (sumsL acc ((upD ls xs).take j)).length = acc.length + j := by rw [sumsL_len, List.length_take, upD_len, HXN.out, Nat.min_eq_left hj]
                        have hla := last_at (l := sumsL acc ((upD ls xs).take j)) (by omega)
                        have HV := Lib.hid (sumsL_next (l := acc) (upD_at (least := ls) HXV.out))
                        have HVR : Hid (∀ y ∈ xs.take (j + 1), y ≤ roomN ls) := fun y hy => by
                          rcases (mem_next HXV.out y).1 hy with h | h
                          · exact HRV.out y h
                          · rw [HRG.out]; omega
                        have hmx : max (m2 : Int) (widthN v : Int) = ((max m2 (widthN v) : Nat) : Int) := by omega
                        have hwu := width_u64 hvU
                        have HNW := Lib.hid (maxW_next HXV.out)
                        rw [hsl2] at hla
                        generalize (sumsL acc ((upD ls xs).take j)).getLastD 0 = x at *
                        obtain ⟨ld, rfl, _, cx⟩ := (Rd.of_own hO4.1).at_ (j := acc.length + j - 1) (u := Iv x) (by rw [List.getElem?_map, hla]; rfl)
                        have q1 : (1 : Int) ≤ (acc.length : Int) + (j : Int) := by omega
                        have q2 : ((acc.length : Int) + (j : Int) - 1).toNat = acc.length + j - 1 := by omega
                        generalize hwd : widthN v = wd at *
                        have HWD := Lib.hid hwd
                        clear hla hsl2 hwd
                        cases zb with
                        | true =>
                          have HZN : Hid (true = true ↔ 0 ∈ xs.take (j + 1)) := ⟨fun _ => (mem_next HXV.out 0).2 (.inl (HZ0.out.1 rfl)), fun _ => rfl⟩
                          go_wp2_with fail
                          refine (rwidth_any v _ hvU).mono ?_; rintro e w2 ⟨rfl, rfl⟩
                          rw [HWD.out]
                          go_upto_region 35 with fail
                          refine wp_region_L (SLd (ld.add (acc.length + j - 1)) (Iv x)) (by kernel_rfl) ?_
                          have hO5 := hO4.drew
                          have hrd5 := hrd.drew
                          replace cx : wr.drew.cell? (ld.add (acc.length + j - 1)) = some (Iv x) := cx
                          clear hO4 hrd cv
                          generalize wr.drew = wx at *
                          have q3 : IntKind.i64.wrap ((acc.length : Int) + (j : Int) - 1) = (acc.length : Int) + (j : Int) - 1 := IntWalk.i64_in _ (by omega)
                          have q4 : ¬ ((acc.length : Int) + (j : Int) ≤ (acc.length : Int) + (j : Int) - 1) := by omega
                          refine wpAnyL_takeD (fun _ => True) (i := 0) (v := (.slice (some ld) (acc.length + j) c4)) (some 116) rfl rfl (by kernel_rfl) (by kernel_rfl) (by kernel_rfl) (fun _ _ _ h => h) (fun _ _ _ _ _ _ => trivial) (fun _ _ _ => SLd.set (by decide)) trivial (Or.inl ⟨by rfl, fun w' hw' => by go_simp⟩) (fun _ => cx) ?_
                          simp only [Act.put, List.setIfInBounds_toArray, List.set_cons_zero, List.set_cons_succ]
                          refine wpAnyL_takeD (fun _ => True) (i := 1) (v := (.slice (some ld) (acc.length + j) c4)) (some 117) rfl rfl (by kernel_rfl) (by kernel_rfl) (by kernel_rfl) (fun _ _ _ h => h) (fun _ _ _ _ _ _ => trivial) (fun _ _ _ => SLd.set (by decide)) trivial (Or.inl ⟨by rfl, fun w' hw' => by go_simp⟩) (fun _ => cx) ?_
                          simp only [Act.put, List.setIfInBounds_toArray, List.set_cons_zero, List.set_cons_succ]
                          refine wpAnyL_takeD (fun _ => True) (i := 2) (v := (.slice (some ld) (acc.length + j) c4)) (some 118) rfl rfl (by kernel_rfl) (by kernel_rfl) (by kernel_rfl) (fun _ _ _ h => h) (fun _ _ _ _ _ _ => trivial) (fun _ _ _ => SLd.set (by decide)) trivial (Or.inl ⟨by rfl, fun w' hw' => by go_simp⟩) (fun _ => cx) ?_
                          simp only [Act.put, List.setIfInBounds_toArray, List.set_cons_zero, List.set_cons_succ]
                          refine wpAnyL_takeD (fun _ => True) (i := 3) (v := (.int .i64 ((acc.length : Int) + (j : Int)))) (some 119) rfl rfl (by kernel_rfl) (by kernel_rfl) (by kernel_rfl) (fun _ _ _ h => h) (fun _ _ _ _ _ _ => trivial) (fun _ _ _ => SLd.set (by decide)) trivial (Or.inl ⟨by rfl, fun w' hw' => by go_simp⟩) (fun _ => cx) ?_
                          simp only [Act.put, List.setIfInBounds_toArray, List.set_cons_zero, List.set_cons_succ]
                          refine wpAnyL_takeD (fun _ => True) (i := 4) (v := (.int .i64 ((acc.length : Int) + (j : Int) - 1))) (some 120) rfl rfl (by kernel_rfl) (by kernel_rfl) (by kernel_rfl) (fun _ _ _ h => h) (fun _ _ _ _ _ _ => trivial) (fun _ _ _ => SLd.set (by decide)) trivial (Or.inl ⟨by rfl, fun w' hw' => by go_simp⟩) (fun _ => cx) ?_
                          simp only [Act.put, List.setIfInBounds_toArray, List.set_cons_zero, List.set_cons_succ]
                          refine wpAnyL_takeD (fun _ => True) (i := 5) (v := (.pointer (some (ld.add (acc.length + j - 1))))) (some 121) rfl rfl (by kernel_rfl) (by kernel_rfl) (by kernel_rfl) (fun _ _ _ h => h) (fun _ _ _ _ _ _ => trivial) (fun _ _ _ => SLd.set (by decide)) trivial (Or.inl ⟨by rfl, fun w' hw' => by go_simp⟩) (fun _ => cx) ?_
                          simp only [Act.put, List.setIfInBounds_toArray, List.set_cons_zero, List.set_cons_succ]
                          refine wpAnyL_takeD (fun l => l.getD 9 false = false) (i := 6) (v := (Iv x)) (some 122) rfl rfl (by kernel_rfl) (by kernel_rfl) (by kernel_rfl) (fun _ _ _ h => h) (fun l j hc hi hj hne => (getD_set_ne false (waits_ne (k := 9) hi hj (by kernel_rfl))).trans hc) (fun _ _ _ => SLd.set (by decide)) rfl (Or.inl ⟨by rfl, fun w' hw' => by obtain ⟨l, hc, hl⟩ := hw'; have hcl := hl hc; go_simp⟩) (fun _ => cx) ?_
                          simp only [Act.put, List.setIfInBounds_toArray, List.set_cons_zero, List.set_cons_succ]
                          refine wpAnyL_takeD (fun _ => True) (i := 7) (v := (.int .u64 (z : Int))) (some 123) rfl rfl (by kernel_rfl) (by kernel_rfl) (by kernel_rfl) (fun _ _ _ h => h) (fun _ _ _ _ _ _ => trivial) (fun _ _ _ => SLd.set (by decide)) trivial (Or.inl ⟨by rfl, fun w' hw' => by go_simp⟩) (fun _ => cx) ?_
                          simp only [Act.put, List.setIfInBounds_toArray, List.set_cons_zero, List.set_cons_succ]
                          refine wpAnyL_takeD (fun _ => True) (i := 10) (v := (.int .u64 (v : Int))) (some 126) rfl rfl (by kernel_rfl) (by kernel_rfl) (by kernel_rfl) (fun _ _ _ h => h) (fun _ _ _ _ _ _ => trivial) (fun _ _ _ => SLd.set (by decide)) trivial (Or.inl ⟨by rfl, fun w' hw' => by go_simp⟩) (fun _ => cx) ?_
                          simp only [Act.put, List.setIfInBounds_toArray, List.set_cons_zero, List.set_cons_succ]
                          refine wpAnyL_takeD (fun _ => True) (i := 11) (v := (.int .i64 (IntKind.i64.wrap (v : Int)))) (some 127) rfl rfl (by kernel_rfl) (by kernel_rfl) (by kernel_rfl) (fun _ _ _ h => h) (fun _ _ _ _ _ _ => trivial) (fun _ _ _ => SLd.set (by decide)) trivial (Or.inl ⟨by rfl, fun w' hw' => by go_simp⟩) (fun _ => cx) ?_
                          simp only [Act.put, List.setIfInBounds_toArray, List.set_cons_zero, List.set_cons_succ]
                          clear q3 q4
                          refine wpAnyL_one (i := 8) (by decide +kernel) ?_
                          refine wpOp_go (o := _) rfl (fun K hK => ?_)
                          go_simp
                          go_at_call 40
                          refine (HZG.out _).mono ?_; rintro e wx ⟨rfl, rfl⟩
                          refine hK _ _ ⟨fun _ => cx, ?_⟩
                          clear hK K
                          refine wpAnyL_one (i := 9) (by decide +kernel) ?_
                          refine wpOp_go (o := _) rfl (fun K hK => ?_)
                          go_simp
                          refine hK _ _ ⟨(fun h => absurd h (by decide)), ?_⟩
                          clear hK K
                          refine wpAnyL_one (i := 12) (by decide +kernel) ?_
                          refine wpOp_go (o := _) rfl (fun K hK => ?_)
                          go_simp
                          refine hK _ _ ⟨(fun h => absurd h (by decide)), ?_⟩
                          clear hK K
                          refine wpAnyL_one (i := 13) (by decide +kernel) ?_
                          refine wpOp_go (o := _) rfl (fun K hK => ?_)
                          go_simp
                          refine hK _ _ ⟨(fun h => absurd h (by decide)), ?_⟩
                          clear hK K
                          refine wpAnyL_one (i := 14) (by decide +kernel) ?_
                          refine wpOp_go (o := _) rfl (fun K hK => ?_)
                          refine step_one2 hO5 i64s rfl (by decide) rfl (one_i64 _) (by omega) (by unfold maxLen; omega) rfl _ _ rfl rfl rfl ?_
                          rintro v' wy ⟨hO6, hk6⟩
                          have hrd6 := hk6 _ _ hrd5
                          refine hK _ _ ⟨(fun h => absurd h (by decide)), ?_⟩
                          clear hK K hk6
                          refine wpAnyL_one (i := 15) (by decide +kernel) ?_
                          refine wpOp_go (o := _) rfl (fun K hK => ?_)
                          go_simp
                          refine hK _ _ ⟨(fun h => absurd h (by decide)), ?_⟩
                          clear hK K
                          refine wpAnyL_done (by decide +kernel) ?_ _
                          go_wp2
                          go_roundw
                          case rel => exact ⟨j + 1, max m2 wd, true, by go_num, rfl, rfl, by omega, by omega, (by simpa using HZN.out), by rw [HNW.out, ← HMW.out], HVR.out, by rw [HV.out, List.map_append, sum3]; exact hO6, hrd6⟩
                          case measure => simp [intOf]; omega
                        | false =>
                          by_cases hv0 : v = 0
                          · have hbv : ((v : Int) == 0) = true := by simp; omega
                            have HZN : Hid (true = true ↔ 0 ∈ xs.take (j + 1)) := ⟨fun _ => (mem_next HXV.out 0).2 (.inr hv0.symm), fun _ => rfl⟩
                            clear hv0
                            go_wp2_with fail
                            refine (rwidth_any v _ hvU).mono ?_; rintro e w2 ⟨rfl, rfl⟩
                            rw [HWD.out]
                            go_upto_region 35 with fail
                            refine wp_region_L (SLd (ld.add (acc.length + j - 1)) (Iv x)) (by kernel_rfl) ?_
                            have hO5 := hO4.drew
                            have hrd5 := hrd.drew
                            replace cx : wr.drew.cell? (ld.add (acc.length + j - 1)) = some (Iv x) := cx
                            clear hO4 hrd cv
                            generalize wr.drew = wx at *
                            have q3 : IntKind.i64.wrap ((acc.length : Int) + (j : Int) - 1) = (acc.length : Int) + (j : Int) - 1 := IntWalk.i64_in _ (by omega)
                            have q4 : ¬ ((acc.length : Int) + (j : Int) ≤ (acc.length : Int) + (j : Int) - 1) := by omega
                            refine wpAnyL_takeD (fun _ => True) (i := 0) (v := (.slice (some ld) (acc.length + j) c4)) (some 116) rfl rfl (by kernel_rfl) (by kernel_rfl) (by kernel_rfl) (fun _ _ _ h => h) (fun _ _ _ _ _ _ => trivial) (fun _ _ _ => SLd.set (by decide)) trivial (Or.inl ⟨by rfl, fun w' hw' => by go_simp⟩) (fun _ => cx) ?_
                            simp only [Act.put, List.setIfInBounds_toArray, List.set_cons_zero, List.set_cons_succ]
                            refine wpAnyL_takeD (fun _ => True) (i := 1) (v := (.slice (some ld) (acc.length + j) c4)) (some 117) rfl rfl (by kernel_rfl) (by kernel_rfl) (by kernel_rfl) (fun _ _ _ h => h) (fun _ _ _ _ _ _ => trivial) (fun _ _ _ => SLd.set (by decide)) trivial (Or.inl ⟨by rfl, fun w' hw' => by go_simp⟩) (fun _ => cx) ?_
                            simp only [Act.put, List.setIfInBounds_toArray, List.set_cons_zero, List.set_cons_succ]
                            refine wpAnyL_takeD (fun _ => True) (i := 2) (v := (.slice (some ld) (acc.length + j) c4)) (some 118) rfl rfl (by kernel_rfl) (by kernel_rfl) (by kernel_rfl) (fun _ _ _ h => h) (fun _ _ _ _ _ _ => trivial) (fun _ _ _ => SLd.set (by decide)) trivial (Or.inl ⟨by rfl, fun w' hw' => by go_simp⟩) (fun _ => cx) ?_
                            simp only [Act.put, List.setIfInBounds_toArray, List.set_cons_zero, List.set_cons_succ]
                            refine wpAnyL_takeD (fun _ => True) (i := 3) (v := (.int .i64 ((acc.length : Int) + (j : Int)))) (some 119) rfl rfl (by kernel_rfl) (by kernel_rfl) (by kernel_rfl) (fun _ _ _ h => h) (fun _ _ _ _ _ _ => trivial) (fun _ _ _ => SLd.set (by decide)) trivial (Or.inl ⟨by rfl, fun w' hw' => by go_simp⟩) (fun _ => cx) ?_
                            simp only [Act.put, List.setIfInBounds_toArray, List.set_cons_zero, List.set_cons_succ]
                            refine wpAnyL_takeD (fun _ => True) (i := 4) (v := (.int .i64 ((acc.length : Int) + (j : Int) - 1))) (some 120) rfl rfl (by kernel_rfl) (by kernel_rfl) (by kernel_rfl) (fun _ _ _ h => h) (fun _ _ _ _ _ _ => trivial) (fun _ _ _ => SLd.set (by decide)) trivial (Or.inl ⟨by rfl, fun w' hw' => by go_simp⟩) (fun _ => cx) ?_
                            simp only [Act.put, List.setIfInBounds_toArray, List.set_cons_zero, List.set_cons_succ]
                            refine wpAnyL_takeD (fun _ => True) (i := 5) (v := (.pointer (some (ld.add (acc.length + j - 1))))) (some 121) rfl rfl (by kernel_rfl) (by kernel_rfl) (by kernel_rfl) (fun _ _ _ h => h) (fun _ _ _ _ _ _ => trivial) (fun _ _ _ => SLd.set (by decide)) trivial (Or.inl ⟨by rfl, fun w' hw' => by go_simp⟩) (fun _ => cx) ?_
                            simp only [Act.put, List.setIfInBounds_toArray, List.set_cons_zero, List.set_cons_succ]
                            refine wpAnyL_takeD (fun l => l.getD 9 false = false) (i := 6) (v := (Iv x)) (some 122) rfl rfl (by kernel_rfl) (by kernel_rfl) (by kernel_rfl) (fun _ _ _ h => h) (fun l j hc hi hj hne => (getD_set_ne false (waits_ne (k := 9) hi hj (by kernel_rfl))).trans hc) (fun _ _ _ => SLd.set (by decide)) rfl (Or.inl ⟨by rfl, fun w' hw' => by obtain ⟨l, hc, hl⟩ := hw'; have hcl := hl hc; go_simp⟩) (fun _ => cx) ?_
                            simp only [Act.put, List.setIfInBounds_toArray, List.set_cons_zero, List.set_cons_succ]
                            refine wpAnyL_takeD (fun _ => True) (i := 7) (v := (.int .u64 (z : Int))) (some 123) rfl rfl (by kernel_rfl) (by kernel_rfl) (by kernel_rfl) (fun _ _ _ h => h) (fun _ _ _ _ _ _ => trivial) (fun _ _ _ => SLd.set (by decide)) trivial (Or.inl ⟨by rfl, fun w' hw' => by go_simp⟩) (fun _ => cx) ?_
                            simp only [Act.put, List.setIfInBounds_toArray, List.set_cons_zero, List.set_cons_succ]
                            refine wpAnyL_takeD (fun _ => True) (i := 10) (v := (.int .u64 (v : Int))) (some 126) rfl rfl (by kernel_rfl) (by kernel_rfl) (by kernel_rfl) (fun _ _ _ h => h) (fun _ _ _ _ _ _ => trivial) (fun _ _ _ => SLd.set (by decide)) trivial (Or.inl ⟨by rfl, fun w' hw' => by go_simp⟩) (fun _ => cx) ?_
                            simp only [Act.put, List.setIfInBounds_toArray, List.set_cons_zero, List.set_cons_succ]
                            refine wpAnyL_takeD (fun _ => True) (i := 11) (v := (.int .i64 (IntKind.i64.wrap (v : Int)))) (some 127) rfl rfl (by kernel_rfl) (by kernel_rfl) (by kernel_rfl) (fun _ _ _ h => h) (fun _ _ _ _ _ _ => trivial) (fun _ _ _ => SLd.set (by decide)) trivial (Or.inl ⟨by rfl, fun w' hw' => by go_simp⟩) (fun _ => cx) ?_
                            simp only [Act.put, List.setIfInBounds_toArray, List.set_cons_zero, List.set_cons_succ]
                            clear q3 q4
                            refine wpAnyL_one (i := 8) (by decide +kernel) ?_
                            refine wpOp_go (o := _) rfl (fun K hK => ?_)
                            go_simp
                            go_at_call 40
                            refine (HZG.out _).mono ?_; rintro e wx ⟨rfl, rfl⟩
                            refine hK _ _ ⟨fun _ => cx, ?_⟩
                            clear hK K
                            refine wpAnyL_one (i := 9) (by decide +kernel) ?_
                            refine wpOp_go (o := _) rfl (fun K hK => ?_)
                            go_simp
                            refine hK _ _ ⟨(fun h => absurd h (by decide)), ?_⟩
                            clear hK K
                            refine wpAnyL_one (i := 12) (by decide +kernel) ?_
                            refine wpOp_go (o := _) rfl (fun K hK => ?_)
                            go_simp
                            refine hK _ _ ⟨(fun h => absurd h (by decide)), ?_⟩
                            clear hK K
                            refine wpAnyL_one (i := 13) (by decide +kernel) ?_
                            refine wpOp_go (o := _) rfl (fun K hK => ?_)
                            go_simp
                            refine hK _ _ ⟨(fun h => absurd h (by decide)), ?_⟩
                            clear hK K
                            refine wpAnyL_one (i := 14) (by decide +kernel) ?_
                            refine wpOp_go (o := _) rfl (fun K hK => ?_)
                            refine step_one2 hO5 i64s rfl (by decide) rfl (one_i64 _) (by omega) (by unfold maxLen; omega) rfl _ _ rfl rfl rfl ?_
                            rintro v' wy ⟨hO6, hk6⟩
                            have hrd6 := hk6 _ _ hrd5
                            refine hK _ _ ⟨(fun h => absurd h (by decide)), ?_⟩
                            clear hK K hk6
                            refine wpAnyL_one (i := 15) (by decide +kernel) ?_
                            refine wpOp_go (o := _) rfl (fun K hK => ?_)
                            go_simp
                            refine hK _ _ ⟨(fun h => absurd h (by decide)), ?_⟩
                            clear hK K
                            refine wpAnyL_done (by decide +kernel) ?_ _
                            go_wp2
                            go_roundw
                            case rel => exact ⟨j + 1, max m2 wd, true, by go_num, rfl, rfl, by omega, by omega, (by simpa using HZN.out), by rw [HNW.out, ← HMW.out], HVR.out, by rw [HV.out, List.map_append, sum3]; exact hO6, hrd6⟩
                            case measure => simp [intOf]; omega
                          · have hbv : ((v : Int) == 0) = false := by simp; omega
                            have HZN : Hid (false = true ↔ 0 ∈ xs.take (j + 1)) := ⟨fun h => (by cases h), fun h => by
                              rcases (mem_next HXV.out 0).1 h with h | h
                              · exact HZ0.out.2 h
                              · exact absurd h.symm hv0⟩
                            clear hv0
                            go_wp2_with fail
                            refine (rwidth_any v _ hvU).mono ?_; rintro e w2 ⟨rfl, rfl⟩
                            rw [HWD.out]
                            go_upto_region 35 with fail
                            refine wp_region_L (SLd (ld.add (acc.length + j - 1)) (Iv x)) (by kernel_rfl) ?_
                            have hO5 := hO4.drew
                            have hrd5 := hrd.drew
                            replace cx : wr.drew.cell? (ld.add (acc.length + j - 1)) = some (Iv x) := cx
                            clear hO4 hrd cv
                            generalize wr.drew = wx at *
                            have q3 : IntKind.i64.wrap ((acc.length : Int) + (j : Int) - 1) = (acc.length : Int) + (j : Int) - 1 := IntWalk.i64_in _ (by omega)
                            have q4 : ¬ ((acc.length : Int) + (j : Int) ≤ (acc.length : Int) + (j : Int) - 1) := by omega
                            refine wpAnyL_takeD (fun _ => True) (i := 0) (v := (.slice (some ld) (acc.length + j) c4)) (some 116) rfl rfl (by kernel_rfl) (by kernel_rfl) (by kernel_rfl) (fun _ _ _ h => h) (fun _ _ _ _ _ _ => trivial) (fun _ _ _ => SLd.set (by decide)) trivial (Or.inl ⟨by rfl, fun w' hw' => by go_simp⟩) (fun _ => cx) ?_
                            simp only [Act.put, List.setIfInBounds_toArray, List.set_cons_zero, List.set_cons_succ]
                            refine wpAnyL_takeD (fun _ => True) (i := 1) (v := (.slice (some ld) (acc.length + j) c4)) (some 117) rfl rfl (by kernel_rfl) (by kernel_rfl) (by kernel_rfl) (fun _ _ _ h => h) (fun _ _ _ _ _ _ => trivial) (fun _ _ _ => SLd.set (by decide)) trivial (Or.inl ⟨by rfl, fun w' hw' => by go_simp⟩) (fun _ => cx) ?_
                            simp only [Act.put, List.setIfInBounds_toArray, List.set_cons_zero, List.set_cons_succ]
                            refine wpAnyL_takeD (fun _ => True) (i := 2) (v := (.slice (some ld) (acc.length + j) c4)) (some 118) rfl rfl (by kernel_rfl) (by kernel_rfl) (by kernel_rfl) (fun _ _ _ h => h) (fun _ _ _ _ _ _ => trivial) (fun _ _ _ => SLd.set (by decide)) trivial (Or.inl ⟨by rfl, fun w' hw' => by go_simp⟩) (fun _ => cx) ?_
                            simp only [Act.put, List.setIfInBounds_toArray, List.set_cons_zero, List.set_cons_succ]
                            refine wpAnyL_takeD (fun _ => True) (i := 3) (v := (.int .i64 ((acc.length : Int) + (j : Int)))) (some 119) rfl rfl (by kernel_rfl) (by kernel_rfl) (by kernel_rfl) (fun _ _ _ h => h) (fun _ _ _ _ _ _ => trivial) (fun _ _ _ => SLd.set (by decide)) trivial (Or.inl ⟨by rfl, fun w' hw' => by go_simp⟩) (fun _ => cx) ?_
                            simp only [Act.put, List.setIfInBounds_toArray, List.set_cons_zero, List.set_cons_succ]
                            refine wpAnyL_takeD (fun _ => True) (i := 4) (v := (.int .i64 ((acc.length : Int) + (j : Int) - 1))) (some 120) rfl rfl (by kernel_rfl) (by kernel_rfl) (by kernel_rfl) (fun _ _ _ h => h) (fun _ _ _ _ _ _ => trivial) (fun _ _ _ => SLd.set (by decide)) trivial (Or.inl ⟨by rfl, fun w' hw' => by go_simp⟩) (fun _ => cx) ?_
                            simp only [Act.put, List.setIfInBounds_toArray, List.set_cons_zero, List.set_cons_succ]
                            refine wpAnyL_takeD (fun _ => True) (i := 5) (v := (.pointer (some (ld.add (acc.length + j - 1))))) (some 121) rfl rfl (by kernel_rfl) (by kernel_rfl) (by kernel_rfl) (fun _ _ _ h => h) (fun _ _ _ _ _ _ => trivial) (fun _ _ _ => SLd.set (by decide)) trivial (Or.inl ⟨by rfl, fun w' hw' => by go_simp⟩) (fun _ => cx) ?_
                            simp only [Act.put, List.setIfInBounds_toArray, List.set_cons_zero, List.set_cons_succ]
                            refine wpAnyL_takeD (fun l => l.getD 9 false = false) (i := 6) (v := (Iv x)) (some 122) rfl rfl (by kernel_rfl) (by kernel_rfl) (by kernel_rfl) (fun _ _ _ h => h) (fun l j hc hi hj hne => (getD_set_ne false (waits_ne (k := 9) hi hj (by kernel_rfl))).trans hc) (fun _ _ _ => SLd.set (by decide)) rfl (Or.inl ⟨by rfl, fun w' hw' => by obtain ⟨l, hc, hl⟩ := hw'; have hcl := hl hc; go_simp⟩) (fun _ => cx) ?_
                            simp only [Act.put, List.setIfInBounds_toArray, List.set_cons_zero, List.set_cons_succ]
                            refine wpAnyL_takeD (fun _ => True) (i := 7) (v := (.int .u64 (z : Int))) (some 123) rfl rfl (by kernel_rfl) (by kernel_rfl) (by kernel_rfl) (fun _ _ _ h => h) (fun _ _ _ _ _ _ => trivial) (fun _ _ _ => SLd.set (by decide)) trivial (Or.inl ⟨by rfl, fun w' hw' => by go_simp⟩) (fun _ => cx) ?_
                            simp only [Act.put, List.setIfInBounds_toArray, List.set_cons_zero, List.set_cons_succ]
                            refine wpAnyL_takeD (fun _ => True) (i := 10) (v := (.int .u64 (v : Int))) (some 126) rfl rfl (by kernel_rfl) (by kernel_rfl) (by kernel_rfl) (fun _ _ _ h => h) (fun _ _ _ _ _ _ => trivial) (fun _ _ _ => SLd.set (by decide)) trivial (Or.inl ⟨by rfl, fun w' hw' => by go_simp⟩) (fun _ => cx) ?_
                            simp only [Act.put, List.setIfInBounds_toArray, List.set_cons_zero, List.set_cons_succ]
                            refine wpAnyL_takeD (fun _ => True) (i := 11) (v := (.int .i64 (IntKind.i64.wrap (v : Int)))) (some 127) rfl rfl (by kernel_rfl) (by kernel_rfl) (by kernel_rfl) (fun _ _ _ h => h) (fun _ _ _ _ _ _ => trivial) (fun _ _ _ => SLd.set (by decide)) trivial (Or.inl ⟨by rfl, fun w' hw' => by go_simp⟩) (fun _ => cx) ?_
                            simp only [Act.put, List.setIfInBounds_toArray, List.set_cons_zero, List.set_cons_succ]
                            clear q3 q4
                            refine wpAnyL_one (i := 8) (by decide +kernel) ?_
                            refine wpOp_go (o := _) rfl (fun K hK => ?_)
                            go_simp
                            go_at_call 40
                            refine (HZG.out _).mono ?_; rintro e wx ⟨rfl, rfl⟩
                            refine hK _ _ ⟨fun _ => cx, ?_⟩
                            clear hK K
                            refine wpAnyL_one (i := 9) (by decide +kernel) ?_
                            refine wpOp_go (o := _) rfl (fun K hK => ?_)
                            go_simp
                            refine hK _ _ ⟨(fun h => absurd h (by decide)), ?_⟩
                            clear hK K
                            refine wpAnyL_one (i := 12) (by decide +kernel) ?_
                            refine wpOp_go (o := _) rfl (fun K hK => ?_)
                            go_simp
                            refine hK _ _ ⟨(fun h => absurd h (by decide)), ?_⟩
                            clear hK K
                            refine wpAnyL_one (i := 13) (by decide +kernel) ?_
                            refine wpOp_go (o := _) rfl (fun K hK => ?_)
                            go_simp
                            refine hK _ _ ⟨(fun h => absurd h (by decide)), ?_⟩
                            clear hK K
                            refine wpAnyL_one (i := 14) (by decide +kernel) ?_
                            refine wpOp_go (o := _) rfl (fun K hK => ?_)
                            refine step_one2 hO5 i64s rfl (by decide) rfl (one_i64 _) (by omega) (by unfold maxLen; omega) rfl _ _ rfl rfl rfl ?_
                            rintro v' wy ⟨hO6, hk6⟩
                            have hrd6 := hk6 _ _ hrd5
                            refine hK _ _ ⟨(fun h => absurd h (by decide)), ?_⟩
                            clear hK K hk6
                            refine wpAnyL_one (i := 15) (by decide +kernel) ?_
                            refine wpOp_go (o := _) rfl (fun K hK => ?_)
                            go_simp
                            refine hK _ _ ⟨(fun h => absurd h (by decide)), ?_⟩
                            clear hK K
                            refine wpAnyL_done (by decide +kernel) ?_ _
                            go_wp2
                            go_roundw
                            case rel => exact ⟨j + 1, max m2 wd, false, by go_num, rfl, rfl, by omega, by omega, (by simpa using HZN.out), by rw [HNW.out, ← HMW.out], HVR.out, by rw [HV.out, List.map_append, sum3]; exact hO6, hrd6⟩
                            case measure => simp [intOf]; omega
                    · have hjk2 : j = K := by omega
                      subst hjk2
                      have hxt : xs.take j = xs := by rw [List.take_of_length_le (by rw [HXN.out]; exact Nat.le_refl _)]
                      have hdt : (upD ls xs).take j = upD ls xs := by rw [List.take_of_length_le (by rw [upD_len, HXN.out]; exact Nat.le_refl _)]
                      rw [hxt] at HZ0 HMW HRV
                      rw [hdt] at hO4
                      have hln2 : (sumsL acc (upD ls xs)).length = acc.length + j := by rw [sumsL_len, upD_len, HXN.out]
                      clear hxt hdt
                      cases zb with
                      | true =>
                        by_cases hmk : m2 = k
                        · have hbm : ((m2 : Int) != (k : Int)) = false := by simp; omega
                          have HE2 := Lib.hid (HOK.out ⟨HZ0.out.1 rfl, HMW.out.symm.trans hmk, HRV.out⟩)
                          have HLN := Lib.hid hln2
                          clear hmk hln2
                          go_wp2_with fail
                          exact ⟨⟨a + 1 + q, g, sumsL acc (upD ls xs), by go_num, by rw [HLN.out]; omega, by rw [HLN.out]; omega, by rw [hsl.out]; exact hs2, by rw [HLN.out]; omega, by rw [HLN.out]; exact hO4, sumsL_I64 HI.out _, HE2.out⟩, by show n - (acc.length + j) < n - acc.length; omega⟩
                        · have hbm : ((m2 : Int) != (k : Int)) = true := by simp; omega
                          have HL := Lib.hid (HBD.out (fun h => hmk (HMW.out.trans h.2.1)))
                          clear hmk hln2
                          go_wp2
                          go_ret2
                          exact dec_nil HL.out hO4.2
                      | false =>
                        have HL := Lib.hid (HBD.out (fun h => by have := HZ0.out.2 h.1; cases this))
                        clear hln2
                        go_wp2
                        go_ret2
                        exact dec_nil HL.out hO4.2
                · have he2 := unpack_err (by omega) (by omega) (cutB_len (by rw [hsl.out]; rw [HQ.out] at hs2; exact hs2)) Hu.out he
                  subst he2
                  have HL := Lib.hid (HER.out _ (offsL_bad (n := K) Hg.out HLT.out HW.out h64 HS.out Hu.out (Or.inl (by decide))) (by decide))
                  go_wp2
                  go_ret2
                  exact dec_nil HL.out hO3.2
        · simp only [hg] at hget
          have HG := Lib.hid hget
          have HL := Lib.hid (HER.out _ (offsL_err (n := K) hg he) he)
          have hbe : (e != 0) = true := by simpa using he
          clear hget hg he
          go_wp2_with fail
          refine (HG.out _).mono ?_; rintro e1 w1 ⟨rfl, rfl⟩
          go_wp2
          go_ret2
          exact dec_nil HL.out hO.2
      · obtain ⟨g, rfl⟩ : ∃ g, f = g + 1 := ⟨f - 1, by omega⟩
        have hnl : n ≤ acc.length := by omega
        by_cases hend : i < s.size
        · have HL := Lib.hid (HE.out.symm.trans (decGo_more hnl (by rw [hsl.out]; exact hend)))
          go_wp2
          go_ret2
          exact dec_nil HL.out hO.2
        · have HL := Lib.hid (HE.out.symm.trans (decGo_done hnl (by rw [hsl.out]; exact hend)))
          go_wp2
          go_ret2
          exact ⟨_, acc, 0, rfl, HL.out, hO.1, HI.out, hO.2⟩
  · simp only [hg] at hget
    have HG := Lib.hid hget
    have HL := Lib.hid (decR_err h0 hn hg he)
    have hbe : (e != 0) = true := by simpa using he
    clear hget hg he
    go_enter Try.func29, Try.ntmps29
    go_wp2_with fail
    refine (size_in n _ hn).mono ?_; rintro e1 w1 ⟨rfl, rfl⟩
    go_wp2_with fail
    refine (HG.out _).mono ?_; rintro e1 w1 ⟨rfl, rfl⟩
    go_wp2
    go_ret2
    exact dec_nil HL.out (Below.refl _ _)

theorem rdecode_any (s : ByteArray) (n : Int) (w : World) (hsz : s.size ≤ 1000000000000000) :
    Calls Try.prog 29 #[.string s, .int .i64 n] w (DecPost w (decR s.data.toList n)) := by
  by_cases h : n ≤ 0 ∨ 4096 < n
  · exact rdecode_out s n w h
  · obtain ⟨m, rfl⟩ := Int.eq_ofNat_of_zero_le (show 0 ≤ n by omega)
    exact rdecode_in s m w hsz (by omega) (by omega)

end Go.Proofs.Ytkdbbekoapcgdaa
