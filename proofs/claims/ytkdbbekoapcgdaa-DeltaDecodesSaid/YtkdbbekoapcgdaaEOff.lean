/-
  A block of differences that is read: delta.offsets.
-/
import Derived.Test.YtkdbbekoapcgdaaEDecP
import Derived.Test.YtkdbbekoapcgdaaEEnc
import Derived.Test.YtkdbbekoapcgdaaList
import Derived.Test.YtkdbbekoapcgdaaKeep
namespace Go.Proofs.Ytkdbbekoapcgdaa
open Go.RowKit

def OffsPost (w : World) (r : List Int × Nat × Int) (e : Ending) (w' : World) : Prop :=
  ∃ v, e = .returned (.tuple #[v, .int .i64 (r.2.1 : Int), .int .i64 r.2.2]) ∧ w'.ownsRow w.heap.size 2 1 v r.1.length (r.1.map Iv) ∧ Below w.heap.size w w'
theorem offs_nil {w w' : World} {r : List Int × Nat × Int} {e : Int} (h : r = ([], 0, e)) (hb : Below w.heap.size w w') : OffsPost w r (.returned (.tuple #[.slice none 0 0, .int .i64 0, .int .i64 e])) w' := by
  subst h; exact ⟨_, rfl, World.ownsRow_nil _ _ _ _, hb⟩
theorem offs_done {w w' : World} {r : List Int × Nat × Int} {d : List Int} {a n c : Nat} {A : Option Addr} {x : Int} (h : r = (d, a, 0)) (hx : x = (a : Int)) (ho : w'.ownsRow w.heap.size 2 1 (.slice A n c) d.length (d.map Iv)) (hb : Below w.heap.size w w') :
    OffsPost w r (.returned (.tuple #[.slice A n c, .int .i64 x, .int .i64 0])) w' := by
  subst h; subst hx; exact ⟨_, rfl, ho, hb⟩
theorem cut_list (s : ByteArray) (a k : Nat) : (s.extract a (a + k)).data.toList = cutB s.data.toList a k := by
  unfold cutB
  rw [ByteArray.data_extract, Array.toList_extract, List.extract_eq_take_drop, Nat.add_sub_cancel_left]
theorem map_nat (u : List Nat) : (u.map (fun v : Nat => (v : Int))).map (Value.int .u64) = u.map Uv := by rw [List.map_map]; rfl
theorem need_small (n k : Nat) (hn : n ≤ 4096) (hk : k ≤ 64) (W : World) : Calls Try.prog 42 #[.int .i64 (n : Int), .int .i64 (k : Int)] W fun e w' => e = .returned (.int .i64 (((n * k + 7) / 8 : Nat) : Int)) ∧ W = w' := by
  have h := need_any n k W
  rw [needN_nat n k hn hk] at h
  exact h
theorem unpack_cut (s : ByteArray) (a n k : Nat) (W : World) : Calls Try.prog 43 #[.string (s.extract (a + 1) (a + 1 + (n * k + 7) / 8)), .int .i64 (n : Int), .int .i64 (k : Int)] W (UnpPost W (cutB s.data.toList (a + 1) ((n * k + 7) / 8)) n k) := by
  have h := unpack_any (s.extract (a + 1) (a + 1 + (n * k + 7) / 8)) n k W
  rw [cut_list] at h
  exact h
set_option maxRecDepth 100000 in
set_option maxHeartbeats 1000000 in
theorem offsets_any (s : ByteArray) (at_ n : Nat) (w : World) (hsz : s.size ≤ 1000000000000000) (h0 : 0 < n) (hn : n ≤ 32) :
    Calls Try.prog 32 #[.string s, .int .i64 at_, .int .i64 n] w (OffsPost w (offsL s.data.toList at_ n)) := by
  have hsl := Lib.hid (size_list s)
  have hget := fun W => get_any s at_ W hsz
  rcases getL_cases s.data.toList at_ with ⟨z, a0, m, ha, hg, hU, hm1, hle, _⟩ | ⟨e, he, hg⟩
  · simp only [hg] at hget
    have hat : a0 = at_ := by omega
    subst hat
    rw [hsl.out] at hle
    have HG := Lib.hid hget
    have Hg := Lib.hid hg
    clear hget hg ha hm1
    generalize a0 + m = a at *
    go_enter Try.func32, Try.ntmps32
    go_wp2_with fail
    refine (HG.out _).mono ?_; rintro e w1 ⟨rfl, rfl⟩
    by_cases hae : a = s.size
    · have hb0 : ((a : Int) == (s.size : Int)) = true := by simp; omega
      have HL := Lib.hid (offsL_end (n := n) Hg.out (by rw [hsl.out]; exact hae))
      clear hae
      go_wp2
      go_ret3
      exact offs_nil HL.out (Below.refl _ _)
    · have hb0 : ((a : Int) == (s.size : Int)) = false := by simp; omega
      have hlt : a < s.size := by omega
      have HW : Hid ((s.data.toList.getD a 0).toNat = s[a].toNat) := by
        show _ = _
        rw [List.getD, Array.getElem?_toList, Array.getElem?_eq_getElem (by simpa using hlt)]; rfl
      have hk8 : s[a].toNat < 256 := UInt8.toNat_lt _
      have HLT : Hid (a < s.data.toList.length) := by show _; rw [hsl.out]; exact hlt
      clear hae
      by_cases h64 : 64 < s[a].toNat
      · have hb1 : decide ((64 : Int) < (s[a].toNat : Int)) = true := by simp; omega
        have HL := Lib.hid (offsL_wide (n := n) Hg.out HLT.out HW.out h64)
        go_wp2
        go_ret3
        exact offs_nil HL.out (Below.refl _ _)
      · have hb1 : decide ((64 : Int) < (s[a].toNat : Int)) = false := by simp; omega
        have hneed := need_small n s[a].toNat (by omega) (by omega)
        have hq : (n * s[a].toNat + 7) / 8 ≤ 300 := by
          have : n * s[a].toNat ≤ 32 * 64 := Nat.mul_le_mul hn (by omega)
          omega
        have hun := unpack_cut s a n s[a].toNat
        obtain ⟨q, hQ⟩ : ∃ q, q = (n * s[a].toNat + 7) / 8 := ⟨_, rfl⟩
        rw [← hQ] at hq
        simp only [← hQ] at hneed hun
        have HN := Lib.hid hneed
        have HU := Lib.hid hun
        have HQ := Lib.hid hQ
        clear hneed hun hQ
        go_wp2_with fail
        refine (HN.out _).mono ?_; rintro e w1 ⟨rfl, rfl⟩
        generalize s[a].toNat = k at *
        by_cases hs : s.size < a + 1 + q
        · have HL := Lib.hid (offsL_short (n := n) Hg.out HLT.out HW.out h64 (by rw [hsl.out, ← HQ.out]; exact hs))
          have hb2 : decide ((s.size : Int) < (a : Int) + 1 + (q : Int)) = true := by simp; omega
          go_wp2
          go_ret3
          exact offs_nil HL.out (Below.refl _ _)
        · have HS : Hid (¬ s.data.toList.length < a + 1 + (n * k + 7) / 8) := by show ¬ _; rw [hsl.out, ← HQ.out]; exact hs
          have hb2 : decide ((s.size : Int) < (a : Int) + 1 + (q : Int)) = false := by simp; omega
          have hs2 : a + 1 + q ≤ s.size := by omega
          clear hs
          go_wp2_with fail
          refine (HU.out _).mono ?_; rintro e w1 ⟨v, xs, err, rfl, hu, ho, hUx, hB1⟩
          obtain ⟨B, cp, rfl, hcp⟩ := own_form ho
          have hrd := Rd.of_own ho
          rw [HQ.out] at hu
          have Hu := Lib.hid hu
          have HUx := Lib.hid hUx
          clear hu ho hUx HU HN
          by_cases he : err = 0
          · subst he
            obtain ⟨hxn, _⟩ := unpackR_length Hu.out
            have hx0 : xs ≠ [] := by intro e; rw [e] at hxn; simp at hxn; omega
            have HX0 := Lib.hid hx0
            have HXN := Lib.hid hxn
            rw [hxn]
            rw [hxn] at hcp
            have hmin := fun W h => minu_any B n cp (xs.map (fun v : Nat => (v : Int))) W (by rw [map_nat]; exact h) (by rw [List.length_map, HXN.out]) h0 (by omega)
            have hmax := fun W h => maxu_any B n cp (xs.map (fun v : Nat => (v : Int))) W (by rw [map_nat]; exact h) (by rw [List.length_map, HXN.out]) h0 (by omega)
            obtain ⟨mx, hmx, hmU, hmW⟩ := max_width HX0.out HUx.out
            rw [hmx] at hmax
            have HMI := Lib.hid hmin
            have HMA := Lib.hid hmax
            have HMW := Lib.hid hmW
            have hz0 := Lib.hid (min_zero HX0.out)
            clear hmin hmax hmx hx0 hxn hmW
            generalize minI (xs.map (fun v : Nat => (v : Int))) = mn at *
            by_cases hmn : mn = 0
            · have H00 := Lib.hid (hz0.out.1 hmn)
              have hbn : (mn != 0) = false := by simpa using hmn
              clear hmn hz0
              go_wp2_with fail
              refine (HMI.out _ hrd).mono ?_; rintro e w2 ⟨rfl, rfl⟩
              go_wp2_with fail
              refine (HMA.out _ hrd).mono ?_; rintro e w2 ⟨rfl, rfl⟩
              go_wp2_with fail
              refine (width_any mx _ hmU).mono ?_; rintro e w2 ⟨rfl, rfl⟩
              generalize widthN mx = wd at *
              clear HMI HMA
              by_cases hwk : wd = k
              · have hbw : ((wd : Int) != (k : Int)) = false := by simp; omega
                have HWK := Lib.hid hwk
                clear hwk
                have hl64 := zagI_I64 hU
                have HOK := Lib.hid (fun h : goodU (zagI z) k xs => offsL_ok (n := n) Hg.out HLT.out HW.out h64 HS.out Hu.out h)
                have HBD := Lib.hid (fun h : ¬ goodU (zagI z) k xs => offsL_bad (n := n) Hg.out HLT.out HW.out h64 HS.out Hu.out (Or.inr h))
                have HMU := Lib.hid (min_upD hl64 HUx.out H00.out)
                go_wp2_with fail
                refine (zag_any z _ hU).mono ?_; rintro e w2 ⟨rfl, rfl⟩
                generalize zagI z = ls at *
                go_wp2_with fail
                go_loopw [15, 77] (fun d b wr => ∃ i : Nat, b = .int .i64 (i : Int) ∧ i ≤ n ∧ Own w1 wr 2 1 d i (((upD ls xs).take i).map Iv)) (fun _ b _ => n - (intOf b).toNat)
                case atStart => exact ⟨0, rfl, by omega, Own.nil _ _ _⟩
                case round =>
                  obtain ⟨i, rfl, hi, hO⟩ := hrel
                  obtain ⟨C, cq, rfl, hcq⟩ := own_form hO.1
                  by_cases hin : i < n
                  · obtain ⟨v, hv⟩ : ∃ v, xs[i]? = some v := ⟨_, List.getElem?_eq_getElem (by rw [HXN.out]; exact hin)⟩
                    obtain ⟨bd, rfl, _, cv⟩ := (hrd.below hO.2).at_ (j := i) (u := Uv v) (by rw [List.getElem?_map, hv]; rfl)
                    have HV := Lib.hid (upD_at (least := ls) hv)
                    have hvU := HUx.out v (List.mem_of_getElem? hv)
                    clear hv
                    go_wp2_with (at_builtin; refine own_one hO i64s rfl (by decide) rfl (one_i64 _) (by omega) (by unfold maxLen; omega) ?_ rfl _ _ rfl rfl rfl)
                    intro v' w' hO'
                    go_wp2
                    go_roundw
                    case rel => exact ⟨i + 1, by go_num, by omega, by rw [List.take_add_one, HV.out, List.map_append, List.map_take]; first | exact hO' | (rw [add_wrap] at hO'; exact hO')⟩
                    case measure => simp [intOf]; omega
                  · have hin2 : n = i := by omega
                    subst hin2
                    have hru := Rd.of_own hO.1
                    rw [List.take_of_length_le (by rw [upD_len, HXN.out]; exact Nat.le_refl _)] at hO hru
                    have HUL : Hid ((upD ls xs).length = n) := by show _ = _; rw [upD_len, HXN.out]
                    go_wp2_with fail
                    refine (mini_any C n cq (upD ls xs) _ hru HUL.out h0 (by omega)).mono ?_; rintro e w2 ⟨rfl, rfl⟩
                    have hB3 := bt hB1 hO.2
                    have hown := hO.1.mono hB1.size
                    by_cases hml : minI (upD ls xs) = ls
                    · have hbl : (minI (upD ls xs) != ls) = false := by simpa using hml
                      have HL := Lib.hid (HOK.out ⟨H00.out, by rw [← HMW.out, HWK.out], HMU.out.1 hml⟩)
                      rw [← HQ.out] at HL
                      clear hml HMU
                      generalize minI (upD ls xs) = mm at *
                      go_wp2
                      go_ret3
                      exact offs_done HL.out (by omega) (by rw [HUL.out]; exact hown) hB3
                    · have hbl : (minI (upD ls xs) != ls) = true := by simpa using hml
                      have HL := Lib.hid (HBD.out (fun h => hml (HMU.out.2 h.2.2)))
                      clear hml HMU
                      generalize minI (upD ls xs) = mm at *
                      go_wp2
                      go_ret3
                      exact offs_nil HL.out hB3
              · have hbw : ((wd : Int) != (k : Int)) = true := by simp; omega
                have HL := Lib.hid (offsL_bad (n := n) Hg.out HLT.out HW.out h64 HS.out Hu.out (Or.inr (fun h : goodU (zagI z) k xs => hwk (by rw [HMW.out]; exact h.2.1))))
                clear hwk
                go_wp2
                go_ret3
                exact offs_nil HL.out hB1
            · have hbn : (mn != 0) = true := by simpa using hmn
              have HL := Lib.hid (offsL_bad (n := n) Hg.out HLT.out HW.out h64 HS.out Hu.out (Or.inr (fun h : goodU (zagI z) k xs => hmn (hz0.out.2 h.1))))
              clear hmn hz0
              go_wp2_with fail
              refine (HMI.out _ hrd).mono ?_; rintro e w2 ⟨rfl, rfl⟩
              go_wp2
              go_ret3
              exact offs_nil HL.out hB1
          · have HL := Lib.hid (offsL_bad (n := n) Hg.out HLT.out HW.out h64 HS.out Hu.out (Or.inl he))
            have hbe : (err != 0) = true := by simpa using he
            clear he
            go_wp2
            go_ret3
            exact offs_nil HL.out hB1
  · simp only [hg] at hget
    have HG := Lib.hid hget
    have HL := Lib.hid (offsL_err (n := n) hg he)
    have hbe : (e != 0) = true := by simpa using he
    clear hget hg he
    go_enter Try.func32, Try.ntmps32
    go_wp2_with fail
    refine (HG.out _).mono ?_; rintro e1 w1 ⟨rfl, rfl⟩
    go_wp2
    go_ret3
    exact offs_nil HL.out (Below.refl _ _)

end Go.Proofs.Ytkdbbekoapcgdaa
