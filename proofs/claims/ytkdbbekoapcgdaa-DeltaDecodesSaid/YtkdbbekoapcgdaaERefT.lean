/-
  The reference's EncodeDelta at every list.
-/
import Derived.Test.YtkdbbekoapcgdaaERef
import Derived.Test.YtkdbbekoapcgdaaEEnc2
import Derived.Test.YtkdbbekoapcgdaaBPack
namespace Go.Proofs.Ytkdbbekoapcgdaa
open Go.RowKit Go.Shelf

attribute [local go_sem] Oper.semAt_some
theorem one_u64 (z : Nat) : ∀ u ∈ (#[Uv z] : Array Value).toList, u.oneCell' = true := by
  intro u hu; simp at hu; subst hu; rfl
theorem off_eq2 {v m : Int} (hv : I64 v) (hm : I64 m) (h : m ≤ v) : IntKind.u64.wrap (wrap64 (v - m)) = ((v - m).toNat : Int) := by
  unfold I64 at hv hm
  have e : ∀ x : Int, IntKind.u64.wrap x = x % 18446744073709551616 := fun x => by rw [IntKind.wrap_u64]
  rw [e]
  unfold wrap64
  omega
/-- The least difference of the places 'i' to 'j' (and the one at 'i'). -/
def minFrom (L : List Int) (i j : Nat) : Int := (List.range (j - i)).foldl (fun m t => min m (diffA L (i - 1 + t))) (diffA L (i - 1))
theorem part_map {L : List Int} {k i en : Nat} (hi : i = 1 + 32 * k) (hen : en = min (i + 32) L.length) (hin : i < L.length) : part (diffs L) k = (List.range (en - i)).map (fun t => diffA L (i - 1 + t)) := by
  apply List.ext_getElem?
  intro t
  unfold part diffs
  by_cases ht : t < en - i
  · rw [List.getElem?_take, if_pos (by omega), List.getElem?_drop, List.getElem?_map, List.getElem?_map, List.getElem?_range (by omega), List.getElem?_range ht]
    simp only [Option.map_some]
    rw [show 32 * k + t = i - 1 + t by omega]
  · rw [List.getElem?_eq_none (by simp; omega), List.getElem?_eq_none (by simp; omega)]
theorem min_part {L : List Int} {k i en : Nat} (hi : i = 1 + 32 * k) (hen : en = min (i + 32) L.length) (hin : i < L.length) : minFrom L i en = minI (part (diffs L) k) := by
  rw [part_map hi hen hin]
  obtain ⟨q, hq⟩ : ∃ q, en - i = q + 1 := ⟨en - i - 1, by omega⟩
  unfold minFrom
  rw [hq, List.range_succ_eq_map, List.map_cons, List.foldl_cons]
  unfold minI
  simp only [Nat.add_zero, Int.min_self, List.foldl_map]
theorem offs_at {L : List Int} {k i en : Nat} (hi : i = 1 + 32 * k) (hen : en = min (i + 32) L.length) (hin : i < L.length) : ∀ t, t < en - i → (offs (part (diffs L) k))[t]? = some (diffA L (i - 1 + t) - minI (part (diffs L) k)).toNat ∧ minI (part (diffs L) k) ≤ diffA L (i - 1 + t) := by
  intro t ht
  have h : (part (diffs L) k)[t]? = some (diffA L (i - 1 + t)) := by
    rw [part_map hi hen hin, List.getElem?_map, List.getElem?_range ht]; rfl
  exact ⟨by rw [offs, List.getElem?_map, h]; rfl, minI_le (List.mem_of_getElem? h)⟩
set_option maxRecDepth 100000 in
set_option maxHeartbeats 1000000 in
theorem rencode_in (A : Option Addr) (n c : Nat) (L : List Int) (w : World) (hr : Rd w w.heap.size A (L.map Iv)) (hn : L.length = n) (h0 : 0 < n) (hm : n ≤ 4096) (hz : ∀ z ∈ L, I64 z) :
    Calls Try.prog 12 #[.slice A n c] w fun e w' => e = .returned (Sv (encD L)) ∧ Below w.heap.size w w' := by
  have HN := Lib.hid hn
  have HZ := Lib.hid hz
  obtain ⟨x0, hx0⟩ : ∃ x, L[0]? = some x := ⟨_, List.getElem?_eq_getElem (by omega)⟩
  obtain ⟨ad, rfl, hadb, c0⟩ := hr.at_ (j := 0) (u := Iv x0) (by rw [List.getElem?_map, hx0]; rfl)
  have c00 : w.cell? ad = some (Iv x0) := by simpa [Addr.add] using c0
  have hx64 : I64 x0 := hz _ (List.mem_of_getElem? hx0)
  have HX := Lib.hid hx0
  have hd0 : ((n : Int) == 0) = false := by simp; omega
  have hd1 : decide ((4096 : Int) < (n : Int)) = false := by simp; omega
  clear hn hz hx0
  go_enter Try.func12, Try.ntmps12
  go_wp2_with fail
  refine (rzig_any x0 _ hx64).mono ?_; rintro e w1 ⟨rfl, rfl⟩
  have hU := zigN_U64 hx64
  have l1 := putL_len hU
  generalize hzg : zigN x0 = zg at *
  have HZG := Lib.hid hzg
  clear hzg
  go_wp2_with fail
  refine (rput_any zg _ hU).mono ?_; rintro e w1 ⟨rfl, hb1⟩
  go_wp2_with fail
  clear c0 c00 hd0 hd1
  go_loopw [3, 4] (fun s b wr => ∃ k i : Nat, b = .int .i64 (i : Int) ∧ Hid (i = 1 + 32 * k) ∧ 1 ≤ i ∧ i ≤ n + 31 ∧ s = Sv (putL zg ++ encB (diffs L) k) ∧ k ≤ (n - 1 + 31) / 32 ∧ Below w.heap.size w wr) (fun _ b _ => n + 32 - (intOf b).toNat)
  case atStart => exact ⟨0, 1, rfl, rfl, by omega, by omega, by simp [encB, Sv], by omega, hb1⟩
  case round =>
    obtain ⟨k, i, rfl, HI, hi1, hi2, rfl, hk, hB⟩ := hrel
    by_cases hin : i < n
    · obtain ⟨v1, hv1⟩ : ∃ v, L[i - 1]? = some v := ⟨_, List.getElem?_eq_getElem (by rw [HN.out]; omega)⟩
      obtain ⟨v2, hv2⟩ : ∃ v, L[i]? = some v := ⟨_, List.getElem?_eq_getElem (by rw [HN.out]; omega)⟩
      have hrw := hr.below hB
      obtain ⟨_, e1, _, c1⟩ := hrw.at_ (j := i - 1) (u := Iv v1) (by rw [List.getElem?_map, hv1]; rfl)
      cases e1
      obtain ⟨_, e2, _, c2⟩ := hrw.at_ (j := i) (u := Iv v2) (by rw [List.getElem?_map, hv2]; rfl)
      cases e2
      have HV1 := Lib.hid hv1
      have HV2 := Lib.hid hv2
      clear hv1 hv2 hrw
      have q1 : (1 : Int) ≤ (i : Int) := by omega
      have q2 : ((i : Int) - 1).toNat = i - 1 := by omega
      go_wp2_with fail
      have hen : min ((i : Int) + 32) (n : Int) = ((min (i + 32) n : Nat) : Int) := by omega
      rw [hen]
      clear hen
      obtain ⟨en, hE⟩ : ∃ en, en = min (i + 32) n := ⟨_, rfl⟩
      rw [← hE]
      have q3 : decide ((i : Int) < (n : Int)) = true := by simp; omega
      have q4 : (i : Int) ≤ (n : Int) := by omega
      go_region
      have HD0 : Hid (wrap64 (v2 - v1) = diffA L (i - 1)) := by
        show _ = _
        unfold diffA
        rw [show i - 1 + 1 = i by omega]
        simp [List.getD, HV1.out, HV2.out]
      rw [HD0.out]
      clear c1 c2 HV1 HV2 HD0 q1 q2 q3 q4
      go_wp2_with fail
      go_loopw [6, 7] (fun m b w2 => ∃ j : Nat, b = .int .i64 (j : Int) ∧ i ≤ j ∧ j ≤ en ∧ m = Iv (minFrom L i j) ∧ Below w.heap.size w w2) (fun _ b _ => n + 32 - (intOf b).toNat)
      case atStart => exact ⟨i, rfl, by omega, by omega, by simp [minFrom], by first | exact hB.drew | exact Below.drew hB⟩
      case round =>
        obtain ⟨j, rfl, hj1, hj2, rfl, hB2⟩ := hrel
        by_cases hjn : j < en
        · obtain ⟨v1, hv1⟩ : ∃ v, L[j - 1]? = some v := ⟨_, List.getElem?_eq_getElem (by rw [HN.out]; omega)⟩
          obtain ⟨v2, hv2⟩ : ∃ v, L[j]? = some v := ⟨_, List.getElem?_eq_getElem (by rw [HN.out]; omega)⟩
          have hrw := hr.below hB2
          obtain ⟨_, e1, _, c1⟩ := hrw.at_ (j := j - 1) (u := Iv v1) (by rw [List.getElem?_map, hv1]; rfl)
          cases e1
          obtain ⟨_, e2, _, c2⟩ := hrw.at_ (j := j) (u := Iv v2) (by rw [List.getElem?_map, hv2]; rfl)
          cases e2
          have q1 : (1 : Int) ≤ (j : Int) := by omega
          have q2 : ((j : Int) - 1).toNat = j - 1 := by omega
          have q4 : (j : Int) ≤ (n : Int) := by omega
          have HS : Hid (min (minFrom L i j) (wrap64 (v2 - v1)) = minFrom L i (j + 1)) := by
            show _ = _
            have e3 : diffA L (j - 1) = wrap64 (v2 - v1) := by
              unfold diffA
              rw [show j - 1 + 1 = j by omega]
              simp [List.getD, hv1, hv2]
            unfold minFrom
            rw [show j + 1 - i = (j - i) + 1 by omega, List.range_succ, List.foldl_append, List.foldl_cons, List.foldl_nil, show i - 1 + (j - i) = j - 1 by omega, e3]
          clear hv1 hv2 hrw
          go_wp2_with fail
          go_region
          go_wp2_with fail
          exact ⟨⟨j + 1, by go_num, by omega, by omega, by rw [HS.out], Below.drew hB2⟩, by simp [intOf]; omega⟩
        · have hje : en = j := by omega
          subst hje
          have hen : en = min (i + 32) L.length := by rw [HN.out]; exact hE
          have hiL : i < L.length := by rw [HN.out]; exact hin
          have HMS := Lib.hid (min_part HI.out hen hiL)
          rw [HMS.out]
          have hpl : (part (diffs L) k).length = en - i := by rw [part_map HI.out hen hiL]; simp
          have hP0 : part (diffs L) k ≠ [] := by intro e; rw [e] at hpl; simp at hpl; omega
          have hP64 := part_I64 (diffs_I64 L) k
          have hm64 : I64 (minI (part (diffs L) k)) := hP64 _ (minI_mem hP0)
          have HOL : Hid ((offs (part (diffs L) k)).length = en - i) := by show _ = _; rw [offs, List.length_map, hpl]
          have HOU := Lib.hid (off_U64 hP64)
          have HOO := Lib.hid (offs_at HI.out hen hiL)
          have HB := Lib.hid (show encB (diffs L) (k + 1) = encB (diffs L) k ++ (putL (zigN (minI (part (diffs L) k))) ++ [UInt8.ofNat (maxW (offs (part (diffs L) k)))] ++ packL (offs (part (diffs L) k)) (maxW (offs (part (diffs L) k)))) from encB_succ _ _)
          have HMW := Lib.hid (maxW_le (off_U64 hP64))
          have hel := encB_len (diffs_I64 L) k (by rw [diffs_len, HN.out]; have := HI.out; omega)
          have hen1 : en ≤ n := by omega
          have hen2 : en ≤ i + 32 := by omega
          have hen3 : i < en := by omega
          have HE := Lib.hid hE
          clear hpl hP0 hP64 hen hiL HMS hE
          generalize minI (part (diffs L) k) = ms at *
          generalize offs (part (diffs L) k) = us at *
          go_wp2_with fail
          go_loopw [8, 9, 10] (fun a b c w2 => ∃ j m : Nat, c = .int .i64 (j : Int) ∧ b = .int .i64 (m : Int) ∧ i ≤ j ∧ j ≤ en ∧ m ≤ 64 ∧ Hid (m = maxW (us.take (j - i))) ∧ Own w w2 38 1 a (j - i) ((us.take (j - i)).map Uv)) (fun _ _ c _ => n + 32 - (intOf c).toNat)
          case atStart => exact ⟨i, 0, rfl, rfl, by omega, by omega, by omega, by show _ = _; rw [Nat.sub_self]; rfl, by rw [Nat.sub_self]; exact ⟨World.ownsRow_nil _ _ _ _, hB2⟩⟩
          case round =>
            clear hB2
            obtain ⟨j, m, rfl, rfl, hj1, hj2, hm6, HM, hO⟩ := hrel
            obtain ⟨B, cp, rfl, hcp⟩ := own_form hO.1
            by_cases hjn : j < en
            · obtain ⟨v1, hv1⟩ : ∃ v, L[j - 1]? = some v := ⟨_, List.getElem?_eq_getElem (by rw [HN.out]; omega)⟩
              obtain ⟨v2, hv2⟩ : ∃ v, L[j]? = some v := ⟨_, List.getElem?_eq_getElem (by rw [HN.out]; omega)⟩
              have hrw := hr.below hO.2
              obtain ⟨_, e1, _, c1⟩ := hrw.at_ (j := j - 1) (u := Iv v1) (by rw [List.getElem?_map, hv1]; rfl)
              cases e1
              obtain ⟨_, e2, _, c2⟩ := hrw.at_ (j := j) (u := Iv v2) (by rw [List.getElem?_map, hv2]; rfl)
              cases e2
              have q1 : (1 : Int) ≤ (j : Int) := by omega
              have q2 : ((j : Int) - 1).toNat = j - 1 := by omega
              have q4 : (j : Int) ≤ (n : Int) := by omega
              have e3 : diffA L (j - 1) = wrap64 (v2 - v1) := by
                unfold diffA
                rw [show j - 1 + 1 = j by omega]
                simp [List.getD, hv1, hv2]
              obtain ⟨hu, hle⟩ := HOO.out (j - i) (by omega)
              rw [show i - 1 + (j - i) = j - 1 by omega, e3] at hu hle
              have HOE := Lib.hid (off_eq2 (I64_wrap (v2 - v1)) hm64 hle)
              have huU : U64 (wrap64 (v2 - v1) - ms).toNat := HOU.out _ (List.mem_of_getElem? hu)
              have HU := Lib.hid hu
              clear hv1 hv2 hrw hu hle e3
              go_wp2_with fail
              go_region
              rw [HOE.out]
              clear HOE c1 c2 q1 q2
              generalize (wrap64 (v2 - v1) - ms).toNat = u at *
              have hO1 := hO.drew
              clear hO
              have hub : ((j - i : Nat) : Int) = (j : Int) - (i : Int) := by omega
              go_wp2_with (at_builtin; refine own_one hO1 u64s rfl (by decide) rfl (one_u64 _) (by omega) (by unfold maxLen; omega) ?_ rfl _ _ rfl rfl rfl)
              intro v' w' hO'
              have hmx : max (m : Int) (widthN u : Int) = ((max m (widthN u) : Nat) : Int) := by omega
              have hwu := width_u64 huU
              have HNX := Lib.hid (maxW_next HU.out)
              generalize hwd : widthN u = wd at *
              have HWD := Lib.hid hwd
              clear hwd
              go_wp2_with fail
              refine (rwidth_any u _ huU).mono ?_; rintro e w1 ⟨rfl, rfl⟩
              rw [HWD.out]
              go_wp2
              exact ⟨⟨j + 1, max m wd, by go_num, rfl, by omega, by omega, by omega, by show _ = _; rw [show j + 1 - i = (j - i) + 1 by omega, HNX.out, ← HM.out], by rw [show j + 1 - i = (j - i) + 1 by omega, List.take_add_one, HU.out, List.map_append, List.map_take]; exact hO'⟩, by simp [intOf]; omega⟩
            · have hje : en = j := by omega
              subst hje
              have hus : us.take (en - i) = us := by rw [← HOL.out, List.take_length]
              rw [hus] at HM hO
              have hw0 := HM.out
              have hru := Rd.of_own hO.1
              have HPK := Lib.hid (packR_ok (xs := us) (k := m) hm6 (by rw [HOL.out]; omega) (fun v hv => by rw [hw0]; exact maxW_ge hv))
              have hpl : (packL us m).length ≤ 1000000 := by
                have h1 : us.length * m ≤ 4096 * 64 := Nat.mul_le_mul (by rw [HOL.out]; omega) hm6
                unfold packL packB
                simp only [List.length_map, List.length_range]
                omega
              rw [← hw0] at HB
              clear hw0 HM HMW hus
              go_wp2_with fail
              refine (rpack_in B (en - i) cp m us _ hru HOL.out HOU.out (by omega) hm6).mono ?_; rintro e w2 ⟨rfl, hb2⟩
              rw [HPK.out]
              have hb3 := bt hO.2 hb2
              clear hO hb2 hru HPK HOL HOU HOO HN HX
              generalize packL us m = pk at *
              have hUz := zigN_U64 hm64
              have HZM : Hid (∀ ws : World, Calls Try.prog 26 #[.int .i64 ms] ws fun e w' => e = .returned (.int .u64 (zigN ms : Nat)) ∧ ws = w') := fun ws => rzig_any ms ws hm64
              generalize zigN ms = zm at *
              have l0 := putL_len hUz
              obtain ⟨S0, hS0⟩ : ∃ S, S = putL zg ++ encB (diffs L) k := ⟨_, rfl⟩
              have ls : S0.length ≤ 1000000 := by rw [hS0, List.length_append]; omega
              rw [← hS0]
              obtain ⟨L1, hL1⟩ : ∃ L : List UInt8, L = putL zm ++ [UInt8.ofNat m] := ⟨_, rfl⟩
              have l2 : L1.length ≤ 11 := by rw [hL1]; simp; omega
              obtain ⟨L2, hL2⟩ : ∃ L : List UInt8, L = L1 ++ pk := ⟨_, rfl⟩
              have l3 : L2.length ≤ 1000011 := by rw [hL2, List.length_append]; omega
              obtain ⟨L3, hL3⟩ : ∃ L : List UInt8, L = S0 ++ L2 := ⟨_, rfl⟩
              have sa1 := sadd (P := Try.prog) (a := putL zm) (b := [UInt8.ofNat m]) (by simp; omega)
              have sa2 := sadd (P := Try.prog) (a := L1) (b := pk) (by omega)
              have sa3 := sadd (P := Try.prog) (a := S0) (b := L2) (by omega)
              rw [← hL1] at sa1
              rw [← hL2] at sa2
              rw [← hL3] at sa3
              have HL3 : Hid (L3 = putL zg ++ encB (diffs L) (k + 1)) := by
                show _ = _
                rw [HB.out, ← hL1, ← hL2, hL3, hS0, List.append_assoc]
              clear hL1 hL2 hL3 hS0 HB hel
              have hw8 : IntKind.u8.wrap (m : Int) = (m : Int) := IntWalk.u8_in _ (by omega)
              go_upto_region 22 with fail
              refine wp_region_L (fun _ w' => Below w2.heap.size w2 w') (by kernel_rfl) ?_
              have hB : Below w2.heap.size w2 w2.drew := Below.drew (Below.refl _ _)
              generalize w2.drew = wx at *
              refine wpAnyL_takeD (fun _ => True) (i := 0) (v := (.string ⟨S0.toArray⟩)) (some 99) rfl rfl (by kernel_rfl) (by kernel_rfl) (by kernel_rfl) (fun _ _ _ h => h) (fun _ _ _ _ _ _ => trivial) (fun _ _ _ => Iff.rfl) trivial (Or.inl ⟨by rfl, fun w' hw' => by go_simp⟩) hB ?_
              simp only [Act.put, List.setIfInBounds_toArray, List.set_cons_zero, List.set_cons_succ]
              refine wpAnyL_takeD (fun _ => True) (i := 1) (v := (.int .i64 ms)) (some 100) rfl rfl (by kernel_rfl) (by kernel_rfl) (by kernel_rfl) (fun _ _ _ h => h) (fun _ _ _ _ _ _ => trivial) (fun _ _ _ => Iff.rfl) trivial (Or.inl ⟨by rfl, fun w' hw' => by go_simp⟩) hB ?_
              simp only [Act.put, List.setIfInBounds_toArray, List.set_cons_zero, List.set_cons_succ]
              refine wpAnyL_takeD (fun _ => True) (i := 4) (v := (.int .i64 m)) (some 103) rfl rfl (by kernel_rfl) (by kernel_rfl) (by kernel_rfl) (fun _ _ _ h => h) (fun _ _ _ _ _ _ => trivial) (fun _ _ _ => Iff.rfl) trivial (Or.inl ⟨by rfl, fun w' hw' => by go_simp⟩) hB ?_
              simp only [Act.put, List.setIfInBounds_toArray, List.set_cons_zero, List.set_cons_succ]
              refine wpAnyL_takeD (fun _ => True) (i := 5) (v := (.int .u8 m)) (some 104) rfl rfl (by kernel_rfl) (by kernel_rfl) (by kernel_rfl) (fun _ _ _ h => h) (fun _ _ _ _ _ _ => trivial) (fun _ _ _ => Iff.rfl) trivial (Or.inl ⟨by rfl, fun w' hw' => by go_simp⟩) hB ?_
              simp only [Act.put, List.setIfInBounds_toArray, List.set_cons_zero, List.set_cons_succ]
              refine wpAnyL_takeD (fun _ => True) (i := 9) (v := (.string ⟨pk.toArray⟩)) (some 108) rfl rfl (by kernel_rfl) (by kernel_rfl) (by kernel_rfl) (fun _ _ _ h => h) (fun _ _ _ _ _ _ => trivial) (fun _ _ _ => Iff.rfl) trivial (Or.inl ⟨by rfl, fun w' hw' => by go_simp⟩) hB ?_
              simp only [Act.put, List.setIfInBounds_toArray, List.set_cons_zero, List.set_cons_succ]
              refine wpAnyL_lst (rs := [2, 6]) (by decide +kernel) ⟨List.cons_ne_nil _ _, ?_⟩
              refine List.forall_mem_cons.2 ⟨?_, List.forall_mem_cons.2 ⟨?_, (fun _ h => absurd h List.not_mem_nil)⟩⟩
              · skip
                refine wpOp_go (o := _) rfl (fun K hK => ?_)
                go_simp
                go_at_call 26
                refine (HZM.out _).mono ?_; rintro e wx ⟨rfl, rfl⟩
                refine hK _ _ ⟨hB, ?_⟩
                clear hK K
                refine wpAnyL_lst (rs := [3, 6]) (by decide +kernel) ⟨List.cons_ne_nil _ _, ?_⟩
                refine List.forall_mem_cons.2 ⟨?_, List.forall_mem_cons.2 ⟨?_, (fun _ h => absurd h List.not_mem_nil)⟩⟩
                · skip
                  refine wpOp_go (o := _) rfl (fun K hK => ?_)
                  go_simp
                  go_at_call 25
                  refine (rput_any zm _ hUz).mono ?_; rintro e wx ⟨rfl, hbx⟩
                  try replace hcb := keepc hcb hbx
                  replace hB := bt hB hbx
                  refine hK _ _ ⟨hB, ?_⟩
                  clear hK K hbx
                  refine wpAnyL_one (i := 6) (by decide +kernel) ?_
                  refine wpOp_go (o := _) rfl (fun K hK => ?_)
                  go_simp
                  have hcb := newc wx 5 (.int .u8 (m : Int))
                  replace hB := hB.alloc hB.size (.cells #[.int .u8 (m : Int)] 5)
                  refine hK _ _ ⟨hB, ?_⟩
                  clear hK K
                  generalize wx.alloc (.cells #[.int .u8 (m : Int)] 5) = wx at *
                  refine wpAnyL_one (i := 7) (by decide +kernel) ?_
                  have hcv := byte_str_at Try.bytes Try.underlying5 Try.underlying9 m (by omega) _ _ hcb.1
                  refine wpOp_go (o := _) rfl (fun K hK => ?_)
                  go_simp
                  refine hK _ _ ⟨hB, ?_⟩
                  clear hK K hcv
                  refine wpAnyL_takeD (fun _ => True) (i := 8) (v := (.string ⟨L1.toArray⟩)) (some 107) rfl rfl (by kernel_rfl) (by kernel_rfl) (by kernel_rfl) (fun _ _ _ h => h) (fun _ _ _ _ _ _ => trivial) (fun _ _ _ => Iff.rfl) trivial (Or.inl ⟨by rfl, fun w' hw' => by go_simp⟩) hB ?_
                  simp only [Act.put, List.setIfInBounds_toArray, List.set_cons_zero, List.set_cons_succ]
                  refine wpAnyL_takeD (fun _ => True) (i := 10) (v := (.string ⟨L2.toArray⟩)) (some 109) rfl rfl (by kernel_rfl) (by kernel_rfl) (by kernel_rfl) (fun _ _ _ h => h) (fun _ _ _ _ _ _ => trivial) (fun _ _ _ => Iff.rfl) trivial (Or.inl ⟨by rfl, fun w' hw' => by go_simp⟩) hB ?_
                  simp only [Act.put, List.setIfInBounds_toArray, List.set_cons_zero, List.set_cons_succ]
                  refine wpAnyL_takeD (fun _ => True) (i := 11) (v := (.string ⟨L3.toArray⟩)) (some 110) rfl rfl (by kernel_rfl) (by kernel_rfl) (by kernel_rfl) (fun _ _ _ h => h) (fun _ _ _ _ _ _ => trivial) (fun _ _ _ => Iff.rfl) trivial (Or.inl ⟨by rfl, fun w' hw' => by go_simp⟩) hB ?_
                  simp only [Act.put, List.setIfInBounds_toArray, List.set_cons_zero, List.set_cons_succ]
                  refine wpAnyL_takeD (fun _ => True) (i := 12) (v := (.string ⟨L3.toArray⟩)) (some 3) rfl rfl (by kernel_rfl) (by kernel_rfl) (by kernel_rfl) (fun _ _ _ h => h) (fun _ _ _ _ _ _ => trivial) (fun _ _ _ => Iff.rfl) trivial (Or.inl ⟨by rfl, fun w' hw' => by go_simp⟩) hB ?_
                  simp only [Act.put, List.setIfInBounds_toArray, List.set_cons_zero, List.set_cons_succ]
                  refine wpAnyL_done (by decide +kernel) ?_ _
                  go_wp2
                  go_roundw
                  case rel => exact ⟨k + 1, i + 32, by go_num, by show _ = _; have := HI.out; omega, by omega, by omega, by rw [HL3.out], by have := HI.out; omega, bt hb3 hB⟩
                  case measure => simp [intOf]; omega
                · skip
                  refine wpOp_go (o := _) rfl (fun K hK => ?_)
                  go_simp
                  have hcb := newc wx 5 (.int .u8 (m : Int))
                  replace hB := hB.alloc hB.size (.cells #[.int .u8 (m : Int)] 5)
                  refine hK _ _ ⟨hB, ?_⟩
                  clear hK K
                  generalize wx.alloc (.cells #[.int .u8 (m : Int)] 5) = wx at *
                  refine wpAnyL_lst (rs := [3, 7]) (by decide +kernel) ⟨List.cons_ne_nil _ _, ?_⟩
                  refine List.forall_mem_cons.2 ⟨?_, List.forall_mem_cons.2 ⟨?_, (fun _ h => absurd h List.not_mem_nil)⟩⟩
                  · skip
                    refine wpOp_go (o := _) rfl (fun K hK => ?_)
                    go_simp
                    go_at_call 25
                    refine (rput_any zm _ hUz).mono ?_; rintro e wx ⟨rfl, hbx⟩
                    try replace hcb := keepc hcb hbx
                    replace hB := bt hB hbx
                    refine hK _ _ ⟨hB, ?_⟩
                    clear hK K hbx
                    refine wpAnyL_one (i := 7) (by decide +kernel) ?_
                    have hcv := byte_str_at Try.bytes Try.underlying5 Try.underlying9 m (by omega) _ _ hcb.1
                    refine wpOp_go (o := _) rfl (fun K hK => ?_)
                    go_simp
                    refine hK _ _ ⟨hB, ?_⟩
                    clear hK K hcv
                    refine wpAnyL_takeD (fun _ => True) (i := 8) (v := (.string ⟨L1.toArray⟩)) (some 107) rfl rfl (by kernel_rfl) (by kernel_rfl) (by kernel_rfl) (fun _ _ _ h => h) (fun _ _ _ _ _ _ => trivial) (fun _ _ _ => Iff.rfl) trivial (Or.inl ⟨by rfl, fun w' hw' => by go_simp⟩) hB ?_
                    simp only [Act.put, List.setIfInBounds_toArray, List.set_cons_zero, List.set_cons_succ]
                    refine wpAnyL_takeD (fun _ => True) (i := 10) (v := (.string ⟨L2.toArray⟩)) (some 109) rfl rfl (by kernel_rfl) (by kernel_rfl) (by kernel_rfl) (fun _ _ _ h => h) (fun _ _ _ _ _ _ => trivial) (fun _ _ _ => Iff.rfl) trivial (Or.inl ⟨by rfl, fun w' hw' => by go_simp⟩) hB ?_
                    simp only [Act.put, List.setIfInBounds_toArray, List.set_cons_zero, List.set_cons_succ]
                    refine wpAnyL_takeD (fun _ => True) (i := 11) (v := (.string ⟨L3.toArray⟩)) (some 110) rfl rfl (by kernel_rfl) (by kernel_rfl) (by kernel_rfl) (fun _ _ _ h => h) (fun _ _ _ _ _ _ => trivial) (fun _ _ _ => Iff.rfl) trivial (Or.inl ⟨by rfl, fun w' hw' => by go_simp⟩) hB ?_
                    simp only [Act.put, List.setIfInBounds_toArray, List.set_cons_zero, List.set_cons_succ]
                    refine wpAnyL_takeD (fun _ => True) (i := 12) (v := (.string ⟨L3.toArray⟩)) (some 3) rfl rfl (by kernel_rfl) (by kernel_rfl) (by kernel_rfl) (fun _ _ _ h => h) (fun _ _ _ _ _ _ => trivial) (fun _ _ _ => Iff.rfl) trivial (Or.inl ⟨by rfl, fun w' hw' => by go_simp⟩) hB ?_
                    simp only [Act.put, List.setIfInBounds_toArray, List.set_cons_zero, List.set_cons_succ]
                    refine wpAnyL_done (by decide +kernel) ?_ _
                    go_wp2
                    go_roundw
                    case rel => exact ⟨k + 1, i + 32, by go_num, by show _ = _; have := HI.out; omega, by omega, by omega, by rw [HL3.out], by have := HI.out; omega, bt hb3 hB⟩
                    case measure => simp [intOf]; omega
                  · skip
                    have hcv := byte_str_at Try.bytes Try.underlying5 Try.underlying9 m (by omega) _ _ hcb.1
                    refine wpOp_go (o := _) rfl (fun K hK => ?_)
                    go_simp
                    refine hK _ _ ⟨hB, ?_⟩
                    clear hK K hcv
                    refine wpAnyL_one (i := 3) (by decide +kernel) ?_
                    refine wpOp_go (o := _) rfl (fun K hK => ?_)
                    go_simp
                    go_at_call 25
                    refine (rput_any zm _ hUz).mono ?_; rintro e wx ⟨rfl, hbx⟩
                    try replace hcb := keepc hcb hbx
                    replace hB := bt hB hbx
                    refine hK _ _ ⟨hB, ?_⟩
                    clear hK K hbx
                    refine wpAnyL_takeD (fun _ => True) (i := 8) (v := (.string ⟨L1.toArray⟩)) (some 107) rfl rfl (by kernel_rfl) (by kernel_rfl) (by kernel_rfl) (fun _ _ _ h => h) (fun _ _ _ _ _ _ => trivial) (fun _ _ _ => Iff.rfl) trivial (Or.inl ⟨by rfl, fun w' hw' => by go_simp⟩) hB ?_
                    simp only [Act.put, List.setIfInBounds_toArray, List.set_cons_zero, List.set_cons_succ]
                    refine wpAnyL_takeD (fun _ => True) (i := 10) (v := (.string ⟨L2.toArray⟩)) (some 109) rfl rfl (by kernel_rfl) (by kernel_rfl) (by kernel_rfl) (fun _ _ _ h => h) (fun _ _ _ _ _ _ => trivial) (fun _ _ _ => Iff.rfl) trivial (Or.inl ⟨by rfl, fun w' hw' => by go_simp⟩) hB ?_
                    simp only [Act.put, List.setIfInBounds_toArray, List.set_cons_zero, List.set_cons_succ]
                    refine wpAnyL_takeD (fun _ => True) (i := 11) (v := (.string ⟨L3.toArray⟩)) (some 110) rfl rfl (by kernel_rfl) (by kernel_rfl) (by kernel_rfl) (fun _ _ _ h => h) (fun _ _ _ _ _ _ => trivial) (fun _ _ _ => Iff.rfl) trivial (Or.inl ⟨by rfl, fun w' hw' => by go_simp⟩) hB ?_
                    simp only [Act.put, List.setIfInBounds_toArray, List.set_cons_zero, List.set_cons_succ]
                    refine wpAnyL_takeD (fun _ => True) (i := 12) (v := (.string ⟨L3.toArray⟩)) (some 3) rfl rfl (by kernel_rfl) (by kernel_rfl) (by kernel_rfl) (fun _ _ _ h => h) (fun _ _ _ _ _ _ => trivial) (fun _ _ _ => Iff.rfl) trivial (Or.inl ⟨by rfl, fun w' hw' => by go_simp⟩) hB ?_
                    simp only [Act.put, List.setIfInBounds_toArray, List.set_cons_zero, List.set_cons_succ]
                    refine wpAnyL_done (by decide +kernel) ?_ _
                    go_wp2
                    go_roundw
                    case rel => exact ⟨k + 1, i + 32, by go_num, by show _ = _; have := HI.out; omega, by omega, by omega, by rw [HL3.out], by have := HI.out; omega, bt hb3 hB⟩
                    case measure => simp [intOf]; omega
              · skip
                refine wpOp_go (o := _) rfl (fun K hK => ?_)
                go_simp
                have hcb := newc wx 5 (.int .u8 (m : Int))
                replace hB := hB.alloc hB.size (.cells #[.int .u8 (m : Int)] 5)
                refine hK _ _ ⟨hB, ?_⟩
                clear hK K
                generalize wx.alloc (.cells #[.int .u8 (m : Int)] 5) = wx at *
                refine wpAnyL_lst (rs := [2, 7]) (by decide +kernel) ⟨List.cons_ne_nil _ _, ?_⟩
                refine List.forall_mem_cons.2 ⟨?_, List.forall_mem_cons.2 ⟨?_, (fun _ h => absurd h List.not_mem_nil)⟩⟩
                · skip
                  refine wpOp_go (o := _) rfl (fun K hK => ?_)
                  go_simp
                  go_at_call 26
                  refine (HZM.out _).mono ?_; rintro e wx ⟨rfl, rfl⟩
                  refine hK _ _ ⟨hB, ?_⟩
                  clear hK K
                  refine wpAnyL_lst (rs := [3, 7]) (by decide +kernel) ⟨List.cons_ne_nil _ _, ?_⟩
                  refine List.forall_mem_cons.2 ⟨?_, List.forall_mem_cons.2 ⟨?_, (fun _ h => absurd h List.not_mem_nil)⟩⟩
                  · skip
                    refine wpOp_go (o := _) rfl (fun K hK => ?_)
                    go_simp
                    go_at_call 25
                    refine (rput_any zm _ hUz).mono ?_; rintro e wx ⟨rfl, hbx⟩
                    try replace hcb := keepc hcb hbx
                    replace hB := bt hB hbx
                    refine hK _ _ ⟨hB, ?_⟩
                    clear hK K hbx
                    refine wpAnyL_one (i := 7) (by decide +kernel) ?_
                    have hcv := byte_str_at Try.bytes Try.underlying5 Try.underlying9 m (by omega) _ _ hcb.1
                    refine wpOp_go (o := _) rfl (fun K hK => ?_)
                    go_simp
                    refine hK _ _ ⟨hB, ?_⟩
                    clear hK K hcv
                    refine wpAnyL_takeD (fun _ => True) (i := 8) (v := (.string ⟨L1.toArray⟩)) (some 107) rfl rfl (by kernel_rfl) (by kernel_rfl) (by kernel_rfl) (fun _ _ _ h => h) (fun _ _ _ _ _ _ => trivial) (fun _ _ _ => Iff.rfl) trivial (Or.inl ⟨by rfl, fun w' hw' => by go_simp⟩) hB ?_
                    simp only [Act.put, List.setIfInBounds_toArray, List.set_cons_zero, List.set_cons_succ]
                    refine wpAnyL_takeD (fun _ => True) (i := 10) (v := (.string ⟨L2.toArray⟩)) (some 109) rfl rfl (by kernel_rfl) (by kernel_rfl) (by kernel_rfl) (fun _ _ _ h => h) (fun _ _ _ _ _ _ => trivial) (fun _ _ _ => Iff.rfl) trivial (Or.inl ⟨by rfl, fun w' hw' => by go_simp⟩) hB ?_
                    simp only [Act.put, List.setIfInBounds_toArray, List.set_cons_zero, List.set_cons_succ]
                    refine wpAnyL_takeD (fun _ => True) (i := 11) (v := (.string ⟨L3.toArray⟩)) (some 110) rfl rfl (by kernel_rfl) (by kernel_rfl) (by kernel_rfl) (fun _ _ _ h => h) (fun _ _ _ _ _ _ => trivial) (fun _ _ _ => Iff.rfl) trivial (Or.inl ⟨by rfl, fun w' hw' => by go_simp⟩) hB ?_
                    simp only [Act.put, List.setIfInBounds_toArray, List.set_cons_zero, List.set_cons_succ]
                    refine wpAnyL_takeD (fun _ => True) (i := 12) (v := (.string ⟨L3.toArray⟩)) (some 3) rfl rfl (by kernel_rfl) (by kernel_rfl) (by kernel_rfl) (fun _ _ _ h => h) (fun _ _ _ _ _ _ => trivial) (fun _ _ _ => Iff.rfl) trivial (Or.inl ⟨by rfl, fun w' hw' => by go_simp⟩) hB ?_
                    simp only [Act.put, List.setIfInBounds_toArray, List.set_cons_zero, List.set_cons_succ]
                    refine wpAnyL_done (by decide +kernel) ?_ _
                    go_wp2
                    go_roundw
                    case rel => exact ⟨k + 1, i + 32, by go_num, by show _ = _; have := HI.out; omega, by omega, by omega, by rw [HL3.out], by have := HI.out; omega, bt hb3 hB⟩
                    case measure => simp [intOf]; omega
                  · skip
                    have hcv := byte_str_at Try.bytes Try.underlying5 Try.underlying9 m (by omega) _ _ hcb.1
                    refine wpOp_go (o := _) rfl (fun K hK => ?_)
                    go_simp
                    refine hK _ _ ⟨hB, ?_⟩
                    clear hK K hcv
                    refine wpAnyL_one (i := 3) (by decide +kernel) ?_
                    refine wpOp_go (o := _) rfl (fun K hK => ?_)
                    go_simp
                    go_at_call 25
                    refine (rput_any zm _ hUz).mono ?_; rintro e wx ⟨rfl, hbx⟩
                    try replace hcb := keepc hcb hbx
                    replace hB := bt hB hbx
                    refine hK _ _ ⟨hB, ?_⟩
                    clear hK K hbx
                    refine wpAnyL_takeD (fun _ => True) (i := 8) (v := (.string ⟨L1.toArray⟩)) (some 107) rfl rfl (by kernel_rfl) (by kernel_rfl) (by kernel_rfl) (fun _ _ _ h => h) (fun _ _ _ _ _ _ => trivial) (fun _ _ _ => Iff.rfl) trivial (Or.inl ⟨by rfl, fun w' hw' => by go_simp⟩) hB ?_
                    simp only [Act.put, List.setIfInBounds_toArray, List.set_cons_zero, List.set_cons_succ]
                    refine wpAnyL_takeD (fun _ => True) (i := 10) (v := (.string ⟨L2.toArray⟩)) (some 109) rfl rfl (by kernel_rfl) (by kernel_rfl) (by kernel_rfl) (fun _ _ _ h => h) (fun _ _ _ _ _ _ => trivial) (fun _ _ _ => Iff.rfl) trivial (Or.inl ⟨by rfl, fun w' hw' => by go_simp⟩) hB ?_
                    simp only [Act.put, List.setIfInBounds_toArray, List.set_cons_zero, List.set_cons_succ]
                    refine wpAnyL_takeD (fun _ => True) (i := 11) (v := (.string ⟨L3.toArray⟩)) (some 110) rfl rfl (by kernel_rfl) (by kernel_rfl) (by kernel_rfl) (fun _ _ _ h => h) (fun _ _ _ _ _ _ => trivial) (fun _ _ _ => Iff.rfl) trivial (Or.inl ⟨by rfl, fun w' hw' => by go_simp⟩) hB ?_
                    simp only [Act.put, List.setIfInBounds_toArray, List.set_cons_zero, List.set_cons_succ]
                    refine wpAnyL_takeD (fun _ => True) (i := 12) (v := (.string ⟨L3.toArray⟩)) (some 3) rfl rfl (by kernel_rfl) (by kernel_rfl) (by kernel_rfl) (fun _ _ _ h => h) (fun _ _ _ _ _ _ => trivial) (fun _ _ _ => Iff.rfl) trivial (Or.inl ⟨by rfl, fun w' hw' => by go_simp⟩) hB ?_
                    simp only [Act.put, List.setIfInBounds_toArray, List.set_cons_zero, List.set_cons_succ]
                    refine wpAnyL_done (by decide +kernel) ?_ _
                    go_wp2
                    go_roundw
                    case rel => exact ⟨k + 1, i + 32, by go_num, by show _ = _; have := HI.out; omega, by omega, by omega, by rw [HL3.out], by have := HI.out; omega, bt hb3 hB⟩
                    case measure => simp [intOf]; omega
                · skip
                  have hcv := byte_str_at Try.bytes Try.underlying5 Try.underlying9 m (by omega) _ _ hcb.1
                  refine wpOp_go (o := _) rfl (fun K hK => ?_)
                  go_simp
                  refine hK _ _ ⟨hB, ?_⟩
                  clear hK K hcv
                  refine wpAnyL_one (i := 2) (by decide +kernel) ?_
                  refine wpOp_go (o := _) rfl (fun K hK => ?_)
                  go_simp
                  go_at_call 26
                  refine (HZM.out _).mono ?_; rintro e wx ⟨rfl, rfl⟩
                  refine hK _ _ ⟨hB, ?_⟩
                  clear hK K
                  refine wpAnyL_one (i := 3) (by decide +kernel) ?_
                  refine wpOp_go (o := _) rfl (fun K hK => ?_)
                  go_simp
                  go_at_call 25
                  refine (rput_any zm _ hUz).mono ?_; rintro e wx ⟨rfl, hbx⟩
                  try replace hcb := keepc hcb hbx
                  replace hB := bt hB hbx
                  refine hK _ _ ⟨hB, ?_⟩
                  clear hK K hbx
                  refine wpAnyL_takeD (fun _ => True) (i := 8) (v := (.string ⟨L1.toArray⟩)) (some 107) rfl rfl (by kernel_rfl) (by kernel_rfl) (by kernel_rfl) (fun _ _ _ h => h) (fun _ _ _ _ _ _ => trivial) (fun _ _ _ => Iff.rfl) trivial (Or.inl ⟨by rfl, fun w' hw' => by go_simp⟩) hB ?_
                  simp only [Act.put, List.setIfInBounds_toArray, List.set_cons_zero, List.set_cons_succ]
                  refine wpAnyL_takeD (fun _ => True) (i := 10) (v := (.string ⟨L2.toArray⟩)) (some 109) rfl rfl (by kernel_rfl) (by kernel_rfl) (by kernel_rfl) (fun _ _ _ h => h) (fun _ _ _ _ _ _ => trivial) (fun _ _ _ => Iff.rfl) trivial (Or.inl ⟨by rfl, fun w' hw' => by go_simp⟩) hB ?_
                  simp only [Act.put, List.setIfInBounds_toArray, List.set_cons_zero, List.set_cons_succ]
                  refine wpAnyL_takeD (fun _ => True) (i := 11) (v := (.string ⟨L3.toArray⟩)) (some 110) rfl rfl (by kernel_rfl) (by kernel_rfl) (by kernel_rfl) (fun _ _ _ h => h) (fun _ _ _ _ _ _ => trivial) (fun _ _ _ => Iff.rfl) trivial (Or.inl ⟨by rfl, fun w' hw' => by go_simp⟩) hB ?_
                  simp only [Act.put, List.setIfInBounds_toArray, List.set_cons_zero, List.set_cons_succ]
                  refine wpAnyL_takeD (fun _ => True) (i := 12) (v := (.string ⟨L3.toArray⟩)) (some 3) rfl rfl (by kernel_rfl) (by kernel_rfl) (by kernel_rfl) (fun _ _ _ h => h) (fun _ _ _ _ _ _ => trivial) (fun _ _ _ => Iff.rfl) trivial (Or.inl ⟨by rfl, fun w' hw' => by go_simp⟩) hB ?_
                  simp only [Act.put, List.setIfInBounds_toArray, List.set_cons_zero, List.set_cons_succ]
                  refine wpAnyL_done (by decide +kernel) ?_ _
                  go_wp2
                  go_roundw
                  case rel => exact ⟨k + 1, i + 32, by go_num, by show _ = _; have := HI.out; omega, by omega, by omega, by rw [HL3.out], by have := HI.out; omega, bt hb3 hB⟩
                  case measure => simp [intOf]; omega
    · go_wp2_with fail
      refine ⟨rfl, _, results_tmp rfl _ _ _, ?_, hB⟩
      have hdl : (diffs L).length = n - 1 := by rw [diffs_len, HN.out]
      have hk2 : k = (n - 1 + 31) / 32 := by have := HI.out; omega
      unfold encD
      rw [if_neg (by rintro (h | h); subst h; exact absurd HN.out (by simp; omega); rw [HN.out] at h; omega), hdl, ← hk2]
      rw [show L.getD 0 0 = x0 by simp [List.getD, HX.out], HZG.out]
      rfl

theorem rencode_any (A : Option Addr) (n c : Nat) (L : List Int) (w : World) (hr : Rd w w.heap.size A (L.map Iv)) (hn : L.length = n) (hz : ∀ z ∈ L, I64 z) :
    Calls Try.prog 12 #[.slice A n c] w fun e w' => e = .returned (Sv (encD L)) ∧ Below w.heap.size w w' := by
  by_cases h : n = 0 ∨ 4096 < n
  · have e : encD L = [] := by
      unfold encD
      rw [if_pos]
      rcases h with h | h
      · exact .inl (List.length_eq_zero_iff.1 (by omega))
      · exact .inr (by omega)
    rw [e]
    exact rencode_none A n c w h
  · exact rencode_in A n c L w hr hn (by omega) (by omega) hz

end Go.Proofs.Ytkdbbekoapcgdaa
