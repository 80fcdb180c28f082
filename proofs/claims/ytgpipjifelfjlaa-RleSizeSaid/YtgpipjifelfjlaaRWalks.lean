/-
  The functions of layer 9 and their references, each by one contract.
-/
import Derived.Test.YtgpipjifelfjlaaRMake
import Derived.Test.YtgpipjifelfjlaaRPlain
import Derived.Test.YtgpipjifelfjlaaVWalks2
namespace Go.Proofs.Ytgpipjifelfjlaa
open Go.RowKit

def lenOf : Value → Nat | .slice _ n _ => n | _ => 0

set_option maxRecDepth 100000 in
set_option maxHeartbeats 400000 in
theorem run_any (A : Option Addr) (n c : Nat) (x : Int) (l : List Int) (w : World) (hr : Rd w w.heap.size A ((x :: l).map Iv)) (hn : (x :: l).length = n) (hm : n ≤ 1000000000000000) :
    Calls Try.prog 20 #[.slice A n c] w fun e w' => e = .returned (.int .i64 (runN (x :: l))) ∧ ∃ k, w.drewN k = w' := by
  obtain ⟨ad, rfl, _, h0⟩ := hr.head
  have h0n : 0 < n := by rw [← hn]; simp
  have HN := Lib.hid hn
  clear hn
  go_enter Try.func20, Try.ntmps20
  go_wp2
  go_loopw [3] (fun a wr => ∃ k q : Nat, a = .int .i64 k ∧ 1 ≤ k ∧ k ≤ n ∧ wr = w.drewN q ∧ Hid (∀ j, j < k → (x :: l)[j]? = some x)) (fun a wr => n - (intOf a).toNat)
  case atStart => exact ⟨1, 0, rfl, by omega, by omega, rfl, fun j hj => by have : j = 0 := by omega
                                                                            subst this; rfl⟩
  case round =>
    obtain ⟨k, q, rfl, hk1, hk, rfl, hs⟩ := hrel
    by_cases hlt : k < n
    · obtain ⟨z, hz⟩ : ∃ z, (x :: l)[k]? = some z := ⟨_, List.getElem?_eq_getElem (by rw [HN.out]; exact hlt)⟩
      obtain ⟨ad', e, _, hc⟩ := hr.at_ (j := k) (u := Iv z) (by rw [List.getElem?_map, hz]; rfl)
      cases e
      have HZ := Lib.hid hz
      clear hz
      have hd : decide (k < n) = true := by simpa using hlt
      by_cases hzx : z = x
      · have hb : (z == x) = true := by simpa using hzx
        have HX := Lib.hid hzx
        clear hzx
        go_wp2
        go_quiet (fail)
        go_wp2
        go_roundw
        case rel =>
          refine ⟨k + 1, _, by go_num, by omega, by omega, rfl, fun j hj => ?_⟩
          by_cases hjk : j = k
          · rw [hjk, HZ.out, HX.out]
          · exact hs.out j (by omega)
        case measure => simp [intOf]; omega
      · have hb : (z == x) = false := by simpa using hzx
        go_wp2
        go_quiet (fail)
        go_wp2
        go_ret
        exact ⟨by rw [runN_eq hk1 hs.out (by rw [HZ.out]; simpa using hzx)]; rfl, _, (World.drewN_drewN _ _ _).symm⟩
    · have hd : decide (k < n) = false := by simpa using hlt
      go_wp2
      go_quiet (fail)
      go_wp2
      go_ret
      exact ⟨by rw [runN_eq hk1 hs.out (by rw [List.getElem?_eq_none (by rw [HN.out]; omega)]; simp)]; rfl, _, (World.drewN_drewN _ _ _).symm⟩

def EncInv (w : World) (L : List Int) (a b : Value) (wr : World) : Prop :=
  ∃ (A : Option Addr) (n c : Nat) (r : List Int) (out : List UInt8), a = .slice A n c ∧ Rd w w.heap.size A (r.map Iv) ∧ r.length = n ∧ n ≤ c ∧ (∀ z ∈ r, I64 z) ∧
    Own w wr 5 1 b out.length (out.map Bv) ∧ out ++ encR r = encR L ∧ n ≤ L.length

set_option maxRecDepth 100000 in
set_option maxHeartbeats 400000 in
theorem encode_any (A : Option Addr) (n c : Nat) (L : List Int) (w : World) (hr : Rd w w.heap.size A (L.map Iv)) (hn : L.length = n) (hnc : n ≤ c) (hm : n ≤ 17592186044416) (hz : ∀ z ∈ L, I64 z) :
    Calls Try.prog 10 #[.slice A n c] w fun e w' => e = .returned (Sv (encR L)) ∧ Below w.heap.size w w' := by
  have hst : EncInv w L (.slice A n c) (.slice none 0 0) w := ⟨A, n, c, L, [], rfl, hr, hn, hnc, hz, Own.nil _ _ _, rfl, by omega⟩
  have hlen := encR_len _ L (Nat.le_refl _) hz
  clear hr hz
  go_enter Try.func10, Try.ntmps10
  go_wp2
  go_loopw [0, 3] (fun a b wr => EncInv w L a b wr) (fun a _ _ => lenOf a)
  case atStart => exact hst
  case round =>
    clear hst
    obtain ⟨A, n, c, r, out, rfl, hr, hn, hnc, hz, ho, he, hnL⟩ := hrel
    cases r with
    | nil =>
      have hn0 : n = 0 := by simpa using hn.symm
      subst hn0
      have hcv := own_str ho Try.bytes Try.underlying5 Try.underlying9
      go_wp2
      go_ret
      exact ⟨by rw [← he, encR_nil]; simp, ho.2⟩
    | cons x r =>
      have hle := runN_le x r
      have hp := runN_pos (x :: r)
      have hlo := congrArg List.length he
      rw [encR_cons] at hlo
      have hU1 : U64 (runN (x :: r)) := by unfold U64; omega
      have hU2 := zigN_U64 (hz x (by simp))
      have l1 := putL_len hU1
      have l2 := putL_len hU2
      have hrun := run_any A n c x r wr (hr.call ho.2) hn (by omega)
      have HR := Lib.hid hrun
      obtain ⟨ad, rfl, hadb, hcell⟩ := hr.head
      have hpos : 0 < n := by rw [← hn]; simp
      have HN := Lib.hid hn
      have HE := Lib.hid he
      have HZ := Lib.hid hz
      have HL := Lib.hid hlo
      clear hrun hn he hz hlo
      have hn1 : (x :: r).length ≤ n := Nat.le_of_eq HN.out
      have hx64 := HZ.out x (by simp)
      generalize hk : runN (x :: r) = k at *
      have HK := Lib.hid hk
      clear hk
      have hL1 := HL.out
      simp only [List.length_append] at hL1
      have hf1 : out.length + (putL k).length + (out.length + (putL k).length) / 4 + 192 ≤ 281474976710656 := by omega
      have hf2 : out.length + (putL k).length + (putL (zigN x)).length + (out.length + (putL k).length + (putL (zigN x)).length) / 4 + 192 ≤ 281474976710656 := by omega
      have hkn : k ≤ n := by omega
      clear hL1 hn1 hle
      go_wp2_with fail
      refine HR.out.mono ?_; rintro e w1 ⟨rfl, q, rfl⟩
      have ho1 := ho.drewN q
      clear ho HR
      go_wp2_with fail
      refine (put_any k _ hU1).mono ?_; rintro e w2 ⟨rfl, hb2⟩
      have ho2 := ho1.call hb2
      clear ho1 hb2
      go_wp2_with (at_builtin; refine own_text ho2 Try.bytes Try.underlying9 (putL k) hf1 ?_ rfl _ _ rfl rfl rfl)
      intro v3 w3 ho3
      have hcell3 := (ho3.2.cell hadb).trans hcell
      clear ho2
      go_wp2_with fail
      refine (zig_any x _ hx64).mono ?_; rintro e w4 ⟨rfl, rfl⟩
      go_wp2_with fail
      refine (put_any _ _ hU2).mono ?_; rintro e w5 ⟨rfl, hb5⟩
      have ho5 := ho3.call hb5
      clear ho3 hb5
      go_wp2_with (at_builtin; refine own_text ho5 Try.bytes Try.underlying9 (putL (zigN x)) hf2 ?_ rfl _ _ rfl rfl rfl)
      intro v6 w6 ho6
      clear ho5
      go_wp2
      go_roundw
      case rel =>
        refine ⟨_, n - k, c - k, (x :: r).drop k, out ++ putL k ++ putL (zigN x), rfl, ?_, by rw [List.length_drop, HN.out], by omega, fun z h => HZ.out z (List.mem_of_mem_drop h), ?_, ?_, by omega⟩
        · have hc := hr.cut k k c 1 (by omega) (by rw [List.length_map, HN.out]; omega)
          rw [List.map_drop]
          exact hc
        · have e1 : (out ++ putL k ++ putL (zigN x)).length = out.length + (putL k).length + (putL (zigN x)).length := by simp [Nat.add_assoc]
          have e2 : (out ++ putL k ++ putL (zigN x)).map Bv = out.map Bv ++ ((putL k).map Bv ++ (putL (zigN x)).map Bv) := by simp
          rw [e1, e2]; exact ho6
        · rw [← HE.out, encR_cons, HK.out]; simp
      case measure => show n - k < n; omega

def RunsInvW (w : World) (L : List Int) (a b : Value) (wr : World) : Prop :=
  ∃ (A : Option Addr) (n c k q : Nat) (r : List Int), a = .slice A n c ∧ b = .int .i64 (k : Int) ∧ Rd w w.heap.size A (r.map Iv) ∧ r.length = n ∧ n ≤ c ∧ k + chgP none r = chgP none L ∧ n ≤ L.length ∧ w.drewN q = wr

set_option maxRecDepth 100000 in
set_option maxHeartbeats 400000 in
theorem rruns_any (A : Option Addr) (n c : Nat) (L : List Int) (w : World) (hr : Rd w w.heap.size A (L.map Iv)) (hn : L.length = n) (hnc : n ≤ c) (hm : n ≤ 17592186044416) :
    Calls Try.prog 14 #[.slice A n c] w fun e w' => e = .returned (.int .i64 (chgP none L)) ∧ ∃ q, w.drewN q = w' := by
  have hst : RunsInvW w L (.slice A n c) (.int .i64 0) w := ⟨A, n, c, 0, 0, L, rfl, rfl, hr, hn, hnc, by omega, by omega, rfl⟩
  have hlen := chgP_le none L
  clear hr
  go_enter Try.func14, Try.ntmps14
  go_wp2
  go_loopw [0, 3] (fun a b wr => RunsInvW w L a b wr) (fun a _ _ => lenOf a)
  case atStart => exact hst
  case round =>
    clear hst
    obtain ⟨A, n, c, k, q, r, rfl, rfl, hr, hn, hnc, he, hnL, rfl⟩ := hrel
    cases r with
    | nil =>
      have hn0 : n = 0 := by simpa using hn.symm
      subst hn0
      go_wp2
      go_ret
      exact ⟨ret_int (by rw [← he]; simp [chgP]), q, rfl⟩
    | cons x r =>
      have hle := runN_le x r
      have hp := runN_pos (x :: r)
      have hrun := run_any A n c x r (w.drewN q) hr hn (by omega)
      have HR := Lib.hid hrun
      have hpos : 0 < n := by rw [← hn]; simp
      have hkn : runN (x :: r) ≤ n := by omega
      rw [chgP_cons] at he
      have hk2 : k + 1 ≤ L.length := by omega
      have HN := Lib.hid hn
      have HE := Lib.hid he
      clear hrun hn he hle
      generalize hj : runN (x :: r) = j at *
      have HJ := Lib.hid hj
      clear hj
      go_wp2_with fail
      refine HR.out.mono ?_; rintro e w1 ⟨rfl, q2, rfl⟩
      clear HR
      go_wp2
      go_roundw
      case rel =>
        refine ⟨_, n - j, c - j, k + 1, q + q2, (x :: r).drop j, rfl, by go_num, ?_, by rw [List.length_drop, HN.out], by omega, ?_, by omega, rfl⟩
        · have hc := hr.cut j j c 1 (by omega) (by rw [List.length_map, HN.out]; omega)
          rw [List.map_drop]
          exact hc
        · rw [← HE.out]; omega
      case measure => show n - j < n; omega

theorem rput_int (a : Int) (v : Nat) (ha : a = v) (w : World) (hv : U64 v) :
    Calls Try.prog 27 #[.int .u64 a] w fun e w' => e = .returned (Sv (putL v)) ∧ Below w.heap.size w w' := by
  rw [ha]; exact rput_any v w hv
set_option maxRecDepth 100000 in
set_option maxHeartbeats 1000000 in
theorem rencode_any (A : Option Addr) (n c : Nat) (L : List Int) (w : World) (hr : Rd w w.heap.size A (L.map Iv)) (hn : L.length = n) (hm : n ≤ 17592186044416) (hz : ∀ z ∈ L, I64 z) :
    Calls Try.prog 13 #[.slice A n c] w fun e w' => e = .returned (Sv (encR L)) ∧ Below w.heap.size w w' := by
  have HZ := Lib.hid hz
  have hlen := encR_len _ L (Nat.le_refl _) hz
  have HN := Lib.hid hn
  rw [hn] at hlen
  clear hz hn
  go_enter Try.func13, Try.ntmps13
  go_wp2
  go_loopw [3, 4] (fun s k wr => ∃ (i : Nat) (out : List UInt8), s = Sv out ∧ k = .int .i64 (i : Int) ∧ i ≤ n ∧ Hid (out ++ encR (L.drop i) = encR L) ∧ Below w.heap.size w wr) (fun _ k _ => n - (intOf k).toNat)
  case atStart => exact ⟨0, [], rfl, rfl, by omega, by show _ = _; simp, Below.refl _ _⟩
  case round =>
    obtain ⟨i, out, rfl, rfl, hi, he, hb⟩ := hrel
    by_cases hin : i < n
    · obtain ⟨x, r, hxr⟩ : ∃ x r, L.drop i = x :: r := by
        cases h : L.drop i with
        | nil => have := List.drop_eq_nil_iff.1 h; rw [HN.out] at this; omega
        | cons x r => exact ⟨x, r, rfl⟩
      have hcellw : ∀ (k : Nat) (z : Int), L[k]? = some z → ∃ ad, A = some ad ∧ ad.block < w.heap.size ∧ w.cell? (ad.add k) = some (Iv z) := fun k z hk =>
        hr.at_ (j := k) (u := Iv z) (by rw [List.getElem?_map, hk]; rfl)
      have hLi : L[i]? = some x := by have := congrArg (fun t : List Int => t[0]?) hxr; simpa using this
      have HC := Lib.hid hcellw
      obtain ⟨ad, rfl, hadb, hx0⟩ := hcellw i x hLi
      have hx1 : wr.cell? (ad.add i) = some (Iv x) := (hb.cell (by rw [block_of_add]; exact hadb)).trans hx0
      have HX := Lib.hid hxr
      have hx64 : I64 x := HZ.out x (List.mem_of_getElem? hLi)
      clear hcellw hx0 hxr hLi
      obtain ⟨wo, rfl⟩ : ∃ wo : World, wo = wr := ⟨_, rfl⟩
      go_wp2
      go_loopw [5] (fun a wx => ∃ k q : Nat, a = .int .i64 (k : Int) ∧ i ≤ k ∧ k ≤ n ∧ wx = wo.drewN q ∧ Hid (∀ t, t < k - i → (x :: r)[t]? = some x)) (fun k _ => n - (intOf k).toNat)
      case atStart => exact ⟨i, 0, rfl, by omega, hi, rfl, fun t ht => by omega⟩
      case round =>
        obtain ⟨k, q, rfl, hik, hkn, rfl, hs⟩ := hrel
        by_cases hlt : k < n
        · obtain ⟨z, hz⟩ : ∃ z, L[k]? = some z := ⟨_, List.getElem?_eq_getElem (by rw [HN.out]; exact hlt)⟩
          obtain ⟨ad', e, _, hc⟩ := HC.out k z hz
          cases e
          have hc1 : wo.cell? (ad.add k) = some (Iv z) := (hb.cell (by rw [block_of_add]; exact hadb)).trans hc
          have hz2 : (x :: r)[k - i]? = some z := by rw [← HX.out, List.getElem?_drop, show i + (k - i) = k by omega]; exact hz
          have HZ1 := Lib.hid hz2
          clear hz hc hz2
          have hd : decide (k < n) = true := by simpa using hlt
          by_cases hzx : z = x
          · have hbz : (z == x) = true := by simpa using hzx
            have HZX := Lib.hid hzx
            clear hzx
            go_wp2
            go_quiet (fail)
            go_wp2
            go_roundw
            case rel =>
              refine ⟨k + 1, _, by go_num, by omega, by omega, rfl, fun t ht => ?_⟩
              by_cases htj : t = k - i
              · rw [htj, HZ1.out, HZX.out]
              · exact hs.out t (by omega)
            case measure => simp [intOf]; omega
          · have hbz : (z == x) = false := by simpa using hzx
            have hne : k ≠ i := by
              rintro rfl
              have := HZ1.out
              rw [Nat.sub_self] at this
              simp at this
              exact hzx this.symm
            have hrun : runN (x :: r) = k - i := runN_eq (by omega) hs.out (by rw [HZ1.out]; simpa using hzx)
            have hpos : 1 ≤ k - i := by omega
            have HRun := Lib.hid hrun
            have hU1 : U64 (k - i) := by unfold U64; omega
            have hU2 := zigN_U64 hx64
            have l1 := putL_len hU1
            have l2 := putL_len hU2
            have hout : out.length ≤ 200000000000000 := by have := congrArg List.length he.out; rw [List.length_append] at this; omega
            have sa1 := sadd (P := Try.prog) (a := putL (k - i)) (b := putL (zigN x)) (by omega)
            have sa2 := sadd (P := Try.prog) (a := out) (b := putL (k - i) ++ putL (zigN x)) (by rw [List.length_append]; omega)
            have hadb2 : (ad.add i).block < wo.heap.size := by rw [block_of_add]; have := hb.size; omega
            have HW : Hid (IntKind.u64.wrap (IntKind.i64.wrap ((k : Int) - (i : Int))) = ((k - i : Nat) : Int)) := by
              show _ = _
              rw [IntWalk.i64_in _ (by omega), IntWalk.u64_in _ (by omega)]; omega
            clear hrun
            go_wp2
            go_quiet (fail)
            go_wp2
            go_region_held3 (fun w' => w'.cell? (ad.add i) = some (Iv x) ∧ Below wo.heap.size wo w') (first | assumption | exact ⟨hx1, ⟨rfl, rfl, rfl, Nat.le_refl _, fun _ _ => rfl⟩⟩ | exact keep1 hx1 hadb2 hbA ⟨rfl, rfl, rfl, Nat.le_refl _, fun _ _ => rfl⟩ | exact keep1 hx1 hadb2 hbA (‹_ ∧ Below wo.heap.size wo _›).2 | exact keep1 hx1 hadb2 hbA (below_drewN (‹_ ∧ Below wo.heap.size wo _›).2 _) | exact keep1 hx1 hadb2 hbA (‹_ ∧ Below wo.heap.size wo _›).2.drew | (trace_state; fail)) (first | (go_at_call 28; refine (rzig_any x _ hx64).mono ?_; rintro e w4 ⟨rfl, rfl⟩) | (go_at_call 27; with_reducible refine (rput_any (zigN x) _ hU2).mono ?_; rintro e w4 ⟨rfl, hbA⟩) | (go_at_call 27; refine (rput_int _ (k - i) HW.out _ hU1).mono ?_; rintro e w4 ⟨rfl, hbA⟩))
            go_wp2
            go_roundw
            case rel =>
              refine ⟨k, out ++ (putL (k - i) ++ putL (zigN x)), rfl, rfl, hkn, ?_, bt hb (‹_ ∧ Below wo.heap.size wo _›).2⟩
              show _ = _
              rw [← he.out, HX.out, encR_cons, HRun.out, ← HX.out, List.drop_drop, show i + (k - i) = k by omega]
              simp
            case measure => simp [intOf]; omega
        · have hkn' : k = n := by omega
          have hd : decide (k < n) = false := by simpa using hlt
          have hrun : runN (x :: r) = k - i := runN_eq (by omega) hs.out (by rw [← HX.out, List.getElem?_drop, List.getElem?_eq_none (by rw [HN.out]; omega)]; simp)
          have hne : k ≠ i := by omega
          clear hkn'
          have hpos : 1 ≤ k - i := by omega
          have HRun := Lib.hid hrun
          have hU1 : U64 (k - i) := by unfold U64; omega
          have hU2 := zigN_U64 hx64
          have l1 := putL_len hU1
          have l2 := putL_len hU2
          have hout : out.length ≤ 200000000000000 := by have := congrArg List.length he.out; rw [List.length_append] at this; omega
          have sa1 := sadd (P := Try.prog) (a := putL (k - i)) (b := putL (zigN x)) (by omega)
          have sa2 := sadd (P := Try.prog) (a := out) (b := putL (k - i) ++ putL (zigN x)) (by rw [List.length_append]; omega)
          have hadb2 : (ad.add i).block < wo.heap.size := by rw [block_of_add]; have := hb.size; omega
          have HW : Hid (IntKind.u64.wrap (IntKind.i64.wrap ((k : Int) - (i : Int))) = ((k - i : Nat) : Int)) := by
            show _ = _
            rw [IntWalk.i64_in _ (by omega), IntWalk.u64_in _ (by omega)]; omega
          clear hrun
          go_wp2
          go_quiet (fail)
          go_wp2
          go_region_held3 (fun w' => w'.cell? (ad.add i) = some (Iv x) ∧ Below wo.heap.size wo w') (first | assumption | exact ⟨hx1, ⟨rfl, rfl, rfl, Nat.le_refl _, fun _ _ => rfl⟩⟩ | exact keep1 hx1 hadb2 hbA ⟨rfl, rfl, rfl, Nat.le_refl _, fun _ _ => rfl⟩ | exact keep1 hx1 hadb2 hbA (‹_ ∧ Below wo.heap.size wo _›).2 | exact keep1 hx1 hadb2 hbA (below_drewN (‹_ ∧ Below wo.heap.size wo _›).2 _) | exact keep1 hx1 hadb2 hbA (‹_ ∧ Below wo.heap.size wo _›).2.drew | (trace_state; fail)) (first | (go_at_call 28; refine (rzig_any x _ hx64).mono ?_; rintro e w4 ⟨rfl, rfl⟩) | (go_at_call 27; with_reducible refine (rput_any (zigN x) _ hU2).mono ?_; rintro e w4 ⟨rfl, hbA⟩) | (go_at_call 27; refine (rput_int _ (k - i) HW.out _ hU1).mono ?_; rintro e w4 ⟨rfl, hbA⟩))
          go_wp2
          go_roundw
          case rel =>
            refine ⟨k, out ++ (putL (k - i) ++ putL (zigN x)), rfl, rfl, hkn, ?_, bt hb (‹_ ∧ Below wo.heap.size wo _›).2⟩
            show _ = _
            rw [← he.out, HX.out, encR_cons, HRun.out, ← HX.out, List.drop_drop, show i + (k - i) = k by omega]
            simp
          case measure => simp [intOf]; omega
    · have hn0 : L.drop i = [] := List.drop_eq_nil_iff.2 (by rw [HN.out]; omega)
      have HN0 := Lib.hid hn0
      clear hn0
      go_wp2
      go_ret
      exact ⟨by rw [← he.out, HN0.out, encR_nil, List.append_nil]; rfl, hb⟩

end Go.Proofs.Ytgpipjifelfjlaa
