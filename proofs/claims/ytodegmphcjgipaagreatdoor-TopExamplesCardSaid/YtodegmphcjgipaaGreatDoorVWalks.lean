/-
  The functions of layer 1 and their references, each by one contract.
-/
import Derived.Test.YtodegmphcjgipaaGreatDoorVPlain
namespace Go.Proofs.YtodegmphcjgipaaGreatDoor
open Go.RowKit

theorem Tryz.infoU8 : (Tryz.prog.info? 5).map (fun i => (i.zero, i.size, i.bytes)) = some (some (.int .u8 0), 1, 1) := by kernel_rfl
theorem Tryz.bytes : SlTy Tryz.prog 127 5 (.int .u8 0) 1 1 := ⟨Tryz.underlying127, info_parts Tryz.infoU8⟩

set_option maxRecDepth 100000 in
set_option maxHeartbeats 400000 in
/-- varint.Put returns the encoding of its number. -/
theorem put_any (v : Nat) (w : World) (hv : U64 v) :
    Calls Tryz.prog 78 #[.int .u64 v] w fun e w' => e = .returned (Sv (putL v)) ∧ Below w.heap.size w w' := by
  have hlen := putL_len hv
  go_enter Tryz.func78, Tryz.ntmps78
  go_wp2
  go_loopw [0, 3] (fun a b wr => ∃ x : Nat, ∃ l : List UInt8, a = .int .u64 x ∧ Lib.OwnBuf w.heap.size 5 b l.length (l.map Bv) w wr ∧ Hid (l ++ putL x = putL v) ∧ x ≤ v) (fun a b wr => (intOf a).toNat)
  case atStart => exact ⟨v, [], rfl, ⟨World.ownsRowF_nil _ _ _ _, Below.refl _ _, Nat.le_refl _⟩, rfl, by omega⟩
  case round =>
    obtain ⟨x, l, rfl, hown, hs, hx⟩ := hrel
    have hl : l.length ≤ 10 := by have := congrArg List.length hs.out; simp at this; omega
    by_cases hlt : x < 128
    · go_wp2_with (at_builtin; refine app_byte hown Tryz.bytes (by omega) ?_ rfl _ _ rfl rfl rfl)
      intro v' w1 hown1
      rw [snoc_byte l x (by omega)] at hown1
      have hcv := buf_str hown1 Tryz.bytes Tryz.underlying5 Tryz.underlying9
      have hb1 := hown1.2.1
      clear hown1
      go_wp2
      go_ret
      exact ⟨by rw [← hs.out, putL_lt hlt]; rfl, hb1⟩
    · go_wp2_with (at_builtin; refine app_byte hown Tryz.bytes (by omega) ?_ rfl _ _ rfl rfl rfl)
      intro v' w1 hown1
      rw [or128, snoc_byte l _ (by omega)] at hown1
      go_wp2
      go_roundw
      case rel => exact ⟨x / 128, l ++ [UInt8.ofNat (x % 128 + 128)], by simp, by simpa using hown1, by show _ = _; rw [← hs.out, putL_ge hlt]; simp, by omega⟩
      case measure => simp [intOf]; omega


set_option maxRecDepth 100000 in
set_option maxHeartbeats 1000000 in
theorem get_in (s : ByteArray) (at_ : Nat) (w : World) (hsz : s.size ≤ 1000000000000000) (ha : at_ ≤ s.size) :
    Calls Tryz.prog 180 #[.string s, .int .i64 at_] w fun e w' => e = .returned (getV (getL s.data.toList at_)) ∧ w = w' := by
  have HL := Lib.hid (getL_in (s := s.data.toList) (at_ := at_) (by simpa using ha))
  have hd0 : decide ((at_ : Int) < 0) = false := by simp
  have hd1 : decide (s.size < at_) = false := by simp; omega
  go_enter Tryz.func180, Tryz.ntmps180
  go_wp2
  go_loop [7, 18] (fun a b => ∃ v k : Nat, k ≤ 10 ∧ a = .int .u64 v ∧ b = .int .i64 k ∧ Hid (v < 128 ^ k) ∧ Hid (getGo s.data.toList at_ (10 - k) k v = getGo s.data.toList at_ 10 0 0)) (fun a b => 10 - (intOf b).toNat)
  case atStart => exact ⟨0, 0, by omega, rfl, rfl, by show _ < _; simp, rfl⟩
  case round =>
    obtain ⟨v, k, hk, rfl, rfl, hv, hs⟩ := hrel
    by_cases hk10 : k < 10
    · by_cases hin : k < s.size - at_
      · have HB : Hid (s.data.toList[at_ + k]? = some s[at_ + k]) := by
          show _ = _
          rw [Array.getElem?_toList, Array.getElem?_eq_getElem (by simpa using (show at_ + k < s.size by omega))]; rfl
        by_cases h9 : k = 9
        · have H9 := Lib.hid h9
          have hb9 : ((k : Int) == 9) = true := by simp; omega
          have hk9 : 9 ≤ k := by omega
          clear h9
          by_cases h1 : 1 < (s[at_ + k].toNat : Int)
          · go_wp2
            go_ret3
            exact ⟨by rw [HL.out, ← hs.out, getGo_over HB.out H9.out (by omega)]; rfl, rfl⟩
          · by_cases h0 : s[at_ + k].toNat = 0
            · have H0 := Lib.hid h0
              have hb0 : ((s[at_ + k].toNat : Int) == 0) = true := by simp; omega
              have hd : decide (0 < k) = true := by simp; omega
              clear h0
              go_wp2
              go_ret3
              exact ⟨by rw [HL.out, ← hs.out, getGo_form hk10 HB.out H0.out (by omega)]; rfl, rfl⟩
            · have hb0 : ((s[at_ + k].toNat : Int) == 0) = false := by simp; omega
              go_wp2
              go_ret3
              exact ⟨by rw [HL.out, ← hs.out, getGo_ok hk10 HB.out (by omega) (by omega) (by omega)]; exact ret_get (acc_get (by omega) (fun _ => by omega) hv.out) (by show _ = (at_ : Int) + k + 1; omega) rfl, rfl⟩
        · have hb9 : ((k : Int) == 9) = false := by simp; omega
          by_cases h1 : (s[at_ + k].toNat : Int) < 128
          · by_cases h0 : s[at_ + k].toNat = 0
            · have H0 := Lib.hid h0
              have hb0 : ((s[at_ + k].toNat : Int) == 0) = true := by simp; omega
              clear h0
              by_cases hp : 0 < k
              · have hd : decide (0 < k) = true := by simp; omega
                go_wp2
                go_ret3
                exact ⟨by rw [HL.out, ← hs.out, getGo_form hk10 HB.out H0.out (by omega)]; rfl, rfl⟩
              · have hd : decide (0 < k) = false := by simp; omega
                go_wp2
                go_ret3
                exact ⟨by rw [HL.out, ← hs.out, getGo_ok hk10 HB.out (by omega) (by omega) (by omega)]; exact ret_get (acc_get (by omega) (fun _ => by omega) hv.out) (by show _ = (at_ : Int) + k + 1; omega) rfl, rfl⟩
            · have hb0 : ((s[at_ + k].toNat : Int) == 0) = false := by simp; omega
              go_wp2
              go_ret3
              exact ⟨by rw [HL.out, ← hs.out, getGo_ok hk10 HB.out (by omega) (by omega) (by omega)]; exact ret_get (acc_get (by omega) (fun _ => by omega) hv.out) (by show _ = (at_ : Int) + k + 1; omega) rfl, rfl⟩
          · go_wp2
            go_round
            case rel => exact ⟨v + s[at_ + k].toNat % 128 * 128 ^ k, k + 1, by omega, int_eq (acc_get (by omega) (fun _ => by omega) hv.out), by go_num, acc_lt hv.out, by show _ = _; rw [← hs.out, getGo_more hk10 HB.out (by omega) (by omega)]⟩
            case measure => simp [intOf]; omega
      · have HB : Hid (s.data.toList[at_ + k]? = none) := by
          show _ = _
          rw [Array.getElem?_toList, Array.getElem?_eq_none (by simpa using (show s.size ≤ at_ + k by omega))]
        go_wp2
        go_ret3
        exact ⟨by rw [HL.out, ← hs.out, getGo_none hk10 HB.out]; rfl, rfl⟩
    · go_wp2
      go_ret3
      exact ⟨by rw [HL.out, ← hs.out, getGo_end hk10]; rfl, rfl⟩


set_option maxRecDepth 100000 in
theorem get_out (s : ByteArray) (at_ : Int) (w : World) (ha : at_ < 0 ∨ (s.size : Int) < at_) :
    Calls Tryz.prog 180 #[.string s, .int .i64 at_] w fun e w' => e = .returned (getV (getL s.data.toList at_)) ∧ w = w' := by
  have HL := Lib.hid (getL_out (s := s.data.toList) (at_ := at_) (by simpa using ha))
  by_cases h0 : at_ < 0
  · clear ha
    go_enter Tryz.func180, Tryz.ntmps180
    go_wp2
    go_ret3
    exact ⟨by rw [HL.out]; rfl, rfl⟩
  · have h1 : (s.size : Int) < at_ := by omega
    clear ha
    go_enter Tryz.func180, Tryz.ntmps180
    go_wp2
    go_ret3
    exact ⟨by rw [HL.out]; rfl, rfl⟩
/-- micropart/varint.Get returns what getL says. -/
theorem get_any (s : ByteArray) (at_ : Int) (w : World) (hsz : s.size ≤ 1000000000000000) :
    Calls Tryz.prog 180 #[.string s, .int .i64 at_] w fun e w' => e = .returned (getV (getL s.data.toList at_)) ∧ w = w' := by
  by_cases h : at_ < 0 ∨ (s.size : Int) < at_
  · exact get_out s at_ w h
  · obtain ⟨n, rfl⟩ := Int.eq_ofNat_of_zero_le (show 0 ≤ at_ by omega)
    exact get_in s n w hsz (by omega)

end Go.Proofs.YtodegmphcjgipaaGreatDoor
