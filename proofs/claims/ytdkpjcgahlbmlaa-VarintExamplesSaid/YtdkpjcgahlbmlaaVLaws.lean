/-
  The walks of the laws of layer 1: each law returns true, whatever its arguments, and writes nothing that was there.
-/
import Derived.Test.YtdkpjcgahlbmlaaVWalks2
namespace Go.Proofs.Ytdkpjcgahlbmlaa
open Go.RowKit

set_option maxRecDepth 100000 in
set_option maxHeartbeats 400000 in
theorem walk_VarintPuts (v s : Int) (w : World) (wv : (Lit.int .u64 v).wf = true) (ws : (Lit.int .u8 s).wf = true) :
    Calls Try.prog 4 #[.int .u64 v, .int .u8 s] w fun e w' => e = .returned (.bool true) ∧ Below w.heap.size w w' := by
  obtain ⟨v, rfl, hv⟩ := wf_u64 wv
  obtain ⟨s, rfl, hs⟩ := wf_u8 ws
  clear wv ws
  have e0 : (v : Int) / 2 ^ (s % 64) = ((v / 2 ^ (s % 64) : Nat) : Int) := by simp
  have hx : U64 (v / 2 ^ (s % 64)) := hv.le (Nat.div_le_self _ _)
  have E0 := Lib.hid e0
  clear e0
  go_enter Try.func4, Try.ntmps4
  go_wp2_with fail
  rw [E0.out]
  generalize v / 2 ^ (s % 64) = x at *
  have hlen := putL_len hx
  refine (awake1 _).mono ?_
  rintro e w1 ⟨rfl, hb1⟩
  go_wp2_with fail
  refine (put_any x _ hx).mono ?_
  rintro e w2 ⟨rfl, hb2⟩
  go_wp2_with fail
  refine (rput_any x _ hx).mono ?_
  rintro e w3 ⟨rfl, hb3⟩
  go_wp2_with fail
  refine (size_any x _ hx).mono ?_
  rintro e w4 ⟨rfl, rfl⟩
  go_wp2_with fail
  refine (rput_any x _ hx).mono ?_
  rintro e w5 ⟨rfl, hb5⟩
  go_wp2
  go_ret
  exact ⟨rfl, bt (bt (bt hb1 hb2) hb3) hb5⟩


set_option maxRecDepth 100000 in
set_option maxHeartbeats 400000 in
theorem walk_VarintZigZag (n v : Int) (w : World) (wn : (Lit.int .i64 n).wf = true) (wv : (Lit.int .u64 v).wf = true) :
    Calls Try.prog 3 #[.int .i64 n, .int .u64 v] w fun e w' => e = .returned (.bool true) ∧ Below w.heap.size w w' := by
  obtain ⟨v, rfl, hv⟩ := wf_u64 wv
  have hn := wf_i64 wn
  clear wv wn
  have Z1 := Lib.hid (zag_zig n)
  have Z2 := Lib.hid (zig_zag v)
  by_cases h : n < 0
  · have hb : ((zigN n : Int) % 2 == 1) = true := by have := (zig_odd n).2 h; simp; omega
    go_enter Try.func3, Try.ntmps3
    go_wp2_with fail
    refine (zig_any n _ hn).mono ?_; rintro e w0 ⟨rfl, rfl⟩
    go_wp2_with fail
    refine (awake1 _).mono ?_; rintro e w1 ⟨rfl, hb1⟩
    go_wp2_with fail
    refine (rzig_any n _ hn).mono ?_; rintro e w0 ⟨rfl, rfl⟩
    go_wp2_with fail
    refine (zag_any (zigN n) _ (zigN_U64 hn)).mono ?_; rw [Z1.out]; rintro e w0 ⟨rfl, rfl⟩
    go_wp2_with fail
    refine (zag_any v _ hv).mono ?_; rintro e w0 ⟨rfl, rfl⟩
    go_wp2_with fail
    refine (rzag_any v _ hv).mono ?_; rintro e w0 ⟨rfl, rfl⟩
    go_wp2_with fail
    refine (zag_any v _ hv).mono ?_; rintro e w0 ⟨rfl, rfl⟩
    go_wp2_with fail
    refine (zig_any (zagI v) _ (zagI_I64 hv)).mono ?_; rw [Z2.out]; rintro e w0 ⟨rfl, rfl⟩
    go_wp2
    go_ret
    exact ⟨rfl, hb1⟩
  · have hb : ((zigN n : Int) % 2 == 1) = false := by have := mt (zig_odd n).1 h; simp; omega
    have hd : decide (n < 0) = false := by simp; omega
    go_enter Try.func3, Try.ntmps3
    go_wp2_with fail
    refine (zig_any n _ hn).mono ?_; rintro e w0 ⟨rfl, rfl⟩
    go_wp2_with fail
    refine (awake1 _).mono ?_; rintro e w1 ⟨rfl, hb1⟩
    go_wp2_with fail
    refine (rzig_any n _ hn).mono ?_; rintro e w0 ⟨rfl, rfl⟩
    go_wp2_with fail
    refine (zag_any (zigN n) _ (zigN_U64 hn)).mono ?_; rw [Z1.out]; rintro e w0 ⟨rfl, rfl⟩
    go_wp2_with fail
    refine (zag_any v _ hv).mono ?_; rintro e w0 ⟨rfl, rfl⟩
    go_wp2_with fail
    refine (rzag_any v _ hv).mono ?_; rintro e w0 ⟨rfl, rfl⟩
    go_wp2_with fail
    refine (zag_any v _ hv).mono ?_; rintro e w0 ⟨rfl, rfl⟩
    go_wp2_with fail
    refine (zig_any (zagI v) _ (zagI_I64 hv)).mono ?_; rw [Z2.out]; rintro e w0 ⟨rfl, rfl⟩
    go_wp2
    go_ret
    exact ⟨rfl, hb1⟩

set_option maxRecDepth 100000 in
set_option maxHeartbeats 400000 in
theorem walk_VarintGets (s : ByteArray) (i : Int) (near : Bool) (w : World) (hs : s.size ≤ 140737488351232) (_wi : (Lit.int .i64 i).wf = true) :
    Calls Try.prog 6 #[.string s, .int .i64 i, .bool near] w fun e w' => e = .returned (.bool true) ∧ Below w.heap.size w w' := by
  clear _wi
  cases near
  · go_enter Try.func6, Try.ntmps6
    go_wp2_with fail
    refine (get_any s _ _ (by omega)).mono ?_; rintro e w0 ⟨rfl, rfl⟩
    go_wp2_with fail
    refine (rget_any s _ _ (by omega)).mono ?_; rintro e w0 ⟨rfl, rfl⟩
    go_wp2_with fail
    refine (awake1 _).mono ?_; rintro e w1 ⟨rfl, hb1⟩
    go_wp2
    go_ret
    exact ⟨rfl, hb1⟩
  · go_enter Try.func6, Try.ntmps6
    go_wp2_with fail
    refine (get_any s _ _ (by omega)).mono ?_; rintro e w0 ⟨rfl, rfl⟩
    go_wp2_with fail
    refine (rget_any s _ _ (by omega)).mono ?_; rintro e w0 ⟨rfl, rfl⟩
    go_wp2_with fail
    refine (awake1 _).mono ?_; rintro e w1 ⟨rfl, hb1⟩
    go_wp2
    go_ret
    exact ⟨rfl, hb1⟩

set_option maxRecDepth 100000 in
set_option maxHeartbeats 400000 in
theorem walk_VarintOrder (a b s : Int) (w : World) (wa : (Lit.int .u64 a).wf = true) (wb : (Lit.int .u64 b).wf = true) (ws : (Lit.int .u8 s).wf = true) :
    Calls Try.prog 5 #[.int .u64 a, .int .u64 b, .int .u8 s] w fun e w' => e = .returned (.bool true) ∧ Below w.heap.size w w' := by
  obtain ⟨a, rfl, ha⟩ := wf_u64 wa
  obtain ⟨b, rfl, hb⟩ := wf_u64 wb
  obtain ⟨s, rfl, hs⟩ := wf_u8 ws
  clear wa wb ws
  have e0 : (a : Int) / 2 ^ (s % 64) = ((a / 2 ^ (s % 64) : Nat) : Int) := by simp
  have hx : U64 (a / 2 ^ (s % 64)) := ha.le (Nat.div_le_self _ _)
  have E0 := Lib.hid e0
  clear e0
  go_enter Try.func5, Try.ntmps5
  go_wp2_with fail
  rw [E0.out]
  generalize a / 2 ^ (s % 64) = x at *
  have h1 := putL_len hx
  have h2 := putL_pos x
  refine (awake1 _).mono ?_; rintro e w1 ⟨rfl, hb1⟩
  by_cases hlt : b < x
  · go_wp2_with fail
    refine (size_any x _ hx).mono ?_; rintro e w0 ⟨rfl, rfl⟩
    go_wp2_with fail
    refine (size_any x _ hx).mono ?_; rintro e w0 ⟨rfl, rfl⟩
    go_wp2
    go_ret
    exact ⟨ret_bool (by simp; omega), hb1⟩
  · have h3 := putL_mono x b (by omega)
    go_wp2_with fail
    refine (size_any x _ hx).mono ?_; rintro e w0 ⟨rfl, rfl⟩
    go_wp2_with fail
    refine (size_any b _ hb).mono ?_; rintro e w0 ⟨rfl, rfl⟩
    go_wp2_with fail
    refine (size_any x _ hx).mono ?_; rintro e w0 ⟨rfl, rfl⟩
    go_wp2_with fail
    refine (size_any x _ hx).mono ?_; rintro e w0 ⟨rfl, rfl⟩
    go_wp2
    go_ret
    exact ⟨ret_bool (by simp; omega), hb1⟩

set_option maxRecDepth 100000 in
set_option maxHeartbeats 400000 in
theorem walk_VarintRoundTrip (v s : Int) (f g : ByteArray) (w : World) (wv : (Lit.int .u64 v).wf = true) (ws : (Lit.int .u8 s).wf = true) (hf : f.size ≤ 140737488351232) (hg : g.size ≤ 140737488351232) :
    Calls Try.prog 7 #[.int .u64 v, .int .u8 s, .string f, .string g] w fun e w' => e = .returned (.bool true) ∧ Below w.heap.size w w' := by
  obtain ⟨v, rfl, hv⟩ := wf_u64 wv
  obtain ⟨s, rfl, hs⟩ := wf_u8 ws
  clear wv ws
  have e0 : (v : Int) / 2 ^ (s % 64) = ((v / 2 ^ (s % 64) : Nat) : Int) := by simp
  have hx : U64 (v / 2 ^ (s % 64)) := hv.le (Nat.div_le_self _ _)
  have E0 := Lib.hid e0
  clear e0
  go_enter Try.func7, Try.ntmps7
  go_wp2_with fail
  rw [E0.out]
  generalize v / 2 ^ (s % 64) = x at *
  have h1 := putL_len hx
  have h2 := putL_pos x
  refine (put_any x _ hx).mono ?_; rintro e w1 ⟨rfl, hb1⟩
  go_wp2_with fail
  have hc := get_any (f ++ ⟨(putL x).toArray⟩ ++ g) f.size w1 (by simp [size_mk]; omega)
  have R := getL_put hx f.data.toList g.data.toList
  rw [size_list] at R
  rw [data_add, data_add, R] at hc
  have HC := Lib.hid hc
  clear hc R
  refine HC.out.mono ?_; rintro e w0 ⟨rfl, rfl⟩
  go_wp2_with fail
  refine (awake1 _).mono ?_; rintro e w2 ⟨rfl, hb2⟩
  go_wp2
  go_ret
  exact ⟨ret_bool (by first | rfl | simp), bt hb1 hb2⟩

set_option maxRecDepth 100000 in
set_option maxHeartbeats 400000 in
theorem walk_VarintPrefixes (v s c : Int) (w : World) (wv : (Lit.int .u64 v).wf = true) (ws : (Lit.int .u8 s).wf = true) (wc : (Lit.int .u8 c).wf = true) :
    Calls Try.prog 8 #[.int .u64 v, .int .u8 s, .int .u8 c] w fun e w' => e = .returned (.bool true) ∧ Below w.heap.size w w' := by
  obtain ⟨v, rfl, hv⟩ := wf_u64 wv
  obtain ⟨s, rfl, hs⟩ := wf_u8 ws
  obtain ⟨c, rfl, hc⟩ := wf_u8 wc
  clear wv ws wc
  have e0 : (v : Int) / 2 ^ (s % 64) = ((v / 2 ^ (s % 64) : Nat) : Int) := by simp
  have hx : U64 (v / 2 ^ (s % 64)) := hv.le (Nat.div_le_self _ _)
  have E0 := Lib.hid e0
  clear e0
  go_enter Try.func8, Try.ntmps8
  go_wp2_with fail
  rw [E0.out]
  generalize v / 2 ^ (s % 64) = x at *
  have h1 := putL_len hx
  have h2 := putL_pos x
  have h3 : ((putL x).length == 0) = false := by simp; intro h; rw [h] at h2; simp at h2
  have h4 : (((putL x).length : Int) == 0) = false := by simp; intro h; rw [h] at h2; simp at h2
  have m1 : 0 ≤ (c : Int) % ((putL x).length : Int) := Int.emod_nonneg _ (by omega)
  have m2 : (c : Int) % ((putL x).length : Int) < (putL x).length := Int.emod_lt_of_pos _ (by omega)
  have m3 : 0 ≤ (c : Int) % ((putL x).length : Int) ∧ (c : Int) % ((putL x).length : Int) ≤ (putL x).length := ⟨m1, by omega⟩
  refine (put_any x _ hx).mono ?_; rintro e w1 ⟨rfl, hb1⟩
  go_wp2_with fail
  have hc' := get_any ((ByteArray.mk (putL x).toArray).extract 0 (c % (putL x).length)) 0 w1 (by simp [size_mk]; omega)
  rw [take_mk, getL_cut hx (Nat.mod_lt _ (by omega))] at hc'
  have HC := Lib.hid hc'
  clear hc'
  refine HC.out.mono ?_; rintro e w0 ⟨rfl, rfl⟩
  go_wp2_with fail
  refine (awake1 _).mono ?_; rintro e w2 ⟨rfl, hb2⟩
  go_wp2
  go_ret
  exact ⟨ret_bool (by first | rfl | simp), bt hb1 hb2⟩

end Go.Proofs.Ytdkpjcgahlbmlaa
