/-
  The walks of the laws of layer 2, third part.
-/
import Derived.Test.YtmehnfggfiinaaaBLaws2
namespace Go.Proofs.Ytmehnfggfiinaaa
open Go.RowKit


theorem width_pow (q : Nat) : q < widthN (2 ^ q) := by
  rcases Nat.lt_or_ge q (widthN (2 ^ q)) with h | h
  · exact h
  · have := (width_le q _).1 h; omega
set_option maxRecDepth 100000 in
set_option maxHeartbeats 1000000 in
theorem walk_BitpackRefuses (A : Option Addr) (n c : Nat) (zs : List Int) (k at_ b : Int) (w : World)
    (hr : Rd w w.heap.size A (zs.map Iv)) (hn : zs.length = n) (_hz : ∀ z ∈ zs, (Lit.int .i64 z).wf = true) (_hc : n ≤ c) (hb : n * 8 ≤ 140737488351232)
    (_wk : (Lit.int .i64 k).wf = true) (_wa : (Lit.int .i64 at_).wf = true) (wb : (Lit.int .u8 b).wf = true) :
    Calls Try.prog 9 #[.slice A n c, .int .i64 k, .int .i64 at_, .int .u8 b] w fun e w' => e = .returned (.bool true) ∧ Below w.heap.size w w' := by
  obtain ⟨b, rfl, hb8⟩ := wf_u8 wb
  clear _hz _hc _wk _wa wb
  have hcv := byte_str_at bytes8 Try.underlying5 Try.underlying9 b hb8
  have HN := Lib.hid hn
  clear hn
  go_enter Try.func9, Try.ntmps9
  go_wp2_with fail
  refine (pick_any k 64 _ (by omega) (by omega)).mono ?_; rintro e w0 ⟨rfl, rfl⟩
  have hp1 := pickN_lt k (show 0 < 64 by omega)
  generalize pickN k 64 = q at *
  go_wp2_with fail
  refine (numbers_any _ _ _ _ _ _ hr HN.out (by omega) (by omega)).mono ?_
  rintro e w1 ⟨v1, x1, rfl, ho1, hU1, hW1, hL1, hb1⟩
  obtain ⟨B1, d1, rfl, hd1⟩ := own_form ho1
  have hx1 := Rd.of_own ho1
  have HU1 := Lib.hid hU1
  have HW1 := Lib.hid hW1
  clear hU1 hW1
  have h100 : x1.length ≤ 100 := by omega
  clear hL1 hr
  go_wp2_with fail
  refine (rpack_any B1 _ d1 q x1 _ hx1 rfl HU1.out).mono ?_; rintro e w2 ⟨rfl, hb2⟩
  rw [packR_ok (by omega) (by omega) HW1.out]
  have hx2 := hx1.call hb2
  have hk1 : x1.length * q ≤ 100 * 64 := Nat.mul_le_mul (by omega) (by omega)
  have hlen : (packL x1 q).length ≤ 10000 := by rw [packL_len]; omega
  have hs := fun W => sadd (P := Try.prog) (a := packL x1 q) (b := [UInt8.ofNat b]) (by simp; omega) W
  clear hk1 hx1
  go_wp2_with fail
  have O2 : Own w w2 25 1 (.slice B1 x1.length d1) x1.length (x1.map Uv) := Own.call ⟨ho1, hb1⟩ hb2
  have O2' := O2.alloc (.cells #[Value.int .u8 (b : Int)] 5)
  clear O2 ho1 hx2
  refine (unpack_any _ _ _ _).mono ?_; rintro e w3 ⟨v3, x3, e3, rfl, hd3, ho3, _, hb3⟩
  obtain ⟨B3, d3, rfl, _⟩ := own_form ho3
  rw [show (⟨(packL x1 q ++ [UInt8.ofNat b]).toArray⟩ : ByteArray).data.toList = packL x1 q ++ [UInt8.ofNat b] from rfl, unpackR_more (by omega) (by omega)] at hd3
  cases hd3
  have O3 := O2'.call hb3
  clear ho3 O2' hs hcv
  by_cases h0 : x1.length = 0
  · have hd0 : ((x1.length : Int) == 0) = true := by rw [h0]; rfl
    go_wp2_with fail
    refine (awake2 _).mono ?_; rintro e w4 ⟨rfl, hb4⟩
    go_wp2
    go_ret
    exact ⟨ret_bool (by first | rfl | (simp; done)), bt O3.2 hb4⟩
  · have hd0 : ((x1.length : Int) == 0) = false := by simp only [beq_eq_false_iff_ne, ne_eq]; omega
    go_wp2_with fail
    refine (pick_any at_ x1.length _ (by omega) (by omega)).mono ?_; rintro e w0 ⟨rfl, rfl⟩
    have hp := pickN_lt at_ (show 0 < x1.length by omega)
    generalize pickN at_ x1.length = p at *
    obtain ⟨g, rfl, hg, hglt, hfr, hcell, hset⟩ := own_block O3.1 hp
    have hc := hcell p hp
    rw [List.getElem?_map, List.getElem?_eq_getElem hp] at hc
    have hc' : w3.cell? ⟨g, p, none⟩ = some (Uv x1[p]) := hc
    have hf := hfr p
    have HS := fun u => Lib.hid (hset p u hp)
    clear hcell hset hfr hc h0
    go_wp2_with fail
    have p2 : (2 : Nat) ^ q ≤ 2 ^ 63 := Nat.pow_le_pow_right (by omega) (by omega)
    have hpw : IntKind.u64.wrap (2 ^ q) = ((2 ^ q : Nat) : Int) := by
      have e1 : (2 : Int) ^ q = ((2 ^ q : Nat) : Int) := by simp
      have e2 : ∀ V : Nat, V ≤ 2 ^ 63 → IntKind.u64.wrap (V : Int) = V := fun V h => IntWalk.u64_in _ (by omega)
      rw [e1]; exact e2 _ p2
    rw [hpw]
    have hnew := (HS (Uv (2 ^ q))).out
    have hb3' := O3.2.setCell (p := ⟨g, p, none⟩) hg (Uv (2 ^ q))
    have hwide : q < widthN (2 ^ q) := width_pow q
    have hU2 : U64 (2 ^ q) := by unfold U64; omega
    generalize 2 ^ q = V at *
    generalize w3.setCell ⟨g, p, none⟩ (Uv V) = w4 at *
    have hx4 := Rd.of_own hnew
    rw [← List.map_set] at hx4
    have HU4 : Hid (∀ z ∈ x1.set p V, U64 z) := fun z hz => by
      rcases List.mem_or_eq_of_mem_set hz with h | h
      · exact HU1.out z h
      · rw [h]; exact hU2
    have hmem : V ∈ x1.set p V := List.mem_set hp _
    clear O3 hnew HS hb3 hb2
    refine (pack_any _ _ d1 q (x1.set p V) _ hx4 (by simp) HU4.out).mono ?_; rintro e w5 ⟨rfl, hb5⟩
    rw [packR_over (by omega) (by simp; omega) hmem hwide]
    by_cases hl0 : (packL x1 q).length = 0
    · have hd1' : decide (0 < (packL x1 q).length) = false := by simp only [decide_eq_false_iff_not]; omega
      go_wp2_with fail
      refine (awake2 _).mono ?_; rintro e w6 ⟨rfl, hb6⟩
      go_wp2
      go_ret
      exact ⟨ret_bool (by first | rfl | (simp; done)), bt (bt hb3' hb5) hb6⟩
    · have hd1' : decide (0 < (packL x1 q).length) = true := by simp only [decide_eq_true_eq]; omega
      have hT := take_mk (packL x1 q) ((packL x1 q).length - 1)
      go_wp2_with fail
      generalize (⟨(packL x1 q).toArray⟩ : ByteArray).extract 0 ((packL x1 q).length - 1) = T at *
      refine (unpack_any T _ _ _).mono ?_; rintro e w6 ⟨v6, x6, e6, rfl, hd6, ho6, _, hb6⟩
      obtain ⟨B6, d6, rfl, _⟩ := own_form ho6
      rw [hT, unpackR_less (by omega) (by omega) (by rw [List.length_take]; omega)] at hd6
      cases hd6
      clear ho6
      go_wp2_with fail
      refine (awake2 _).mono ?_; rintro e w7 ⟨rfl, hb7⟩
      go_wp2
      go_ret
      exact ⟨ret_bool (by first | rfl | (simp; done)), bt (bt (bt hb3' hb5) hb6) hb7⟩

theorem wf_u64s {zs : List Int} (h : ∀ z ∈ zs, (Lit.int .u64 z).wf = true) : ∃ L : List Nat, zs.map (Value.int .u64) = L.map Uv ∧ L.length = zs.length ∧ ∀ v ∈ L, U64 v := by
  refine ⟨zs.map Int.toNat, ?_, by simp, ?_⟩
  · rw [List.map_map]
    apply List.map_congr_left
    intro z hz
    obtain ⟨m, rfl, _⟩ := wf_u64 (h z hz)
    rfl
  · intro v hv
    rw [List.mem_map] at hv
    obtain ⟨z, hz, rfl⟩ := hv
    obtain ⟨m, rfl, hm⟩ := wf_u64 (h z hz)
    exact hm
set_option maxRecDepth 100000 in
set_option maxHeartbeats 1000000 in
theorem walk_BitpackPacks (A : Option Addr) (n c : Nat) (zs : List Int) (k : Int) (small : Bool) (w : World)
    (hr : Rd w w.heap.size A (zs.map (Value.int .u64))) (hn : zs.length = n) (hz : ∀ z ∈ zs, (Lit.int .u64 z).wf = true) (_hc : n ≤ c) (hb : n * 8 ≤ 140737488351232) (_wk : (Lit.int .i64 k).wf = true) :
    Calls Try.prog 5 #[.slice A n c, .int .i64 k, .bool small] w fun e w' => e = .returned (.bool true) ∧ Below w.heap.size w w' := by
  obtain ⟨L, hL, hLn, hU⟩ := wf_u64s hz
  rw [hL] at hr
  rw [hn] at hLn
  have HN := Lib.hid hLn
  have HU := Lib.hid hU
  clear hL hLn hU hn hz _wk
  cases small
  · go_enter Try.func5, Try.ntmps5
    go_wp2_with fail
    refine (pack_any _ _ _ _ L _ hr HN.out HU.out).mono ?_; rintro e w1 ⟨rfl, hb1⟩
    have hr1 := Rd.call hr hb1
    go_wp2_with fail
    refine (rpack_any _ _ _ _ L _ hr1 HN.out HU.out).mono ?_; rintro e w2 ⟨rfl, hb2⟩
    go_wp2_with fail
    refine (awake2 _).mono ?_; rintro e w3 ⟨rfl, hb3⟩
    go_wp2
    go_ret
    exact ⟨ret_bool (by first | rfl | (simp; done)), bt (bt hb1 hb2) hb3⟩
  · go_enter Try.func5, Try.ntmps5
    go_wp2_with fail
    refine (pick_any k 67 _ (by omega) (by omega)).mono ?_; rintro e w0 ⟨rfl, rfl⟩
    have hp2 := pickN_lt k (show 0 < 67 by omega)
    generalize pickN k 67 = q at *
    go_wp2_with fail
    generalize hP : (q : Int) - 1 = K at *
    have hK : -1 ≤ K ∧ K ≤ 65 := by omega
    clear hP hp2
    go_loopw [0, 18] (fun a b wr => ∃ (A' : Option Addr) (c' i : Nat) (L' : List Nat), a = .slice A' n c' ∧ b = .int .i64 (i : Int) ∧ i ≤ n ∧ Rd wr wr.heap.size A' (L'.map Uv) ∧ Hid (L'.length = n) ∧ Hid (∀ v ∈ L', U64 v) ∧ Below w.heap.size w wr) (fun _ b _ => n - (intOf b).toNat)
    case atStart => exact ⟨A, c, 0, L, rfl, rfl, by omega, hr, HN, HU, Below.refl _ _⟩
    case round =>
      clear hr
      obtain ⟨A', c', i, L', rfl, rfl, hi, hr, HN', HU', hbw⟩ := hrel
      by_cases hin : i < n
      · go_wp2_with (at_builtin; refine own_list (Own.nil _ _ _) u64s rfl (by decide) hr (by have := HN'.out; simp [this]) (by intro u hu; rw [List.mem_map] at hu; obtain ⟨z, _, rfl⟩ := hu; rfl) (by omega) (by unfold maxLen; omega) ?_ rfl _ _ rfl rfl rfl)
        intro v2 w2 ho2
        obtain ⟨B2, d2, rfl, _⟩ := own_form ho2.1
        obtain ⟨g, rfl, hg, hglt, hfr, hcell, hset⟩ := own_block ho2.1 hin
        obtain ⟨v, hv⟩ : ∃ v, L'[i]? = some v := ⟨_, List.getElem?_eq_getElem (by rw [HN'.out]; exact hin)⟩
        have hc := hcell i hin
        rw [List.getElem?_map, hv] at hc
        have hc' : w2.cell? ⟨g, i, none⟩ = some (Uv v) := hc
        have hvU : U64 v := HU'.out v (List.mem_of_getElem? hv)
        have hf := hfr i
        have HS := fun u => Lib.hid (hset i u hin)
        have hb2 := ho2.2
        clear hcell hset hfr hc hv ho2
        go_wp2
        go_roundw
        case rel =>
          generalize ((64 : Int) - max 0 (min 64 K)).toNat = t at *
          have e0 : (v : Int) / 2 ^ t = ((v / 2 ^ t : Nat) : Int) := by simp
          rw [e0]
          have hnew := (HS (Uv (v / 2 ^ t))).out
          have hr2 := Rd.of_own hnew
          rw [← List.map_set] at hr2
          refine ⟨_, _, i + 1, L'.set i (v / 2 ^ t), rfl, by go_num, by omega, hr2, by show _ = _; rw [List.length_set]; exact HN'.out, ?_, ?_⟩
          · intro z hz
            rcases List.mem_or_eq_of_mem_set hz with h | h
            · exact HU'.out z h
            · rw [h]; exact Nat.lt_of_le_of_lt (Nat.div_le_self _ _) hvU
          · exact (bt hbw hb2).setCell (Nat.le_trans hbw.size hg) _
        case measure => simp [intOf]; omega
      · go_wp2_with fail
        refine (pack_any _ _ _ _ L' _ hr HN'.out HU'.out).mono ?_; rintro e w1 ⟨rfl, hb1⟩
        have hr1 := Rd.call hr hb1
        go_wp2_with fail
        refine (rpack_any _ _ _ _ L' _ hr1 HN'.out HU'.out).mono ?_; rintro e w2 ⟨rfl, hb2⟩
        go_wp2_with fail
        refine (awake2 _).mono ?_; rintro e w3 ⟨rfl, hb3⟩
        go_wp2
        go_ret
        exact ⟨ret_bool (by first | rfl | (simp; done)), bt (bt (bt hbw hb1) hb2) hb3⟩

end Go.Proofs.Ytmehnfggfiinaaa
