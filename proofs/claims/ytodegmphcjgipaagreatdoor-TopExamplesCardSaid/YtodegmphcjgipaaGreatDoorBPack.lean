/-
  Pack of layer 2 and its reference: both return what packR says.
-/
import Derived.Test.YtodegmphcjgipaaGreatDoorBWalks
import Derived.Test.YtodegmphcjgipaaGreatDoorBlk
namespace Go.Proofs.YtodegmphcjgipaaGreatDoor
open Go.RowKit

abbrev Uv (v : Nat) : Value := .int .u64 (v : Int)
abbrev Nv (v : Nat) : Value := .int .u8 (v : Int)

theorem infoU8 : (Tryz.prog.info? 5).map (fun i => (i.zero, i.size, i.bytes)) = some (some (.int .u8 0), 1, 1) := by kernel_rfl
theorem bytes8 : SlTy Tryz.prog 127 5 (.int .u8 0) 1 1 := ⟨Tryz.underlying127, info_parts infoU8⟩

/-- 'make([]T, n)' of elements of one cell. -/
theorem run_make1 {P : Program} {t e : TypeId} {z : Value} {bytes : Nat} (hT : SlTy P t e z 1 bytes) (hz : z.cells = #[z]) (n : Nat) (hn : bytes * n ≤ 281474976710656) (h63 : n ≤ 1000000000000000) (w : World) :
    (Instr.makeSlice t (.int .i64 (n : Int)) (.int .i64 (n : Int))).run P w = .ok (.slice (some ⟨w.heap.size, 0, none⟩) n n) (w.alloc (.cells (Array.replicate n z) e)) := by
  obtain ⟨ht, i, hi, hz', hs, hb⟩ := hT
  have hbi : (i.bytes : Int) * (n : Int) ≤ 281474976710656 := by
    rw [hb, ← Int.natCast_mul]; omega
  have h := run_make (P := P) w t e i z ht hi hz' .i64 .i64 (n : Int) (n : Int) (by omega) (Int.le_refl _) hbi (by omega)
  rw [hs, hz] at h
  simp only [Int.toNat_natCast, Nat.mul_one] at h
  rw [h]
  congr 3
  apply Array.toList_inj.1
  rw [toList_madeCells_one]; simp

theorem map_replicate (z : Nat) (n : Nat) : (List.replicate n (Nv z)) = (List.replicate n z).map Nv := by simp

set_option maxRecDepth 100000 in
set_option maxHeartbeats 1000000 in
theorem pack_in (A : Option Addr) (n c k : Nat) (L : List Nat) (w : World) (hr : Rd w w.heap.size A (L.map Uv)) (hn : L.length = n) (hU : ∀ v ∈ L, U64 v) (hm : n ≤ 4096) (hk : k ≤ 64) :
    Calls Tryz.prog 342 #[.slice A n c, .int .i64 (k : Int)] w fun e w' => e = .returned (.tuple #[Sv (packR L k).1, .int .i64 (packR L k).2]) ∧ Below w.heap.size w w' := by
  have hneed := fun W => need_any n k W
  rw [needN_nat n k hm hk] at hneed
  have htot : n * k ≤ 262144 := Nat.le_trans (Nat.mul_le_mul hm hk) (by omega)
  obtain ⟨need, hN⟩ : ∃ need, need = (n * k + 7) / 8 := ⟨_, rfl⟩
  rw [← hN] at hneed
  have HNeed := Lib.hid hneed
  have hnb : need ≤ 32769 := by omega
  have HN := Lib.hid hN
  have HL := Lib.hid hn
  have HU := Lib.hid hU
  have hmk := run_make1 bytes8 rfl need (by omega) (by omega)
  have hst : Blk (w.alloc (.cells (Array.replicate need (Value.int .u8 0)) 5)) w.heap.size 5 ((packB (bitOf L k) 0 need).map Nv) := by
    rw [packB_zero, ← map_replicate]
    have := Blk.new w 5 (List.replicate need (Nv 0))
    rw [List.toArray_replicate] at this
    exact this
  have hbel : Below w.heap.size w (w.alloc (.cells (Array.replicate need (Value.int .u8 0)) 5)) := (Below.refl _ _).alloc (Nat.le_refl _) _
  have hb1 : decide ((k : Int) < 0) = false := by simp
  have hb2 : decide ((64 : Int) < (k : Int)) = false := by simp; omega
  have hb3 : decide ((4096 : Int) < (n : Int)) = false := by simp; omega
  clear hneed hN hn hU
  go_enter Tryz.func342, Tryz.ntmps342
  go_wp2_with fail
  refine (HNeed.out _).mono ?_; rintro e w0 ⟨rfl, rfl⟩
  go_wp2
  generalize w.alloc (.cells (Array.replicate need (Value.int .u8 0)) 5) = w0 at *
  clear hmk HNeed
  go_loopw [7, 29] (fun a b wr => ∃ i at_ : Nat, b = .int .i64 (i : Int) ∧ a = .int .i64 (at_ : Int) ∧ i ≤ n ∧ Hid (at_ = i * k) ∧ Blk wr w.heap.size 5 ((packB (bitOf L k) at_ need).map Nv) ∧ Below w.heap.size w wr ∧ Hid (∀ v ∈ L.take i, widthN v ≤ k)) (fun _ b _ => n - (intOf b).toNat)
  case atStart => exact ⟨0, 0, rfl, rfl, by omega, by show _ = _; omega, hst, hbel, by intro v hv; simp at hv⟩
  case round =>
    clear hst hbel
    obtain ⟨i, at_, rfl, rfl, hi, ha, hblk, hb, hW⟩ := hrel
    by_cases hin : i < n
    · obtain ⟨v, hv⟩ : ∃ v, L[i]? = some v := ⟨_, List.getElem?_eq_getElem (by rw [HL.out]; exact hin)⟩
      obtain ⟨ad, rfl, hadb, hc⟩ := hr.at_ (j := i) (u := Uv v) (by rw [List.getElem?_map, hv]; rfl)
      have hc1 : wr.cell? (ad.add i) = some (Uv v) := (hb.cell (by rw [block_of_add]; exact hadb)).trans hc
      have hvU : U64 v := HU.out v (List.mem_of_getElem? hv)
      have HV := Lib.hid hv
      clear hv hc
      go_wp2_with fail
      refine (width_any v _ hvU).mono ?_; rintro e w1 ⟨rfl, rfl⟩
      by_cases hwv : widthN v ≤ k
      · have HW2 : Hid (∀ v ∈ L.take (i + 1), widthN v ≤ k) := fun y hy => by
          rw [List.take_add_one, HV.out] at hy
          rcases List.mem_append.1 hy with h | h
          · exact hW.out y h
          · simp at h; rw [h]; exact hwv
        have hmul : at_ + k ≤ n * k := by rw [ha.out, ← Nat.succ_mul]; exact Nat.mul_le_mul_right _ hin
        have hneed8 : at_ + k ≤ 8 * need := by rw [HN.out]; omega
        go_wp2
        go_loopw [7, 38] (fun a b wx => ∃ j m : Nat, b = .int .i64 (j : Int) ∧ a = .int .i64 (m : Int) ∧ j ≤ k ∧ Hid (m = at_ + j) ∧ Blk wx w.heap.size 5 ((packB (bitOf L k) m need).map Nv) ∧ Below w.heap.size w wx) (fun _ b _ => k - (intOf b).toNat)
        case atStart => exact ⟨0, at_, rfl, rfl, by omega, by show _ = _; omega, hblk, hb⟩
        case round =>
          clear hblk hb hc1
          obtain ⟨j, m, rfl, rfl, hj, hm2, hblk, hb⟩ := hrel
          by_cases hjk : j < k
          · have hm8 : m < 8 * need := by rw [hm2.out]; omega
            have hmn : m / 8 < need := by omega
            have hmn2 : (m : Int) / 8 < (need : Int) := by omega
            have hcell := hblk.cell (m / 8)
            rw [List.getElem?_map, packB_get hmn] at hcell
            have hcell' : wr.cell? ⟨w.heap.size, m / 8, none⟩ = some (.int .u8 (byteOf (bitOf L k) m (m / 8) : Nat)) := hcell
            have hfr := hblk.frozen (m / 8)
            have hmd : (m : Int).tmod 8 = (m : Int) % 8 := Int.tmod_eq_emod_of_nonneg (by omega)
            clear hcell
            go_wp2
            go_region
            go_wp2
            go_roundw
            case rel =>
              have hf : bitOf L k m = v / 2 ^ j % 2 := by rw [hm2.out, ha.out]; exact bitOf_at HV.out hjk
              have hval := pack_bits (j := j) (byteOf_cut (bitOf_le L k) m) (Nat.mod_lt m (show 0 < 8 by omega)) hvU
              rw [← hf] at hval
              refine ⟨j + 1, m + 1, by go_num, by go_num, by omega, by show _ = _; rw [hm2.out]; omega, ?_, hb.setCell (by simp) _ |>.drew⟩
              rw [hval, ← packB_set, List.map_set]
              exact (hblk.set_ _ _).drew
            case measure => simp [intOf]; omega
          · have hjk2 : j = k := by omega
            go_wp2
            go_roundw
            case rel => exact ⟨i + 1, m, by go_num, rfl, by omega, by show _ = _; rw [hm2.out, ha.out, hjk2, Nat.succ_mul], hblk, hb, HW2⟩
            case measure => simp [intOf]; omega
      · have hno : packR L k = ([], 8) := by
          rw [packR, if_neg (by omega), if_neg (by rw [HL.out]; omega), if_neg (fun h => hwv (by simpa using h v (List.mem_of_getElem? HV.out)))]
        have HNo := Lib.hid hno
        clear hno
        go_wp2
        go_ret2
        exact ⟨by rw [HNo.out]; rfl, hb⟩
    · have hin2 : i = n := by omega
      have hyes : packR L k = ((packB (bitOf L k) at_ need).map UInt8.ofNat, 0) := by
        rw [packR, if_neg (by omega), if_neg (by rw [HL.out]; omega), if_pos (fun v hv => by
          have := hW.out v (by rw [hin2, ← HL.out, List.take_length]; exact hv)
          simpa using this)]
        rw [packL, ha.out, HN.out, hin2, HL.out]; simp
      have hvm : (packB (bitOf L k) at_ need).map Nv = ((packB (bitOf L k) at_ need).map UInt8.ofNat).map Bv := by
        rw [List.map_map]
        apply List.map_congr_left
        intro b hbm
        simp only [packB, List.mem_map] at hbm
        obtain ⟨y, _, rfl⟩ := hbm
        have := byteOf_lt (bitOf_le L k) at_ y
        simp [Bv, Nv]; omega
      have hlen : ((packB (bitOf L k) at_ need).map UInt8.ofNat).length = need := by rw [List.length_map, packB_len]
      have hown := hblk.own (n := need) (by rw [List.length_map, packB_len]) (Nat.le_refl _) (by unfold maxLen; omega)
      rw [hvm] at hown
      have hcv := own_str (w0 := w) ⟨hown, hb⟩ bytes8 Tryz.underlying5 Tryz.underlying9
      have HY := Lib.hid hyes
      clear hyes hvm hown hlen
      go_wp2
      go_ret2
      exact ⟨by rw [HY.out]; rfl, hb⟩

theorem pack_out (A : Option Addr) (n c : Nat) (k : Int) (L : List Nat) (w : World) (hn : L.length = n) (h : k < 0 ∨ 64 < k ∨ 4096 < n) :
    Calls Tryz.prog 342 #[.slice A n c, .int .i64 k] w fun e w' => e = .returned (.tuple #[Sv (packR L k).1, .int .i64 (packR L k).2]) ∧ Below w.heap.size w w' := by
  by_cases h1 : k < 0
  · have HP := Lib.hid (show packR L k = ([], 4) by rw [packR, if_pos (by omega)])
    clear hn h
    go_enter Tryz.func342, Tryz.ntmps342
    go_wp2
    go_ret2
    exact ⟨by rw [HP.out]; rfl, Below.refl _ _⟩
  · by_cases h2 : 64 < k
    · have HP := Lib.hid (show packR L k = ([], 4) by rw [packR, if_pos (by omega)])
      clear hn h
      go_enter Tryz.func342, Tryz.ntmps342
      go_wp2
      go_ret2
      exact ⟨by rw [HP.out]; rfl, Below.refl _ _⟩
    · have h3 : (4096 : Int) < (n : Int) := by omega
      have HP := Lib.hid (show packR L k = ([], 7) by rw [packR, if_neg (by omega), if_pos (by omega)])
      clear hn h
      go_enter Tryz.func342, Tryz.ntmps342
      go_wp2
      go_ret2
      exact ⟨by rw [HP.out]; rfl, Below.refl _ _⟩
theorem pack_any (A : Option Addr) (n c : Nat) (k : Int) (L : List Nat) (w : World) (hr : Rd w w.heap.size A (L.map Uv)) (hn : L.length = n) (hU : ∀ v ∈ L, U64 v) :
    Calls Tryz.prog 342 #[.slice A n c, .int .i64 k] w fun e w' => e = .returned (.tuple #[Sv (packR L k).1, .int .i64 (packR L k).2]) ∧ Below w.heap.size w w' := by
  by_cases h : k < 0 ∨ 64 < k ∨ 4096 < n
  · exact pack_out A n c k L w hn h
  · obtain ⟨m, rfl⟩ := Int.eq_ofNat_of_zero_le (show 0 ≤ k by omega)
    exact pack_in A n c m L w hr hn hU (by omega) (by omega)
end Go.Proofs.YtodegmphcjgipaaGreatDoor
