/-
  Checksums: the table and the sums, in the code.
-/
import Derived.Test.YtodegmphcjgipaaGreatDoorList
import Derived.Test.YtodegmphcjgipaaGreatDoorBlk
import Derived.Lib.Hide
import Derived.Deep.RegionHeld3
import Derived.Laws.BitsAllLaws
namespace Go.Proofs.YtodegmphcjgipaaGreatDoor
open Go.RowKit

theorem ret_intk {k : IntKind} {a b : Int} (h : a = b) : Ending.returned (.int k a) = .returned (.int k b) := by rw [h]
def bitC (v : Nat) : Nat := if v % 2 = 1 then v / 2 ^^^ 2197175160 else v / 2
def bitsC : Nat → Nat → Nat | 0, v => v | k + 1, v => bitC (bitsC k v)
def tabC (i : Nat) : Nat := bitsC 8 i
def stepC (v : Nat) (b : UInt8) : Nat := v / 256 ^^^ tabC (v % 256 ^^^ b.toNat)
def crcL (s : List UInt8) : Nat := 4294967295 - s.foldl stepC 4294967295
abbrev Wv (n : Nat) : Value := .int .u32 (n : Int)
def tabL : List Nat := (List.range 256).map tabC
theorem bitC_lt {v : Nat} (h : v < 4294967296) : bitC v < 4294967296 := by
  unfold bitC
  split
  · exact Nat.xor_lt_two_pow (n := 32) (by omega) (by decide)
  · omega
theorem bitsC_lt {v : Nat} (h : v < 4294967296) : ∀ k, bitsC k v < 4294967296
  | 0 => h
  | k + 1 => bitC_lt (bitsC_lt h k)
theorem tabC_lt {i : Nat} (h : i < 256) : tabC i < 4294967296 := bitsC_lt (by omega) 8
theorem stepC_lt {v : Nat} {b : UInt8} (h : v < 4294967296) : stepC v b < 4294967296 := by
  unfold stepC
  have h1 : v % 256 ^^^ b.toNat < 256 := Nat.xor_lt_two_pow (n := 8) (by omega) (UInt8.toNat_lt b)
  exact Nat.xor_lt_two_pow (n := 32) (by omega) (tabC_lt h1)
theorem sumC_lt : ∀ (s : List UInt8) (v : Nat), v < 4294967296 → s.foldl stepC v < 4294967296
  | [], _, h => h
  | _ :: s, _, h => sumC_lt s _ (stepC_lt h)
theorem crcL_lt (s : List UInt8) : crcL s < 4294967296 := by unfold crcL; omega
theorem wv_eq {a : Int} {n : Nat} (h : a = (n : Int)) : Value.int .u32 a = Wv n := by rw [h]
theorem w32 (m : Int) : IntKind.u32.wrap m = m % 4294967296 := by simp [IntKind.wrap, IntKind.bits, IntKind.signed]
theorem bit_prog {v : Nat} (h : v < 4294967296) : bits .xor .u32 ((v : Int) / 2) (2197175160 * bits .and .u32 (v : Int) 1 % 4294967296) = (bitC v : Int) := by
  have e0 : bits .and .u32 (v : Int) 1 = ((v % 2 : Nat) : Int) := by
    have := u32_and_nat v 1 h (by omega)
    rw [nat_mask1] at this
    exact this
  have e1 : (v : Int) / 2 = ((v / 2 : Nat) : Int) := by omega
  rw [e0, e1]
  unfold bitC
  by_cases hv : v % 2 = 1
  · rw [if_pos hv, hv]
    exact u32_xor_nat (v / 2) 2197175160 (by omega) (by omega)
  · rw [if_neg hv, show v % 2 = 0 by omega]
    have := u32_xor_nat (v / 2) 0 (by omega) (by omega)
    rw [Nat.xor_zero] at this
    exact this
theorem bit_ref1 {v : Nat} (h : v < 4294967296) (hv : v % 2 = 1) : bits .xor .u32 ((v : Int) / 2) 2197175160 = (bitC v : Int) := by
  have e1 : (v : Int) / 2 = ((v / 2 : Nat) : Int) := by omega
  rw [e1]
  unfold bitC
  rw [if_pos hv]
  exact u32_xor_nat (v / 2) 2197175160 (by omega) (by omega)
theorem bit_ref0 {v : Nat} (hv : ¬ v % 2 = 1) : (v : Int) / 2 = (bitC v : Int) := by
  unfold bitC; rw [if_neg hv]; omega
theorem and_one {v : Nat} (h : v < 4294967296) : bits .and .u32 (v : Int) 1 = ((v % 2 : Nat) : Int) := by
  have := u32_and_nat v 1 h (by omega)
  rw [nat_mask1] at this
  exact this
theorem tab_set {i : Nat} (hi : i < 256) : (((tabL.take i ++ List.replicate (256 - i) 0).map Wv).set i (Wv (tabC i))) = (tabL.take (i + 1) ++ List.replicate (256 - (i + 1)) 0).map Wv := by
  have h : tabL[i]? = some (tabC i) := by unfold tabL; rw [List.getElem?_map, List.getElem?_range hi]; rfl
  have hl : tabL.length = 256 := by simp [tabL]
  rw [← List.map_set (f := Wv) (a := tabC i)]
  congr 1
  rw [List.take_add_one, h, List.set_append_right _ _ (by rw [List.length_take]; omega), List.length_take, Nat.min_eq_left (by omega), Nat.sub_self]
  rw [show 256 - i = (256 - (i + 1)) + 1 by omega, List.replicate_succ, List.set_cons_zero]
  simp
theorem infoU32 : (Tryz.prog.info? 214).map (fun i => (i.zero, i.size, i.bytes)) = some (some (.int .u32 0), 1, 4) := by kernel_rfl
theorem u32s : SlTy Tryz.prog 216 214 (.int .u32 0) 1 4 := ⟨Tryz.underlying216, info_parts infoU32⟩
theorem one_u32 (z : Nat) : ∀ u ∈ (#[Wv z] : Array Value).toList, u.oneCell' = true := by
  intro u hu; simp at hu; subst hu; rfl
/-- 'make([]T, n)' of elements of one cell. -/
theorem run_make1 {P : Program} {t e : TypeId} {z : Value} {bytes : Nat} (hT : SlTy P t e z 1 bytes) (hz : z.cells = #[z]) (n : Nat) (hn : bytes * n ≤ 281474976710656) (h63 : n ≤ 1000000000000000) (w : World) :
    (Instr.makeSlice t (.int .i64 (n : Int)) (.int .i64 (n : Int))).run P w = .ok (.slice (some ⟨w.heap.size, 0, none⟩) n n) (w.alloc (.cells (Array.replicate n z) e)) := by
  obtain ⟨ht, i, hi, hz', hs, hb⟩ := hT
  have hbi : (i.bytes : Int) * (n : Int) ≤ 281474976710656 := by
    rw [hb, ← Int.natCast_mul]; omega
  have h := run_make (P := P) w t e i z ht hi hz' .i64 .i64 (n : Int) (n : Int) (by omega) (Int.le_refl _) hbi (by omega)
  rw [hs, hz] at h
  simp only [Int.toNat_natCast, Nat.mul_one] at h
  rw [h]
  congr 3
  apply Array.toList_inj.1
  rw [toList_madeCells_one]; simp

/-- A table that was made: 256 numbers. -/
def TabPost (w : World) (e : Ending) (w' : World) : Prop := ∃ g, w.heap.size ≤ g ∧ e = .returned (.slice (some ⟨g, 0, none⟩) 256 256) ∧ Blk w' g 214 (tabL.map Wv) ∧ Below w.heap.size w w'
theorem map_rep (z : Nat) (n : Nat) : (List.replicate n (Wv z)) = (List.replicate n z).map Wv := by simp
set_option maxRecDepth 100000 in
set_option maxHeartbeats 1000000 in
theorem table_any (w : World) : Calls Tryz.prog 116 #[] w (TabPost w) := by
  have hmk : ∀ w : World, (Instr.makeSlice 216 (.int .i64 256) (.int .i64 256)).run Tryz.prog w = .ok (.slice (some ⟨w.heap.size, 0, none⟩) 256 256) (w.alloc (.cells (Array.replicate 256 (.int .u32 0)) 214)) := fun w => run_make1 u32s rfl 256 (by omega) (by omega) w
  have hst : Blk (w.alloc (.cells (Array.replicate 256 (Value.int .u32 0)) 214)) w.heap.size 214 ((tabL.take 0 ++ List.replicate (256 - 0) 0).map Wv) := by
    have := Blk.new w 214 (List.replicate 256 (Wv 0))
    rw [List.toArray_replicate] at this
    rw [List.take_zero, List.nil_append, Nat.sub_zero, ← map_rep]
    exact this
  have hbel : Below w.heap.size w (w.alloc (.cells (Array.replicate 256 (Value.int .u32 0)) 214)) := (Below.refl _ _).alloc (Nat.le_refl _) _
  have HLT : Hid (tabL.length = 256) := by show _ = _; simp [tabL]
  go_enter Tryz.func116, Tryz.ntmps116
  go_wp2
  generalize w.alloc (.cells (Array.replicate 256 (Value.int .u32 0)) 214) = w0 at *
  clear hmk
  go_loopw [7] (fun a wr => ∃ i : Nat, a = .int .i64 (i : Int) ∧ i ≤ 256 ∧ Blk wr w.heap.size 214 ((tabL.take i ++ List.replicate (256 - i) 0).map Wv) ∧ Below w.heap.size w wr) (fun a _ => 256 - (intOf a).toNat)
  case atStart => exact ⟨0, rfl, by omega, hst, hbel⟩
  case round =>
    clear hst hbel
    obtain ⟨i, rfl, hi, hblk, hb⟩ := hrel
    by_cases hin : i < 256
    · have hw : IntKind.u32.wrap (i : Int) = (i : Int) := by rw [w32]; omega
      go_wp2
      go_loopw [3, 12] (fun a b wx => ∃ k : Nat, b = .int .i64 (k : Int) ∧ k ≤ 8 ∧ a = Wv (bitsC k i) ∧ wx = wr) (fun _ b _ => 8 - (intOf b).toNat)
      case atStart => exact ⟨0, rfl, by omega, rfl, by trivial⟩
      case round =>
        obtain ⟨k, rfl, hk, rfl, rfl⟩ := hrel
        by_cases hk8 : k < 8
        · have hlt := bitsC_lt (v := i) (by omega) k
          have HB := Lib.hid (bit_prog hlt)
          have HS : Hid (bitC (bitsC k i) = bitsC (k + 1) i) := rfl
          generalize bitsC k i = v at *
          go_wp2
          go_roundw
          case rel => exact ⟨k + 1, by go_num, by omega, by rw [← HS.out]; exact wv_eq HB.out, by trivial⟩
          case measure => simp [intOf]; omega
        · have hk9 : k = 8 := by omega
          subst hk9
          have hf := hblk.frozen i
          have hc := hblk.cellAt i (u := Wv 0) (by
            have hl := HLT.out
            rw [List.getElem?_map, List.getElem?_append_right (by simp; omega), List.length_take, Nat.min_eq_left (by omega), Nat.sub_self, List.getElem?_replicate]
            simp; omega)
          have HT := Lib.hid (tab_set hin)
          have HB := hblk.set_ i (Wv (tabC i))
          rw [HT.out] at HB
          have hb2 : Below w.heap.size w (wr.setCell ⟨w.heap.size, i, none⟩ (Wv (tabC i))) := hb.setCell (p := ⟨w.heap.size, i, none⟩) (Nat.le_refl _) _
          have HV : Hid (bitsC 8 i = tabC i) := rfl
          rw [HV.out]
          generalize tabC i = v at *
          go_wp2
          go_roundw
          case rel => exact ⟨i + 1, by go_num, by omega, HB, hb2⟩
          case measure => simp [intOf]; omega
    · have hi2 : i = 256 := by omega
      subst hi2
      have hru := hblk
      rw [show (tabL.take 256 ++ List.replicate (256 - 256) 0) = tabL by rw [List.take_of_length_le (by rw [HLT.out]; exact Nat.le_refl _)]; simp] at hru
      go_wp2
      go_ret
      exact ⟨_, Nat.le_refl _, rfl, hru, hb⟩

theorem idx_xor {v : Nat} {b : Nat} (hb : b < 256) : bits .xor .u8 ((v : Int) % 256) (b : Int) = ((v % 256 ^^^ b : Nat) : Int) := by
  have e : (v : Int) % 256 = ((v % 256 : Nat) : Int) := by omega
  rw [e]
  exact u8_xor_nat (v % 256) b (by omega) hb
theorem step_val {v i : Nat} (h : v < 4294967296) (hi : i < 256) : bits .xor .u32 ((v : Int) / 256) (tabC i : Int) = ((v / 256 ^^^ tabC i : Nat) : Int) := by
  have e : (v : Int) / 256 = ((v / 256 : Nat) : Int) := by omega
  rw [e]
  exact u32_xor_nat (v / 256) (tabC i) (by omega) (tabC_lt hi)
theorem not_u32 {v : Nat} (h : v < 4294967296) : bits .xor .u32 IntKind.u32.max (v : Int) = ((4294967295 - v : Nat) : Int) := by
  have e : IntKind.u32.max = ((4294967295 : Nat) : Int) := by decide
  rw [e, u32_xor_nat 4294967295 v (by omega) h, Nat.xor_comm]
  have h2 := congrArg BitVec.toNat (BitVec.xor_allOnes (x := BitVec.ofNat 32 v))
  rw [BitVec.toNat_not, BitVec.toNat_xor, BitVec.toNat_allOnes, BitVec.toNat_ofNat, Nat.mod_eq_of_lt (by omega)] at h2
  have h3 : v ^^^ 4294967295 = 4294967295 - v := by simpa using h2
  rw [h3]
set_option maxRecDepth 100000 in
set_option maxHeartbeats 1000000 in
theorem step_any (A : Option Addr) (c v : Nat) (b : UInt8) (w : World) (hr : Rd w w.heap.size A (tabL.map Wv)) (hv : v < 4294967296) :
    Calls Tryz.prog 193 #[.slice A 256 c, .int .u32 (v : Int), .int .u8 (b.toNat : Int)] w fun e w' => e = .returned (.int .u32 (stepC v b)) ∧ w = w' := by
  have hb := UInt8.toNat_lt b
  have hidx : v % 256 ^^^ b.toNat < 256 := Nat.xor_lt_two_pow (n := 8) (by omega) hb
  have hT : tabL[v % 256 ^^^ b.toNat]? = some (tabC (v % 256 ^^^ b.toNat)) := by unfold tabL; rw [List.getElem?_map, List.getElem?_range hidx]; rfl
  obtain ⟨ad, rfl, hadb, cx⟩ := hr.at_ (j := v % 256 ^^^ b.toNat) (u := Wv (tabC (v % 256 ^^^ b.toNat))) (by rw [List.getElem?_map, hT]; rfl)
  have hx := idx_xor (v := v) hb
  have HS := Lib.hid (step_val hv hidx)
  have HR : Hid (stepC v b = (v / 256 ^^^ tabC (v % 256 ^^^ b.toNat))) := rfl
  generalize v % 256 ^^^ b.toNat = ix at *
  generalize tabC ix = tv at *
  go_enter Tryz.func193, Tryz.ntmps193
  go_wp2
  go_ret
  exact ⟨by rw [HR.out]; exact ret_intk HS.out, rfl⟩
theorem fold_next {s : List UInt8} {i : Nat} {b : UInt8} {v : Nat} (h : s[i]? = some b) : (s.take (i + 1)).foldl stepC v = stepC ((s.take i).foldl stepC v) b := by rw [List.take_add_one, h, List.foldl_append]; rfl
theorem byte_at {s : ByteArray} {i : Nat} (h : i < s.size) : s.data.toList[i]? = some s[i] := by
  rw [Array.getElem?_toList, Array.getElem?_eq_getElem (by simpa using h)]; rfl
set_option maxRecDepth 100000 in
set_option maxHeartbeats 1000000 in
theorem sum_any (A : Option Addr) (c : Nat) (s : ByteArray) (w : World) (hr : Rd w w.heap.size A (tabL.map Wv)) (hs : s.size ≤ 1000000000000000) :
    Calls Tryz.prog 115 #[.slice A 256 c, .string s] w fun e w' => e = .returned (.int .u32 (crcL s.data.toList)) ∧ w = w' := by
  have hlt0 := sumC_lt (s.data.toList) 4294967295 (by omega)
  have HC : Hid (crcL s.data.toList = 4294967295 - s.data.toList.foldl stepC 4294967295) := rfl
  go_enter Tryz.func115, Tryz.ntmps115
  go_wp2
  go_loopw [5, 12] (fun a b wr => ∃ i : Nat, b = .int .i64 (i : Int) ∧ i ≤ s.size ∧ a = Wv ((s.data.toList.take i).foldl stepC 4294967295) ∧ wr = w) (fun _ b _ => s.size - (intOf b).toNat)
  case atStart => exact ⟨0, rfl, by omega, rfl, by trivial⟩
  case round =>
    obtain ⟨i, rfl, hi, rfl, rfl⟩ := hrel
    by_cases hin : i < s.size
    · have HF := Lib.hid (fold_next (v := 4294967295) (byte_at hin))
      have hv := sumC_lt (s.data.toList.take i) 4294967295 (by omega)
      generalize (s.data.toList.take i).foldl stepC 4294967295 = v at *
      go_wp2_with fail
      refine (step_any A c v _ _ hr hv).mono ?_; rintro e w1 ⟨rfl, rfl⟩
      go_wp2
      go_roundw
      case rel => exact ⟨i + 1, by go_num, by omega, by rw [HF.out], by trivial⟩
      case measure => simp [intOf]; omega
    · have hi2 : i = s.size := by omega
      have ht : s.data.toList.take i = s.data.toList := by rw [hi2, ← size_list]; exact List.take_length
      rw [ht]
      generalize s.data.toList.foldl stepC 4294967295 = v at *
      go_wp2
      go_ret
      exact ⟨by rw [HC.out]; exact ret_intk (not_u32 hlt0), rfl⟩

end Go.Proofs.YtodegmphcjgipaaGreatDoor
