/-
  Unpack of layer 2 and its reference: both return what unpackR says.
-/
import Derived.Test.YtodegmphcjgipaaGreatDoorBPack
namespace Go.Proofs.YtodegmphcjgipaaGreatDoor
open Go.RowKit

theorem infoU64 : (Tryz.prog.info? 169).map (fun i => (i.zero, i.size, i.bytes)) = some (some (.int .u64 0), 1, 8) := by kernel_rfl
theorem u64s : SlTy Tryz.prog 436 169 (.int .u64 0) 1 8 := ⟨Tryz.underlying436, info_parts infoU64⟩

def UnpPost (w : World) (s : List UInt8) (n k : Int) (e : Ending) (w' : World) : Prop :=
  ∃ (v : Value) (xs : List Nat) (err : Int), e = .returned (.tuple #[v, .int .i64 err]) ∧ unpackR s n k = (xs, err) ∧ w'.ownsRow w.heap.size 169 1 v xs.length (xs.map Uv) ∧ (∀ z ∈ xs, U64 z) ∧ Below w.heap.size w w'
theorem unp_nil {w w' : World} {s : List UInt8} {n k err : Int} (h : unpackR s n k = ([], err)) (hb : Below w.heap.size w w') : UnpPost w s n k (.returned (.tuple #[.slice none 0 0, .int .i64 err])) w' :=
  ⟨_, [], err, rfl, h, World.ownsRow_nil _ _ _ _, by simp, hb⟩
theorem unpack_bad {s : List UInt8} {n k : Int} (h : permB n k = false) : unpackR s n k = ([], 4) := by
  unfold permB at h; unfold unpackR; rw [if_pos (by simpa using h)]
theorem unpack_short {s : List UInt8} {n k : Int} (h : permB n k = true) (h1 : (s.length : Int) < needN n k) : unpackR s n k = ([], 10) := by
  unfold permB at h; unfold unpackR; rw [if_neg (by simpa using h), if_pos h1]
theorem unpack_long {s : List UInt8} {n k : Int} (h : permB n k = true) (h1 : needN n k < (s.length : Int)) : unpackR s n k = ([], 2) := by
  unfold permB at h; unfold unpackR; rw [if_neg (by simpa using h), if_neg (by omega), if_pos h1]
theorem unpack_dirty {s : List UInt8} {n k : Nat} (h : permB n k = true) (h1 : needN n k = (s.length : Int)) (hc : ¬ clean s (n * k)) : unpackR s n k = ([], 2) := by
  unfold permB at h; unfold unpackR; rw [if_neg (by simpa using h), if_neg (by omega), if_neg (by omega), if_neg (by simpa using hc)]
theorem unpack_ok {s : List UInt8} {n k : Nat} (h : permB n k = true) (h1 : needN n k = (s.length : Int)) (hc : clean s (n * k)) : unpackR s n k = (unpackV s k n, 0) := by
  unfold permB at h; unfold unpackR; rw [if_neg (by simpa using h), if_neg (by omega), if_neg (by omega), if_pos (by simpa using hc)]; simp
theorem unpackV_U64 {s : List UInt8} {k n : Nat} (hk : k ≤ 64) : ∀ z ∈ unpackV s k n, U64 z := by
  intro z hz
  simp only [unpackV, List.mem_map] at hz
  obtain ⟨i, _, rfl⟩ := hz
  have h1 := vsum_lt (sbit_le s) (i * k) k
  have h2 : (2 : Nat) ^ k ≤ 2 ^ 64 := Nat.pow_le_pow_right (by omega) hk
  unfold U64; omega

set_option maxRecDepth 100000 in
set_option maxHeartbeats 1000000 in
theorem unpack_in (s : ByteArray) (n k : Nat) (w : World) (hn : n ≤ 4096) (hk : k ≤ 64) (hs : (s.size : Int) = needN n k) :
    Calls Tryz.prog 411 #[.string s, .int .i64 (n : Int), .int .i64 (k : Int)] w (UnpPost w s.data.toList n k) := by
  have hperm : permB n k = true := by unfold permB; simp; omega
  have hsl := size_list s
  have hlen : needN n k = (s.data.toList.length : Int) := by rw [hsl]; exact hs.symm
  have HOk := Lib.hid (fun hc => unpack_ok (s := s.data.toList) hperm hlen hc)
  have HDirty := Lib.hid (fun hc => unpack_dirty (s := s.data.toList) hperm hlen hc)
  have hpc := fun W => perm_any n k W
  simp only [hperm] at hpc
  have HP := Lib.hid hpc
  have hneed := fun W => need_any n k W
  simp only [← hs] at hneed
  have HNeed := Lib.hid hneed
  have htot : n * k ≤ 262144 := Nat.le_trans (Nat.mul_le_mul hn hk) (by omega)
  have hsz : s.size = (n * k + 7) / 8 := by rw [needN_nat n k hn hk] at hs; omega
  have HS := Lib.hid hsz
  have hsmall : s.size ≤ 32769 := by omega
  have hmk := run_make1 u64s rfl n (by omega) (by omega)
  have hst : Blk (w.alloc (.cells (Array.replicate n (Value.int .u64 0)) 169)) w.heap.size 169 ((pv (sbit s.data.toList) k n 0).map Uv) := by
    rw [pv_zero]
    have := Blk.new w 169 (List.replicate n (Uv 0))
    rw [List.toArray_replicate] at this
    rw [List.map_replicate]
    exact this
  have hbel : Below w.heap.size w (w.alloc (.cells (Array.replicate n (Value.int .u64 0)) 169)) := (Below.refl _ _).alloc (Nat.le_refl _) _
  clear hpc hneed hs hsl hlen hsz hperm
  go_enter Tryz.func411, Tryz.ntmps411
  go_wp2_with fail
  refine (HP.out _).mono ?_; rintro e w0 ⟨rfl, rfl⟩
  go_wp2_with fail
  refine (HNeed.out _).mono ?_; rintro e w0 ⟨rfl, rfl⟩
  go_wp2_with fail
  refine (HNeed.out _).mono ?_; rintro e w0 ⟨rfl, rfl⟩
  go_wp2
  generalize w.alloc (.cells (Array.replicate n (Value.int .u64 0)) 169) = w0 at *
  clear hmk HNeed HP
  go_loopw [9, 35] (fun a b wr => ∃ i at_ : Nat, b = .int .i64 (i : Int) ∧ a = .int .i64 (at_ : Int) ∧ i ≤ n ∧ Hid (at_ = i * k) ∧ Blk wr w.heap.size 169 ((pv (sbit s.data.toList) k n at_).map Uv) ∧ Below w.heap.size w wr) (fun _ b _ => n - (intOf b).toNat)
  case atStart => exact ⟨0, 0, rfl, rfl, by omega, by show _ = _; omega, hst, hbel⟩
  case round =>
    clear hst hbel
    obtain ⟨i, at_, rfl, rfl, hi, ha, hblk, hb⟩ := hrel
    by_cases hin : i < n
    · have hmul : at_ + k ≤ n * k := by rw [ha.out, ← Nat.succ_mul]; exact Nat.mul_le_mul_right _ hin
      have hneed8 : at_ + k ≤ 8 * s.size := by rw [HS.out]; omega
      go_wp2
      go_loopw [9, 39] (fun a b wx => ∃ j m : Nat, b = .int .i64 (j : Int) ∧ a = .int .i64 (m : Int) ∧ j ≤ k ∧ Hid (m = i * k + j) ∧ Blk wx w.heap.size 169 ((pv (sbit s.data.toList) k n m).map Uv) ∧ Below w.heap.size w wx) (fun _ b _ => k - (intOf b).toNat)
      case atStart => exact ⟨0, at_, rfl, rfl, by omega, by show _ = _; have := ha.out; omega, hblk, hb⟩
      case round =>
        clear hblk hb
        obtain ⟨j, m, rfl, rfl, hj, hm2, hblk, hb⟩ := hrel
        by_cases hjk : j < k
        · have hmn : m / 8 < s.size := by have h1 := hm2.out; have h2 := ha.out; omega
          have hmn2 : (m : Int) / 8 < (s.size : Int) := by omega
          have hin2 : (i : Int) < (n : Int) := by omega
          have hcell := hblk.cell i
          rw [List.getElem?_map, hm2.out, pv_get hin hj] at hcell
          have hcell' : wr.cell? ⟨w.heap.size, i, none⟩ = some (.int .u64 (vsum (sbit s.data.toList) (i * k) j : Nat)) := hcell
          have hfr := hblk.frozen i
          clear hcell
          have hw8 : IntKind.i64.wrap ((m : Int) / 8) = (m : Int) / 8 := IntWalk.i64_in _ (by omega)
          have hp8 : 0 ≤ (m : Int) / 8 := by omega
          have ht8 : ((m : Int) / 8).toNat = m / 8 := by omega
          have hmd : (m : Int).tmod 8 = (m : Int) % 8 := Int.tmod_eq_emod_of_nonneg (by omega)
          go_wp2
          go_region
          go_wp2
          go_roundw
          case rel =>
            have hsb : sbit s.data.toList m = s[m / 8].toNat / 2 ^ (m % 8) % 2 := sbit_at hmn
            have hval := and1u8 (t := m % 8) (UInt8.toNat_lt s[m / 8])
            rw [← hsb] at hval
            have hlt := sbit_le s.data.toList m
            refine ⟨j + 1, m + 1, by go_num, by go_num, by omega, by show _ = _; rw [hm2.out]; omega, ?_, hb.setCell (by simp) _ |>.drew⟩
            rw [hval, IntWalk.u64_in ((sbit s.data.toList m : Nat) : Int) (by omega), or_u64 (k := j) (vsum_lt (sbit_le _) _ _) (by omega) hlt]
            have hps := pv_set (f := sbit s.data.toList) (w := k) (n := n) (i := i) hjk
            rw [← hm2.out] at hps
            rw [← hps, List.map_set]
            exact (hblk.set_ _ _).drew
          case measure => simp [intOf]; omega
        · have hjk2 : j = k := by omega
          go_wp2
          go_roundw
          case rel => exact ⟨i + 1, m, by go_num, rfl, by omega, by show _ = _; rw [hm2.out, hjk2, Nat.succ_mul], hblk, hb⟩
          case measure => simp [intOf]; omega
    · have hin2 : i = n := by omega
      have hat : Hid (at_ = n * k) := by show _ = _; rw [ha.out, hin2]
      have hszl : s.data.toList.length = (at_ + 7) / 8 := by rw [size_list, hat.out]; exact HS.out
      have hci := Lib.hid (clean_iff hszl)
      have hle : at_ ≤ 262144 := by rw [hat.out]; exact htot
      have hU := unpackV_U64 (s := s.data.toList) (n := n) hk
      have hU' := Lib.hid hU
      have hsz : s.size = (at_ + 7) / 8 := by rw [hat.out]; exact HS.out
      clear hszl hU
      have hmd : (at_ : Int).tmod 8 = (at_ : Int) % 8 := Int.tmod_eq_emod_of_nonneg (by omega)
      have hown := hblk.own (n := n) (by rw [List.length_map, pv_len]) (Nat.le_refl _) (by unfold maxLen; omega)
      rw [pv_full s.data.toList k n (by rw [hat.out]; omega)] at hown
      have hlen : (unpackV s.data.toList k n).length = n := by simp [unpackV]
      by_cases h8 : at_ % 8 = 0
      · have h8' : (at_ : Int) % 8 = 0 := by omega
        have HOk' := Lib.hid (HOk.out (by rw [← hat.out]; exact hci.out.2 (.inl h8)))
        clear hblk htot
        go_wp2
        go_ret2
        exact ⟨_, _, _, rfl, HOk'.out, by rw [hlen]; exact hown, hU'.out, hb⟩
      · have h8' : ((at_ : Int) % 8 != 0) = true := by simp; omega
        have hmn : at_ / 8 < s.size := by omega
        have hmn2 : (at_ : Int) / 8 < (s.size : Int) := by omega
        have hw8 : IntKind.i64.wrap ((at_ : Int) / 8) = (at_ : Int) / 8 := IntWalk.i64_in _ (by omega)
        have hp8 : 0 ≤ (at_ : Int) / 8 := by omega
        have ht8 : ((at_ : Int) / 8).toNat = at_ / 8 := by omega
        have hgd : s.data.toList.getD (at_ / 8) 0 = s[at_ / 8] := by
          have h' : at_ / 8 < s.data.size := hmn
          rw [List.getD, Array.getElem?_toList, Array.getElem?_eq_getElem h']; rfl
        by_cases hz : s[at_ / 8].toNat / 2 ^ (at_ % 8) = 0
        · have HOk' := Lib.hid (HOk.out (by rw [← hat.out]; exact hci.out.2 (.inr (by rw [hgd]; exact hz))))
          clear hblk htot
          have hz' : ((s[at_ / 8].toNat : Int) / 2 ^ (at_ % 8) != 0) = false := by
            have : (s[at_ / 8].toNat : Int) / 2 ^ (at_ % 8) = ((s[at_ / 8].toNat / 2 ^ (at_ % 8) : Nat) : Int) := by simp
            rw [this, hz]; rfl
          clear hgd hz
          go_wp2
          go_ret2
          exact ⟨_, _, _, rfl, HOk'.out, by rw [hlen]; exact hown, hU'.out, hb⟩
        · have HD' := Lib.hid (HDirty.out (by
            rw [← hat.out, hci.out, hgd]; intro h; rcases h with h | h
            · exact h8 h
            · exact hz h))
          clear hblk htot
          have hz' : ((s[at_ / 8].toNat : Int) / 2 ^ (at_ % 8) != 0) = true := by
            have : (s[at_ / 8].toNat : Int) / 2 ^ (at_ % 8) = ((s[at_ / 8].toNat / 2 ^ (at_ % 8) : Nat) : Int) := by simp
            rw [this]; simp only [bne_iff_ne, ne_eq]; omega
          clear hgd hz
          go_wp2
          go_ret2
          exact unp_nil HD'.out hb

set_option maxRecDepth 100000 in
set_option maxHeartbeats 400000 in
theorem unpack_any (s : ByteArray) (n k : Int) (w : World) : Calls Tryz.prog 411 #[.string s, .int .i64 n, .int .i64 k] w (UnpPost w s.data.toList n k) := by
  cases hp : permB n k
  · have hpc := fun W => perm_any n k W
    simp only [hp] at hpc
    have HC := Lib.hid hpc
    have HR := Lib.hid (unpack_bad (s := s.data.toList) hp)
    clear hpc hp
    go_enter Tryz.func411, Tryz.ntmps411
    go_wp2_with fail
    refine (HC.out _).mono ?_; rintro e w' ⟨rfl, rfl⟩
    go_wp2
    go_ret2
    exact unp_nil HR.out (Below.refl _ _)
  · rcases Int.lt_trichotomy (s.size : Int) (needN n k) with hlt | heq | hgt
    · have hpc := fun W => perm_any n k W
      simp only [hp] at hpc
      have HC := Lib.hid hpc
      have HR := Lib.hid (unpack_short (s := s.data.toList) hp (by rw [size_list]; exact hlt))
      have hnc := fun W => need_any n k W
      generalize needN n k = nd at hnc hlt
      have HN := Lib.hid hnc
      have hd : decide ((s.size : Int) < nd) = true := by simpa using hlt
      clear hpc hp hnc hlt
      go_enter Tryz.func411, Tryz.ntmps411
      go_wp2_with fail
      refine (HC.out _).mono ?_; rintro e w' ⟨rfl, rfl⟩
      go_wp2_with fail
      refine (HN.out _).mono ?_; rintro e w' ⟨rfl, rfl⟩
      go_wp2
      go_ret2
      exact unp_nil HR.out (Below.refl _ _)
    · have h := hp
      unfold permB at h
      simp only [decide_eq_true_eq] at h
      obtain ⟨n', rfl⟩ := Int.eq_ofNat_of_zero_le h.1
      obtain ⟨k', rfl⟩ := Int.eq_ofNat_of_zero_le h.2.2.1
      exact unpack_in s n' k' w (by omega) (by omega) heq
    · have hpc := fun W => perm_any n k W
      simp only [hp] at hpc
      have HC := Lib.hid hpc
      have HR := Lib.hid (unpack_long (s := s.data.toList) hp (by rw [size_list]; exact hgt))
      have hnc := fun W => need_any n k W
      generalize needN n k = nd at hnc hgt
      have HN := Lib.hid hnc
      have hd : decide ((s.size : Int) < nd) = false := by simp; omega
      have hd2 : decide (nd < (s.size : Int)) = true := by simpa using hgt
      clear hpc hp hnc hgt
      go_enter Tryz.func411, Tryz.ntmps411
      go_wp2_with fail
      refine (HC.out _).mono ?_; rintro e w' ⟨rfl, rfl⟩
      go_wp2_with fail
      refine (HN.out _).mono ?_; rintro e w' ⟨rfl, rfl⟩
      go_wp2_with fail
      refine (HN.out _).mono ?_; rintro e w' ⟨rfl, rfl⟩
      go_wp2
      go_ret2
      exact unp_nil HR.out (Below.refl _ _)

theorem clean_of {s : List UInt8} {m : Nat} (h : ∀ t, m ≤ t → t < 8 * s.length → sbit s t = 0) : clean s m := h
end Go.Proofs.YtodegmphcjgipaaGreatDoor
