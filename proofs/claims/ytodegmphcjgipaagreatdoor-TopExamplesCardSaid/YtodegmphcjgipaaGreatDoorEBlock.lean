/-
  The encoding of one block of differences: delta.block.
-/
import Derived.Test.YtodegmphcjgipaaGreatDoorBUnp
import Derived.Test.YtodegmphcjgipaaGreatDoorBPlain2
import Derived.Test.YtodegmphcjgipaaGreatDoorVWalks2
import Derived.Test.YtodegmphcjgipaaGreatDoorEMin
import Derived.Test.YtodegmphcjgipaaGreatDoorRegL
namespace Go.Proofs.YtodegmphcjgipaaGreatDoor
open Go.RowKit

/-- The offsets of a block, its width, its bytes. -/
def offs (d : List Int) : List Nat := d.map (fun v => (v - minI d).toNat)
def maxW (us : List Nat) : Nat := us.foldl (fun w u => max w (widthN u)) 0
def blockL (d : List Int) : List UInt8 := putL (zigN (minI d)) ++ [UInt8.ofNat (maxW (offs d))] ++ packL (offs d) (maxW (offs d))

theorem maxW_next {us : List Nat} {i u : Nat} (h : us[i]? = some u) : maxW (us.take (i + 1)) = max (maxW (us.take i)) (widthN u) := by
  unfold maxW; rw [List.take_add_one, h, List.foldl_append]; rfl
theorem fold_maxW (l : List Nat) : ∀ x : Nat, x ≤ l.foldl (fun w u => max w (widthN u)) x ∧ (∀ u ∈ l, widthN u ≤ l.foldl (fun w u => max w (widthN u)) x) ∧ (l.foldl (fun w u => max w (widthN u)) x = x ∨ ∃ u ∈ l, l.foldl (fun w u => max w (widthN u)) x = widthN u) := by
  induction l with
  | nil => intro x; simp
  | cons a l ih =>
    intro x
    obtain ⟨h1, h2, h3⟩ := ih (max x (widthN a))
    rw [List.foldl_cons]
    refine ⟨by omega, fun y hy => ?_, ?_⟩
    · rcases List.mem_cons.1 hy with rfl | hy
      · omega
      · exact h2 y hy
    · rcases h3 with h3 | ⟨u, hu, h3⟩
      · rcases Nat.le_total x (widthN a) with h | h
        · right; exact ⟨a, by simp, by rw [h3]; omega⟩
        · left; rw [h3]; omega
      · right; exact ⟨u, by simp [hu], h3⟩
theorem maxW_ge {us : List Nat} {u : Nat} (h : u ∈ us) : widthN u ≤ maxW us := (fold_maxW us 0).2.1 u h
theorem maxW_le {us : List Nat} (h : ∀ u ∈ us, U64 u) : maxW us ≤ 64 := by
  rcases (fold_maxW us 0).2.2 with e | ⟨u, hu, e⟩
  · unfold maxW; omega
  · unfold maxW; rw [e]; exact width_u64 (h u hu)
theorem off_U64 {d : List Int} (hz : ∀ z ∈ d, I64 z) : ∀ u ∈ offs d, U64 u := by
  intro u hu
  simp only [offs, List.mem_map] at hu
  obtain ⟨v, hv, rfl⟩ := hu
  have h1 := hz v hv
  have h2 := hz _ (minI_mem (List.ne_nil_of_mem hv))
  have h3 := minI_le hv
  unfold I64 at h1 h2
  unfold U64
  omega
theorem off_eq {v m : Int} (hv : I64 v) (hm : I64 m) (h : m ≤ v) : IntKind.u64.wrap (IntKind.u64.wrap v - IntKind.u64.wrap m) = ((v - m).toNat : Int) := by
  unfold I64 at hv hm
  have e : ∀ x : Int, IntKind.u64.wrap x = x % 18446744073709551616 := fun x => by rw [IntKind.wrap_u64]
  rw [e, e, e]
  omega
theorem zeros_set {us : List Nat} {i n u : Nat} (hn : us.length = n) (h : us[i]? = some u) : ((us.take i ++ List.replicate (n - i) 0).map Uv).set i (.int .u64 (u : Int)) = (us.take (i + 1) ++ List.replicate (n - (i + 1)) 0).map Uv := by
  have hi : i < n := by rw [← hn]; exact (List.getElem?_eq_some_iff.1 h).1
  rw [← List.map_set (f := Uv) (a := u)]
  congr 1
  rw [List.take_add_one, h, List.set_append_right _ _ (by rw [List.length_take]; omega), List.length_take, Nat.min_eq_left (by omega), Nat.sub_self]
  rw [show n - i = (n - (i + 1)) + 1 by omega, List.replicate_succ, List.set_cons_zero]
  simp
theorem zeros_get {us : List Nat} {i n : Nat} (hn : us.length = n) (hi : i < n) : ((us.take i ++ List.replicate (n - i) 0).map Uv)[i]? = some (.int .u64 0) := by
  rw [List.getElem?_map, List.getElem?_append_right (by simp; omega), List.length_take, Nat.min_eq_left (by omega), Nat.sub_self, List.getElem?_replicate]
  simp; omega
theorem newc (w : World) (t : TypeId) (v : Value) : (w.alloc (.cells #[v] t)).cell? ⟨w.heap.size, 0, none⟩ = some v ∧ w.heap.size < (w.alloc (.cells #[v] t)).heap.size := ⟨by rw [World.cell?_alloc_mark]; rfl, by simp⟩
theorem keepc {w w' : World} {g : Nat} {v : Value} (h : w.cell? ⟨g, 0, none⟩ = some v ∧ g < w.heap.size) (hb : Below w.heap.size w w') : w'.cell? ⟨g, 0, none⟩ = some v ∧ g < w'.heap.size := ⟨(hb.cell (p := ⟨g, 0, none⟩) h.2).trans h.1, by have := hb.size; omega⟩
set_option maxRecDepth 100000 in
set_option maxHeartbeats 2000000 in
theorem block_any (A : Option Addr) (n c : Nat) (d : List Int) (w : World) (hr : Rd w w.heap.size A (d.map Iv)) (hn : d.length = n) (h0 : 0 < n) (hm : n ≤ 4096) (hz : ∀ z ∈ d, I64 z) :
    Calls Tryz.prog 340 #[.slice A n c] w fun e w' => e = .returned (Sv (blockL d)) ∧ Below w.heap.size w w' := by
  have HN := Lib.hid hn
  have HZ := Lib.hid hz
  have hm64 : I64 (minI d) := hz _ (minI_mem (by intro e; subst e; simp at hn; omega))
  have hmk := run_make1 u64s rfl n (by omega) (by omega)
  have hst : Blk (w.alloc (.cells (Array.replicate n (Value.int .u64 0)) 169)) w.heap.size 169 (((offs d).take 0 ++ List.replicate (n - 0) 0).map Uv) := by
    have := Blk.new w 169 (List.replicate n (Uv 0))
    rw [List.toArray_replicate] at this
    rw [List.take_zero, List.nil_append, Nat.sub_zero, List.map_replicate]
    exact this
  have hbel : Below w.heap.size w (w.alloc (.cells (Array.replicate n (Value.int .u64 0)) 169)) := (Below.refl _ _).alloc (Nat.le_refl _) _
  have HOL : Hid ((offs d).length = n) := by show _ = _; rw [offs, List.length_map, hn]
  have HOU := Lib.hid (off_U64 hz)
  have HB := Lib.hid (show blockL d = putL (zigN (minI d)) ++ [UInt8.ofNat (maxW (offs d))] ++ packL (offs d) (maxW (offs d)) from rfl)
  have HMW := Lib.hid (maxW_le (off_U64 hz))
  have HOO : Hid (∀ i v, d[i]? = some v → (offs d)[i]? = some (v - minI d).toNat) := fun i v h => by rw [offs, List.getElem?_map, h]; rfl
  have HLE : Hid (∀ i v, d[i]? = some v → minI d ≤ v ∧ I64 v) := fun i v h => ⟨minI_le (List.mem_of_getElem? h), hz _ (List.mem_of_getElem? h)⟩
  clear hn hz
  go_enter Tryz.func340, Tryz.ntmps340
  go_wp2_with fail
  refine (mini_any A n c d w hr HN.out h0 (by omega)).mono ?_; rintro e w1 ⟨rfl, rfl⟩
  generalize minI d = ms at *
  generalize offs d = us at *
  go_wp2
  generalize w.alloc (.cells (Array.replicate n (Value.int .u64 0)) 169) = w0 at *
  clear hmk
  go_loopw [5, 17] (fun a b wr => ∃ i m : Nat, b = .int .i64 (i : Int) ∧ a = .int .i64 (m : Int) ∧ i ≤ n ∧ m ≤ 64 ∧ Hid (m = maxW (us.take i)) ∧ Blk wr w.heap.size 169 ((us.take i ++ List.replicate (n - i) 0).map Uv) ∧ Below w.heap.size w wr) (fun _ b _ => n - (intOf b).toNat)
  case atStart => exact ⟨0, 0, rfl, rfl, by omega, by omega, rfl, hst, hbel⟩
  case round =>
    clear hst hbel
    obtain ⟨i, m, rfl, rfl, hi, hm6, HM, hblk, hb⟩ := hrel
    by_cases hin : i < n
    · obtain ⟨v, hv⟩ : ∃ v, d[i]? = some v := ⟨_, List.getElem?_eq_getElem (by rw [HN.out]; exact hin)⟩
      obtain ⟨ad, rfl, hadb, cv⟩ := (hr.below hb).at_ (j := i) (u := Iv v) (by rw [List.getElem?_map, hv]; rfl)
      obtain ⟨hle, hv64⟩ := HLE.out i v hv
      have hu := HOO.out i v hv
      have HOE := Lib.hid (off_eq hv64 hm64 hle)
      have huU : U64 (v - ms).toNat := HOU.out _ (List.mem_of_getElem? hu)
      have HU := Lib.hid hu
      have hf := hblk.frozen i
      have hc := hblk.cellAt i (zeros_get HOL.out hin)
      clear hv hu hle
      generalize (v - ms).toNat = u at *
      go_upto_region 8 with fail
      rw [HOE.out]
      clear HOE hf hc cv
      have hblk2 := hblk.set_ i (.int .u64 (u : Int))
      rw [zeros_set HOL.out HU.out] at hblk2
      have hb2 : Below w.heap.size w (wr.setCell ⟨w.heap.size, i, none⟩ (.int .u64 (u : Int))) := hb.setCell (p := ⟨w.heap.size, i, none⟩) (Nat.le_refl _) _
      clear hblk hb
      generalize wr.setCell ⟨w.heap.size, i, none⟩ (.int .u64 (u : Int)) = wx at *
      have hc := hblk2.cellAt (u := .int .u64 (u : Int)) i (by rw [List.getElem?_map, List.take_add_one, HU.out]; simp [List.length_take, Nat.min_eq_left (show i ≤ us.length by rw [HOL.out]; omega)])
      have hmx : max (m : Int) (widthN u : Int) = ((max m (widthN u) : Nat) : Int) := by omega
      have hwu := width_u64 huU
      have HNX := Lib.hid (maxW_next HU.out)
      generalize hwd : widthN u = wd at *
      have HWD := Lib.hid hwd
      clear hwd
      go_wp2_with fail
      refine (width_any u _ huU).mono ?_; rintro e w1 ⟨rfl, rfl⟩
      rw [HWD.out]
      go_wp2
      go_roundw
      case rel => exact ⟨i + 1, max m wd, by go_num, rfl, by omega, by omega, by show _ = _; rw [HNX.out, ← HM.out], hblk2, hb2⟩
      case measure => simp [intOf]; omega
    · have hin2 : i = n := by omega
      subst hin2
      have hus : us.take i = us := by rw [← HOL.out, List.take_length]
      rw [hus] at HM hblk
      have hw0 := HM.out
      have hru : Rd wr wr.heap.size (some ⟨w.heap.size, 0, none⟩) (us.map Uv) := by
        have := hblk.rd
        simpa using this
      clear hblk hus hr
      have HPK := Lib.hid (packR_ok (xs := us) (k := m) hm6 (by rw [HOL.out]; omega) (fun v hv => by rw [hw0]; exact maxW_ge hv))
      have hpl : (packL us m).length ≤ 1000000 := by
        have h1 : us.length * m ≤ 4096 * 64 := Nat.mul_le_mul (by rw [HOL.out]; omega) hm6
        unfold packL packB
        simp only [List.length_map, List.length_range]
        omega
      rw [← hw0] at HB
      clear hw0 HM HMW
      go_wp2_with fail
      refine (pack_any (some ⟨w.heap.size, 0, none⟩) i i m us _ hru HOL.out HOU.out).mono ?_; rintro e w2 ⟨rfl, hb2⟩
      rw [HPK.out]
      have hb3 := bt hb hb2
      clear hb hb2 hru HPK HOL HOU HOO HLE HZ HN
      generalize packL us m = pk at *
      have hUz := zigN_U64 hm64
      have HZG : Hid (∀ ws : World, Calls Tryz.prog 192 #[.int .i64 ms] ws fun e w' => e = .returned (.int .u64 (zigN ms : Nat)) ∧ ws = w') := fun ws => zig_any ms ws hm64
      generalize zigN ms = zg at *
      have l1 := putL_len hUz
      obtain ⟨L1, hL1⟩ : ∃ L : List UInt8, L = putL zg ++ [UInt8.ofNat m] := ⟨_, rfl⟩
      have l2 : L1.length ≤ 11 := by rw [hL1]; simp; omega
      obtain ⟨L2, hL2⟩ : ∃ L : List UInt8, L = L1 ++ pk := ⟨_, rfl⟩
      have sa1 := sadd (P := Tryz.prog) (a := putL zg) (b := [UInt8.ofNat m]) (by simp; omega)
      have sa2 := sadd (P := Tryz.prog) (a := L1) (b := pk) (by omega)
      rw [← hL1] at sa1
      rw [← hL2] at sa2
      rw [← hL1, ← hL2] at HB
      clear hL1 hL2
      have hw8 : IntKind.u8.wrap (m : Int) = (m : Int) := IntWalk.u8_in _ (by omega)
      go_upto_region 11 with fail
      refine wp_region_L (fun _ w' => Below w2.heap.size w2 w') (by kernel_rfl) ?_
      have hB : Below w2.heap.size w2 w2.drew := Below.drew (Below.refl _ _)
      generalize w2.drew = wx at *
      refine wpAnyL_takeD (fun _ => True) (i := 0) (v := (.int .i64 ms)) (some 44) rfl rfl (by kernel_rfl) (by kernel_rfl) (by kernel_rfl) (fun _ _ _ h => h) (fun _ _ _ _ _ _ => trivial) (fun _ _ _ => Iff.rfl) trivial (Or.inl ⟨by rfl, fun w' hw' => by go_simp⟩) hB ?_
      simp only [Act.put, List.setIfInBounds_toArray, List.set_cons_zero, List.set_cons_succ]
      refine wpAnyL_takeD (fun _ => True) (i := 3) (v := (.int .i64 m)) (some 47) rfl rfl (by kernel_rfl) (by kernel_rfl) (by kernel_rfl) (fun _ _ _ h => h) (fun _ _ _ _ _ _ => trivial) (fun _ _ _ => Iff.rfl) trivial (Or.inl ⟨by rfl, fun w' hw' => by go_simp⟩) hB ?_
      simp only [Act.put, List.setIfInBounds_toArray, List.set_cons_zero, List.set_cons_succ]
      refine wpAnyL_takeD (fun _ => True) (i := 4) (v := (.int .u8 m)) (some 48) rfl rfl (by kernel_rfl) (by kernel_rfl) (by kernel_rfl) (fun _ _ _ h => h) (fun _ _ _ _ _ _ => trivial) (fun _ _ _ => Iff.rfl) trivial (Or.inl ⟨by rfl, fun w' hw' => by go_simp⟩) hB ?_
      simp only [Act.put, List.setIfInBounds_toArray, List.set_cons_zero, List.set_cons_succ]
      refine wpAnyL_takeD (fun _ => True) (i := 8) (v := (.string ⟨pk.toArray⟩)) (some 52) rfl rfl (by kernel_rfl) (by kernel_rfl) (by kernel_rfl) (fun _ _ _ h => h) (fun _ _ _ _ _ _ => trivial) (fun _ _ _ => Iff.rfl) trivial (Or.inl ⟨by rfl, fun w' hw' => by go_simp⟩) hB ?_
      simp only [Act.put, List.setIfInBounds_toArray, List.set_cons_zero, List.set_cons_succ]
      refine wpAnyL_lst (rs := [1, 5]) (by decide +kernel) ⟨List.cons_ne_nil _ _, ?_⟩
      refine List.forall_mem_cons.2 ⟨?_, List.forall_mem_cons.2 ⟨?_, (fun _ h => absurd h List.not_mem_nil)⟩⟩
      · skip
        refine wpOp_go (o := _) rfl (fun K hK => ?_)
        go_simp
        go_at_call 192
        refine (HZG.out _).mono ?_; rintro e wx ⟨rfl, rfl⟩
        refine hK _ _ ⟨hB, ?_⟩
        clear hK K
        refine wpAnyL_lst (rs := [2, 5]) (by decide +kernel) ⟨List.cons_ne_nil _ _, ?_⟩
        refine List.forall_mem_cons.2 ⟨?_, List.forall_mem_cons.2 ⟨?_, (fun _ h => absurd h List.not_mem_nil)⟩⟩
        · skip
          refine wpOp_go (o := _) rfl (fun K hK => ?_)
          go_simp
          go_at_call 78
          refine (put_any zg _ hUz).mono ?_; rintro e wx ⟨rfl, hbx⟩
          try replace hcb := keepc hcb hbx
          replace hB := bt hB hbx
          refine hK _ _ ⟨hB, ?_⟩
          clear hK K hbx
          refine wpAnyL_one (i := 5) (by decide +kernel) ?_
          refine wpOp_go (o := _) rfl (fun K hK => ?_)
          go_simp
          have hcb := newc wx 5 (.int .u8 (m : Int))
          replace hB := hB.alloc hB.size (.cells #[.int .u8 (m : Int)] 5)
          refine hK _ _ ⟨hB, ?_⟩
          clear hK K
          generalize wx.alloc (.cells #[.int .u8 (m : Int)] 5) = wx at *
          refine wpAnyL_one (i := 6) (by decide +kernel) ?_
          have hcv := byte_str_at Tryz.bytes Tryz.underlying5 Tryz.underlying9 m (by omega) _ _ hcb.1
          refine wpOp_go (o := _) rfl (fun K hK => ?_)
          go_simp
          refine hK _ _ ⟨hB, ?_⟩
          clear hK K hcv
          refine wpAnyL_takeD (fun _ => True) (i := 7) (v := (.string ⟨L1.toArray⟩)) (some 51) rfl rfl (by kernel_rfl) (by kernel_rfl) (by kernel_rfl) (fun _ _ _ h => h) (fun _ _ _ _ _ _ => trivial) (fun _ _ _ => Iff.rfl) trivial (Or.inl ⟨by rfl, fun w' hw' => by go_simp⟩) hB ?_
          simp only [Act.put, List.setIfInBounds_toArray, List.set_cons_zero, List.set_cons_succ]
          refine wpAnyL_takeD (fun _ => True) (i := 9) (v := (.string ⟨L2.toArray⟩)) (some 53) rfl rfl (by kernel_rfl) (by kernel_rfl) (by kernel_rfl) (fun _ _ _ h => h) (fun _ _ _ _ _ _ => trivial) (fun _ _ _ => Iff.rfl) trivial (Or.inl ⟨by rfl, fun w' hw' => by go_simp⟩) hB ?_
          simp only [Act.put, List.setIfInBounds_toArray, List.set_cons_zero, List.set_cons_succ]
          refine wpAnyL_takeD (fun _ => True) (i := 10) (v := (.string ⟨L2.toArray⟩)) (some 2) rfl rfl (by kernel_rfl) (by kernel_rfl) (by kernel_rfl) (fun _ _ _ h => h) (fun _ _ _ _ _ _ => trivial) (fun _ _ _ => Iff.rfl) trivial (Or.inl ⟨by rfl, fun w' hw' => by go_simp⟩) hB ?_
          simp only [Act.put, List.setIfInBounds_toArray, List.set_cons_zero, List.set_cons_succ]
          refine wpAnyL_done (by decide +kernel) ?_ _
          go_wp2
          go_ret
          exact ⟨by rw [HB.out]; rfl, bt hb3 hB⟩
        · skip
          refine wpOp_go (o := _) rfl (fun K hK => ?_)
          go_simp
          have hcb := newc wx 5 (.int .u8 (m : Int))
          replace hB := hB.alloc hB.size (.cells #[.int .u8 (m : Int)] 5)
          refine hK _ _ ⟨hB, ?_⟩
          clear hK K
          generalize wx.alloc (.cells #[.int .u8 (m : Int)] 5) = wx at *
          refine wpAnyL_lst (rs := [2, 6]) (by decide +kernel) ⟨List.cons_ne_nil _ _, ?_⟩
          refine List.forall_mem_cons.2 ⟨?_, List.forall_mem_cons.2 ⟨?_, (fun _ h => absurd h List.not_mem_nil)⟩⟩
          · skip
            refine wpOp_go (o := _) rfl (fun K hK => ?_)
            go_simp
            go_at_call 78
            refine (put_any zg _ hUz).mono ?_; rintro e wx ⟨rfl, hbx⟩
            try replace hcb := keepc hcb hbx
            replace hB := bt hB hbx
            refine hK _ _ ⟨hB, ?_⟩
            clear hK K hbx
            refine wpAnyL_one (i := 6) (by decide +kernel) ?_
            have hcv := byte_str_at Tryz.bytes Tryz.underlying5 Tryz.underlying9 m (by omega) _ _ hcb.1
            refine wpOp_go (o := _) rfl (fun K hK => ?_)
            go_simp
            refine hK _ _ ⟨hB, ?_⟩
            clear hK K hcv
            refine wpAnyL_takeD (fun _ => True) (i := 7) (v := (.string ⟨L1.toArray⟩)) (some 51) rfl rfl (by kernel_rfl) (by kernel_rfl) (by kernel_rfl) (fun _ _ _ h => h) (fun _ _ _ _ _ _ => trivial) (fun _ _ _ => Iff.rfl) trivial (Or.inl ⟨by rfl, fun w' hw' => by go_simp⟩) hB ?_
            simp only [Act.put, List.setIfInBounds_toArray, List.set_cons_zero, List.set_cons_succ]
            refine wpAnyL_takeD (fun _ => True) (i := 9) (v := (.string ⟨L2.toArray⟩)) (some 53) rfl rfl (by kernel_rfl) (by kernel_rfl) (by kernel_rfl) (fun _ _ _ h => h) (fun _ _ _ _ _ _ => trivial) (fun _ _ _ => Iff.rfl) trivial (Or.inl ⟨by rfl, fun w' hw' => by go_simp⟩) hB ?_
            simp only [Act.put, List.setIfInBounds_toArray, List.set_cons_zero, List.set_cons_succ]
            refine wpAnyL_takeD (fun _ => True) (i := 10) (v := (.string ⟨L2.toArray⟩)) (some 2) rfl rfl (by kernel_rfl) (by kernel_rfl) (by kernel_rfl) (fun _ _ _ h => h) (fun _ _ _ _ _ _ => trivial) (fun _ _ _ => Iff.rfl) trivial (Or.inl ⟨by rfl, fun w' hw' => by go_simp⟩) hB ?_
            simp only [Act.put, List.setIfInBounds_toArray, List.set_cons_zero, List.set_cons_succ]
            refine wpAnyL_done (by decide +kernel) ?_ _
            go_wp2
            go_ret
            exact ⟨by rw [HB.out]; rfl, bt hb3 hB⟩
          · skip
            have hcv := byte_str_at Tryz.bytes Tryz.underlying5 Tryz.underlying9 m (by omega) _ _ hcb.1
            refine wpOp_go (o := _) rfl (fun K hK => ?_)
            go_simp
            refine hK _ _ ⟨hB, ?_⟩
            clear hK K hcv
            refine wpAnyL_one (i := 2) (by decide +kernel) ?_
            refine wpOp_go (o := _) rfl (fun K hK => ?_)
            go_simp
            go_at_call 78
            refine (put_any zg _ hUz).mono ?_; rintro e wx ⟨rfl, hbx⟩
            try replace hcb := keepc hcb hbx
            replace hB := bt hB hbx
            refine hK _ _ ⟨hB, ?_⟩
            clear hK K hbx
            refine wpAnyL_takeD (fun _ => True) (i := 7) (v := (.string ⟨L1.toArray⟩)) (some 51) rfl rfl (by kernel_rfl) (by kernel_rfl) (by kernel_rfl) (fun _ _ _ h => h) (fun _ _ _ _ _ _ => trivial) (fun _ _ _ => Iff.rfl) trivial (Or.inl ⟨by rfl, fun w' hw' => by go_simp⟩) hB ?_
            simp only [Act.put, List.setIfInBounds_toArray, List.set_cons_zero, List.set_cons_succ]
            refine wpAnyL_takeD (fun _ => True) (i := 9) (v := (.string ⟨L2.toArray⟩)) (some 53) rfl rfl (by kernel_rfl) (by kernel_rfl) (by kernel_rfl) (fun _ _ _ h => h) (fun _ _ _ _ _ _ => trivial) (fun _ _ _ => Iff.rfl) trivial (Or.inl ⟨by rfl, fun w' hw' => by go_simp⟩) hB ?_
            simp only [Act.put, List.setIfInBounds_toArray, List.set_cons_zero, List.set_cons_succ]
            refine wpAnyL_takeD (fun _ => True) (i := 10) (v := (.string ⟨L2.toArray⟩)) (some 2) rfl rfl (by kernel_rfl) (by kernel_rfl) (by kernel_rfl) (fun _ _ _ h => h) (fun _ _ _ _ _ _ => trivial) (fun _ _ _ => Iff.rfl) trivial (Or.inl ⟨by rfl, fun w' hw' => by go_simp⟩) hB ?_
            simp only [Act.put, List.setIfInBounds_toArray, List.set_cons_zero, List.set_cons_succ]
            refine wpAnyL_done (by decide +kernel) ?_ _
            go_wp2
            go_ret
            exact ⟨by rw [HB.out]; rfl, bt hb3 hB⟩
      · skip
        refine wpOp_go (o := _) rfl (fun K hK => ?_)
        go_simp
        have hcb := newc wx 5 (.int .u8 (m : Int))
        replace hB := hB.alloc hB.size (.cells #[.int .u8 (m : Int)] 5)
        refine hK _ _ ⟨hB, ?_⟩
        clear hK K
        generalize wx.alloc (.cells #[.int .u8 (m : Int)] 5) = wx at *
        refine wpAnyL_lst (rs := [1, 6]) (by decide +kernel) ⟨List.cons_ne_nil _ _, ?_⟩
        refine List.forall_mem_cons.2 ⟨?_, List.forall_mem_cons.2 ⟨?_, (fun _ h => absurd h List.not_mem_nil)⟩⟩
        · skip
          refine wpOp_go (o := _) rfl (fun K hK => ?_)
          go_simp
          go_at_call 192
          refine (HZG.out _).mono ?_; rintro e wx ⟨rfl, rfl⟩
          refine hK _ _ ⟨hB, ?_⟩
          clear hK K
          refine wpAnyL_lst (rs := [2, 6]) (by decide +kernel) ⟨List.cons_ne_nil _ _, ?_⟩
          refine List.forall_mem_cons.2 ⟨?_, List.forall_mem_cons.2 ⟨?_, (fun _ h => absurd h List.not_mem_nil)⟩⟩
          · skip
            refine wpOp_go (o := _) rfl (fun K hK => ?_)
            go_simp
            go_at_call 78
            refine (put_any zg _ hUz).mono ?_; rintro e wx ⟨rfl, hbx⟩
            try replace hcb := keepc hcb hbx
            replace hB := bt hB hbx
            refine hK _ _ ⟨hB, ?_⟩
            clear hK K hbx
            refine wpAnyL_one (i := 6) (by decide +kernel) ?_
            have hcv := byte_str_at Tryz.bytes Tryz.underlying5 Tryz.underlying9 m (by omega) _ _ hcb.1
            refine wpOp_go (o := _) rfl (fun K hK => ?_)
            go_simp
            refine hK _ _ ⟨hB, ?_⟩
            clear hK K hcv
            refine wpAnyL_takeD (fun _ => True) (i := 7) (v := (.string ⟨L1.toArray⟩)) (some 51) rfl rfl (by kernel_rfl) (by kernel_rfl) (by kernel_rfl) (fun _ _ _ h => h) (fun _ _ _ _ _ _ => trivial) (fun _ _ _ => Iff.rfl) trivial (Or.inl ⟨by rfl, fun w' hw' => by go_simp⟩) hB ?_
            simp only [Act.put, List.setIfInBounds_toArray, List.set_cons_zero, List.set_cons_succ]
            refine wpAnyL_takeD (fun _ => True) (i := 9) (v := (.string ⟨L2.toArray⟩)) (some 53) rfl rfl (by kernel_rfl) (by kernel_rfl) (by kernel_rfl) (fun _ _ _ h => h) (fun _ _ _ _ _ _ => trivial) (fun _ _ _ => Iff.rfl) trivial (Or.inl ⟨by rfl, fun w' hw' => by go_simp⟩) hB ?_
            simp only [Act.put, List.setIfInBounds_toArray, List.set_cons_zero, List.set_cons_succ]
            refine wpAnyL_takeD (fun _ => True) (i := 10) (v := (.string ⟨L2.toArray⟩)) (some 2) rfl rfl (by kernel_rfl) (by kernel_rfl) (by kernel_rfl) (fun _ _ _ h => h) (fun _ _ _ _ _ _ => trivial) (fun _ _ _ => Iff.rfl) trivial (Or.inl ⟨by rfl, fun w' hw' => by go_simp⟩) hB ?_
            simp only [Act.put, List.setIfInBounds_toArray, List.set_cons_zero, List.set_cons_succ]
            refine wpAnyL_done (by decide +kernel) ?_ _
            go_wp2
            go_ret
            exact ⟨by rw [HB.out]; rfl, bt hb3 hB⟩
          · skip
            have hcv := byte_str_at Tryz.bytes Tryz.underlying5 Tryz.underlying9 m (by omega) _ _ hcb.1
            refine wpOp_go (o := _) rfl (fun K hK => ?_)
            go_simp
            refine hK _ _ ⟨hB, ?_⟩
            clear hK K hcv
            refine wpAnyL_one (i := 2) (by decide +kernel) ?_
            refine wpOp_go (o := _) rfl (fun K hK => ?_)
            go_simp
            go_at_call 78
            refine (put_any zg _ hUz).mono ?_; rintro e wx ⟨rfl, hbx⟩
            try replace hcb := keepc hcb hbx
            replace hB := bt hB hbx
            refine hK _ _ ⟨hB, ?_⟩
            clear hK K hbx
            refine wpAnyL_takeD (fun _ => True) (i := 7) (v := (.string ⟨L1.toArray⟩)) (some 51) rfl rfl (by kernel_rfl) (by kernel_rfl) (by kernel_rfl) (fun _ _ _ h => h) (fun _ _ _ _ _ _ => trivial) (fun _ _ _ => Iff.rfl) trivial (Or.inl ⟨by rfl, fun w' hw' => by go_simp⟩) hB ?_
            simp only [Act.put, List.setIfInBounds_toArray, List.set_cons_zero, List.set_cons_succ]
            refine wpAnyL_takeD (fun _ => True) (i := 9) (v := (.string ⟨L2.toArray⟩)) (some 53) rfl rfl (by kernel_rfl) (by kernel_rfl) (by kernel_rfl) (fun _ _ _ h => h) (fun _ _ _ _ _ _ => trivial) (fun _ _ _ => Iff.rfl) trivial (Or.inl ⟨by rfl, fun w' hw' => by go_simp⟩) hB ?_
            simp only [Act.put, List.setIfInBounds_toArray, List.set_cons_zero, List.set_cons_succ]
            refine wpAnyL_takeD (fun _ => True) (i := 10) (v := (.string ⟨L2.toArray⟩)) (some 2) rfl rfl (by kernel_rfl) (by kernel_rfl) (by kernel_rfl) (fun _ _ _ h => h) (fun _ _ _ _ _ _ => trivial) (fun _ _ _ => Iff.rfl) trivial (Or.inl ⟨by rfl, fun w' hw' => by go_simp⟩) hB ?_
            simp only [Act.put, List.setIfInBounds_toArray, List.set_cons_zero, List.set_cons_succ]
            refine wpAnyL_done (by decide +kernel) ?_ _
            go_wp2
            go_ret
            exact ⟨by rw [HB.out]; rfl, bt hb3 hB⟩
        · skip
          have hcv := byte_str_at Tryz.bytes Tryz.underlying5 Tryz.underlying9 m (by omega) _ _ hcb.1
          refine wpOp_go (o := _) rfl (fun K hK => ?_)
          go_simp
          refine hK _ _ ⟨hB, ?_⟩
          clear hK K hcv
          refine wpAnyL_one (i := 1) (by decide +kernel) ?_
          refine wpOp_go (o := _) rfl (fun K hK => ?_)
          go_simp
          go_at_call 192
          refine (HZG.out _).mono ?_; rintro e wx ⟨rfl, rfl⟩
          refine hK _ _ ⟨hB, ?_⟩
          clear hK K
          refine wpAnyL_one (i := 2) (by decide +kernel) ?_
          refine wpOp_go (o := _) rfl (fun K hK => ?_)
          go_simp
          go_at_call 78
          refine (put_any zg _ hUz).mono ?_; rintro e wx ⟨rfl, hbx⟩
          try replace hcb := keepc hcb hbx
          replace hB := bt hB hbx
          refine hK _ _ ⟨hB, ?_⟩
          clear hK K hbx
          refine wpAnyL_takeD (fun _ => True) (i := 7) (v := (.string ⟨L1.toArray⟩)) (some 51) rfl rfl (by kernel_rfl) (by kernel_rfl) (by kernel_rfl) (fun _ _ _ h => h) (fun _ _ _ _ _ _ => trivial) (fun _ _ _ => Iff.rfl) trivial (Or.inl ⟨by rfl, fun w' hw' => by go_simp⟩) hB ?_
          simp only [Act.put, List.setIfInBounds_toArray, List.set_cons_zero, List.set_cons_succ]
          refine wpAnyL_takeD (fun _ => True) (i := 9) (v := (.string ⟨L2.toArray⟩)) (some 53) rfl rfl (by kernel_rfl) (by kernel_rfl) (by kernel_rfl) (fun _ _ _ h => h) (fun _ _ _ _ _ _ => trivial) (fun _ _ _ => Iff.rfl) trivial (Or.inl ⟨by rfl, fun w' hw' => by go_simp⟩) hB ?_
          simp only [Act.put, List.setIfInBounds_toArray, List.set_cons_zero, List.set_cons_succ]
          refine wpAnyL_takeD (fun _ => True) (i := 10) (v := (.string ⟨L2.toArray⟩)) (some 2) rfl rfl (by kernel_rfl) (by kernel_rfl) (by kernel_rfl) (fun _ _ _ h => h) (fun _ _ _ _ _ _ => trivial) (fun _ _ _ => Iff.rfl) trivial (Or.inl ⟨by rfl, fun w' hw' => by go_simp⟩) hB ?_
          simp only [Act.put, List.setIfInBounds_toArray, List.set_cons_zero, List.set_cons_succ]
          refine wpAnyL_done (by decide +kernel) ?_ _
          go_wp2
          go_ret
          exact ⟨by rw [HB.out]; rfl, bt hb3 hB⟩

end Go.Proofs.YtodegmphcjgipaaGreatDoor
