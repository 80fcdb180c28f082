/-
  zone.Put and the reference's PutZone.
-/
import Derived.Test.YtnichmblekbccaaVVal
import Derived.Test.YtnichmblekbccaaZOf
import Derived.Test.YtnichmblekbccaaZFrame
import Derived.Lib.MinMax
namespace Go.Proofs.Ytnichmblekbccaa
open Go.RowKit

/-- The bytes of a zone. -/
def zoneP (z : Zn) : List UInt8 := putL z.rows.toNat ++ putL z.nulls.toNat ++ valP z.mn ++ valP z.mx
theorem toNat_U64 {n : Int} (h : I64 n) : U64 n.toNat := by unfold I64 U64 at *; omega
theorem max_nat {n : Int} : max n 0 = (n.toNat : Int) := by omega
theorem max_nat' {n : Int} : max 0 n = (n.toNat : Int) := by omega
theorem wrap_nat {n : Nat} (h : U64 n) : IntKind.u64.wrap (n : Int) = (n : Int) := IntWalk.u64_in _ (by unfold U64 at h; omega)

set_option maxRecDepth 100000 in
set_option maxHeartbeats 2000000 in
theorem zput_any (z : Zn) (w : World) (hz : ZnOk z) : Calls Try.prog 25 #[Zv z] w fun e w' => e = .returned (Sv (zoneP z)) ∧ Below w.heap.size w w' := by
  obtain ⟨zr, zn, ⟨mn, mi, mz⟩, ⟨xn, xi, xz⟩⟩ := z
  dsimp only [Zv] at *
  have hV := Blk.new' w 25 #[.int .i64 zr, .int .i64 zn, .bool mn, .int .i64 mi, .string mz, .bool xn, .int .i64 xi, .string xz]
  have hbel : Below w.heap.size w (w.alloc (.cells #[.int .i64 zr, .int .i64 zn, .bool mn, .int .i64 mi, .string mz, .bool xn, .int .i64 xi, .string xz] 25)) := (Below.refl _ _).alloc (Nat.le_refl _) _
  have hU1 := toNat_U64 hz.rows
  have hU2 := toNat_U64 hz.nulls
  have hn1 := hz.mn.n
  have hn2 := hz.mx.n
  have hs1 := hz.mn.s
  have hs2 := hz.mx.s
  dsimp only at hU1 hU2 hn1 hn2 hs1 hs2
  clear hz
  have hm1 : max zr 0 = (zr.toNat : Int) := max_nat
  have hm2 : max zn 0 = (zn.toNat : Int) := max_nat
  have hm3 : max 0 zr = (zr.toNat : Int) := max_nat'
  have hm4 : max 0 zn = (zn.toNat : Int) := max_nat'
  have hw1 := wrap_nat hU1
  have hw2 := wrap_nat hU2
  have HP := Lib.hid (show zoneP ⟨zr, zn, ⟨mn, mi, mz⟩, ⟨xn, xi, xz⟩⟩ = putL zr.toNat ++ putL zn.toNat ++ valP ⟨mn, mi, mz⟩ ++ valP ⟨xn, xi, xz⟩ from rfl)
  have l1 := putL_len hU1
  have l2 := putL_len hU2
  have l3 := valP_len (v := ⟨mn, mi, mz⟩) hn1 (by dsimp only; omega)
  have l4 := valP_len (v := ⟨xn, xi, xz⟩) hn2 (by dsimp only; omega)
  dsimp only at l3 l4
  have HV1 : Hid (∀ ws : World, Calls Try.prog 45 #[.agg #[.bool mn, .int .i64 mi, .string mz]] ws fun e w' => e = .returned (Sv (valP ⟨mn, mi, mz⟩)) ∧ Below ws.heap.size ws w') := fun ws => vput_any ⟨mn, mi, mz⟩ ws hn1 (by dsimp only; omega)
  have HV2 : Hid (∀ ws : World, Calls Try.prog 45 #[.agg #[.bool xn, .int .i64 xi, .string xz]] ws fun e w' => e = .returned (Sv (valP ⟨xn, xi, xz⟩)) ∧ Below ws.heap.size ws w') := fun ws => vput_any ⟨xn, xi, xz⟩ ws hn2 (by dsimp only; omega)
  generalize valP ⟨mn, mi, mz⟩ = p1 at *
  generalize valP ⟨xn, xi, xz⟩ = p2 at *
  generalize zr.toNat = rN at *
  generalize zn.toNat = nN at *
  obtain ⟨L1, hL1⟩ : ∃ L : List UInt8, L = putL rN ++ putL nN := ⟨_, rfl⟩
  have l5 : L1.length ≤ 20 := by rw [hL1]; simp; omega
  obtain ⟨L2, hL2⟩ : ∃ L : List UInt8, L = L1 ++ p1 := ⟨_, rfl⟩
  have l6 : L2.length ≤ 41 + mz.size := by rw [hL2]; simp; omega
  obtain ⟨L3, hL3⟩ : ∃ L : List UInt8, L = L2 ++ p2 := ⟨_, rfl⟩
  have sa1 := sadd (P := Try.prog) (a := putL rN) (b := putL nN) (by omega)
  have sa2 := sadd (P := Try.prog) (a := L1) (b := p1) (by omega)
  have sa3 := sadd (P := Try.prog) (a := L2) (b := p2) (by omega)
  rw [← hL1] at sa1
  rw [← hL2] at sa2
  rw [← hL3] at sa3
  rw [← hL1, ← hL2, ← hL3] at HP
  clear hL1 hL2 hL3 l1 l2 l3 l4 l5 l6 hs1 hs2 hn1 hn2
  go_enter Try.func25, Try.ntmps25
  go_upto_region 1 with fail
  generalize w.alloc (.cells #[.int .i64 zr, .int .i64 zn, .bool mn, .int .i64 mi, .string mz, .bool xn, .int .i64 xi, .string xz] 25) = wa at *
  have MK : Hid (∀ w', Below wa.heap.size wa w' → (Below wa.heap.size wa w' ∧ w'.cell? ⟨w.heap.size, 0, none⟩ = some (.int .i64 zr) ∧ w'.cell? ⟨w.heap.size, 1, none⟩ = some (.int .i64 zn) ∧ w'.cell? ⟨w.heap.size, 2, none⟩ = some (.bool mn) ∧ w'.cell? ⟨w.heap.size, 3, none⟩ = some (.int .i64 mi) ∧ w'.cell? ⟨w.heap.size, 4, none⟩ = some (.string mz) ∧ w'.cell? ⟨w.heap.size, 5, none⟩ = some (.bool xn) ∧ w'.cell? ⟨w.heap.size, 6, none⟩ = some (.int .i64 xi) ∧ w'.cell? ⟨w.heap.size, 7, none⟩ = some (.string xz))) := fun w' h => ⟨h, (hV.call h).cellAt 0 rfl, (hV.call h).cellAt 1 rfl, (hV.call h).cellAt 2 rfl, (hV.call h).cellAt 3 rfl, (hV.call h).cellAt 4 rfl, (hV.call h).cellAt 5 rfl, (hV.call h).cellAt 6 rfl, (hV.call h).cellAt 7 rfl⟩
  refine wp_region_L (fun _ w' => Below wa.heap.size wa w' ∧ w'.cell? ⟨w.heap.size, 0, none⟩ = some (.int .i64 zr) ∧ w'.cell? ⟨w.heap.size, 1, none⟩ = some (.int .i64 zn) ∧ w'.cell? ⟨w.heap.size, 2, none⟩ = some (.bool mn) ∧ w'.cell? ⟨w.heap.size, 3, none⟩ = some (.int .i64 mi) ∧ w'.cell? ⟨w.heap.size, 4, none⟩ = some (.string mz) ∧ w'.cell? ⟨w.heap.size, 5, none⟩ = some (.bool xn) ∧ w'.cell? ⟨w.heap.size, 6, none⟩ = some (.int .i64 xi) ∧ w'.cell? ⟨w.heap.size, 7, none⟩ = some (.string xz)) (by kernel_rfl) ?_
  have hB : Below wa.heap.size wa wa.drew := Below.drew (Below.refl _ _)
  generalize wa.drew = wx at *
  have HS := Lib.hid (MK.out _ hB)
  refine wpAnyL_takeD (fun _ => True) (i := 0) (v := (.pointer (some ⟨w.heap.size, 0, none⟩))) (some 3) rfl rfl (by kernel_rfl) (by kernel_rfl) (by kernel_rfl) (fun _ _ _ h => h) (fun _ _ _ _ _ _ => trivial) (fun _ _ _ => Iff.rfl) trivial (Or.inl ⟨by rfl, fun w' hw' => by obtain ⟨l, _, hl⟩ := hw'; obtain ⟨_, k0, k1, k2, k3, k4, k5, k6, k7⟩ := hl; go_simp⟩) HS.out ?_
  simp only [Act.put, List.setIfInBounds_toArray, List.set_cons_zero, List.set_cons_succ]
  refine wpAnyL_takeD (fun _ => True) (i := 1) (v := (.int .i64 zr)) (some 4) rfl rfl (by kernel_rfl) (by kernel_rfl) (by kernel_rfl) (fun _ _ _ h => h) (fun _ _ _ _ _ _ => trivial) (fun _ _ _ => Iff.rfl) trivial (Or.inl ⟨by rfl, fun w' hw' => by obtain ⟨l, _, hl⟩ := hw'; obtain ⟨_, k0, k1, k2, k3, k4, k5, k6, k7⟩ := hl; go_simp⟩) HS.out ?_
  simp only [Act.put, List.setIfInBounds_toArray, List.set_cons_zero, List.set_cons_succ]
  refine wpAnyL_takeD (fun _ => True) (i := 2) (v := (.int .i64 rN)) (some 5) rfl rfl (by kernel_rfl) (by kernel_rfl) (by kernel_rfl) (fun _ _ _ h => h) (fun _ _ _ _ _ _ => trivial) (fun _ _ _ => Iff.rfl) trivial (Or.inl ⟨by rfl, fun w' hw' => by obtain ⟨l, _, hl⟩ := hw'; obtain ⟨_, k0, k1, k2, k3, k4, k5, k6, k7⟩ := hl; go_simp⟩) HS.out ?_
  simp only [Act.put, List.setIfInBounds_toArray, List.set_cons_zero, List.set_cons_succ]
  refine wpAnyL_takeD (fun _ => True) (i := 3) (v := (.int .u64 rN)) (some 6) rfl rfl (by kernel_rfl) (by kernel_rfl) (by kernel_rfl) (fun _ _ _ h => h) (fun _ _ _ _ _ _ => trivial) (fun _ _ _ => Iff.rfl) trivial (Or.inl ⟨by rfl, fun w' hw' => by obtain ⟨l, _, hl⟩ := hw'; obtain ⟨_, k0, k1, k2, k3, k4, k5, k6, k7⟩ := hl; go_simp⟩) HS.out ?_
  simp only [Act.put, List.setIfInBounds_toArray, List.set_cons_zero, List.set_cons_succ]
  refine wpAnyL_takeD (fun _ => True) (i := 5) (v := (.pointer (some ⟨w.heap.size, 1, none⟩))) (some 8) rfl rfl (by kernel_rfl) (by kernel_rfl) (by kernel_rfl) (fun _ _ _ h => h) (fun _ _ _ _ _ _ => trivial) (fun _ _ _ => Iff.rfl) trivial (Or.inl ⟨by rfl, fun w' hw' => by obtain ⟨l, _, hl⟩ := hw'; obtain ⟨_, k0, k1, k2, k3, k4, k5, k6, k7⟩ := hl; go_simp⟩) HS.out ?_
  simp only [Act.put, List.setIfInBounds_toArray, List.set_cons_zero, List.set_cons_succ]
  refine wpAnyL_takeD (fun _ => True) (i := 6) (v := (.int .i64 zn)) (some 9) rfl rfl (by kernel_rfl) (by kernel_rfl) (by kernel_rfl) (fun _ _ _ h => h) (fun _ _ _ _ _ _ => trivial) (fun _ _ _ => Iff.rfl) trivial (Or.inl ⟨by rfl, fun w' hw' => by obtain ⟨l, _, hl⟩ := hw'; obtain ⟨_, k0, k1, k2, k3, k4, k5, k6, k7⟩ := hl; go_simp⟩) HS.out ?_
  simp only [Act.put, List.setIfInBounds_toArray, List.set_cons_zero, List.set_cons_succ]
  refine wpAnyL_takeD (fun _ => True) (i := 7) (v := (.int .i64 nN)) (some 10) rfl rfl (by kernel_rfl) (by kernel_rfl) (by kernel_rfl) (fun _ _ _ h => h) (fun _ _ _ _ _ _ => trivial) (fun _ _ _ => Iff.rfl) trivial (Or.inl ⟨by rfl, fun w' hw' => by obtain ⟨l, _, hl⟩ := hw'; obtain ⟨_, k0, k1, k2, k3, k4, k5, k6, k7⟩ := hl; go_simp⟩) HS.out ?_
  simp only [Act.put, List.setIfInBounds_toArray, List.set_cons_zero, List.set_cons_succ]
  refine wpAnyL_takeD (fun _ => True) (i := 8) (v := (.int .u64 nN)) (some 11) rfl rfl (by kernel_rfl) (by kernel_rfl) (by kernel_rfl) (fun _ _ _ h => h) (fun _ _ _ _ _ _ => trivial) (fun _ _ _ => Iff.rfl) trivial (Or.inl ⟨by rfl, fun w' hw' => by obtain ⟨l, _, hl⟩ := hw'; obtain ⟨_, k0, k1, k2, k3, k4, k5, k6, k7⟩ := hl; go_simp⟩) HS.out ?_
  simp only [Act.put, List.setIfInBounds_toArray, List.set_cons_zero, List.set_cons_succ]
  refine wpAnyL_takeD (fun _ => True) (i := 11) (v := (.pointer (some ⟨w.heap.size, 2, none⟩))) (some 14) rfl rfl (by kernel_rfl) (by kernel_rfl) (by kernel_rfl) (fun _ _ _ h => h) (fun _ _ _ _ _ _ => trivial) (fun _ _ _ => Iff.rfl) trivial (Or.inl ⟨by rfl, fun w' hw' => by obtain ⟨l, _, hl⟩ := hw'; obtain ⟨_, k0, k1, k2, k3, k4, k5, k6, k7⟩ := hl; go_simp⟩) HS.out ?_
  simp only [Act.put, List.setIfInBounds_toArray, List.set_cons_zero, List.set_cons_succ]
  refine wpAnyL_takeD (fun _ => True) (i := 12) (v := (.agg #[.bool mn, .int .i64 mi, .string mz])) (some 15) rfl rfl (by kernel_rfl) (by kernel_rfl) (by kernel_rfl) (fun _ _ _ h => h) (fun _ _ _ _ _ _ => trivial) (fun _ _ _ => Iff.rfl) trivial (Or.inl ⟨by rfl, fun w' hw' => by obtain ⟨l, _, hl⟩ := hw'; obtain ⟨_, k0, k1, k2, k3, k4, k5, k6, k7⟩ := hl; go_simp⟩) HS.out ?_
  simp only [Act.put, List.setIfInBounds_toArray, List.set_cons_zero, List.set_cons_succ]
  refine wpAnyL_takeD (fun _ => True) (i := 15) (v := (.pointer (some ⟨w.heap.size, 5, none⟩))) (some 18) rfl rfl (by kernel_rfl) (by kernel_rfl) (by kernel_rfl) (fun _ _ _ h => h) (fun _ _ _ _ _ _ => trivial) (fun _ _ _ => Iff.rfl) trivial (Or.inl ⟨by rfl, fun w' hw' => by obtain ⟨l, _, hl⟩ := hw'; obtain ⟨_, k0, k1, k2, k3, k4, k5, k6, k7⟩ := hl; go_simp⟩) HS.out ?_
  simp only [Act.put, List.setIfInBounds_toArray, List.set_cons_zero, List.set_cons_succ]
  refine wpAnyL_takeD (fun _ => True) (i := 16) (v := (.agg #[.bool xn, .int .i64 xi, .string xz])) (some 19) rfl rfl (by kernel_rfl) (by kernel_rfl) (by kernel_rfl) (fun _ _ _ h => h) (fun _ _ _ _ _ _ => trivial) (fun _ _ _ => Iff.rfl) trivial (Or.inl ⟨by rfl, fun w' hw' => by obtain ⟨l, _, hl⟩ := hw'; obtain ⟨_, k0, k1, k2, k3, k4, k5, k6, k7⟩ := hl; go_simp⟩) HS.out ?_
  simp only [Act.put, List.setIfInBounds_toArray, List.set_cons_zero, List.set_cons_succ]
  refine wpAnyL_one (i := 4) (by decide +kernel) ?_
  refine wpOp_go (o := _) rfl (fun K hK => ?_)
  go_simp
  go_at_call 44
  refine ((put_any rN _ hU1)).mono ?_; rintro e wx ⟨rfl, hbx⟩
  replace hB := bt hB hbx
  refine hK _ _ ⟨MK.out _ hB, ?_⟩
  clear hK K hbx HS
  have HS := Lib.hid (MK.out _ hB)
  refine wpAnyL_one (i := 9) (by decide +kernel) ?_
  refine wpOp_go (o := _) rfl (fun K hK => ?_)
  go_simp
  go_at_call 44
  refine ((put_any nN _ hU2)).mono ?_; rintro e wx ⟨rfl, hbx⟩
  replace hB := bt hB hbx
  refine hK _ _ ⟨MK.out _ hB, ?_⟩
  clear hK K hbx HS
  have HS := Lib.hid (MK.out _ hB)
  refine wpAnyL_takeD (fun _ => True) (i := 10) (v := (.string ⟨L1.toArray⟩)) (some 13) rfl rfl (by kernel_rfl) (by kernel_rfl) (by kernel_rfl) (fun _ _ _ h => h) (fun _ _ _ _ _ _ => trivial) (fun _ _ _ => Iff.rfl) trivial (Or.inl ⟨by rfl, fun w' hw' => by obtain ⟨l, _, hl⟩ := hw'; obtain ⟨_, k0, k1, k2, k3, k4, k5, k6, k7⟩ := hl; go_simp⟩) HS.out ?_
  simp only [Act.put, List.setIfInBounds_toArray, List.set_cons_zero, List.set_cons_succ]
  refine wpAnyL_one (i := 13) (by decide +kernel) ?_
  refine wpOp_go (o := _) rfl (fun K hK => ?_)
  go_simp
  go_at_call 45
  refine ((HV1.out _)).mono ?_; rintro e wx ⟨rfl, hbx⟩
  replace hB := bt hB hbx
  refine hK _ _ ⟨MK.out _ hB, ?_⟩
  clear hK K hbx HS
  have HS := Lib.hid (MK.out _ hB)
  refine wpAnyL_takeD (fun _ => True) (i := 14) (v := (.string ⟨L2.toArray⟩)) (some 17) rfl rfl (by kernel_rfl) (by kernel_rfl) (by kernel_rfl) (fun _ _ _ h => h) (fun _ _ _ _ _ _ => trivial) (fun _ _ _ => Iff.rfl) trivial (Or.inl ⟨by rfl, fun w' hw' => by obtain ⟨l, _, hl⟩ := hw'; obtain ⟨_, k0, k1, k2, k3, k4, k5, k6, k7⟩ := hl; go_simp⟩) HS.out ?_
  simp only [Act.put, List.setIfInBounds_toArray, List.set_cons_zero, List.set_cons_succ]
  refine wpAnyL_one (i := 17) (by decide +kernel) ?_
  refine wpOp_go (o := _) rfl (fun K hK => ?_)
  go_simp
  go_at_call 45
  refine ((HV2.out _)).mono ?_; rintro e wx ⟨rfl, hbx⟩
  replace hB := bt hB hbx
  refine hK _ _ ⟨MK.out _ hB, ?_⟩
  clear hK K hbx HS
  have HS := Lib.hid (MK.out _ hB)
  refine wpAnyL_takeD (fun _ => True) (i := 18) (v := (.string ⟨L3.toArray⟩)) (some 21) rfl rfl (by kernel_rfl) (by kernel_rfl) (by kernel_rfl) (fun _ _ _ h => h) (fun _ _ _ _ _ _ => trivial) (fun _ _ _ => Iff.rfl) trivial (Or.inl ⟨by rfl, fun w' hw' => by obtain ⟨l, _, hl⟩ := hw'; obtain ⟨_, k0, k1, k2, k3, k4, k5, k6, k7⟩ := hl; go_simp⟩) HS.out ?_
  simp only [Act.put, List.setIfInBounds_toArray, List.set_cons_zero, List.set_cons_succ]
  refine wpAnyL_takeD (fun _ => True) (i := 19) (v := (.string ⟨L3.toArray⟩)) (some 2) rfl rfl (by kernel_rfl) (by kernel_rfl) (by kernel_rfl) (fun _ _ _ h => h) (fun _ _ _ _ _ _ => trivial) (fun _ _ _ => Iff.rfl) trivial (Or.inl ⟨by rfl, fun w' hw' => by obtain ⟨l, _, hl⟩ := hw'; obtain ⟨_, k0, k1, k2, k3, k4, k5, k6, k7⟩ := hl; go_simp⟩) HS.out ?_
  simp only [Act.put, List.setIfInBounds_toArray, List.set_cons_zero, List.set_cons_succ]
  refine wpAnyL_done (by decide +kernel) ?_ _
  clear HS
  clear MK
  go_wp2
  go_ret
  exact ⟨by rw [HP.out]; rfl, bt hbel hB⟩
set_option maxRecDepth 100000 in
set_option maxHeartbeats 2000000 in
theorem rzput_any (z : Zn) (w : World) (hz : ZnOk z) : Calls Try.prog 24 #[Zv z] w fun e w' => e = .returned (Sv (zoneP z)) ∧ Below w.heap.size w w' := by
  obtain ⟨zr, zn, ⟨mn, mi, mz⟩, ⟨xn, xi, xz⟩⟩ := z
  dsimp only [Zv] at *
  have hV := Blk.new' w 25 #[.int .i64 zr, .int .i64 zn, .bool mn, .int .i64 mi, .string mz, .bool xn, .int .i64 xi, .string xz]
  have hbel : Below w.heap.size w (w.alloc (.cells #[.int .i64 zr, .int .i64 zn, .bool mn, .int .i64 mi, .string mz, .bool xn, .int .i64 xi, .string xz] 25)) := (Below.refl _ _).alloc (Nat.le_refl _) _
  have hU1 := toNat_U64 hz.rows
  have hU2 := toNat_U64 hz.nulls
  have hn1 := hz.mn.n
  have hn2 := hz.mx.n
  have hs1 := hz.mn.s
  have hs2 := hz.mx.s
  dsimp only at hU1 hU2 hn1 hn2 hs1 hs2
  clear hz
  have hm1 : max zr 0 = (zr.toNat : Int) := max_nat
  have hm2 : max zn 0 = (zn.toNat : Int) := max_nat
  have hm3 : max 0 zr = (zr.toNat : Int) := max_nat'
  have hm4 : max 0 zn = (zn.toNat : Int) := max_nat'
  have hw1 := wrap_nat hU1
  have hw2 := wrap_nat hU2
  have HP := Lib.hid (show zoneP ⟨zr, zn, ⟨mn, mi, mz⟩, ⟨xn, xi, xz⟩⟩ = putL zr.toNat ++ putL zn.toNat ++ valP ⟨mn, mi, mz⟩ ++ valP ⟨xn, xi, xz⟩ from rfl)
  have l1 := putL_len hU1
  have l2 := putL_len hU2
  have l3 := valP_len (v := ⟨mn, mi, mz⟩) hn1 (by dsimp only; omega)
  have l4 := valP_len (v := ⟨xn, xi, xz⟩) hn2 (by dsimp only; omega)
  dsimp only at l3 l4
  have HV1 : Hid (∀ ws : World, Calls Try.prog 43 #[.agg #[.bool mn, .int .i64 mi, .string mz]] ws fun e w' => e = .returned (Sv (valP ⟨mn, mi, mz⟩)) ∧ Below ws.heap.size ws w') := fun ws => rvput_any ⟨mn, mi, mz⟩ ws hn1 (by dsimp only; omega)
  have HV2 : Hid (∀ ws : World, Calls Try.prog 43 #[.agg #[.bool xn, .int .i64 xi, .string xz]] ws fun e w' => e = .returned (Sv (valP ⟨xn, xi, xz⟩)) ∧ Below ws.heap.size ws w') := fun ws => rvput_any ⟨xn, xi, xz⟩ ws hn2 (by dsimp only; omega)
  generalize valP ⟨mn, mi, mz⟩ = p1 at *
  generalize valP ⟨xn, xi, xz⟩ = p2 at *
  generalize zr.toNat = rN at *
  generalize zn.toNat = nN at *
  obtain ⟨L1, hL1⟩ : ∃ L : List UInt8, L = putL rN ++ putL nN := ⟨_, rfl⟩
  have l5 : L1.length ≤ 20 := by rw [hL1]; simp; omega
  obtain ⟨L2, hL2⟩ : ∃ L : List UInt8, L = L1 ++ p1 := ⟨_, rfl⟩
  have l6 : L2.length ≤ 41 + mz.size := by rw [hL2]; simp; omega
  obtain ⟨L3, hL3⟩ : ∃ L : List UInt8, L = L2 ++ p2 := ⟨_, rfl⟩
  have sa1 := sadd (P := Try.prog) (a := putL rN) (b := putL nN) (by omega)
  have sa2 := sadd (P := Try.prog) (a := L1) (b := p1) (by omega)
  have sa3 := sadd (P := Try.prog) (a := L2) (b := p2) (by omega)
  rw [← hL1] at sa1
  rw [← hL2] at sa2
  rw [← hL3] at sa3
  rw [← hL1, ← hL2, ← hL3] at HP
  clear hL1 hL2 hL3 l1 l2 l3 l4 l5 l6 hs1 hs2 hn1 hn2
  go_enter Try.func24, Try.ntmps24
  go_upto_region 1 with fail
  generalize w.alloc (.cells #[.int .i64 zr, .int .i64 zn, .bool mn, .int .i64 mi, .string mz, .bool xn, .int .i64 xi, .string xz] 25) = wa at *
  have MK : Hid (∀ w', Below wa.heap.size wa w' → (Below wa.heap.size wa w' ∧ w'.cell? ⟨w.heap.size, 0, none⟩ = some (.int .i64 zr) ∧ w'.cell? ⟨w.heap.size, 1, none⟩ = some (.int .i64 zn) ∧ w'.cell? ⟨w.heap.size, 2, none⟩ = some (.bool mn) ∧ w'.cell? ⟨w.heap.size, 3, none⟩ = some (.int .i64 mi) ∧ w'.cell? ⟨w.heap.size, 4, none⟩ = some (.string mz) ∧ w'.cell? ⟨w.heap.size, 5, none⟩ = some (.bool xn) ∧ w'.cell? ⟨w.heap.size, 6, none⟩ = some (.int .i64 xi) ∧ w'.cell? ⟨w.heap.size, 7, none⟩ = some (.string xz))) := fun w' h => ⟨h, (hV.call h).cellAt 0 rfl, (hV.call h).cellAt 1 rfl, (hV.call h).cellAt 2 rfl, (hV.call h).cellAt 3 rfl, (hV.call h).cellAt 4 rfl, (hV.call h).cellAt 5 rfl, (hV.call h).cellAt 6 rfl, (hV.call h).cellAt 7 rfl⟩
  refine wp_region_L (fun _ w' => Below wa.heap.size wa w' ∧ w'.cell? ⟨w.heap.size, 0, none⟩ = some (.int .i64 zr) ∧ w'.cell? ⟨w.heap.size, 1, none⟩ = some (.int .i64 zn) ∧ w'.cell? ⟨w.heap.size, 2, none⟩ = some (.bool mn) ∧ w'.cell? ⟨w.heap.size, 3, none⟩ = some (.int .i64 mi) ∧ w'.cell? ⟨w.heap.size, 4, none⟩ = some (.string mz) ∧ w'.cell? ⟨w.heap.size, 5, none⟩ = some (.bool xn) ∧ w'.cell? ⟨w.heap.size, 6, none⟩ = some (.int .i64 xi) ∧ w'.cell? ⟨w.heap.size, 7, none⟩ = some (.string xz)) (by kernel_rfl) ?_
  have hB : Below wa.heap.size wa wa.drew := Below.drew (Below.refl _ _)
  generalize wa.drew = wx at *
  have HS := Lib.hid (MK.out _ hB)
  refine wpAnyL_takeD (fun _ => True) (i := 0) (v := (.pointer (some ⟨w.heap.size, 0, none⟩))) (some 3) rfl rfl (by kernel_rfl) (by kernel_rfl) (by kernel_rfl) (fun _ _ _ h => h) (fun _ _ _ _ _ _ => trivial) (fun _ _ _ => Iff.rfl) trivial (Or.inl ⟨by rfl, fun w' hw' => by obtain ⟨l, _, hl⟩ := hw'; obtain ⟨_, k0, k1, k2, k3, k4, k5, k6, k7⟩ := hl; go_simp⟩) HS.out ?_
  simp only [Act.put, List.setIfInBounds_toArray, List.set_cons_zero, List.set_cons_succ]
  refine wpAnyL_takeD (fun _ => True) (i := 1) (v := (.int .i64 zr)) (some 4) rfl rfl (by kernel_rfl) (by kernel_rfl) (by kernel_rfl) (fun _ _ _ h => h) (fun _ _ _ _ _ _ => trivial) (fun _ _ _ => Iff.rfl) trivial (Or.inl ⟨by rfl, fun w' hw' => by obtain ⟨l, _, hl⟩ := hw'; obtain ⟨_, k0, k1, k2, k3, k4, k5, k6, k7⟩ := hl; go_simp⟩) HS.out ?_
  simp only [Act.put, List.setIfInBounds_toArray, List.set_cons_zero, List.set_cons_succ]
  refine wpAnyL_takeD (fun _ => True) (i := 2) (v := (.int .i64 rN)) (some 5) rfl rfl (by kernel_rfl) (by kernel_rfl) (by kernel_rfl) (fun _ _ _ h => h) (fun _ _ _ _ _ _ => trivial) (fun _ _ _ => Iff.rfl) trivial (Or.inl ⟨by rfl, fun w' hw' => by obtain ⟨l, _, hl⟩ := hw'; obtain ⟨_, k0, k1, k2, k3, k4, k5, k6, k7⟩ := hl; go_simp⟩) HS.out ?_
  simp only [Act.put, List.setIfInBounds_toArray, List.set_cons_zero, List.set_cons_succ]
  refine wpAnyL_takeD (fun _ => True) (i := 3) (v := (.int .u64 rN)) (some 6) rfl rfl (by kernel_rfl) (by kernel_rfl) (by kernel_rfl) (fun _ _ _ h => h) (fun _ _ _ _ _ _ => trivial) (fun _ _ _ => Iff.rfl) trivial (Or.inl ⟨by rfl, fun w' hw' => by obtain ⟨l, _, hl⟩ := hw'; obtain ⟨_, k0, k1, k2, k3, k4, k5, k6, k7⟩ := hl; go_simp⟩) HS.out ?_
  simp only [Act.put, List.setIfInBounds_toArray, List.set_cons_zero, List.set_cons_succ]
  refine wpAnyL_takeD (fun _ => True) (i := 5) (v := (.pointer (some ⟨w.heap.size, 1, none⟩))) (some 8) rfl rfl (by kernel_rfl) (by kernel_rfl) (by kernel_rfl) (fun _ _ _ h => h) (fun _ _ _ _ _ _ => trivial) (fun _ _ _ => Iff.rfl) trivial (Or.inl ⟨by rfl, fun w' hw' => by obtain ⟨l, _, hl⟩ := hw'; obtain ⟨_, k0, k1, k2, k3, k4, k5, k6, k7⟩ := hl; go_simp⟩) HS.out ?_
  simp only [Act.put, List.setIfInBounds_toArray, List.set_cons_zero, List.set_cons_succ]
  refine wpAnyL_takeD (fun _ => True) (i := 6) (v := (.int .i64 zn)) (some 9) rfl rfl (by kernel_rfl) (by kernel_rfl) (by kernel_rfl) (fun _ _ _ h => h) (fun _ _ _ _ _ _ => trivial) (fun _ _ _ => Iff.rfl) trivial (Or.inl ⟨by rfl, fun w' hw' => by obtain ⟨l, _, hl⟩ := hw'; obtain ⟨_, k0, k1, k2, k3, k4, k5, k6, k7⟩ := hl; go_simp⟩) HS.out ?_
  simp only [Act.put, List.setIfInBounds_toArray, List.set_cons_zero, List.set_cons_succ]
  refine wpAnyL_takeD (fun _ => True) (i := 7) (v := (.int .i64 nN)) (some 10) rfl rfl (by kernel_rfl) (by kernel_rfl) (by kernel_rfl) (fun _ _ _ h => h) (fun _ _ _ _ _ _ => trivial) (fun _ _ _ => Iff.rfl) trivial (Or.inl ⟨by rfl, fun w' hw' => by obtain ⟨l, _, hl⟩ := hw'; obtain ⟨_, k0, k1, k2, k3, k4, k5, k6, k7⟩ := hl; go_simp⟩) HS.out ?_
  simp only [Act.put, List.setIfInBounds_toArray, List.set_cons_zero, List.set_cons_succ]
  refine wpAnyL_takeD (fun _ => True) (i := 8) (v := (.int .u64 nN)) (some 11) rfl rfl (by kernel_rfl) (by kernel_rfl) (by kernel_rfl) (fun _ _ _ h => h) (fun _ _ _ _ _ _ => trivial) (fun _ _ _ => Iff.rfl) trivial (Or.inl ⟨by rfl, fun w' hw' => by obtain ⟨l, _, hl⟩ := hw'; obtain ⟨_, k0, k1, k2, k3, k4, k5, k6, k7⟩ := hl; go_simp⟩) HS.out ?_
  simp only [Act.put, List.setIfInBounds_toArray, List.set_cons_zero, List.set_cons_succ]
  refine wpAnyL_takeD (fun _ => True) (i := 11) (v := (.pointer (some ⟨w.heap.size, 2, none⟩))) (some 14) rfl rfl (by kernel_rfl) (by kernel_rfl) (by kernel_rfl) (fun _ _ _ h => h) (fun _ _ _ _ _ _ => trivial) (fun _ _ _ => Iff.rfl) trivial (Or.inl ⟨by rfl, fun w' hw' => by obtain ⟨l, _, hl⟩ := hw'; obtain ⟨_, k0, k1, k2, k3, k4, k5, k6, k7⟩ := hl; go_simp⟩) HS.out ?_
  simp only [Act.put, List.setIfInBounds_toArray, List.set_cons_zero, List.set_cons_succ]
  refine wpAnyL_takeD (fun _ => True) (i := 12) (v := (.agg #[.bool mn, .int .i64 mi, .string mz])) (some 15) rfl rfl (by kernel_rfl) (by kernel_rfl) (by kernel_rfl) (fun _ _ _ h => h) (fun _ _ _ _ _ _ => trivial) (fun _ _ _ => Iff.rfl) trivial (Or.inl ⟨by rfl, fun w' hw' => by obtain ⟨l, _, hl⟩ := hw'; obtain ⟨_, k0, k1, k2, k3, k4, k5, k6, k7⟩ := hl; go_simp⟩) HS.out ?_
  simp only [Act.put, List.setIfInBounds_toArray, List.set_cons_zero, List.set_cons_succ]
  refine wpAnyL_takeD (fun _ => True) (i := 15) (v := (.pointer (some ⟨w.heap.size, 5, none⟩))) (some 18) rfl rfl (by kernel_rfl) (by kernel_rfl) (by kernel_rfl) (fun _ _ _ h => h) (fun _ _ _ _ _ _ => trivial) (fun _ _ _ => Iff.rfl) trivial (Or.inl ⟨by rfl, fun w' hw' => by obtain ⟨l, _, hl⟩ := hw'; obtain ⟨_, k0, k1, k2, k3, k4, k5, k6, k7⟩ := hl; go_simp⟩) HS.out ?_
  simp only [Act.put, List.setIfInBounds_toArray, List.set_cons_zero, List.set_cons_succ]
  refine wpAnyL_takeD (fun _ => True) (i := 16) (v := (.agg #[.bool xn, .int .i64 xi, .string xz])) (some 19) rfl rfl (by kernel_rfl) (by kernel_rfl) (by kernel_rfl) (fun _ _ _ h => h) (fun _ _ _ _ _ _ => trivial) (fun _ _ _ => Iff.rfl) trivial (Or.inl ⟨by rfl, fun w' hw' => by obtain ⟨l, _, hl⟩ := hw'; obtain ⟨_, k0, k1, k2, k3, k4, k5, k6, k7⟩ := hl; go_simp⟩) HS.out ?_
  simp only [Act.put, List.setIfInBounds_toArray, List.set_cons_zero, List.set_cons_succ]
  refine wpAnyL_one (i := 4) (by decide +kernel) ?_
  refine wpOp_go (o := _) rfl (fun K hK => ?_)
  go_simp
  go_at_call 42
  refine ((rput_any rN _ hU1)).mono ?_; rintro e wx ⟨rfl, hbx⟩
  replace hB := bt hB hbx
  refine hK _ _ ⟨MK.out _ hB, ?_⟩
  clear hK K hbx HS
  have HS := Lib.hid (MK.out _ hB)
  refine wpAnyL_one (i := 9) (by decide +kernel) ?_
  refine wpOp_go (o := _) rfl (fun K hK => ?_)
  go_simp
  go_at_call 42
  refine ((rput_any nN _ hU2)).mono ?_; rintro e wx ⟨rfl, hbx⟩
  replace hB := bt hB hbx
  refine hK _ _ ⟨MK.out _ hB, ?_⟩
  clear hK K hbx HS
  have HS := Lib.hid (MK.out _ hB)
  refine wpAnyL_takeD (fun _ => True) (i := 10) (v := (.string ⟨L1.toArray⟩)) (some 13) rfl rfl (by kernel_rfl) (by kernel_rfl) (by kernel_rfl) (fun _ _ _ h => h) (fun _ _ _ _ _ _ => trivial) (fun _ _ _ => Iff.rfl) trivial (Or.inl ⟨by rfl, fun w' hw' => by obtain ⟨l, _, hl⟩ := hw'; obtain ⟨_, k0, k1, k2, k3, k4, k5, k6, k7⟩ := hl; go_simp⟩) HS.out ?_
  simp only [Act.put, List.setIfInBounds_toArray, List.set_cons_zero, List.set_cons_succ]
  refine wpAnyL_one (i := 13) (by decide +kernel) ?_
  refine wpOp_go (o := _) rfl (fun K hK => ?_)
  go_simp
  go_at_call 43
  refine ((HV1.out _)).mono ?_; rintro e wx ⟨rfl, hbx⟩
  replace hB := bt hB hbx
  refine hK _ _ ⟨MK.out _ hB, ?_⟩
  clear hK K hbx HS
  have HS := Lib.hid (MK.out _ hB)
  refine wpAnyL_takeD (fun _ => True) (i := 14) (v := (.string ⟨L2.toArray⟩)) (some 17) rfl rfl (by kernel_rfl) (by kernel_rfl) (by kernel_rfl) (fun _ _ _ h => h) (fun _ _ _ _ _ _ => trivial) (fun _ _ _ => Iff.rfl) trivial (Or.inl ⟨by rfl, fun w' hw' => by obtain ⟨l, _, hl⟩ := hw'; obtain ⟨_, k0, k1, k2, k3, k4, k5, k6, k7⟩ := hl; go_simp⟩) HS.out ?_
  simp only [Act.put, List.setIfInBounds_toArray, List.set_cons_zero, List.set_cons_succ]
  refine wpAnyL_one (i := 17) (by decide +kernel) ?_
  refine wpOp_go (o := _) rfl (fun K hK => ?_)
  go_simp
  go_at_call 43
  refine ((HV2.out _)).mono ?_; rintro e wx ⟨rfl, hbx⟩
  replace hB := bt hB hbx
  refine hK _ _ ⟨MK.out _ hB, ?_⟩
  clear hK K hbx HS
  have HS := Lib.hid (MK.out _ hB)
  refine wpAnyL_takeD (fun _ => True) (i := 18) (v := (.string ⟨L3.toArray⟩)) (some 21) rfl rfl (by kernel_rfl) (by kernel_rfl) (by kernel_rfl) (fun _ _ _ h => h) (fun _ _ _ _ _ _ => trivial) (fun _ _ _ => Iff.rfl) trivial (Or.inl ⟨by rfl, fun w' hw' => by obtain ⟨l, _, hl⟩ := hw'; obtain ⟨_, k0, k1, k2, k3, k4, k5, k6, k7⟩ := hl; go_simp⟩) HS.out ?_
  simp only [Act.put, List.setIfInBounds_toArray, List.set_cons_zero, List.set_cons_succ]
  refine wpAnyL_takeD (fun _ => True) (i := 19) (v := (.string ⟨L3.toArray⟩)) (some 2) rfl rfl (by kernel_rfl) (by kernel_rfl) (by kernel_rfl) (fun _ _ _ h => h) (fun _ _ _ _ _ _ => trivial) (fun _ _ _ => Iff.rfl) trivial (Or.inl ⟨by rfl, fun w' hw' => by obtain ⟨l, _, hl⟩ := hw'; obtain ⟨_, k0, k1, k2, k3, k4, k5, k6, k7⟩ := hl; go_simp⟩) HS.out ?_
  simp only [Act.put, List.setIfInBounds_toArray, List.set_cons_zero, List.set_cons_succ]
  refine wpAnyL_done (by decide +kernel) ?_ _
  clear HS
  clear MK
  go_wp2
  go_ret
  exact ⟨by rw [HP.out]; rfl, bt hbel hB⟩

end Go.Proofs.Ytnichmblekbccaa
