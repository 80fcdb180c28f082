/-
  The reference's EncodeRecord.
-/
import Derived.Test.YtgacjpkgpegcdaaMEnc
import Derived.Test.YtgacjpkgpegcdaaMChk3
import Derived.Test.YtgacjpkgpegcdaaRegL
namespace Go.Proofs.Ytgacjpkgpegcdaa
open Go.RowKit

set_option maxRecDepth 100000 in
theorem rputn_any (n : Int) (w : World) (h0 : 0 ≤ n) (h1 : n ≤ 4611686018427387904) : Calls Try.prog 59 #[.int .i64 n] w fun e w' => e = .returned (Sv (numP n)) ∧ Below w.heap.size w w' := by
  obtain ⟨m, rfl⟩ := Int.eq_ofNat_of_zero_le h0
  have hU : U64 m := by unfold U64; omega
  have hw : IntKind.u64.wrap (m : Int) = (m : Int) := IntWalk.u64_in _ (by omega)
  have HP : Hid (numP (m : Int) = putL m) := rfl
  go_enter Try.func59, Try.ntmps59
  go_wp2_with fail
  refine (rput_any m _ hU).mono ?_; rintro e w1 ⟨rfl, hb⟩
  go_wp2
  go_ret
  exact ⟨by rw [HP.out] <;> rfl, hb⟩
set_option maxRecDepth 100000 in
set_option maxHeartbeats 1000000 in
theorem rrank_any (p : Rk) (w : World) (hn : I64 p.key.n) (h : rankB p = true) : Calls Try.prog 61 #[Rv p] w fun e w' => e = .returned (Sv (rankP p)) ∧ Below w.heap.size w w' := by
  obtain ⟨⟨pn, pi, pz⟩, pq⟩ := p
  obtain ⟨h1, h2, h3⟩ := rank_iff.1 h
  have hsz := plain_size h1
  dsimp only at hn h2 h3 hsz
  obtain ⟨m, rfl⟩ := Int.eq_ofNat_of_zero_le h2
  have hU : U64 m := by unfold U64; omega
  have hw : IntKind.u64.wrap (m : Int) = (m : Int) := IntWalk.u64_in _ (by omega)
  have hA := Blk.new' w 38 #[.bool pn, .int .i64 pi, .string pz, .int .i64 (m : Int)]
  have hbel : Below w.heap.size w (w.alloc (.cells #[.bool pn, .int .i64 pi, .string pz, .int .i64 (m : Int)] 38)) := (Below.refl _ _).alloc (Nat.le_refl _) _
  have hvl : (valP ⟨pn, pi, pz⟩).length ≤ 82 := valP_le (r := ⟨⟨pn, pi, pz⟩, (m : Int)⟩) hn h
  have hpl := putL_len hU
  have HP : Hid (rankP ⟨⟨pn, pi, pz⟩, (m : Int)⟩ = valP ⟨pn, pi, pz⟩ ++ putL m) := rfl
  have sa := sadd (P := Try.prog) (a := valP ⟨pn, pi, pz⟩) (b := putL m) (by omega)
  have HV : Hid (∀ ws : World, Calls Try.prog 79 #[.agg #[.bool pn, .int .i64 pi, .string pz]] ws fun e w' => e = .returned (Sv (valP ⟨pn, pi, pz⟩)) ∧ Below ws.heap.size ws w') := fun ws => rvput_any ⟨pn, pi, pz⟩ ws hn (by dsimp only; omega)
  generalize valP ⟨pn, pi, pz⟩ = V at *
  clear h h1
  go_enter Try.func61, Try.ntmps61
  go_upto_region 1 with fail
  generalize w.alloc (.cells #[.bool pn, .int .i64 pi, .string pz, .int .i64 (m : Int)] 38) = wa at *
  refine wp_region_L (fun _ w' => Below wa.heap.size wa w') (by kernel_rfl) ?_
  have hB : Below wa.heap.size wa wa.drew := Below.drew (Below.refl _ _)
  generalize wa.drew = wx at *
  refine wpAnyL_takeD (fun _ => True) (i := 0) (v := (.pointer (some ⟨w.heap.size, 0, none⟩))) (some 3) rfl rfl (by kernel_rfl) (by kernel_rfl) (by kernel_rfl) (fun _ _ _ h => h) (fun _ _ _ _ _ _ => trivial) (fun _ _ _ => Iff.rfl) trivial (Or.inl ⟨by rfl, fun w' hw' => by obtain ⟨l, _, hl⟩ := hw'; skip; go_simp⟩) hB ?_
  simp only [Act.put, List.setIfInBounds_toArray, List.set_cons_zero, List.set_cons_succ]
  refine wpAnyL_takeD (fun _ => True) (i := 1) (v := (.agg #[.bool pn, .int .i64 pi, .string pz])) (some 4) rfl rfl (by kernel_rfl) (by kernel_rfl) (by kernel_rfl) (fun _ _ _ h => h) (fun _ _ _ _ _ _ => trivial) (fun _ _ _ => Iff.rfl) trivial (Or.inl ⟨by rfl, fun w' hw' => by obtain ⟨l, _, hl⟩ := hw'; have r0 := (hA.call hl).cellAt 0 rfl; have r1 := (hA.call hl).cellAt 1 rfl; have r2 := (hA.call hl).cellAt 2 rfl; go_simp⟩) hB ?_
  simp only [Act.put, List.setIfInBounds_toArray, List.set_cons_zero, List.set_cons_succ]
  refine wpAnyL_takeD (fun _ => True) (i := 3) (v := (.pointer (some ⟨w.heap.size, 3, none⟩))) (some 6) rfl rfl (by kernel_rfl) (by kernel_rfl) (by kernel_rfl) (fun _ _ _ h => h) (fun _ _ _ _ _ _ => trivial) (fun _ _ _ => Iff.rfl) trivial (Or.inl ⟨by rfl, fun w' hw' => by obtain ⟨l, _, hl⟩ := hw'; skip; go_simp⟩) hB ?_
  simp only [Act.put, List.setIfInBounds_toArray, List.set_cons_zero, List.set_cons_succ]
  refine wpAnyL_takeD (fun _ => True) (i := 4) (v := (.int .i64 (m : Int))) (some 7) rfl rfl (by kernel_rfl) (by kernel_rfl) (by kernel_rfl) (fun _ _ _ h => h) (fun _ _ _ _ _ _ => trivial) (fun _ _ _ => Iff.rfl) trivial (Or.inl ⟨by rfl, fun w' hw' => by obtain ⟨l, _, hl⟩ := hw'; have r3 := (hA.call hl).cellAt 3 rfl; go_simp⟩) hB ?_
  simp only [Act.put, List.setIfInBounds_toArray, List.set_cons_zero, List.set_cons_succ]
  refine wpAnyL_takeD (fun _ => True) (i := 5) (v := (.int .u64 (m : Int))) (some 8) rfl rfl (by kernel_rfl) (by kernel_rfl) (by kernel_rfl) (fun _ _ _ h => h) (fun _ _ _ _ _ _ => trivial) (fun _ _ _ => Iff.rfl) trivial (Or.inl ⟨by rfl, fun w' hw' => by obtain ⟨l, _, hl⟩ := hw'; skip; go_simp⟩) hB ?_
  simp only [Act.put, List.setIfInBounds_toArray, List.set_cons_zero, List.set_cons_succ]
  refine wpAnyL_one (i := 2) (by decide +kernel) ?_
  refine wpOp_go (o := _) rfl (fun K hK => ?_)
  go_simp
  go_at_call 79
  refine (HV.out _).mono ?_; rintro e wx ⟨rfl, hbx⟩
  replace hB := bt hB hbx
  refine hK _ _ ⟨hB, ?_⟩
  clear hK K hbx
  refine wpAnyL_one (i := 6) (by decide +kernel) ?_
  refine wpOp_go (o := _) rfl (fun K hK => ?_)
  go_simp
  go_at_call 60
  refine (rput_any m _ hU).mono ?_; rintro e wx ⟨rfl, hbx⟩
  replace hB := bt hB hbx
  refine hK _ _ ⟨hB, ?_⟩
  clear hK K hbx
  refine wpAnyL_takeD (fun _ => True) (i := 7) (v := (.string ⟨(V ++ putL m).toArray⟩)) (some 10) rfl rfl (by kernel_rfl) (by kernel_rfl) (by kernel_rfl) (fun _ _ _ h => h) (fun _ _ _ _ _ _ => trivial) (fun _ _ _ => Iff.rfl) trivial (Or.inl ⟨by rfl, fun w' hw' => by obtain ⟨l, _, hl⟩ := hw'; skip; go_simp⟩) hB ?_
  simp only [Act.put, List.setIfInBounds_toArray, List.set_cons_zero, List.set_cons_succ]
  refine wpAnyL_takeD (fun _ => True) (i := 8) (v := (.string ⟨(V ++ putL m).toArray⟩)) (some 2) rfl rfl (by kernel_rfl) (by kernel_rfl) (by kernel_rfl) (fun _ _ _ h => h) (fun _ _ _ _ _ _ => trivial) (fun _ _ _ => Iff.rfl) trivial (Or.inl ⟨by rfl, fun w' hw' => by obtain ⟨l, _, hl⟩ := hw'; skip; go_simp⟩) hB ?_
  simp only [Act.put, List.setIfInBounds_toArray, List.set_cons_zero, List.set_cons_succ]
  refine wpAnyL_done (by decide +kernel) ?_ _
  go_wp2
  go_ret
  exact ⟨by rw [HP.out] <;> rfl, bt hbel hB⟩
theorem newc (w : World) (t : TypeId) (v : Value) : (w.alloc (.cells #[v] t)).cell? ⟨w.heap.size, 0, none⟩ = some v ∧ w.heap.size < (w.alloc (.cells #[v] t)).heap.size := ⟨by rw [World.cell?_alloc_mark]; rfl, by simp⟩
theorem keepc {w w' : World} {g : Nat} {v : Value} (h : w.cell? ⟨g, 0, none⟩ = some v ∧ g < w.heap.size) (hb : Below w.heap.size w w') : w'.cell? ⟨g, 0, none⟩ = some v ∧ g < w'.heap.size := ⟨(hb.cell (p := ⟨g, 0, none⟩) h.2).trans h.1, by have := hb.size; omega⟩
set_option maxRecDepth 100000 in
set_option maxHeartbeats 4000000 in
theorem rencode_ok (r : Rc) (A : Option Addr) (n c : Nat) (A2 : Option Addr) (n2 c2 : Nat) (w : World) (hr : RcAt w r A n c A2 n2 c2) (hk : keysOk r) (h0 : chkR r = 0) :
    Calls Try.prog 25 #[Kv r A n c A2 n2 c2] w fun e w' => e = .returned (.tuple #[Sv (encR r), .int .i64 0]) ∧ Below w.heap.size w w' := by
  obtain ⟨kd, ve, ns, ni, add, rem⟩ := r
  have hcz := chk_zero h0
  dsimp only [Kv] at *
  obtain ⟨m, rfl⟩ : ∃ m : Nat, kd = (m : Int) := ⟨kd.toNat, by have := hcz.1; omega⟩
  obtain ⟨hkd, ⟨v1, v2, s1, s2, hni⟩, la, lr, hadd, _, hrem⟩ := hcz
  dsimp only at hkd v1 v2 s1 s2 hni la lr hadd hrem
  have hni' := obj_iff.1 hni
  have HLN := Lib.hid hr.ln
  have HLN2 := Lib.hid hr.ln2
  dsimp only at HLN HLN2
  have ln256 : n ≤ 256 := by rw [← HLN.out]; exact la
  have ln256' : n2 ≤ 256 := by rw [← HLN2.out]; exact lr
  have HADD := Lib.hid hadd
  have HREM := Lib.hid hrem
  have HKEY := Lib.hid hk
  have hRb := Blk.new' w 31 #[.int .i64 (m : Int), .int .i64 ve, .int .i64 ns, .int .i64 ni, .slice A n c, .slice A2 n2 c2]
  have hbel : Below w.heap.size w (w.alloc (.cells #[.int .i64 (m : Int), .int .i64 ve, .int .i64 ns, .int .i64 ni, .slice A n c, .slice A2 n2 c2] 31)) := (Below.refl _ _).alloc (Nat.le_refl _) _
  have HCHK : Hid (∀ W : World, RcAt W ⟨(m : Int), ve, ns, ni, add, rem⟩ A n c A2 n2 c2 → Calls Try.prog 27 #[.agg #[.int .i64 (m : Int), .int .i64 ve, .int .i64 ns, .int .i64 ni, .slice A n c, .slice A2 n2 c2]] W fun e w' => e = .returned (.int .i64 0) ∧ Below W.heap.size W w') := fun W hW => by
    have := rcheck_any ⟨(m : Int), ve, ns, ni, add, rem⟩ A n c A2 n2 c2 W hW
    rw [h0] at this; exact this
  have hr1 := hr.call hbel
  have HENC : Hid (encR ⟨(m : Int), ve, ns, ni, add, rem⟩ = sealL (bodyP ⟨(m : Int), ve, ns, ni, add, rem⟩) ++ fourL (crcL (sealL (bodyP ⟨(m : Int), ve, ns, ni, add, rem⟩)))) := rfl
  have HBL := Lib.hid (bodyP_len hk h0)
  have hm2 : m < 256 := by omega
  have hkb : IntKind.u8.wrap (m : Int) = (m : Int) := IntWalk.u8_in _ (by omega)
  obtain ⟨s, rfl⟩ := Int.eq_ofNat_of_zero_le s1
  have hsU : U64 s := by unfold U64; omega
  have hsw : IntKind.u64.wrap (s : Int) = (s : Int) := IntWalk.u64_in _ (by omega)
  have HN1 : Hid (∀ ws : World, Calls Try.prog 59 #[.int .i64 ve] ws fun e w' => e = .returned (Sv (numP ve)) ∧ Below ws.heap.size ws w') := fun ws => rputn_any ve ws v1 (by omega)
  have HN2 : Hid (∀ ws : World, Calls Try.prog 60 #[.int .u64 (s : Int)] ws fun e w' => e = .returned (Sv (putL s)) ∧ Below ws.heap.size ws w') := fun ws => rput_any s ws hsU
  have HN3 : Hid (∀ ws : World, Calls Try.prog 59 #[.int .i64 ni] ws fun e w' => e = .returned (Sv (numP ni)) ∧ Below ws.heap.size ws w') := fun ws => rputn_any ni ws (by omega) (by omega)
  have HN4 : Hid (∀ ws : World, Calls Try.prog 59 #[.int .i64 (n : Int)] ws fun e w' => e = .returned (Sv (putL n)) ∧ Below ws.heap.size ws w') := fun ws => rputn_any (n : Int) ws (by omega) (by omega)
  have l1 := numP_len (n := ve) (by omega)
  have l2 := putL_len hsU
  have l3 := numP_len (n := ni) (by omega)
  have l4 := putL_len (v := n) (by unfold U64; omega)
  obtain ⟨N1, e1⟩ : ∃ x, x = numP ve := ⟨_, rfl⟩
  rw [← e1] at HN1 l1
  obtain ⟨N2, e2⟩ : ∃ x, x = putL s := ⟨_, rfl⟩
  rw [← e2] at HN2 l2
  obtain ⟨N3, e3⟩ : ∃ x, x = numP ni := ⟨_, rfl⟩
  rw [← e3] at HN3 l3
  obtain ⟨N4, e4⟩ : ∃ x, x = putL n := ⟨_, rfl⟩
  rw [← e4] at HN4 l4
  have E1 := Lib.hid e1
  have E2 := Lib.hid e2
  have E3 := Lib.hid e3
  have E4 := Lib.hid e4
  clear e1 e2 e3 e4
  obtain ⟨M1, hM1⟩ : ∃ M, M = [UInt8.ofNat m] ++ N1 := ⟨_, rfl⟩
  have m1 : M1.length ≤ 11 := by rw [hM1]; simp; omega
  obtain ⟨M2, hM2⟩ : ∃ M, M = M1 ++ N2 := ⟨_, rfl⟩
  have m2 : M2.length ≤ 21 := by rw [hM2, List.length_append]; omega
  obtain ⟨M3, hM3⟩ : ∃ M, M = M2 ++ N3 := ⟨_, rfl⟩
  have m3 : M3.length ≤ 31 := by rw [hM3, List.length_append]; omega
  obtain ⟨M4, hM4⟩ : ∃ M, M = M3 ++ N4 := ⟨_, rfl⟩
  have m4 : M4.length ≤ 41 := by rw [hM4, List.length_append]; omega
  have sa1 := sadd (P := Try.prog) (a := [UInt8.ofNat m]) (b := N1) (by simp; omega)
  have sa2 := sadd (P := Try.prog) (a := M1) (b := N2) (by omega)
  have sa3 := sadd (P := Try.prog) (a := M2) (b := N3) (by omega)
  have sa4 := sadd (P := Try.prog) (a := M3) (b := N4) (by omega)
  rw [← hM1] at sa1
  rw [← hM2] at sa2
  rw [← hM3] at sa3
  rw [← hM4] at sa4
  have HM4 : Hid ([UInt8.ofNat m] ++ N1 ++ N2 ++ N3 ++ N4 = M4) := by show _ = _; rw [hM4, hM3, hM2, hM1]
  clear h0 hk la lr hadd hrem hni hr hM1 hM2 hM3 hM4
  go_enter Try.func25, Try.ntmps25
  go_wp2_with fail
  generalize w.alloc (.cells #[.int .i64 (m : Int), .int .i64 ve, .int .i64 (s : Int), .int .i64 ni, .slice A n c, .slice A2 n2 c2] 31) = wa at *
  refine (HCHK.out _ hr1).mono ?_; rintro e w1 ⟨rfl, hb1⟩
  have hR1 := hRb.call hb1
  have hr2 := hr1.call hb1
  have hbel1 := bt hbel hb1
  go_upto_region 4 with fail
  go_cut [5] (fun x wy => x = Sv M4 ∧ Below w1.heap.size w1 wy)
  case first =>
    refine wp_region_L (fun _ w' => Below w1.heap.size w1 w') (by kernel_rfl) ?_
    have hB : Below w1.heap.size w1 w1.drew := Below.drew (Below.refl _ _)
    generalize w1.drew = wx at *
    refine wpAnyL_takeD (fun _ => True) (i := 0) (v := (.pointer (some ⟨w.heap.size, 0, none⟩))) (some 16) rfl rfl (by kernel_rfl) (by kernel_rfl) (by kernel_rfl) (fun _ _ _ h => h) (fun _ _ _ _ _ _ => trivial) (fun _ _ _ => Iff.rfl) trivial (Or.inl ⟨by rfl, fun w' hw' => by obtain ⟨l, _, hl⟩ := hw'; skip; go_simp⟩) hB ?_
    simp only [Act.put, List.setIfInBounds_toArray, List.set_cons_zero, List.set_cons_succ]
    refine wpAnyL_takeD (fun _ => True) (i := 1) (v := (.int .i64 (m : Int))) (some 17) rfl rfl (by kernel_rfl) (by kernel_rfl) (by kernel_rfl) (fun _ _ _ h => h) (fun _ _ _ _ _ _ => trivial) (fun _ _ _ => Iff.rfl) trivial (Or.inl ⟨by rfl, fun w' hw' => by obtain ⟨l, _, hl⟩ := hw'; have r0 := (hR1.call hl).cellAt 0 rfl; go_simp⟩) hB ?_
    simp only [Act.put, List.setIfInBounds_toArray, List.set_cons_zero, List.set_cons_succ]
    refine wpAnyL_takeD (fun _ => True) (i := 2) (v := (.int .u8 (m : Int))) (some 18) rfl rfl (by kernel_rfl) (by kernel_rfl) (by kernel_rfl) (fun _ _ _ h => h) (fun _ _ _ _ _ _ => trivial) (fun _ _ _ => Iff.rfl) trivial (Or.inl ⟨by rfl, fun w' hw' => by obtain ⟨l, _, hl⟩ := hw'; skip; go_simp⟩) hB ?_
    simp only [Act.put, List.setIfInBounds_toArray, List.set_cons_zero, List.set_cons_succ]
    refine wpAnyL_takeD (fun _ => True) (i := 5) (v := (.pointer (some ⟨w.heap.size, 1, none⟩))) (some 21) rfl rfl (by kernel_rfl) (by kernel_rfl) (by kernel_rfl) (fun _ _ _ h => h) (fun _ _ _ _ _ _ => trivial) (fun _ _ _ => Iff.rfl) trivial (Or.inl ⟨by rfl, fun w' hw' => by obtain ⟨l, _, hl⟩ := hw'; skip; go_simp⟩) hB ?_
    simp only [Act.put, List.setIfInBounds_toArray, List.set_cons_zero, List.set_cons_succ]
    refine wpAnyL_takeD (fun _ => True) (i := 6) (v := (.int .i64 ve)) (some 22) rfl rfl (by kernel_rfl) (by kernel_rfl) (by kernel_rfl) (fun _ _ _ h => h) (fun _ _ _ _ _ _ => trivial) (fun _ _ _ => Iff.rfl) trivial (Or.inl ⟨by rfl, fun w' hw' => by obtain ⟨l, _, hl⟩ := hw'; have r0 := (hR1.call hl).cellAt 1 rfl; go_simp⟩) hB ?_
    simp only [Act.put, List.setIfInBounds_toArray, List.set_cons_zero, List.set_cons_succ]
    refine wpAnyL_takeD (fun _ => True) (i := 9) (v := (.pointer (some ⟨w.heap.size, 2, none⟩))) (some 25) rfl rfl (by kernel_rfl) (by kernel_rfl) (by kernel_rfl) (fun _ _ _ h => h) (fun _ _ _ _ _ _ => trivial) (fun _ _ _ => Iff.rfl) trivial (Or.inl ⟨by rfl, fun w' hw' => by obtain ⟨l, _, hl⟩ := hw'; skip; go_simp⟩) hB ?_
    simp only [Act.put, List.setIfInBounds_toArray, List.set_cons_zero, List.set_cons_succ]
    refine wpAnyL_takeD (fun _ => True) (i := 10) (v := (.int .i64 (s : Int))) (some 26) rfl rfl (by kernel_rfl) (by kernel_rfl) (by kernel_rfl) (fun _ _ _ h => h) (fun _ _ _ _ _ _ => trivial) (fun _ _ _ => Iff.rfl) trivial (Or.inl ⟨by rfl, fun w' hw' => by obtain ⟨l, _, hl⟩ := hw'; have r0 := (hR1.call hl).cellAt 2 rfl; go_simp⟩) hB ?_
    simp only [Act.put, List.setIfInBounds_toArray, List.set_cons_zero, List.set_cons_succ]
    refine wpAnyL_takeD (fun _ => True) (i := 11) (v := (.int .u64 (s : Int))) (some 27) rfl rfl (by kernel_rfl) (by kernel_rfl) (by kernel_rfl) (fun _ _ _ h => h) (fun _ _ _ _ _ _ => trivial) (fun _ _ _ => Iff.rfl) trivial (Or.inl ⟨by rfl, fun w' hw' => by obtain ⟨l, _, hl⟩ := hw'; skip; go_simp⟩) hB ?_
    simp only [Act.put, List.setIfInBounds_toArray, List.set_cons_zero, List.set_cons_succ]
    refine wpAnyL_takeD (fun _ => True) (i := 14) (v := (.pointer (some ⟨w.heap.size, 3, none⟩))) (some 30) rfl rfl (by kernel_rfl) (by kernel_rfl) (by kernel_rfl) (fun _ _ _ h => h) (fun _ _ _ _ _ _ => trivial) (fun _ _ _ => Iff.rfl) trivial (Or.inl ⟨by rfl, fun w' hw' => by obtain ⟨l, _, hl⟩ := hw'; skip; go_simp⟩) hB ?_
    simp only [Act.put, List.setIfInBounds_toArray, List.set_cons_zero, List.set_cons_succ]
    refine wpAnyL_takeD (fun _ => True) (i := 15) (v := (.int .i64 ni)) (some 31) rfl rfl (by kernel_rfl) (by kernel_rfl) (by kernel_rfl) (fun _ _ _ h => h) (fun _ _ _ _ _ _ => trivial) (fun _ _ _ => Iff.rfl) trivial (Or.inl ⟨by rfl, fun w' hw' => by obtain ⟨l, _, hl⟩ := hw'; have r0 := (hR1.call hl).cellAt 3 rfl; go_simp⟩) hB ?_
    simp only [Act.put, List.setIfInBounds_toArray, List.set_cons_zero, List.set_cons_succ]
    refine wpAnyL_takeD (fun _ => True) (i := 18) (v := (.pointer (some ⟨w.heap.size, 4, none⟩))) (some 34) rfl rfl (by kernel_rfl) (by kernel_rfl) (by kernel_rfl) (fun _ _ _ h => h) (fun _ _ _ _ _ _ => trivial) (fun _ _ _ => Iff.rfl) trivial (Or.inl ⟨by rfl, fun w' hw' => by obtain ⟨l, _, hl⟩ := hw'; skip; go_simp⟩) hB ?_
    simp only [Act.put, List.setIfInBounds_toArray, List.set_cons_zero, List.set_cons_succ]
    refine wpAnyL_takeD (fun _ => True) (i := 19) (v := (.slice A n c)) (some 35) rfl rfl (by kernel_rfl) (by kernel_rfl) (by kernel_rfl) (fun _ _ _ h => h) (fun _ _ _ _ _ _ => trivial) (fun _ _ _ => Iff.rfl) trivial (Or.inl ⟨by rfl, fun w' hw' => by obtain ⟨l, _, hl⟩ := hw'; have r0 := (hR1.call hl).cellAt 4 rfl; go_simp⟩) hB ?_
    simp only [Act.put, List.setIfInBounds_toArray, List.set_cons_zero, List.set_cons_succ]
    refine wpAnyL_takeD (fun _ => True) (i := 20) (v := (.int .i64 (n : Int))) (some 36) rfl rfl (by kernel_rfl) (by kernel_rfl) (by kernel_rfl) (fun _ _ _ h => h) (fun _ _ _ _ _ _ => trivial) (fun _ _ _ => Iff.rfl) trivial (Or.inl ⟨by rfl, fun w' hw' => by obtain ⟨l, _, hl⟩ := hw'; skip; go_simp⟩) hB ?_
    simp only [Act.put, List.setIfInBounds_toArray, List.set_cons_zero, List.set_cons_succ]
    refine wpAnyL_lst (rs := [3, 7]) (by decide +kernel) ⟨List.cons_ne_nil _ _, ?_⟩
    refine List.forall_mem_cons.2 ⟨?_, List.forall_mem_cons.2 ⟨?_, (fun _ h => absurd h List.not_mem_nil)⟩⟩
    · skip
      refine wpOp_go (o := _) rfl (fun K hK => ?_)
      go_simp
      have hcb := newc wx 5 (.int .u8 (m : Int))
      replace hB := hB.alloc hB.size (.cells #[.int .u8 (m : Int)] 5)
      refine hK _ _ ⟨hB, ?_⟩
      clear hK K
      generalize wx.alloc (.cells #[.int .u8 (m : Int)] 5) = wx at *
      refine wpAnyL_lst (rs := [4, 7]) (by decide +kernel) ⟨List.cons_ne_nil _ _, ?_⟩
      refine List.forall_mem_cons.2 ⟨?_, List.forall_mem_cons.2 ⟨?_, (fun _ h => absurd h List.not_mem_nil)⟩⟩
      · skip
        have hcv := byte_str_at bytesB Try.underlying5 Try.underlying9 m (by omega) _ _ hcb.1
        refine wpOp_go (o := _) rfl (fun K hK => ?_)
        go_simp
        refine hK _ _ ⟨hB, ?_⟩
        clear hK K hcv
        refine wpAnyL_one (i := 7) (by decide +kernel) ?_
        refine wpOp_go (o := _) rfl (fun K hK => ?_)
        go_simp
        go_at_call 59
        refine (HN1.out _).mono ?_; rintro e wx ⟨rfl, hbx⟩
        try replace hcb := keepc hcb hbx
        replace hB := bt hB hbx
        refine hK _ _ ⟨hB, ?_⟩
        clear hK K hbx
        refine wpAnyL_takeD (fun _ => True) (i := 8) (v := (.string ⟨(M1).toArray⟩)) (some 24) rfl rfl (by kernel_rfl) (by kernel_rfl) (by kernel_rfl) (fun _ _ _ h => h) (fun _ _ _ _ _ _ => trivial) (fun _ _ _ => Iff.rfl) trivial (Or.inl ⟨by rfl, fun w' hw' => by obtain ⟨l, _, hl⟩ := hw'; skip; go_simp⟩) hB ?_
        simp only [Act.put, List.setIfInBounds_toArray, List.set_cons_zero, List.set_cons_succ]
        refine wpAnyL_one (i := 12) (by decide +kernel) ?_
        refine wpOp_go (o := _) rfl (fun K hK => ?_)
        go_simp
        go_at_call 60
        refine (HN2.out _).mono ?_; rintro e wx ⟨rfl, hbx⟩
        try replace hcb := keepc hcb hbx
        replace hB := bt hB hbx
        refine hK _ _ ⟨hB, ?_⟩
        clear hK K hbx
        refine wpAnyL_takeD (fun _ => True) (i := 13) (v := (.string ⟨(M2).toArray⟩)) (some 29) rfl rfl (by kernel_rfl) (by kernel_rfl) (by kernel_rfl) (fun _ _ _ h => h) (fun _ _ _ _ _ _ => trivial) (fun _ _ _ => Iff.rfl) trivial (Or.inl ⟨by rfl, fun w' hw' => by obtain ⟨l, _, hl⟩ := hw'; skip; go_simp⟩) hB ?_
        simp only [Act.put, List.setIfInBounds_toArray, List.set_cons_zero, List.set_cons_succ]
        refine wpAnyL_one (i := 16) (by decide +kernel) ?_
        refine wpOp_go (o := _) rfl (fun K hK => ?_)
        go_simp
        go_at_call 59
        refine (HN3.out _).mono ?_; rintro e wx ⟨rfl, hbx⟩
        try replace hcb := keepc hcb hbx
        replace hB := bt hB hbx
        refine hK _ _ ⟨hB, ?_⟩
        clear hK K hbx
        refine wpAnyL_takeD (fun _ => True) (i := 17) (v := (.string ⟨(M3).toArray⟩)) (some 33) rfl rfl (by kernel_rfl) (by kernel_rfl) (by kernel_rfl) (fun _ _ _ h => h) (fun _ _ _ _ _ _ => trivial) (fun _ _ _ => Iff.rfl) trivial (Or.inl ⟨by rfl, fun w' hw' => by obtain ⟨l, _, hl⟩ := hw'; skip; go_simp⟩) hB ?_
        simp only [Act.put, List.setIfInBounds_toArray, List.set_cons_zero, List.set_cons_succ]
        refine wpAnyL_one (i := 21) (by decide +kernel) ?_
        refine wpOp_go (o := _) rfl (fun K hK => ?_)
        go_simp
        go_at_call 59
        refine (HN4.out _).mono ?_; rintro e wx ⟨rfl, hbx⟩
        try replace hcb := keepc hcb hbx
        replace hB := bt hB hbx
        refine hK _ _ ⟨hB, ?_⟩
        clear hK K hbx
        refine wpAnyL_takeD (fun _ => True) (i := 22) (v := (.string ⟨(M4).toArray⟩)) (some 38) rfl rfl (by kernel_rfl) (by kernel_rfl) (by kernel_rfl) (fun _ _ _ h => h) (fun _ _ _ _ _ _ => trivial) (fun _ _ _ => Iff.rfl) trivial (Or.inl ⟨by rfl, fun w' hw' => by obtain ⟨l, _, hl⟩ := hw'; skip; go_simp⟩) hB ?_
        simp only [Act.put, List.setIfInBounds_toArray, List.set_cons_zero, List.set_cons_succ]
        refine wpAnyL_takeD (fun _ => True) (i := 23) (v := (.string ⟨(M4).toArray⟩)) (some 5) rfl rfl (by kernel_rfl) (by kernel_rfl) (by kernel_rfl) (fun _ _ _ h => h) (fun _ _ _ _ _ _ => trivial) (fun _ _ _ => Iff.rfl) trivial (Or.inl ⟨by rfl, fun w' hw' => by obtain ⟨l, _, hl⟩ := hw'; skip; go_simp⟩) hB ?_
        simp only [Act.put, List.setIfInBounds_toArray, List.set_cons_zero, List.set_cons_succ]
        refine wpAnyL_done (by decide +kernel) ?_ _
        go_wp2_with fail
        go_meet
        exact ⟨rfl, hB⟩
      · skip
        refine wpOp_go (o := _) rfl (fun K hK => ?_)
        go_simp
        go_at_call 59
        refine (HN1.out _).mono ?_; rintro e wx ⟨rfl, hbx⟩
        try replace hcb := keepc hcb hbx
        replace hB := bt hB hbx
        refine hK _ _ ⟨hB, ?_⟩
        clear hK K hbx
        refine wpAnyL_lst (rs := [4, 12]) (by decide +kernel) ⟨List.cons_ne_nil _ _, ?_⟩
        refine List.forall_mem_cons.2 ⟨?_, List.forall_mem_cons.2 ⟨?_, (fun _ h => absurd h List.not_mem_nil)⟩⟩
        · skip
          have hcv := byte_str_at bytesB Try.underlying5 Try.underlying9 m (by omega) _ _ hcb.1
          refine wpOp_go (o := _) rfl (fun K hK => ?_)
          go_simp
          refine hK _ _ ⟨hB, ?_⟩
          clear hK K hcv
          refine wpAnyL_takeD (fun _ => True) (i := 8) (v := (.string ⟨(M1).toArray⟩)) (some 24) rfl rfl (by kernel_rfl) (by kernel_rfl) (by kernel_rfl) (fun _ _ _ h => h) (fun _ _ _ _ _ _ => trivial) (fun _ _ _ => Iff.rfl) trivial (Or.inl ⟨by rfl, fun w' hw' => by obtain ⟨l, _, hl⟩ := hw'; skip; go_simp⟩) hB ?_
          simp only [Act.put, List.setIfInBounds_toArray, List.set_cons_zero, List.set_cons_succ]
          refine wpAnyL_one (i := 12) (by decide +kernel) ?_
          refine wpOp_go (o := _) rfl (fun K hK => ?_)
          go_simp
          go_at_call 60
          refine (HN2.out _).mono ?_; rintro e wx ⟨rfl, hbx⟩
          try replace hcb := keepc hcb hbx
          replace hB := bt hB hbx
          refine hK _ _ ⟨hB, ?_⟩
          clear hK K hbx
          refine wpAnyL_takeD (fun _ => True) (i := 13) (v := (.string ⟨(M2).toArray⟩)) (some 29) rfl rfl (by kernel_rfl) (by kernel_rfl) (by kernel_rfl) (fun _ _ _ h => h) (fun _ _ _ _ _ _ => trivial) (fun _ _ _ => Iff.rfl) trivial (Or.inl ⟨by rfl, fun w' hw' => by obtain ⟨l, _, hl⟩ := hw'; skip; go_simp⟩) hB ?_
          simp only [Act.put, List.setIfInBounds_toArray, List.set_cons_zero, List.set_cons_succ]
          refine wpAnyL_one (i := 16) (by decide +kernel) ?_
          refine wpOp_go (o := _) rfl (fun K hK => ?_)
          go_simp
          go_at_call 59
          refine (HN3.out _).mono ?_; rintro e wx ⟨rfl, hbx⟩
          try replace hcb := keepc hcb hbx
          replace hB := bt hB hbx
          refine hK _ _ ⟨hB, ?_⟩
          clear hK K hbx
          refine wpAnyL_takeD (fun _ => True) (i := 17) (v := (.string ⟨(M3).toArray⟩)) (some 33) rfl rfl (by kernel_rfl) (by kernel_rfl) (by kernel_rfl) (fun _ _ _ h => h) (fun _ _ _ _ _ _ => trivial) (fun _ _ _ => Iff.rfl) trivial (Or.inl ⟨by rfl, fun w' hw' => by obtain ⟨l, _, hl⟩ := hw'; skip; go_simp⟩) hB ?_
          simp only [Act.put, List.setIfInBounds_toArray, List.set_cons_zero, List.set_cons_succ]
          refine wpAnyL_one (i := 21) (by decide +kernel) ?_
          refine wpOp_go (o := _) rfl (fun K hK => ?_)
          go_simp
          go_at_call 59
          refine (HN4.out _).mono ?_; rintro e wx ⟨rfl, hbx⟩
          try replace hcb := keepc hcb hbx
          replace hB := bt hB hbx
          refine hK _ _ ⟨hB, ?_⟩
          clear hK K hbx
          refine wpAnyL_takeD (fun _ => True) (i := 22) (v := (.string ⟨(M4).toArray⟩)) (some 38) rfl rfl (by kernel_rfl) (by kernel_rfl) (by kernel_rfl) (fun _ _ _ h => h) (fun _ _ _ _ _ _ => trivial) (fun _ _ _ => Iff.rfl) trivial (Or.inl ⟨by rfl, fun w' hw' => by obtain ⟨l, _, hl⟩ := hw'; skip; go_simp⟩) hB ?_
          simp only [Act.put, List.setIfInBounds_toArray, List.set_cons_zero, List.set_cons_succ]
          refine wpAnyL_takeD (fun _ => True) (i := 23) (v := (.string ⟨(M4).toArray⟩)) (some 5) rfl rfl (by kernel_rfl) (by kernel_rfl) (by kernel_rfl) (fun _ _ _ h => h) (fun _ _ _ _ _ _ => trivial) (fun _ _ _ => Iff.rfl) trivial (Or.inl ⟨by rfl, fun w' hw' => by obtain ⟨l, _, hl⟩ := hw'; skip; go_simp⟩) hB ?_
          simp only [Act.put, List.setIfInBounds_toArray, List.set_cons_zero, List.set_cons_succ]
          refine wpAnyL_done (by decide +kernel) ?_ _
          go_wp2_with fail
          go_meet
          exact ⟨rfl, hB⟩
        · skip
          refine wpOp_go (o := _) rfl (fun K hK => ?_)
          go_simp
          go_at_call 60
          refine (HN2.out _).mono ?_; rintro e wx ⟨rfl, hbx⟩
          try replace hcb := keepc hcb hbx
          replace hB := bt hB hbx
          refine hK _ _ ⟨hB, ?_⟩
          clear hK K hbx
          refine wpAnyL_lst (rs := [4, 16]) (by decide +kernel) ⟨List.cons_ne_nil _ _, ?_⟩
          refine List.forall_mem_cons.2 ⟨?_, List.forall_mem_cons.2 ⟨?_, (fun _ h => absurd h List.not_mem_nil)⟩⟩
          · skip
            have hcv := byte_str_at bytesB Try.underlying5 Try.underlying9 m (by omega) _ _ hcb.1
            refine wpOp_go (o := _) rfl (fun K hK => ?_)
            go_simp
            refine hK _ _ ⟨hB, ?_⟩
            clear hK K hcv
            refine wpAnyL_takeD (fun _ => True) (i := 8) (v := (.string ⟨(M1).toArray⟩)) (some 24) rfl rfl (by kernel_rfl) (by kernel_rfl) (by kernel_rfl) (fun _ _ _ h => h) (fun _ _ _ _ _ _ => trivial) (fun _ _ _ => Iff.rfl) trivial (Or.inl ⟨by rfl, fun w' hw' => by obtain ⟨l, _, hl⟩ := hw'; skip; go_simp⟩) hB ?_
            simp only [Act.put, List.setIfInBounds_toArray, List.set_cons_zero, List.set_cons_succ]
            refine wpAnyL_takeD (fun _ => True) (i := 13) (v := (.string ⟨(M2).toArray⟩)) (some 29) rfl rfl (by kernel_rfl) (by kernel_rfl) (by kernel_rfl) (fun _ _ _ h => h) (fun _ _ _ _ _ _ => trivial) (fun _ _ _ => Iff.rfl) trivial (Or.inl ⟨by rfl, fun w' hw' => by obtain ⟨l, _, hl⟩ := hw'; skip; go_simp⟩) hB ?_
            simp only [Act.put, List.setIfInBounds_toArray, List.set_cons_zero, List.set_cons_succ]
            refine wpAnyL_one (i := 16) (by decide +kernel) ?_
            refine wpOp_go (o := _) rfl (fun K hK => ?_)
            go_simp
            go_at_call 59
            refine (HN3.out _).mono ?_; rintro e wx ⟨rfl, hbx⟩
            try replace hcb := keepc hcb hbx
            replace hB := bt hB hbx
            refine hK _ _ ⟨hB, ?_⟩
            clear hK K hbx
            refine wpAnyL_takeD (fun _ => True) (i := 17) (v := (.string ⟨(M3).toArray⟩)) (some 33) rfl rfl (by kernel_rfl) (by kernel_rfl) (by kernel_rfl) (fun _ _ _ h => h) (fun _ _ _ _ _ _ => trivial) (fun _ _ _ => Iff.rfl) trivial (Or.inl ⟨by rfl, fun w' hw' => by obtain ⟨l, _, hl⟩ := hw'; skip; go_simp⟩) hB ?_
            simp only [Act.put, List.setIfInBounds_toArray, List.set_cons_zero, List.set_cons_succ]
            refine wpAnyL_one (i := 21) (by decide +kernel) ?_
            refine wpOp_go (o := _) rfl (fun K hK => ?_)
            go_simp
            go_at_call 59
            refine (HN4.out _).mono ?_; rintro e wx ⟨rfl, hbx⟩
            try replace hcb := keepc hcb hbx
            replace hB := bt hB hbx
            refine hK _ _ ⟨hB, ?_⟩
            clear hK K hbx
            refine wpAnyL_takeD (fun _ => True) (i := 22) (v := (.string ⟨(M4).toArray⟩)) (some 38) rfl rfl (by kernel_rfl) (by kernel_rfl) (by kernel_rfl) (fun _ _ _ h => h) (fun _ _ _ _ _ _ => trivial) (fun _ _ _ => Iff.rfl) trivial (Or.inl ⟨by rfl, fun w' hw' => by obtain ⟨l, _, hl⟩ := hw'; skip; go_simp⟩) hB ?_
            simp only [Act.put, List.setIfInBounds_toArray, List.set_cons_zero, List.set_cons_succ]
            refine wpAnyL_takeD (fun _ => True) (i := 23) (v := (.string ⟨(M4).toArray⟩)) (some 5) rfl rfl (by kernel_rfl) (by kernel_rfl) (by kernel_rfl) (fun _ _ _ h => h) (fun _ _ _ _ _ _ => trivial) (fun _ _ _ => Iff.rfl) trivial (Or.inl ⟨by rfl, fun w' hw' => by obtain ⟨l, _, hl⟩ := hw'; skip; go_simp⟩) hB ?_
            simp only [Act.put, List.setIfInBounds_toArray, List.set_cons_zero, List.set_cons_succ]
            refine wpAnyL_done (by decide +kernel) ?_ _
            go_wp2_with fail
            go_meet
            exact ⟨rfl, hB⟩
          · skip
            refine wpOp_go (o := _) rfl (fun K hK => ?_)
            go_simp
            go_at_call 59
            refine (HN3.out _).mono ?_; rintro e wx ⟨rfl, hbx⟩
            try replace hcb := keepc hcb hbx
            replace hB := bt hB hbx
            refine hK _ _ ⟨hB, ?_⟩
            clear hK K hbx
            refine wpAnyL_lst (rs := [4, 21]) (by decide +kernel) ⟨List.cons_ne_nil _ _, ?_⟩
            refine List.forall_mem_cons.2 ⟨?_, List.forall_mem_cons.2 ⟨?_, (fun _ h => absurd h List.not_mem_nil)⟩⟩
            · skip
              have hcv := byte_str_at bytesB Try.underlying5 Try.underlying9 m (by omega) _ _ hcb.1
              refine wpOp_go (o := _) rfl (fun K hK => ?_)
              go_simp
              refine hK _ _ ⟨hB, ?_⟩
              clear hK K hcv
              refine wpAnyL_takeD (fun _ => True) (i := 8) (v := (.string ⟨(M1).toArray⟩)) (some 24) rfl rfl (by kernel_rfl) (by kernel_rfl) (by kernel_rfl) (fun _ _ _ h => h) (fun _ _ _ _ _ _ => trivial) (fun _ _ _ => Iff.rfl) trivial (Or.inl ⟨by rfl, fun w' hw' => by obtain ⟨l, _, hl⟩ := hw'; skip; go_simp⟩) hB ?_
              simp only [Act.put, List.setIfInBounds_toArray, List.set_cons_zero, List.set_cons_succ]
              refine wpAnyL_takeD (fun _ => True) (i := 13) (v := (.string ⟨(M2).toArray⟩)) (some 29) rfl rfl (by kernel_rfl) (by kernel_rfl) (by kernel_rfl) (fun _ _ _ h => h) (fun _ _ _ _ _ _ => trivial) (fun _ _ _ => Iff.rfl) trivial (Or.inl ⟨by rfl, fun w' hw' => by obtain ⟨l, _, hl⟩ := hw'; skip; go_simp⟩) hB ?_
              simp only [Act.put, List.setIfInBounds_toArray, List.set_cons_zero, List.set_cons_succ]
              refine wpAnyL_takeD (fun _ => True) (i := 17) (v := (.string ⟨(M3).toArray⟩)) (some 33) rfl rfl (by kernel_rfl) (by kernel_rfl) (by kernel_rfl) (fun _ _ _ h => h) (fun _ _ _ _ _ _ => trivial) (fun _ _ _ => Iff.rfl) trivial (Or.inl ⟨by rfl, fun w' hw' => by obtain ⟨l, _, hl⟩ := hw'; skip; go_simp⟩) hB ?_
              simp only [Act.put, List.setIfInBounds_toArray, List.set_cons_zero, List.set_cons_succ]
              refine wpAnyL_one (i := 21) (by decide +kernel) ?_
              refine wpOp_go (o := _) rfl (fun K hK => ?_)
              go_simp
              go_at_call 59
              refine (HN4.out _).mono ?_; rintro e wx ⟨rfl, hbx⟩
              try replace hcb := keepc hcb hbx
              replace hB := bt hB hbx
              refine hK _ _ ⟨hB, ?_⟩
              clear hK K hbx
              refine wpAnyL_takeD (fun _ => True) (i := 22) (v := (.string ⟨(M4).toArray⟩)) (some 38) rfl rfl (by kernel_rfl) (by kernel_rfl) (by kernel_rfl) (fun _ _ _ h => h) (fun _ _ _ _ _ _ => trivial) (fun _ _ _ => Iff.rfl) trivial (Or.inl ⟨by rfl, fun w' hw' => by obtain ⟨l, _, hl⟩ := hw'; skip; go_simp⟩) hB ?_
              simp only [Act.put, List.setIfInBounds_toArray, List.set_cons_zero, List.set_cons_succ]
              refine wpAnyL_takeD (fun _ => True) (i := 23) (v := (.string ⟨(M4).toArray⟩)) (some 5) rfl rfl (by kernel_rfl) (by kernel_rfl) (by kernel_rfl) (fun _ _ _ h => h) (fun _ _ _ _ _ _ => trivial) (fun _ _ _ => Iff.rfl) trivial (Or.inl ⟨by rfl, fun w' hw' => by obtain ⟨l, _, hl⟩ := hw'; skip; go_simp⟩) hB ?_
              simp only [Act.put, List.setIfInBounds_toArray, List.set_cons_zero, List.set_cons_succ]
              refine wpAnyL_done (by decide +kernel) ?_ _
              go_wp2_with fail
              go_meet
              exact ⟨rfl, hB⟩
            · skip
              refine wpOp_go (o := _) rfl (fun K hK => ?_)
              go_simp
              go_at_call 59
              refine (HN4.out _).mono ?_; rintro e wx ⟨rfl, hbx⟩
              try replace hcb := keepc hcb hbx
              replace hB := bt hB hbx
              refine hK _ _ ⟨hB, ?_⟩
              clear hK K hbx
              refine wpAnyL_one (i := 4) (by decide +kernel) ?_
              have hcv := byte_str_at bytesB Try.underlying5 Try.underlying9 m (by omega) _ _ hcb.1
              refine wpOp_go (o := _) rfl (fun K hK => ?_)
              go_simp
              refine hK _ _ ⟨hB, ?_⟩
              clear hK K hcv
              refine wpAnyL_takeD (fun _ => True) (i := 8) (v := (.string ⟨(M1).toArray⟩)) (some 24) rfl rfl (by kernel_rfl) (by kernel_rfl) (by kernel_rfl) (fun _ _ _ h => h) (fun _ _ _ _ _ _ => trivial) (fun _ _ _ => Iff.rfl) trivial (Or.inl ⟨by rfl, fun w' hw' => by obtain ⟨l, _, hl⟩ := hw'; skip; go_simp⟩) hB ?_
              simp only [Act.put, List.setIfInBounds_toArray, List.set_cons_zero, List.set_cons_succ]
              refine wpAnyL_takeD (fun _ => True) (i := 13) (v := (.string ⟨(M2).toArray⟩)) (some 29) rfl rfl (by kernel_rfl) (by kernel_rfl) (by kernel_rfl) (fun _ _ _ h => h) (fun _ _ _ _ _ _ => trivial) (fun _ _ _ => Iff.rfl) trivial (Or.inl ⟨by rfl, fun w' hw' => by obtain ⟨l, _, hl⟩ := hw'; skip; go_simp⟩) hB ?_
              simp only [Act.put, List.setIfInBounds_toArray, List.set_cons_zero, List.set_cons_succ]
              refine wpAnyL_takeD (fun _ => True) (i := 17) (v := (.string ⟨(M3).toArray⟩)) (some 33) rfl rfl (by kernel_rfl) (by kernel_rfl) (by kernel_rfl) (fun _ _ _ h => h) (fun _ _ _ _ _ _ => trivial) (fun _ _ _ => Iff.rfl) trivial (Or.inl ⟨by rfl, fun w' hw' => by obtain ⟨l, _, hl⟩ := hw'; skip; go_simp⟩) hB ?_
              simp only [Act.put, List.setIfInBounds_toArray, List.set_cons_zero, List.set_cons_succ]
              refine wpAnyL_takeD (fun _ => True) (i := 22) (v := (.string ⟨(M4).toArray⟩)) (some 38) rfl rfl (by kernel_rfl) (by kernel_rfl) (by kernel_rfl) (fun _ _ _ h => h) (fun _ _ _ _ _ _ => trivial) (fun _ _ _ => Iff.rfl) trivial (Or.inl ⟨by rfl, fun w' hw' => by obtain ⟨l, _, hl⟩ := hw'; skip; go_simp⟩) hB ?_
              simp only [Act.put, List.setIfInBounds_toArray, List.set_cons_zero, List.set_cons_succ]
              refine wpAnyL_takeD (fun _ => True) (i := 23) (v := (.string ⟨(M4).toArray⟩)) (some 5) rfl rfl (by kernel_rfl) (by kernel_rfl) (by kernel_rfl) (fun _ _ _ h => h) (fun _ _ _ _ _ _ => trivial) (fun _ _ _ => Iff.rfl) trivial (Or.inl ⟨by rfl, fun w' hw' => by obtain ⟨l, _, hl⟩ := hw'; skip; go_simp⟩) hB ?_
              simp only [Act.put, List.setIfInBounds_toArray, List.set_cons_zero, List.set_cons_succ]
              refine wpAnyL_done (by decide +kernel) ?_ _
              go_wp2_with fail
              go_meet
              exact ⟨rfl, hB⟩
    · skip
      refine wpOp_go (o := _) rfl (fun K hK => ?_)
      go_simp
      go_at_call 59
      refine (HN1.out _).mono ?_; rintro e wx ⟨rfl, hbx⟩
      try replace hcb := keepc hcb hbx
      replace hB := bt hB hbx
      refine hK _ _ ⟨hB, ?_⟩
      clear hK K hbx
      refine wpAnyL_lst (rs := [3, 12]) (by decide +kernel) ⟨List.cons_ne_nil _ _, ?_⟩
      refine List.forall_mem_cons.2 ⟨?_, List.forall_mem_cons.2 ⟨?_, (fun _ h => absurd h List.not_mem_nil)⟩⟩
      · skip
        refine wpOp_go (o := _) rfl (fun K hK => ?_)
        go_simp
        have hcb := newc wx 5 (.int .u8 (m : Int))
        replace hB := hB.alloc hB.size (.cells #[.int .u8 (m : Int)] 5)
        refine hK _ _ ⟨hB, ?_⟩
        clear hK K
        generalize wx.alloc (.cells #[.int .u8 (m : Int)] 5) = wx at *
        refine wpAnyL_lst (rs := [4, 12]) (by decide +kernel) ⟨List.cons_ne_nil _ _, ?_⟩
        refine List.forall_mem_cons.2 ⟨?_, List.forall_mem_cons.2 ⟨?_, (fun _ h => absurd h List.not_mem_nil)⟩⟩
        · skip
          have hcv := byte_str_at bytesB Try.underlying5 Try.underlying9 m (by omega) _ _ hcb.1
          refine wpOp_go (o := _) rfl (fun K hK => ?_)
          go_simp
          refine hK _ _ ⟨hB, ?_⟩
          clear hK K hcv
          refine wpAnyL_takeD (fun _ => True) (i := 8) (v := (.string ⟨(M1).toArray⟩)) (some 24) rfl rfl (by kernel_rfl) (by kernel_rfl) (by kernel_rfl) (fun _ _ _ h => h) (fun _ _ _ _ _ _ => trivial) (fun _ _ _ => Iff.rfl) trivial (Or.inl ⟨by rfl, fun w' hw' => by obtain ⟨l, _, hl⟩ := hw'; skip; go_simp⟩) hB ?_
          simp only [Act.put, List.setIfInBounds_toArray, List.set_cons_zero, List.set_cons_succ]
          refine wpAnyL_one (i := 12) (by decide +kernel) ?_
          refine wpOp_go (o := _) rfl (fun K hK => ?_)
          go_simp
          go_at_call 60
          refine (HN2.out _).mono ?_; rintro e wx ⟨rfl, hbx⟩
          try replace hcb := keepc hcb hbx
          replace hB := bt hB hbx
          refine hK _ _ ⟨hB, ?_⟩
          clear hK K hbx
          refine wpAnyL_takeD (fun _ => True) (i := 13) (v := (.string ⟨(M2).toArray⟩)) (some 29) rfl rfl (by kernel_rfl) (by kernel_rfl) (by kernel_rfl) (fun _ _ _ h => h) (fun _ _ _ _ _ _ => trivial) (fun _ _ _ => Iff.rfl) trivial (Or.inl ⟨by rfl, fun w' hw' => by obtain ⟨l, _, hl⟩ := hw'; skip; go_simp⟩) hB ?_
          simp only [Act.put, List.setIfInBounds_toArray, List.set_cons_zero, List.set_cons_succ]
          refine wpAnyL_one (i := 16) (by decide +kernel) ?_
          refine wpOp_go (o := _) rfl (fun K hK => ?_)
          go_simp
          go_at_call 59
          refine (HN3.out _).mono ?_; rintro e wx ⟨rfl, hbx⟩
          try replace hcb := keepc hcb hbx
          replace hB := bt hB hbx
          refine hK _ _ ⟨hB, ?_⟩
          clear hK K hbx
          refine wpAnyL_takeD (fun _ => True) (i := 17) (v := (.string ⟨(M3).toArray⟩)) (some 33) rfl rfl (by kernel_rfl) (by kernel_rfl) (by kernel_rfl) (fun _ _ _ h => h) (fun _ _ _ _ _ _ => trivial) (fun _ _ _ => Iff.rfl) trivial (Or.inl ⟨by rfl, fun w' hw' => by obtain ⟨l, _, hl⟩ := hw'; skip; go_simp⟩) hB ?_
          simp only [Act.put, List.setIfInBounds_toArray, List.set_cons_zero, List.set_cons_succ]
          refine wpAnyL_one (i := 21) (by decide +kernel) ?_
          refine wpOp_go (o := _) rfl (fun K hK => ?_)
          go_simp
          go_at_call 59
          refine (HN4.out _).mono ?_; rintro e wx ⟨rfl, hbx⟩
          try replace hcb := keepc hcb hbx
          replace hB := bt hB hbx
          refine hK _ _ ⟨hB, ?_⟩
          clear hK K hbx
          refine wpAnyL_takeD (fun _ => True) (i := 22) (v := (.string ⟨(M4).toArray⟩)) (some 38) rfl rfl (by kernel_rfl) (by kernel_rfl) (by kernel_rfl) (fun _ _ _ h => h) (fun _ _ _ _ _ _ => trivial) (fun _ _ _ => Iff.rfl) trivial (Or.inl ⟨by rfl, fun w' hw' => by obtain ⟨l, _, hl⟩ := hw'; skip; go_simp⟩) hB ?_
          simp only [Act.put, List.setIfInBounds_toArray, List.set_cons_zero, List.set_cons_succ]
          refine wpAnyL_takeD (fun _ => True) (i := 23) (v := (.string ⟨(M4).toArray⟩)) (some 5) rfl rfl (by kernel_rfl) (by kernel_rfl) (by kernel_rfl) (fun _ _ _ h => h) (fun _ _ _ _ _ _ => trivial) (fun _ _ _ => Iff.rfl) trivial (Or.inl ⟨by rfl, fun w' hw' => by obtain ⟨l, _, hl⟩ := hw'; skip; go_simp⟩) hB ?_
          simp only [Act.put, List.setIfInBounds_toArray, List.set_cons_zero, List.set_cons_succ]
          refine wpAnyL_done (by decide +kernel) ?_ _
          go_wp2_with fail
          go_meet
          exact ⟨rfl, hB⟩
        · skip
          refine wpOp_go (o := _) rfl (fun K hK => ?_)
          go_simp
          go_at_call 60
          refine (HN2.out _).mono ?_; rintro e wx ⟨rfl, hbx⟩
          try replace hcb := keepc hcb hbx
          replace hB := bt hB hbx
          refine hK _ _ ⟨hB, ?_⟩
          clear hK K hbx
          refine wpAnyL_lst (rs := [4, 16]) (by decide +kernel) ⟨List.cons_ne_nil _ _, ?_⟩
          refine List.forall_mem_cons.2 ⟨?_, List.forall_mem_cons.2 ⟨?_, (fun _ h => absurd h List.not_mem_nil)⟩⟩
          · skip
            have hcv := byte_str_at bytesB Try.underlying5 Try.underlying9 m (by omega) _ _ hcb.1
            refine wpOp_go (o := _) rfl (fun K hK => ?_)
            go_simp
            refine hK _ _ ⟨hB, ?_⟩
            clear hK K hcv
            refine wpAnyL_takeD (fun _ => True) (i := 8) (v := (.string ⟨(M1).toArray⟩)) (some 24) rfl rfl (by kernel_rfl) (by kernel_rfl) (by kernel_rfl) (fun _ _ _ h => h) (fun _ _ _ _ _ _ => trivial) (fun _ _ _ => Iff.rfl) trivial (Or.inl ⟨by rfl, fun w' hw' => by obtain ⟨l, _, hl⟩ := hw'; skip; go_simp⟩) hB ?_
            simp only [Act.put, List.setIfInBounds_toArray, List.set_cons_zero, List.set_cons_succ]
            refine wpAnyL_takeD (fun _ => True) (i := 13) (v := (.string ⟨(M2).toArray⟩)) (some 29) rfl rfl (by kernel_rfl) (by kernel_rfl) (by kernel_rfl) (fun _ _ _ h => h) (fun _ _ _ _ _ _ => trivial) (fun _ _ _ => Iff.rfl) trivial (Or.inl ⟨by rfl, fun w' hw' => by obtain ⟨l, _, hl⟩ := hw'; skip; go_simp⟩) hB ?_
            simp only [Act.put, List.setIfInBounds_toArray, List.set_cons_zero, List.set_cons_succ]
            refine wpAnyL_one (i := 16) (by decide +kernel) ?_
            refine wpOp_go (o := _) rfl (fun K hK => ?_)
            go_simp
            go_at_call 59
            refine (HN3.out _).mono ?_; rintro e wx ⟨rfl, hbx⟩
            try replace hcb := keepc hcb hbx
            replace hB := bt hB hbx
            refine hK _ _ ⟨hB, ?_⟩
            clear hK K hbx
            refine wpAnyL_takeD (fun _ => True) (i := 17) (v := (.string ⟨(M3).toArray⟩)) (some 33) rfl rfl (by kernel_rfl) (by kernel_rfl) (by kernel_rfl) (fun _ _ _ h => h) (fun _ _ _ _ _ _ => trivial) (fun _ _ _ => Iff.rfl) trivial (Or.inl ⟨by rfl, fun w' hw' => by obtain ⟨l, _, hl⟩ := hw'; skip; go_simp⟩) hB ?_
            simp only [Act.put, List.setIfInBounds_toArray, List.set_cons_zero, List.set_cons_succ]
            refine wpAnyL_one (i := 21) (by decide +kernel) ?_
            refine wpOp_go (o := _) rfl (fun K hK => ?_)
            go_simp
            go_at_call 59
            refine (HN4.out _).mono ?_; rintro e wx ⟨rfl, hbx⟩
            try replace hcb := keepc hcb hbx
            replace hB := bt hB hbx
            refine hK _ _ ⟨hB, ?_⟩
            clear hK K hbx
            refine wpAnyL_takeD (fun _ => True) (i := 22) (v := (.string ⟨(M4).toArray⟩)) (some 38) rfl rfl (by kernel_rfl) (by kernel_rfl) (by kernel_rfl) (fun _ _ _ h => h) (fun _ _ _ _ _ _ => trivial) (fun _ _ _ => Iff.rfl) trivial (Or.inl ⟨by rfl, fun w' hw' => by obtain ⟨l, _, hl⟩ := hw'; skip; go_simp⟩) hB ?_
            simp only [Act.put, List.setIfInBounds_toArray, List.set_cons_zero, List.set_cons_succ]
            refine wpAnyL_takeD (fun _ => True) (i := 23) (v := (.string ⟨(M4).toArray⟩)) (some 5) rfl rfl (by kernel_rfl) (by kernel_rfl) (by kernel_rfl) (fun _ _ _ h => h) (fun _ _ _ _ _ _ => trivial) (fun _ _ _ => Iff.rfl) trivial (Or.inl ⟨by rfl, fun w' hw' => by obtain ⟨l, _, hl⟩ := hw'; skip; go_simp⟩) hB ?_
            simp only [Act.put, List.setIfInBounds_toArray, List.set_cons_zero, List.set_cons_succ]
            refine wpAnyL_done (by decide +kernel) ?_ _
            go_wp2_with fail
            go_meet
            exact ⟨rfl, hB⟩
          · skip
            refine wpOp_go (o := _) rfl (fun K hK => ?_)
            go_simp
            go_at_call 59
            refine (HN3.out _).mono ?_; rintro e wx ⟨rfl, hbx⟩
            try replace hcb := keepc hcb hbx
            replace hB := bt hB hbx
            refine hK _ _ ⟨hB, ?_⟩
            clear hK K hbx
            refine wpAnyL_lst (rs := [4, 21]) (by decide +kernel) ⟨List.cons_ne_nil _ _, ?_⟩
            refine List.forall_mem_cons.2 ⟨?_, List.forall_mem_cons.2 ⟨?_, (fun _ h => absurd h List.not_mem_nil)⟩⟩
            · skip
              have hcv := byte_str_at bytesB Try.underlying5 Try.underlying9 m (by omega) _ _ hcb.1
              refine wpOp_go (o := _) rfl (fun K hK => ?_)
              go_simp
              refine hK _ _ ⟨hB, ?_⟩
              clear hK K hcv
              refine wpAnyL_takeD (fun _ => True) (i := 8) (v := (.string ⟨(M1).toArray⟩)) (some 24) rfl rfl (by kernel_rfl) (by kernel_rfl) (by kernel_rfl) (fun _ _ _ h => h) (fun _ _ _ _ _ _ => trivial) (fun _ _ _ => Iff.rfl) trivial (Or.inl ⟨by rfl, fun w' hw' => by obtain ⟨l, _, hl⟩ := hw'; skip; go_simp⟩) hB ?_
              simp only [Act.put, List.setIfInBounds_toArray, List.set_cons_zero, List.set_cons_succ]
              refine wpAnyL_takeD (fun _ => True) (i := 13) (v := (.string ⟨(M2).toArray⟩)) (some 29) rfl rfl (by kernel_rfl) (by kernel_rfl) (by kernel_rfl) (fun _ _ _ h => h) (fun _ _ _ _ _ _ => trivial) (fun _ _ _ => Iff.rfl) trivial (Or.inl ⟨by rfl, fun w' hw' => by obtain ⟨l, _, hl⟩ := hw'; skip; go_simp⟩) hB ?_
              simp only [Act.put, List.setIfInBounds_toArray, List.set_cons_zero, List.set_cons_succ]
              refine wpAnyL_takeD (fun _ => True) (i := 17) (v := (.string ⟨(M3).toArray⟩)) (some 33) rfl rfl (by kernel_rfl) (by kernel_rfl) (by kernel_rfl) (fun _ _ _ h => h) (fun _ _ _ _ _ _ => trivial) (fun _ _ _ => Iff.rfl) trivial (Or.inl ⟨by rfl, fun w' hw' => by obtain ⟨l, _, hl⟩ := hw'; skip; go_simp⟩) hB ?_
              simp only [Act.put, List.setIfInBounds_toArray, List.set_cons_zero, List.set_cons_succ]
              refine wpAnyL_one (i := 21) (by decide +kernel) ?_
              refine wpOp_go (o := _) rfl (fun K hK => ?_)
              go_simp
              go_at_call 59
              refine (HN4.out _).mono ?_; rintro e wx ⟨rfl, hbx⟩
              try replace hcb := keepc hcb hbx
              replace hB := bt hB hbx
              refine hK _ _ ⟨hB, ?_⟩
              clear hK K hbx
              refine wpAnyL_takeD (fun _ => True) (i := 22) (v := (.string ⟨(M4).toArray⟩)) (some 38) rfl rfl (by kernel_rfl) (by kernel_rfl) (by kernel_rfl) (fun _ _ _ h => h) (fun _ _ _ _ _ _ => trivial) (fun _ _ _ => Iff.rfl) trivial (Or.inl ⟨by rfl, fun w' hw' => by obtain ⟨l, _, hl⟩ := hw'; skip; go_simp⟩) hB ?_
              simp only [Act.put, List.setIfInBounds_toArray, List.set_cons_zero, List.set_cons_succ]
              refine wpAnyL_takeD (fun _ => True) (i := 23) (v := (.string ⟨(M4).toArray⟩)) (some 5) rfl rfl (by kernel_rfl) (by kernel_rfl) (by kernel_rfl) (fun _ _ _ h => h) (fun _ _ _ _ _ _ => trivial) (fun _ _ _ => Iff.rfl) trivial (Or.inl ⟨by rfl, fun w' hw' => by obtain ⟨l, _, hl⟩ := hw'; skip; go_simp⟩) hB ?_
              simp only [Act.put, List.setIfInBounds_toArray, List.set_cons_zero, List.set_cons_succ]
              refine wpAnyL_done (by decide +kernel) ?_ _
              go_wp2_with fail
              go_meet
              exact ⟨rfl, hB⟩
            · skip
              refine wpOp_go (o := _) rfl (fun K hK => ?_)
              go_simp
              go_at_call 59
              refine (HN4.out _).mono ?_; rintro e wx ⟨rfl, hbx⟩
              try replace hcb := keepc hcb hbx
              replace hB := bt hB hbx
              refine hK _ _ ⟨hB, ?_⟩
              clear hK K hbx
              refine wpAnyL_one (i := 4) (by decide +kernel) ?_
              have hcv := byte_str_at bytesB Try.underlying5 Try.underlying9 m (by omega) _ _ hcb.1
              refine wpOp_go (o := _) rfl (fun K hK => ?_)
              go_simp
              refine hK _ _ ⟨hB, ?_⟩
              clear hK K hcv
              refine wpAnyL_takeD (fun _ => True) (i := 8) (v := (.string ⟨(M1).toArray⟩)) (some 24) rfl rfl (by kernel_rfl) (by kernel_rfl) (by kernel_rfl) (fun _ _ _ h => h) (fun _ _ _ _ _ _ => trivial) (fun _ _ _ => Iff.rfl) trivial (Or.inl ⟨by rfl, fun w' hw' => by obtain ⟨l, _, hl⟩ := hw'; skip; go_simp⟩) hB ?_
              simp only [Act.put, List.setIfInBounds_toArray, List.set_cons_zero, List.set_cons_succ]
              refine wpAnyL_takeD (fun _ => True) (i := 13) (v := (.string ⟨(M2).toArray⟩)) (some 29) rfl rfl (by kernel_rfl) (by kernel_rfl) (by kernel_rfl) (fun _ _ _ h => h) (fun _ _ _ _ _ _ => trivial) (fun _ _ _ => Iff.rfl) trivial (Or.inl ⟨by rfl, fun w' hw' => by obtain ⟨l, _, hl⟩ := hw'; skip; go_simp⟩) hB ?_
              simp only [Act.put, List.setIfInBounds_toArray, List.set_cons_zero, List.set_cons_succ]
              refine wpAnyL_takeD (fun _ => True) (i := 17) (v := (.string ⟨(M3).toArray⟩)) (some 33) rfl rfl (by kernel_rfl) (by kernel_rfl) (by kernel_rfl) (fun _ _ _ h => h) (fun _ _ _ _ _ _ => trivial) (fun _ _ _ => Iff.rfl) trivial (Or.inl ⟨by rfl, fun w' hw' => by obtain ⟨l, _, hl⟩ := hw'; skip; go_simp⟩) hB ?_
              simp only [Act.put, List.setIfInBounds_toArray, List.set_cons_zero, List.set_cons_succ]
              refine wpAnyL_takeD (fun _ => True) (i := 22) (v := (.string ⟨(M4).toArray⟩)) (some 38) rfl rfl (by kernel_rfl) (by kernel_rfl) (by kernel_rfl) (fun _ _ _ h => h) (fun _ _ _ _ _ _ => trivial) (fun _ _ _ => Iff.rfl) trivial (Or.inl ⟨by rfl, fun w' hw' => by obtain ⟨l, _, hl⟩ := hw'; skip; go_simp⟩) hB ?_
              simp only [Act.put, List.setIfInBounds_toArray, List.set_cons_zero, List.set_cons_succ]
              refine wpAnyL_takeD (fun _ => True) (i := 23) (v := (.string ⟨(M4).toArray⟩)) (some 5) rfl rfl (by kernel_rfl) (by kernel_rfl) (by kernel_rfl) (fun _ _ _ h => h) (fun _ _ _ _ _ _ => trivial) (fun _ _ _ => Iff.rfl) trivial (Or.inl ⟨by rfl, fun w' hw' => by obtain ⟨l, _, hl⟩ := hw'; skip; go_simp⟩) hB ?_
              simp only [Act.put, List.setIfInBounds_toArray, List.set_cons_zero, List.set_cons_succ]
              refine wpAnyL_done (by decide +kernel) ?_ _
              go_wp2_with fail
              go_meet
              exact ⟨rfl, hB⟩
      · skip
        refine wpOp_go (o := _) rfl (fun K hK => ?_)
        go_simp
        go_at_call 60
        refine (HN2.out _).mono ?_; rintro e wx ⟨rfl, hbx⟩
        try replace hcb := keepc hcb hbx
        replace hB := bt hB hbx
        refine hK _ _ ⟨hB, ?_⟩
        clear hK K hbx
        refine wpAnyL_lst (rs := [3, 16]) (by decide +kernel) ⟨List.cons_ne_nil _ _, ?_⟩
        refine List.forall_mem_cons.2 ⟨?_, List.forall_mem_cons.2 ⟨?_, (fun _ h => absurd h List.not_mem_nil)⟩⟩
        · skip
          refine wpOp_go (o := _) rfl (fun K hK => ?_)
          go_simp
          have hcb := newc wx 5 (.int .u8 (m : Int))
          replace hB := hB.alloc hB.size (.cells #[.int .u8 (m : Int)] 5)
          refine hK _ _ ⟨hB, ?_⟩
          clear hK K
          generalize wx.alloc (.cells #[.int .u8 (m : Int)] 5) = wx at *
          refine wpAnyL_lst (rs := [4, 16]) (by decide +kernel) ⟨List.cons_ne_nil _ _, ?_⟩
          refine List.forall_mem_cons.2 ⟨?_, List.forall_mem_cons.2 ⟨?_, (fun _ h => absurd h List.not_mem_nil)⟩⟩
          · skip
            have hcv := byte_str_at bytesB Try.underlying5 Try.underlying9 m (by omega) _ _ hcb.1
            refine wpOp_go (o := _) rfl (fun K hK => ?_)
            go_simp
            refine hK _ _ ⟨hB, ?_⟩
            clear hK K hcv
            refine wpAnyL_takeD (fun _ => True) (i := 8) (v := (.string ⟨(M1).toArray⟩)) (some 24) rfl rfl (by kernel_rfl) (by kernel_rfl) (by kernel_rfl) (fun _ _ _ h => h) (fun _ _ _ _ _ _ => trivial) (fun _ _ _ => Iff.rfl) trivial (Or.inl ⟨by rfl, fun w' hw' => by obtain ⟨l, _, hl⟩ := hw'; skip; go_simp⟩) hB ?_
            simp only [Act.put, List.setIfInBounds_toArray, List.set_cons_zero, List.set_cons_succ]
            refine wpAnyL_takeD (fun _ => True) (i := 13) (v := (.string ⟨(M2).toArray⟩)) (some 29) rfl rfl (by kernel_rfl) (by kernel_rfl) (by kernel_rfl) (fun _ _ _ h => h) (fun _ _ _ _ _ _ => trivial) (fun _ _ _ => Iff.rfl) trivial (Or.inl ⟨by rfl, fun w' hw' => by obtain ⟨l, _, hl⟩ := hw'; skip; go_simp⟩) hB ?_
            simp only [Act.put, List.setIfInBounds_toArray, List.set_cons_zero, List.set_cons_succ]
            refine wpAnyL_one (i := 16) (by decide +kernel) ?_
            refine wpOp_go (o := _) rfl (fun K hK => ?_)
            go_simp
            go_at_call 59
            refine (HN3.out _).mono ?_; rintro e wx ⟨rfl, hbx⟩
            try replace hcb := keepc hcb hbx
            replace hB := bt hB hbx
            refine hK _ _ ⟨hB, ?_⟩
            clear hK K hbx
            refine wpAnyL_takeD (fun _ => True) (i := 17) (v := (.string ⟨(M3).toArray⟩)) (some 33) rfl rfl (by kernel_rfl) (by kernel_rfl) (by kernel_rfl) (fun _ _ _ h => h) (fun _ _ _ _ _ _ => trivial) (fun _ _ _ => Iff.rfl) trivial (Or.inl ⟨by rfl, fun w' hw' => by obtain ⟨l, _, hl⟩ := hw'; skip; go_simp⟩) hB ?_
            simp only [Act.put, List.setIfInBounds_toArray, List.set_cons_zero, List.set_cons_succ]
            refine wpAnyL_one (i := 21) (by decide +kernel) ?_
            refine wpOp_go (o := _) rfl (fun K hK => ?_)
            go_simp
            go_at_call 59
            refine (HN4.out _).mono ?_; rintro e wx ⟨rfl, hbx⟩
            try replace hcb := keepc hcb hbx
            replace hB := bt hB hbx
            refine hK _ _ ⟨hB, ?_⟩
            clear hK K hbx
            refine wpAnyL_takeD (fun _ => True) (i := 22) (v := (.string ⟨(M4).toArray⟩)) (some 38) rfl rfl (by kernel_rfl) (by kernel_rfl) (by kernel_rfl) (fun _ _ _ h => h) (fun _ _ _ _ _ _ => trivial) (fun _ _ _ => Iff.rfl) trivial (Or.inl ⟨by rfl, fun w' hw' => by obtain ⟨l, _, hl⟩ := hw'; skip; go_simp⟩) hB ?_
            simp only [Act.put, List.setIfInBounds_toArray, List.set_cons_zero, List.set_cons_succ]
            refine wpAnyL_takeD (fun _ => True) (i := 23) (v := (.string ⟨(M4).toArray⟩)) (some 5) rfl rfl (by kernel_rfl) (by kernel_rfl) (by kernel_rfl) (fun _ _ _ h => h) (fun _ _ _ _ _ _ => trivial) (fun _ _ _ => Iff.rfl) trivial (Or.inl ⟨by rfl, fun w' hw' => by obtain ⟨l, _, hl⟩ := hw'; skip; go_simp⟩) hB ?_
            simp only [Act.put, List.setIfInBounds_toArray, List.set_cons_zero, List.set_cons_succ]
            refine wpAnyL_done (by decide +kernel) ?_ _
            go_wp2_with fail
            go_meet
            exact ⟨rfl, hB⟩
          · skip
            refine wpOp_go (o := _) rfl (fun K hK => ?_)
            go_simp
            go_at_call 59
            refine (HN3.out _).mono ?_; rintro e wx ⟨rfl, hbx⟩
            try replace hcb := keepc hcb hbx
            replace hB := bt hB hbx
            refine hK _ _ ⟨hB, ?_⟩
            clear hK K hbx
            refine wpAnyL_lst (rs := [4, 21]) (by decide +kernel) ⟨List.cons_ne_nil _ _, ?_⟩
            refine List.forall_mem_cons.2 ⟨?_, List.forall_mem_cons.2 ⟨?_, (fun _ h => absurd h List.not_mem_nil)⟩⟩
            · skip
              have hcv := byte_str_at bytesB Try.underlying5 Try.underlying9 m (by omega) _ _ hcb.1
              refine wpOp_go (o := _) rfl (fun K hK => ?_)
              go_simp
              refine hK _ _ ⟨hB, ?_⟩
              clear hK K hcv
              refine wpAnyL_takeD (fun _ => True) (i := 8) (v := (.string ⟨(M1).toArray⟩)) (some 24) rfl rfl (by kernel_rfl) (by kernel_rfl) (by kernel_rfl) (fun _ _ _ h => h) (fun _ _ _ _ _ _ => trivial) (fun _ _ _ => Iff.rfl) trivial (Or.inl ⟨by rfl, fun w' hw' => by obtain ⟨l, _, hl⟩ := hw'; skip; go_simp⟩) hB ?_
              simp only [Act.put, List.setIfInBounds_toArray, List.set_cons_zero, List.set_cons_succ]
              refine wpAnyL_takeD (fun _ => True) (i := 13) (v := (.string ⟨(M2).toArray⟩)) (some 29) rfl rfl (by kernel_rfl) (by kernel_rfl) (by kernel_rfl) (fun _ _ _ h => h) (fun _ _ _ _ _ _ => trivial) (fun _ _ _ => Iff.rfl) trivial (Or.inl ⟨by rfl, fun w' hw' => by obtain ⟨l, _, hl⟩ := hw'; skip; go_simp⟩) hB ?_
              simp only [Act.put, List.setIfInBounds_toArray, List.set_cons_zero, List.set_cons_succ]
              refine wpAnyL_takeD (fun _ => True) (i := 17) (v := (.string ⟨(M3).toArray⟩)) (some 33) rfl rfl (by kernel_rfl) (by kernel_rfl) (by kernel_rfl) (fun _ _ _ h => h) (fun _ _ _ _ _ _ => trivial) (fun _ _ _ => Iff.rfl) trivial (Or.inl ⟨by rfl, fun w' hw' => by obtain ⟨l, _, hl⟩ := hw'; skip; go_simp⟩) hB ?_
              simp only [Act.put, List.setIfInBounds_toArray, List.set_cons_zero, List.set_cons_succ]
              refine wpAnyL_one (i := 21) (by decide +kernel) ?_
              refine wpOp_go (o := _) rfl (fun K hK => ?_)
              go_simp
              go_at_call 59
              refine (HN4.out _).mono ?_; rintro e wx ⟨rfl, hbx⟩
              try replace hcb := keepc hcb hbx
              replace hB := bt hB hbx
              refine hK _ _ ⟨hB, ?_⟩
              clear hK K hbx
              refine wpAnyL_takeD (fun _ => True) (i := 22) (v := (.string ⟨(M4).toArray⟩)) (some 38) rfl rfl (by kernel_rfl) (by kernel_rfl) (by kernel_rfl) (fun _ _ _ h => h) (fun _ _ _ _ _ _ => trivial) (fun _ _ _ => Iff.rfl) trivial (Or.inl ⟨by rfl, fun w' hw' => by obtain ⟨l, _, hl⟩ := hw'; skip; go_simp⟩) hB ?_
              simp only [Act.put, List.setIfInBounds_toArray, List.set_cons_zero, List.set_cons_succ]
              refine wpAnyL_takeD (fun _ => True) (i := 23) (v := (.string ⟨(M4).toArray⟩)) (some 5) rfl rfl (by kernel_rfl) (by kernel_rfl) (by kernel_rfl) (fun _ _ _ h => h) (fun _ _ _ _ _ _ => trivial) (fun _ _ _ => Iff.rfl) trivial (Or.inl ⟨by rfl, fun w' hw' => by obtain ⟨l, _, hl⟩ := hw'; skip; go_simp⟩) hB ?_
              simp only [Act.put, List.setIfInBounds_toArray, List.set_cons_zero, List.set_cons_succ]
              refine wpAnyL_done (by decide +kernel) ?_ _
              go_wp2_with fail
              go_meet
              exact ⟨rfl, hB⟩
            · skip
              refine wpOp_go (o := _) rfl (fun K hK => ?_)
              go_simp
              go_at_call 59
              refine (HN4.out _).mono ?_; rintro e wx ⟨rfl, hbx⟩
              try replace hcb := keepc hcb hbx
              replace hB := bt hB hbx
              refine hK _ _ ⟨hB, ?_⟩
              clear hK K hbx
              refine wpAnyL_one (i := 4) (by decide +kernel) ?_
              have hcv := byte_str_at bytesB Try.underlying5 Try.underlying9 m (by omega) _ _ hcb.1
              refine wpOp_go (o := _) rfl (fun K hK => ?_)
              go_simp
              refine hK _ _ ⟨hB, ?_⟩
              clear hK K hcv
              refine wpAnyL_takeD (fun _ => True) (i := 8) (v := (.string ⟨(M1).toArray⟩)) (some 24) rfl rfl (by kernel_rfl) (by kernel_rfl) (by kernel_rfl) (fun _ _ _ h => h) (fun _ _ _ _ _ _ => trivial) (fun _ _ _ => Iff.rfl) trivial (Or.inl ⟨by rfl, fun w' hw' => by obtain ⟨l, _, hl⟩ := hw'; skip; go_simp⟩) hB ?_
              simp only [Act.put, List.setIfInBounds_toArray, List.set_cons_zero, List.set_cons_succ]
              refine wpAnyL_takeD (fun _ => True) (i := 13) (v := (.string ⟨(M2).toArray⟩)) (some 29) rfl rfl (by kernel_rfl) (by kernel_rfl) (by kernel_rfl) (fun _ _ _ h => h) (fun _ _ _ _ _ _ => trivial) (fun _ _ _ => Iff.rfl) trivial (Or.inl ⟨by rfl, fun w' hw' => by obtain ⟨l, _, hl⟩ := hw'; skip; go_simp⟩) hB ?_
              simp only [Act.put, List.setIfInBounds_toArray, List.set_cons_zero, List.set_cons_succ]
              refine wpAnyL_takeD (fun _ => True) (i := 17) (v := (.string ⟨(M3).toArray⟩)) (some 33) rfl rfl (by kernel_rfl) (by kernel_rfl) (by kernel_rfl) (fun _ _ _ h => h) (fun _ _ _ _ _ _ => trivial) (fun _ _ _ => Iff.rfl) trivial (Or.inl ⟨by rfl, fun w' hw' => by obtain ⟨l, _, hl⟩ := hw'; skip; go_simp⟩) hB ?_
              simp only [Act.put, List.setIfInBounds_toArray, List.set_cons_zero, List.set_cons_succ]
              refine wpAnyL_takeD (fun _ => True) (i := 22) (v := (.string ⟨(M4).toArray⟩)) (some 38) rfl rfl (by kernel_rfl) (by kernel_rfl) (by kernel_rfl) (fun _ _ _ h => h) (fun _ _ _ _ _ _ => trivial) (fun _ _ _ => Iff.rfl) trivial (Or.inl ⟨by rfl, fun w' hw' => by obtain ⟨l, _, hl⟩ := hw'; skip; go_simp⟩) hB ?_
              simp only [Act.put, List.setIfInBounds_toArray, List.set_cons_zero, List.set_cons_succ]
              refine wpAnyL_takeD (fun _ => True) (i := 23) (v := (.string ⟨(M4).toArray⟩)) (some 5) rfl rfl (by kernel_rfl) (by kernel_rfl) (by kernel_rfl) (fun _ _ _ h => h) (fun _ _ _ _ _ _ => trivial) (fun _ _ _ => Iff.rfl) trivial (Or.inl ⟨by rfl, fun w' hw' => by obtain ⟨l, _, hl⟩ := hw'; skip; go_simp⟩) hB ?_
              simp only [Act.put, List.setIfInBounds_toArray, List.set_cons_zero, List.set_cons_succ]
              refine wpAnyL_done (by decide +kernel) ?_ _
              go_wp2_with fail
              go_meet
              exact ⟨rfl, hB⟩
        · skip
          refine wpOp_go (o := _) rfl (fun K hK => ?_)
          go_simp
          go_at_call 59
          refine (HN3.out _).mono ?_; rintro e wx ⟨rfl, hbx⟩
          try replace hcb := keepc hcb hbx
          replace hB := bt hB hbx
          refine hK _ _ ⟨hB, ?_⟩
          clear hK K hbx
          refine wpAnyL_lst (rs := [3, 21]) (by decide +kernel) ⟨List.cons_ne_nil _ _, ?_⟩
          refine List.forall_mem_cons.2 ⟨?_, List.forall_mem_cons.2 ⟨?_, (fun _ h => absurd h List.not_mem_nil)⟩⟩
          · skip
            refine wpOp_go (o := _) rfl (fun K hK => ?_)
            go_simp
            have hcb := newc wx 5 (.int .u8 (m : Int))
            replace hB := hB.alloc hB.size (.cells #[.int .u8 (m : Int)] 5)
            refine hK _ _ ⟨hB, ?_⟩
            clear hK K
            generalize wx.alloc (.cells #[.int .u8 (m : Int)] 5) = wx at *
            refine wpAnyL_lst (rs := [4, 21]) (by decide +kernel) ⟨List.cons_ne_nil _ _, ?_⟩
            refine List.forall_mem_cons.2 ⟨?_, List.forall_mem_cons.2 ⟨?_, (fun _ h => absurd h List.not_mem_nil)⟩⟩
            · skip
              have hcv := byte_str_at bytesB Try.underlying5 Try.underlying9 m (by omega) _ _ hcb.1
              refine wpOp_go (o := _) rfl (fun K hK => ?_)
              go_simp
              refine hK _ _ ⟨hB, ?_⟩
              clear hK K hcv
              refine wpAnyL_takeD (fun _ => True) (i := 8) (v := (.string ⟨(M1).toArray⟩)) (some 24) rfl rfl (by kernel_rfl) (by kernel_rfl) (by kernel_rfl) (fun _ _ _ h => h) (fun _ _ _ _ _ _ => trivial) (fun _ _ _ => Iff.rfl) trivial (Or.inl ⟨by rfl, fun w' hw' => by obtain ⟨l, _, hl⟩ := hw'; skip; go_simp⟩) hB ?_
              simp only [Act.put, List.setIfInBounds_toArray, List.set_cons_zero, List.set_cons_succ]
              refine wpAnyL_takeD (fun _ => True) (i := 13) (v := (.string ⟨(M2).toArray⟩)) (some 29) rfl rfl (by kernel_rfl) (by kernel_rfl) (by kernel_rfl) (fun _ _ _ h => h) (fun _ _ _ _ _ _ => trivial) (fun _ _ _ => Iff.rfl) trivial (Or.inl ⟨by rfl, fun w' hw' => by obtain ⟨l, _, hl⟩ := hw'; skip; go_simp⟩) hB ?_
              simp only [Act.put, List.setIfInBounds_toArray, List.set_cons_zero, List.set_cons_succ]
              refine wpAnyL_takeD (fun _ => True) (i := 17) (v := (.string ⟨(M3).toArray⟩)) (some 33) rfl rfl (by kernel_rfl) (by kernel_rfl) (by kernel_rfl) (fun _ _ _ h => h) (fun _ _ _ _ _ _ => trivial) (fun _ _ _ => Iff.rfl) trivial (Or.inl ⟨by rfl, fun w' hw' => by obtain ⟨l, _, hl⟩ := hw'; skip; go_simp⟩) hB ?_
              simp only [Act.put, List.setIfInBounds_toArray, List.set_cons_zero, List.set_cons_succ]
              refine wpAnyL_one (i := 21) (by decide +kernel) ?_
              refine wpOp_go (o := _) rfl (fun K hK => ?_)
              go_simp
              go_at_call 59
              refine (HN4.out _).mono ?_; rintro e wx ⟨rfl, hbx⟩
              try replace hcb := keepc hcb hbx
              replace hB := bt hB hbx
              refine hK _ _ ⟨hB, ?_⟩
              clear hK K hbx
              refine wpAnyL_takeD (fun _ => True) (i := 22) (v := (.string ⟨(M4).toArray⟩)) (some 38) rfl rfl (by kernel_rfl) (by kernel_rfl) (by kernel_rfl) (fun _ _ _ h => h) (fun _ _ _ _ _ _ => trivial) (fun _ _ _ => Iff.rfl) trivial (Or.inl ⟨by rfl, fun w' hw' => by obtain ⟨l, _, hl⟩ := hw'; skip; go_simp⟩) hB ?_
              simp only [Act.put, List.setIfInBounds_toArray, List.set_cons_zero, List.set_cons_succ]
              refine wpAnyL_takeD (fun _ => True) (i := 23) (v := (.string ⟨(M4).toArray⟩)) (some 5) rfl rfl (by kernel_rfl) (by kernel_rfl) (by kernel_rfl) (fun _ _ _ h => h) (fun _ _ _ _ _ _ => trivial) (fun _ _ _ => Iff.rfl) trivial (Or.inl ⟨by rfl, fun w' hw' => by obtain ⟨l, _, hl⟩ := hw'; skip; go_simp⟩) hB ?_
              simp only [Act.put, List.setIfInBounds_toArray, List.set_cons_zero, List.set_cons_succ]
              refine wpAnyL_done (by decide +kernel) ?_ _
              go_wp2_with fail
              go_meet
              exact ⟨rfl, hB⟩
            · skip
              refine wpOp_go (o := _) rfl (fun K hK => ?_)
              go_simp
              go_at_call 59
              refine (HN4.out _).mono ?_; rintro e wx ⟨rfl, hbx⟩
              try replace hcb := keepc hcb hbx
              replace hB := bt hB hbx
              refine hK _ _ ⟨hB, ?_⟩
              clear hK K hbx
              refine wpAnyL_one (i := 4) (by decide +kernel) ?_
              have hcv := byte_str_at bytesB Try.underlying5 Try.underlying9 m (by omega) _ _ hcb.1
              refine wpOp_go (o := _) rfl (fun K hK => ?_)
              go_simp
              refine hK _ _ ⟨hB, ?_⟩
              clear hK K hcv
              refine wpAnyL_takeD (fun _ => True) (i := 8) (v := (.string ⟨(M1).toArray⟩)) (some 24) rfl rfl (by kernel_rfl) (by kernel_rfl) (by kernel_rfl) (fun _ _ _ h => h) (fun _ _ _ _ _ _ => trivial) (fun _ _ _ => Iff.rfl) trivial (Or.inl ⟨by rfl, fun w' hw' => by obtain ⟨l, _, hl⟩ := hw'; skip; go_simp⟩) hB ?_
              simp only [Act.put, List.setIfInBounds_toArray, List.set_cons_zero, List.set_cons_succ]
              refine wpAnyL_takeD (fun _ => True) (i := 13) (v := (.string ⟨(M2).toArray⟩)) (some 29) rfl rfl (by kernel_rfl) (by kernel_rfl) (by kernel_rfl) (fun _ _ _ h => h) (fun _ _ _ _ _ _ => trivial) (fun _ _ _ => Iff.rfl) trivial (Or.inl ⟨by rfl, fun w' hw' => by obtain ⟨l, _, hl⟩ := hw'; skip; go_simp⟩) hB ?_
              simp only [Act.put, List.setIfInBounds_toArray, List.set_cons_zero, List.set_cons_succ]
              refine wpAnyL_takeD (fun _ => True) (i := 17) (v := (.string ⟨(M3).toArray⟩)) (some 33) rfl rfl (by kernel_rfl) (by kernel_rfl) (by kernel_rfl) (fun _ _ _ h => h) (fun _ _ _ _ _ _ => trivial) (fun _ _ _ => Iff.rfl) trivial (Or.inl ⟨by rfl, fun w' hw' => by obtain ⟨l, _, hl⟩ := hw'; skip; go_simp⟩) hB ?_
              simp only [Act.put, List.setIfInBounds_toArray, List.set_cons_zero, List.set_cons_succ]
              refine wpAnyL_takeD (fun _ => True) (i := 22) (v := (.string ⟨(M4).toArray⟩)) (some 38) rfl rfl (by kernel_rfl) (by kernel_rfl) (by kernel_rfl) (fun _ _ _ h => h) (fun _ _ _ _ _ _ => trivial) (fun _ _ _ => Iff.rfl) trivial (Or.inl ⟨by rfl, fun w' hw' => by obtain ⟨l, _, hl⟩ := hw'; skip; go_simp⟩) hB ?_
              simp only [Act.put, List.setIfInBounds_toArray, List.set_cons_zero, List.set_cons_succ]
              refine wpAnyL_takeD (fun _ => True) (i := 23) (v := (.string ⟨(M4).toArray⟩)) (some 5) rfl rfl (by kernel_rfl) (by kernel_rfl) (by kernel_rfl) (fun _ _ _ h => h) (fun _ _ _ _ _ _ => trivial) (fun _ _ _ => Iff.rfl) trivial (Or.inl ⟨by rfl, fun w' hw' => by obtain ⟨l, _, hl⟩ := hw'; skip; go_simp⟩) hB ?_
              simp only [Act.put, List.setIfInBounds_toArray, List.set_cons_zero, List.set_cons_succ]
              refine wpAnyL_done (by decide +kernel) ?_ _
              go_wp2_with fail
              go_meet
              exact ⟨rfl, hB⟩
          · skip
            refine wpOp_go (o := _) rfl (fun K hK => ?_)
            go_simp
            go_at_call 59
            refine (HN4.out _).mono ?_; rintro e wx ⟨rfl, hbx⟩
            try replace hcb := keepc hcb hbx
            replace hB := bt hB hbx
            refine hK _ _ ⟨hB, ?_⟩
            clear hK K hbx
            refine wpAnyL_one (i := 3) (by decide +kernel) ?_
            refine wpOp_go (o := _) rfl (fun K hK => ?_)
            go_simp
            have hcb := newc wx 5 (.int .u8 (m : Int))
            replace hB := hB.alloc hB.size (.cells #[.int .u8 (m : Int)] 5)
            refine hK _ _ ⟨hB, ?_⟩
            clear hK K
            generalize wx.alloc (.cells #[.int .u8 (m : Int)] 5) = wx at *
            refine wpAnyL_one (i := 4) (by decide +kernel) ?_
            have hcv := byte_str_at bytesB Try.underlying5 Try.underlying9 m (by omega) _ _ hcb.1
            refine wpOp_go (o := _) rfl (fun K hK => ?_)
            go_simp
            refine hK _ _ ⟨hB, ?_⟩
            clear hK K hcv
            refine wpAnyL_takeD (fun _ => True) (i := 8) (v := (.string ⟨(M1).toArray⟩)) (some 24) rfl rfl (by kernel_rfl) (by kernel_rfl) (by kernel_rfl) (fun _ _ _ h => h) (fun _ _ _ _ _ _ => trivial) (fun _ _ _ => Iff.rfl) trivial (Or.inl ⟨by rfl, fun w' hw' => by obtain ⟨l, _, hl⟩ := hw'; skip; go_simp⟩) hB ?_
            simp only [Act.put, List.setIfInBounds_toArray, List.set_cons_zero, List.set_cons_succ]
            refine wpAnyL_takeD (fun _ => True) (i := 13) (v := (.string ⟨(M2).toArray⟩)) (some 29) rfl rfl (by kernel_rfl) (by kernel_rfl) (by kernel_rfl) (fun _ _ _ h => h) (fun _ _ _ _ _ _ => trivial) (fun _ _ _ => Iff.rfl) trivial (Or.inl ⟨by rfl, fun w' hw' => by obtain ⟨l, _, hl⟩ := hw'; skip; go_simp⟩) hB ?_
            simp only [Act.put, List.setIfInBounds_toArray, List.set_cons_zero, List.set_cons_succ]
            refine wpAnyL_takeD (fun _ => True) (i := 17) (v := (.string ⟨(M3).toArray⟩)) (some 33) rfl rfl (by kernel_rfl) (by kernel_rfl) (by kernel_rfl) (fun _ _ _ h => h) (fun _ _ _ _ _ _ => trivial) (fun _ _ _ => Iff.rfl) trivial (Or.inl ⟨by rfl, fun w' hw' => by obtain ⟨l, _, hl⟩ := hw'; skip; go_simp⟩) hB ?_
            simp only [Act.put, List.setIfInBounds_toArray, List.set_cons_zero, List.set_cons_succ]
            refine wpAnyL_takeD (fun _ => True) (i := 22) (v := (.string ⟨(M4).toArray⟩)) (some 38) rfl rfl (by kernel_rfl) (by kernel_rfl) (by kernel_rfl) (fun _ _ _ h => h) (fun _ _ _ _ _ _ => trivial) (fun _ _ _ => Iff.rfl) trivial (Or.inl ⟨by rfl, fun w' hw' => by obtain ⟨l, _, hl⟩ := hw'; skip; go_simp⟩) hB ?_
            simp only [Act.put, List.setIfInBounds_toArray, List.set_cons_zero, List.set_cons_succ]
            refine wpAnyL_takeD (fun _ => True) (i := 23) (v := (.string ⟨(M4).toArray⟩)) (some 5) rfl rfl (by kernel_rfl) (by kernel_rfl) (by kernel_rfl) (fun _ _ _ h => h) (fun _ _ _ _ _ _ => trivial) (fun _ _ _ => Iff.rfl) trivial (Or.inl ⟨by rfl, fun w' hw' => by obtain ⟨l, _, hl⟩ := hw'; skip; go_simp⟩) hB ?_
            simp only [Act.put, List.setIfInBounds_toArray, List.set_cons_zero, List.set_cons_succ]
            refine wpAnyL_done (by decide +kernel) ?_ _
            go_wp2_with fail
            go_meet
            exact ⟨rfl, hB⟩
  case rest =>
    obtain ⟨rfl, hcB⟩ := hcut
    clear HN1 HN2 HN3 HN4 sa1 sa2 sa3 sa4 l1 l2 l3 l4 m1 m2 m3 HCHK hRb hr1
    have hR2 := hR1.call hcB
    have hr3 := hr2.call hcB
    have hbel2 := bt hbel1 hcB
    clear hR1 hr2 hcB hbel1 hb1 hbel
    have HEL : Hid (∀ i, i ≤ n → ((add.take i).flatMap entP).length ≤ 178 * i) := fun i hi => by
      have := flat_le (f := entP) (k := 178) (l := add.take i) (fun e he => entP_len (HKEY.out e (List.mem_of_mem_take he)) (addOk_mem HADD.out (List.mem_of_mem_take he)))
      rw [List.length_take] at this
      omega
    have HRL : Hid (∀ i, i ≤ n2 → ((rem.take i).flatMap numP).length ≤ 5 * i) := fun i hi => by
      have := flat_le (f := numP) (k := 5) (l := rem.take i) (fun e he => by
        have := obj_iff.1 (remOk_mem HREM.out (List.mem_of_mem_take he))
        exact putL_small (k := 4) (by omega))
      rw [List.length_take] at this
      omega
    have f4 := hR2.cellAt 4 rfl
    go_wp2_with fail
    go_loopw [5, 42] (fun x a wr => ∃ i : Nat, a = .int .i64 (i : Int) ∧ i ≤ n ∧ x = Sv (M4 ++ (add.take i).flatMap entP) ∧ Below wc.heap.size wc wr) (fun _ a _ => n - (intOf a).toNat)
    case atStart => exact ⟨0, rfl, by omega, by simp [Sv], Below.refl _ _⟩
    case round =>
      obtain ⟨i, rfl, hi, rfl, hb⟩ := hrel
      by_cases hin : i < n
      · obtain ⟨e, he⟩ : ∃ e, add[i]? = some e := ⟨_, List.getElem?_eq_getElem (by rw [HLN.out]; exact hin)⟩
        obtain ⟨ad, rfl, hadb, c0, c1, c2', c3, c4, c5, c6, c7, c8, c9, ca, cb⟩ := (hr3.add.below hb).ent he
        have heb := ent_iff.1 (addOk_mem HADD.out (List.mem_of_getElem? he))
        have hke := HKEY.out e (List.mem_of_getElem? he)
        have hel := HEL.out i hi
        have hpl := entP_len hke (addOk_mem HADD.out (List.mem_of_getElem? he))
        obtain ⟨id, rows, live, lo, hiR, del⟩ := e
        dsimp only at c0 c1 c2' c3 c4 c5 c6 c7 c8 c9 ca cb hke
        obtain ⟨x1, x2, x3, x4, x5, x6⟩ := heb
        dsimp only at x1 x2 x3 x6
        have HS : Hid ((add.take (i + 1)).flatMap entP = (add.take i).flatMap entP ++ (numP id ++ numP rows ++ numP live ++ rankP lo ++ rankP hiR ++ numP del)) := by
          show _ = _
          rw [List.take_add_one, he, List.flatMap_append]
          simp [entP]
        have hE := Blk.new' wr 40 #[.int .i64 id, .int .i64 rows, .int .i64 live, .bool lo.key.null, .int .i64 lo.key.n, .string lo.key.s, .int .i64 lo.seq, .bool hiR.key.null, .int .i64 hiR.key.n, .string hiR.key.s, .int .i64 hiR.seq, .int .i64 del]
        have hbx := hb.alloc hb.size (.cells #[.int .i64 id, .int .i64 rows, .int .i64 live, .bool lo.key.null, .int .i64 lo.key.n, .string lo.key.s, .int .i64 lo.seq, .bool hiR.key.null, .int .i64 hiR.key.n, .string hiR.key.s, .int .i64 hiR.seq, .int .i64 del] 40)
        have HP1 : Hid (∀ ws : World, Calls Try.prog 59 #[.int .i64 id] ws fun e w' => e = .returned (Sv (numP id)) ∧ Below ws.heap.size ws w') := fun ws => rputn_any id ws (by omega) (by omega)
        have HP2 : Hid (∀ ws : World, Calls Try.prog 59 #[.int .i64 rows] ws fun e w' => e = .returned (Sv (numP rows)) ∧ Below ws.heap.size ws w') := fun ws => rputn_any rows ws (by omega) (by omega)
        have HP3 : Hid (∀ ws : World, Calls Try.prog 59 #[.int .i64 live] ws fun e w' => e = .returned (Sv (numP live)) ∧ Below ws.heap.size ws w') := fun ws => rputn_any live ws (by omega) (by omega)
        have HP4 : Hid (∀ ws : World, Calls Try.prog 61 #[Rv lo] ws fun e w' => e = .returned (Sv (rankP lo)) ∧ Below ws.heap.size ws w') := fun ws => rrank_any lo ws hke.1 x4
        have HP5 : Hid (∀ ws : World, Calls Try.prog 61 #[Rv hiR] ws fun e w' => e = .returned (Sv (rankP hiR)) ∧ Below ws.heap.size ws w') := fun ws => rrank_any hiR ws hke.2 x5
        have HP6 : Hid (∀ ws : World, Calls Try.prog 59 #[.int .i64 del] ws fun e w' => e = .returned (Sv (numP del)) ∧ Below ws.heap.size ws w') := fun ws => rputn_any del ws (by omega) (by omega)
        have n1 := numP_len (n := id) (by omega)
        have n2' := numP_len (n := rows) (by omega)
        have n3 := numP_len (n := live) (by omega)
        have n4 : (rankP lo).length ≤ 82 := rankP_len (r := lo) hke.1 x4
        have n5 : (rankP hiR).length ≤ 82 := rankP_len (r := hiR) hke.2 x5
        have n6 := numP_len (n := del) (by omega)
        generalize numP id = N1 at *
        generalize numP rows = N2 at *
        generalize numP live = N3 at *
        generalize rankP lo = N4 at *
        generalize rankP hiR = N5 at *
        generalize numP del = N6 at *
        obtain ⟨P0, hP0⟩ : ∃ M, M = M4 ++ (add.take i).flatMap entP := ⟨_, rfl⟩
        have p0 : P0.length ≤ 100000 := by rw [hP0, List.length_append]; omega
        rw [← hP0]
        obtain ⟨M5, hM5⟩ : ∃ M, M = N1 ++ N2 := ⟨_, rfl⟩
        have m5 : M5.length ≤ 20 := by rw [hM5, List.length_append]; omega
        obtain ⟨M6, hM6⟩ : ∃ M, M = M5 ++ N3 := ⟨_, rfl⟩
        have m6 : M6.length ≤ 30 := by rw [hM6, List.length_append]; omega
        obtain ⟨M7, hM7⟩ : ∃ M, M = M6 ++ N4 := ⟨_, rfl⟩
        have m7 : M7.length ≤ 112 := by rw [hM7, List.length_append]; omega
        obtain ⟨M8, hM8⟩ : ∃ M, M = M7 ++ N5 := ⟨_, rfl⟩
        have m8 : M8.length ≤ 194 := by rw [hM8, List.length_append]; omega
        obtain ⟨M9, hM9⟩ : ∃ M, M = M8 ++ N6 := ⟨_, rfl⟩
        have m9 : M9.length ≤ 204 := by rw [hM9, List.length_append]; omega
        obtain ⟨MA, hMA⟩ : ∃ M, M = P0 ++ M9 := ⟨_, rfl⟩
        have sb1 := sadd (P := Try.prog) (a := N1) (b := N2) (by omega)
        have sb2 := sadd (P := Try.prog) (a := M5) (b := N3) (by omega)
        have sb3 := sadd (P := Try.prog) (a := M6) (b := N4) (by omega)
        have sb4 := sadd (P := Try.prog) (a := M7) (b := N5) (by omega)
        have sb5 := sadd (P := Try.prog) (a := M8) (b := N6) (by omega)
        have sb6 := sadd (P := Try.prog) (a := P0) (b := M9) (by omega)
        rw [← hM5] at sb1
        rw [← hM6] at sb2
        rw [← hM7] at sb3
        rw [← hM8] at sb4
        rw [← hM9] at sb5
        rw [← hMA] at sb6
        have HMA : Hid (MA = M4 ++ (add.take (i + 1)).flatMap entP) := by
          show _ = _
          rw [HS.out, hMA, hM9, hM8, hM7, hM6, hM5, hP0, List.append_assoc]
        clear he hM5 hM6 hM7 hM8 hM9 hMA hP0 HS
        go_upto_region 8 with fail
        generalize wr.alloc (.cells #[.int .i64 id, .int .i64 rows, .int .i64 live, .bool lo.key.null, .int .i64 lo.key.n, .string lo.key.s, .int .i64 lo.seq, .bool hiR.key.null, .int .i64 hiR.key.n, .string hiR.key.s, .int .i64 hiR.seq, .int .i64 del] 40) = wy at *
        clear c0 c1 c2' c3 c4 c5 c6 c7 c8 c9 ca cb
        refine wp_region_L (fun _ w' => Below wy.heap.size wy w') (by kernel_rfl) ?_
        have hB : Below wy.heap.size wy wy.drew := Below.drew (Below.refl _ _)
        generalize wy.drew = wx at *
        refine wpAnyL_takeD (fun _ => True) (i := 0) (v := (.string ⟨P0.toArray⟩)) (some 46) rfl rfl (by kernel_rfl) (by kernel_rfl) (by kernel_rfl) (fun _ _ _ h => h) (fun _ _ _ _ _ _ => trivial) (fun _ _ _ => Iff.rfl) trivial (Or.inl ⟨by rfl, fun w' hw' => by obtain ⟨l, _, hl⟩ := hw'; skip; go_simp⟩) hB ?_
        simp only [Act.put, List.setIfInBounds_toArray, List.set_cons_zero, List.set_cons_succ]
        refine wpAnyL_takeD (fun _ => True) (i := 1) (v := (.pointer (some ⟨wr.heap.size, 0, none⟩))) (some 47) rfl rfl (by kernel_rfl) (by kernel_rfl) (by kernel_rfl) (fun _ _ _ h => h) (fun _ _ _ _ _ _ => trivial) (fun _ _ _ => Iff.rfl) trivial (Or.inl ⟨by rfl, fun w' hw' => by obtain ⟨l, _, hl⟩ := hw'; skip; go_simp⟩) hB ?_
        simp only [Act.put, List.setIfInBounds_toArray, List.set_cons_zero, List.set_cons_succ]
        refine wpAnyL_takeD (fun _ => True) (i := 2) (v := (.int .i64 id)) (some 48) rfl rfl (by kernel_rfl) (by kernel_rfl) (by kernel_rfl) (fun _ _ _ h => h) (fun _ _ _ _ _ _ => trivial) (fun _ _ _ => Iff.rfl) trivial (Or.inl ⟨by rfl, fun w' hw' => by obtain ⟨l, _, hl⟩ := hw'; have r0 := (hE.call hl).cellAt 0 rfl; go_simp⟩) hB ?_
        simp only [Act.put, List.setIfInBounds_toArray, List.set_cons_zero, List.set_cons_succ]
        refine wpAnyL_takeD (fun _ => True) (i := 4) (v := (.pointer (some ⟨wr.heap.size, 1, none⟩))) (some 50) rfl rfl (by kernel_rfl) (by kernel_rfl) (by kernel_rfl) (fun _ _ _ h => h) (fun _ _ _ _ _ _ => trivial) (fun _ _ _ => Iff.rfl) trivial (Or.inl ⟨by rfl, fun w' hw' => by obtain ⟨l, _, hl⟩ := hw'; skip; go_simp⟩) hB ?_
        simp only [Act.put, List.setIfInBounds_toArray, List.set_cons_zero, List.set_cons_succ]
        refine wpAnyL_takeD (fun _ => True) (i := 5) (v := (.int .i64 rows)) (some 51) rfl rfl (by kernel_rfl) (by kernel_rfl) (by kernel_rfl) (fun _ _ _ h => h) (fun _ _ _ _ _ _ => trivial) (fun _ _ _ => Iff.rfl) trivial (Or.inl ⟨by rfl, fun w' hw' => by obtain ⟨l, _, hl⟩ := hw'; have r0 := (hE.call hl).cellAt 1 rfl; go_simp⟩) hB ?_
        simp only [Act.put, List.setIfInBounds_toArray, List.set_cons_zero, List.set_cons_succ]
        refine wpAnyL_takeD (fun _ => True) (i := 8) (v := (.pointer (some ⟨wr.heap.size, 2, none⟩))) (some 54) rfl rfl (by kernel_rfl) (by kernel_rfl) (by kernel_rfl) (fun _ _ _ h => h) (fun _ _ _ _ _ _ => trivial) (fun _ _ _ => Iff.rfl) trivial (Or.inl ⟨by rfl, fun w' hw' => by obtain ⟨l, _, hl⟩ := hw'; skip; go_simp⟩) hB ?_
        simp only [Act.put, List.setIfInBounds_toArray, List.set_cons_zero, List.set_cons_succ]
        refine wpAnyL_takeD (fun _ => True) (i := 9) (v := (.int .i64 live)) (some 55) rfl rfl (by kernel_rfl) (by kernel_rfl) (by kernel_rfl) (fun _ _ _ h => h) (fun _ _ _ _ _ _ => trivial) (fun _ _ _ => Iff.rfl) trivial (Or.inl ⟨by rfl, fun w' hw' => by obtain ⟨l, _, hl⟩ := hw'; have r0 := (hE.call hl).cellAt 2 rfl; go_simp⟩) hB ?_
        simp only [Act.put, List.setIfInBounds_toArray, List.set_cons_zero, List.set_cons_succ]
        refine wpAnyL_takeD (fun _ => True) (i := 12) (v := (.pointer (some ⟨wr.heap.size, 3, none⟩))) (some 58) rfl rfl (by kernel_rfl) (by kernel_rfl) (by kernel_rfl) (fun _ _ _ h => h) (fun _ _ _ _ _ _ => trivial) (fun _ _ _ => Iff.rfl) trivial (Or.inl ⟨by rfl, fun w' hw' => by obtain ⟨l, _, hl⟩ := hw'; skip; go_simp⟩) hB ?_
        simp only [Act.put, List.setIfInBounds_toArray, List.set_cons_zero, List.set_cons_succ]
        refine wpAnyL_takeD (fun _ => True) (i := 13) (v := (Rv lo)) (some 59) rfl rfl (by kernel_rfl) (by kernel_rfl) (by kernel_rfl) (fun _ _ _ h => h) (fun _ _ _ _ _ _ => trivial) (fun _ _ _ => Iff.rfl) trivial (Or.inl ⟨by rfl, fun w' hw' => by obtain ⟨l, _, hl⟩ := hw'; have r3 := (hE.call hl).cellAt 3 rfl; have r4 := (hE.call hl).cellAt 4 rfl; have r5 := (hE.call hl).cellAt 5 rfl; have r6 := (hE.call hl).cellAt 6 rfl; go_simp⟩) hB ?_
        simp only [Act.put, List.setIfInBounds_toArray, List.set_cons_zero, List.set_cons_succ]
        refine wpAnyL_takeD (fun _ => True) (i := 16) (v := (.pointer (some ⟨wr.heap.size, 7, none⟩))) (some 62) rfl rfl (by kernel_rfl) (by kernel_rfl) (by kernel_rfl) (fun _ _ _ h => h) (fun _ _ _ _ _ _ => trivial) (fun _ _ _ => Iff.rfl) trivial (Or.inl ⟨by rfl, fun w' hw' => by obtain ⟨l, _, hl⟩ := hw'; skip; go_simp⟩) hB ?_
        simp only [Act.put, List.setIfInBounds_toArray, List.set_cons_zero, List.set_cons_succ]
        refine wpAnyL_takeD (fun _ => True) (i := 17) (v := (Rv hiR)) (some 63) rfl rfl (by kernel_rfl) (by kernel_rfl) (by kernel_rfl) (fun _ _ _ h => h) (fun _ _ _ _ _ _ => trivial) (fun _ _ _ => Iff.rfl) trivial (Or.inl ⟨by rfl, fun w' hw' => by obtain ⟨l, _, hl⟩ := hw'; have r3 := (hE.call hl).cellAt 7 rfl; have r4 := (hE.call hl).cellAt 8 rfl; have r5 := (hE.call hl).cellAt 9 rfl; have r6 := (hE.call hl).cellAt 10 rfl; go_simp⟩) hB ?_
        simp only [Act.put, List.setIfInBounds_toArray, List.set_cons_zero, List.set_cons_succ]
        refine wpAnyL_takeD (fun _ => True) (i := 20) (v := (.pointer (some ⟨wr.heap.size, 11, none⟩))) (some 66) rfl rfl (by kernel_rfl) (by kernel_rfl) (by kernel_rfl) (fun _ _ _ h => h) (fun _ _ _ _ _ _ => trivial) (fun _ _ _ => Iff.rfl) trivial (Or.inl ⟨by rfl, fun w' hw' => by obtain ⟨l, _, hl⟩ := hw'; skip; go_simp⟩) hB ?_
        simp only [Act.put, List.setIfInBounds_toArray, List.set_cons_zero, List.set_cons_succ]
        refine wpAnyL_takeD (fun _ => True) (i := 21) (v := (.int .i64 del)) (some 67) rfl rfl (by kernel_rfl) (by kernel_rfl) (by kernel_rfl) (fun _ _ _ h => h) (fun _ _ _ _ _ _ => trivial) (fun _ _ _ => Iff.rfl) trivial (Or.inl ⟨by rfl, fun w' hw' => by obtain ⟨l, _, hl⟩ := hw'; have r0 := (hE.call hl).cellAt 11 rfl; go_simp⟩) hB ?_
        simp only [Act.put, List.setIfInBounds_toArray, List.set_cons_zero, List.set_cons_succ]
        refine wpAnyL_one (i := 3) (by decide +kernel) ?_
        refine wpOp_go (o := _) rfl (fun K hK => ?_)
        go_simp
        go_at_call 59
        refine (HP1.out _).mono ?_; rintro e wx ⟨rfl, hbx⟩
        replace hB := bt hB hbx
        refine hK _ _ ⟨hB, ?_⟩
        clear hK K hbx
        refine wpAnyL_one (i := 6) (by decide +kernel) ?_
        refine wpOp_go (o := _) rfl (fun K hK => ?_)
        go_simp
        go_at_call 59
        refine (HP2.out _).mono ?_; rintro e wx ⟨rfl, hbx⟩
        replace hB := bt hB hbx
        refine hK _ _ ⟨hB, ?_⟩
        clear hK K hbx
        refine wpAnyL_takeD (fun _ => True) (i := 7) (v := (.string ⟨M5.toArray⟩)) (some 53) rfl rfl (by kernel_rfl) (by kernel_rfl) (by kernel_rfl) (fun _ _ _ h => h) (fun _ _ _ _ _ _ => trivial) (fun _ _ _ => Iff.rfl) trivial (Or.inl ⟨by rfl, fun w' hw' => by obtain ⟨l, _, hl⟩ := hw'; skip; go_simp⟩) hB ?_
        simp only [Act.put, List.setIfInBounds_toArray, List.set_cons_zero, List.set_cons_succ]
        refine wpAnyL_one (i := 10) (by decide +kernel) ?_
        refine wpOp_go (o := _) rfl (fun K hK => ?_)
        go_simp
        go_at_call 59
        refine (HP3.out _).mono ?_; rintro e wx ⟨rfl, hbx⟩
        replace hB := bt hB hbx
        refine hK _ _ ⟨hB, ?_⟩
        clear hK K hbx
        refine wpAnyL_takeD (fun _ => True) (i := 11) (v := (.string ⟨M6.toArray⟩)) (some 57) rfl rfl (by kernel_rfl) (by kernel_rfl) (by kernel_rfl) (fun _ _ _ h => h) (fun _ _ _ _ _ _ => trivial) (fun _ _ _ => Iff.rfl) trivial (Or.inl ⟨by rfl, fun w' hw' => by obtain ⟨l, _, hl⟩ := hw'; skip; go_simp⟩) hB ?_
        simp only [Act.put, List.setIfInBounds_toArray, List.set_cons_zero, List.set_cons_succ]
        refine wpAnyL_one (i := 14) (by decide +kernel) ?_
        refine wpOp_go (o := _) rfl (fun K hK => ?_)
        go_simp
        go_at_call 61
        refine (HP4.out _).mono ?_; rintro e wx ⟨rfl, hbx⟩
        replace hB := bt hB hbx
        refine hK _ _ ⟨hB, ?_⟩
        clear hK K hbx
        refine wpAnyL_takeD (fun _ => True) (i := 15) (v := (.string ⟨M7.toArray⟩)) (some 61) rfl rfl (by kernel_rfl) (by kernel_rfl) (by kernel_rfl) (fun _ _ _ h => h) (fun _ _ _ _ _ _ => trivial) (fun _ _ _ => Iff.rfl) trivial (Or.inl ⟨by rfl, fun w' hw' => by obtain ⟨l, _, hl⟩ := hw'; skip; go_simp⟩) hB ?_
        simp only [Act.put, List.setIfInBounds_toArray, List.set_cons_zero, List.set_cons_succ]
        refine wpAnyL_one (i := 18) (by decide +kernel) ?_
        refine wpOp_go (o := _) rfl (fun K hK => ?_)
        go_simp
        go_at_call 61
        refine (HP5.out _).mono ?_; rintro e wx ⟨rfl, hbx⟩
        replace hB := bt hB hbx
        refine hK _ _ ⟨hB, ?_⟩
        clear hK K hbx
        refine wpAnyL_takeD (fun _ => True) (i := 19) (v := (.string ⟨M8.toArray⟩)) (some 65) rfl rfl (by kernel_rfl) (by kernel_rfl) (by kernel_rfl) (fun _ _ _ h => h) (fun _ _ _ _ _ _ => trivial) (fun _ _ _ => Iff.rfl) trivial (Or.inl ⟨by rfl, fun w' hw' => by obtain ⟨l, _, hl⟩ := hw'; skip; go_simp⟩) hB ?_
        simp only [Act.put, List.setIfInBounds_toArray, List.set_cons_zero, List.set_cons_succ]
        refine wpAnyL_one (i := 22) (by decide +kernel) ?_
        refine wpOp_go (o := _) rfl (fun K hK => ?_)
        go_simp
        go_at_call 59
        refine (HP6.out _).mono ?_; rintro e wx ⟨rfl, hbx⟩
        replace hB := bt hB hbx
        refine hK _ _ ⟨hB, ?_⟩
        clear hK K hbx
        refine wpAnyL_takeD (fun _ => True) (i := 23) (v := (.string ⟨M9.toArray⟩)) (some 69) rfl rfl (by kernel_rfl) (by kernel_rfl) (by kernel_rfl) (fun _ _ _ h => h) (fun _ _ _ _ _ _ => trivial) (fun _ _ _ => Iff.rfl) trivial (Or.inl ⟨by rfl, fun w' hw' => by obtain ⟨l, _, hl⟩ := hw'; skip; go_simp⟩) hB ?_
        simp only [Act.put, List.setIfInBounds_toArray, List.set_cons_zero, List.set_cons_succ]
        refine wpAnyL_takeD (fun _ => True) (i := 24) (v := (.string ⟨MA.toArray⟩)) (some 70) rfl rfl (by kernel_rfl) (by kernel_rfl) (by kernel_rfl) (fun _ _ _ h => h) (fun _ _ _ _ _ _ => trivial) (fun _ _ _ => Iff.rfl) trivial (Or.inl ⟨by rfl, fun w' hw' => by obtain ⟨l, _, hl⟩ := hw'; skip; go_simp⟩) hB ?_
        simp only [Act.put, List.setIfInBounds_toArray, List.set_cons_zero, List.set_cons_succ]
        refine wpAnyL_takeD (fun _ => True) (i := 25) (v := (.string ⟨MA.toArray⟩)) (some 5) rfl rfl (by kernel_rfl) (by kernel_rfl) (by kernel_rfl) (fun _ _ _ h => h) (fun _ _ _ _ _ _ => trivial) (fun _ _ _ => Iff.rfl) trivial (Or.inl ⟨by rfl, fun w' hw' => by obtain ⟨l, _, hl⟩ := hw'; skip; go_simp⟩) hB ?_
        simp only [Act.put, List.setIfInBounds_toArray, List.set_cons_zero, List.set_cons_succ]
        refine wpAnyL_done (by decide +kernel) ?_ _
        go_wp2
        go_roundw
        case rel => exact ⟨i + 1, by go_num, by omega, by rw [HMA.out], bt hbx hB⟩
        case measure => simp [intOf]; omega
      · have hi2 : i = n := by omega
        have ht : add.take i = add := by rw [hi2, ← HLN.out]; exact List.take_length
        have hfl := HEL.out i hi
        rw [ht] at hfl ⊢
        have hR3 := hR2.call hb
        have hr4 := hr3.call hb
        have hbel3 := bt hbel2 hb
        clear hR2 hr3 hbel2 hb f4
        have f5 := hR3.cellAt 5 rfl
        obtain ⟨P0, hP0⟩ : ∃ M, M = M4 ++ add.flatMap entP := ⟨_, rfl⟩
        have p0 : P0.length ≤ 100000 := by rw [hP0, List.length_append]; omega
        rw [← hP0]
        have q1 := numP_len (n := (n2 : Int)) (by omega)
        obtain ⟨P1, hP1⟩ : ∃ M, M = P0 ++ numP (n2 : Int) := ⟨_, rfl⟩
        have p1 : P1.length ≤ 100010 := by rw [hP1, List.length_append]; omega
        have sb := sadd (P := Try.prog) (a := P0) (b := numP (n2 : Int)) (by omega)
        rw [← hP1] at sb
        have HBODY : Hid (P1 ++ rem.flatMap numP = bodyP ⟨(m : Int), ve, (s : Int), ni, add, rem⟩) := by
          show _ = _
          rw [hP1, hP0, ← HM4.out, E1.out, E2.out, E3.out, E4.out]
          unfold bodyP
          dsimp only
          rw [HLN.out, HLN2.out]
          simp [numP]
        clear hP0 hP1
        go_wp2_with fail
        refine (rputn_any (n2 : Int) _ (by omega) (by omega)).mono ?_; rintro e w3 ⟨rfl, hb3⟩
        have hR4 := hR3.call hb3
        have hr5 := hr4.call hb3
        have hbel4 := bt hbel3 hb3
        clear hR3 hr4 hbel3 hb3 f5
        have f5 := hR4.cellAt 5 rfl
        go_wp2_with fail
        go_loopw [5, 81] (fun x a wz => ∃ k : Nat, a = .int .i64 (k : Int) ∧ k ≤ n2 ∧ x = Sv (P1 ++ (rem.take k).flatMap numP) ∧ Below w3.heap.size w3 wz) (fun _ a _ => n2 - (intOf a).toNat)
        case atStart => exact ⟨0, rfl, by omega, by simp [Sv], Below.refl _ _⟩
        case round =>
          obtain ⟨k, rfl, hk, rfl, hb⟩ := hrel
          by_cases hkn : k < n2
          · obtain ⟨z, hz⟩ : ∃ z, rem[k]? = some z := ⟨_, List.getElem?_eq_getElem (by rw [HLN2.out]; exact hkn)⟩
            obtain ⟨bd, rfl, _, cz⟩ := (hr5.rem.below hb).at_ (j := k) (u := Iv z) (by rw [List.getElem?_map, hz]; rfl)
            have hzb := obj_iff.1 (remOk_mem HREM.out (List.mem_of_getElem? hz))
            have hrl := HRL.out k hk
            have hzl := numP_len (n := z) (by omega)
            obtain ⟨Q0, hQ0⟩ : ∃ M, M = P1 ++ (rem.take k).flatMap numP := ⟨_, rfl⟩
            have q0 : Q0.length ≤ 200000 := by rw [hQ0, List.length_append]; omega
            rw [← hQ0]
            obtain ⟨Q1, hQ1⟩ : ∃ M, M = Q0 ++ numP z := ⟨_, rfl⟩
            have sc := sadd (P := Try.prog) (a := Q0) (b := numP z) (by omega)
            rw [← hQ1] at sc
            have HQ1 : Hid (Q1 = P1 ++ (rem.take (k + 1)).flatMap numP) := by
              show _ = _
              rw [hQ1, hQ0, List.take_add_one, hz, List.flatMap_append]
              simp
            clear hz hQ0 hQ1
            go_wp2_with fail
            refine (rputn_any z _ (by omega) (by omega)).mono ?_; rintro e w4 ⟨rfl, hb4⟩
            go_wp2
            go_roundw
            case rel => exact ⟨k + 1, by go_num, by omega, by rw [HQ1.out], bt hb hb4⟩
            case measure => simp [intOf]; omega
          · have hk2 : k = n2 := by omega
            have ht2 : rem.take k = rem := by rw [hk2, ← HLN2.out]; exact List.take_length
            rw [ht2, HBODY.out]
            have hbl := HBL.out
            rw [HLN.out, HLN2.out] at hbl
            have hbel5 := bt hbel4 hb
            clear HBL HBODY HM4
            generalize bodyP ⟨(m : Int), ve, (s : Int), ni, add, rem⟩ = body at *
            have hcvt : IntKind.u32.wrap (body.length : Int) = (body.length : Int) := by rw [w32]; omega
            have sa1 := sadd (P := Try.prog) (a := fourL body.length) (b := body) (by rw [fourL_len]; omega)
            have HSL : Hid (fourL body.length ++ body = sealL body) := rfl
            rw [HSL.out] at sa1
            have hsl : (sealL body).length ≤ 100000 := by rw [← HSL.out, List.length_append, fourL_len]; omega
            have sa2 := sadd (P := Try.prog) (a := sealL body) (b := fourL (crcL (sealL body))) (by rw [fourL_len]; omega)
            have hcl := crcL_lt (sealL body)
            clear HSL
            generalize sealL body = sb at *
            go_wp2_with fail
            refine (four_any body.length _ (by omega)).mono ?_; rintro e w5 ⟨rfl, hb5⟩
            go_wp2_with fail
            refine (rcrc_any _ _ (by rw [size_mk]; omega)).mono ?_; rintro e w6 ⟨rfl, hb6⟩
            rw [show (ByteArray.mk sb.toArray).data.toList = sb from rfl]
            go_wp2_with fail
            refine (four_any _ _ hcl).mono ?_; rintro e w7 ⟨rfl, hb7⟩
            go_wp2
            go_ret2
            exact ⟨by rw [HENC.out] <;> rfl, bt (bt (bt hbel5 hb5) hb6) hb7⟩

set_option maxRecDepth 100000 in
set_option maxHeartbeats 4000000 in
theorem rencode_err (r : Rc) (A : Option Addr) (n c : Nat) (A2 : Option Addr) (n2 c2 : Nat) (w : World) (hr : RcAt w r A n c A2 n2 c2) (h0 : chkR r ≠ 0) :
    Calls Try.prog 25 #[Kv r A n c A2 n2 c2] w fun e w' => e = .returned (.tuple #[Sv [], .int .i64 (chkR r)]) ∧ Below w.heap.size w w' := by
  obtain ⟨kd, ve, ns, ni, add, rem⟩ := r
  dsimp only [Kv] at *
  have hbel : Below w.heap.size w (w.alloc (.cells #[.int .i64 kd, .int .i64 ve, .int .i64 ns, .int .i64 ni, .slice A n c, .slice A2 n2 c2] 31)) := (Below.refl _ _).alloc (Nat.le_refl _) _
  have HCHK : Hid (∀ W : World, RcAt W ⟨kd, ve, ns, ni, add, rem⟩ A n c A2 n2 c2 → Calls Try.prog 27 #[.agg #[.int .i64 kd, .int .i64 ve, .int .i64 ns, .int .i64 ni, .slice A n c, .slice A2 n2 c2]] W fun e w' => e = .returned (.int .i64 (chkR ⟨kd, ve, ns, ni, add, rem⟩)) ∧ Below W.heap.size W w') := fun W hW => rcheck_any ⟨kd, ve, ns, ni, add, rem⟩ A n c A2 n2 c2 W hW
  have hr1 := hr.call hbel
  generalize chkR ⟨kd, ve, ns, ni, add, rem⟩ = ck at *
  have hb : (ck != 0) = true := by simpa using h0
  clear h0 hr
  go_enter Try.func25, Try.ntmps25
  go_wp2_with fail
  generalize w.alloc (.cells #[.int .i64 kd, .int .i64 ve, .int .i64 ns, .int .i64 ni, .slice A n c, .slice A2 n2 c2] 31) = wa at *
  refine (HCHK.out _ hr1).mono ?_; rintro e w1 ⟨rfl, hb1⟩
  go_wp2
  go_ret2
  exact ⟨rfl, bt hbel hb1⟩
theorem rencode_any (r : Rc) (A : Option Addr) (n c : Nat) (A2 : Option Addr) (n2 c2 : Nat) (w : World) (hr : RcAt w r A n c A2 n2 c2) (hk : keysOk r) :
    Calls Try.prog 25 #[Kv r A n c A2 n2 c2] w fun e w' => e = .returned (.tuple #[Sv (encV r), .int .i64 (chkR r)]) ∧ Below w.heap.size w w' := by
  by_cases h : chkR r = 0
  · have e : encV r = encR r := if_pos h
    rw [e, h]
    exact rencode_ok r A n c A2 n2 c2 w hr hk h
  · have e : encV r = [] := if_neg h
    rw [e]
    exact rencode_err r A n c A2 n2 c2 w hr h

end Go.Proofs.Ytgacjpkgpegcdaa
