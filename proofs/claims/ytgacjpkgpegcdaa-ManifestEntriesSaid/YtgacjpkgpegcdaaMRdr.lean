/-
  The program's reader: number, rank, count.
-/
import Derived.Test.YtgacjpkgpegcdaaMDecP
import Derived.Lib.BufferOwn
import Derived.Test.YtgacjpkgpegcdaaKeep
import Derived.Test.YtgacjpkgpegcdaaRegL
namespace Go.Proofs.Ytgacjpkgpegcdaa
open Go.RowKit

/-- A reader at block g. -/
def RdrAt (w : World) (T : TypeId) (g : Nat) (s : ByteArray) (st : St) : Prop := Blk w g T [.string s, .int .i64 st.1, .bool st.2]
theorem RdrAt.drewN {w : World} {T : TypeId} {g : Nat} {s : ByteArray} {st : St} (h : RdrAt w T g s st) (n : Nat) : RdrAt (w.drewN n) T g s st := h
/-- A step of it. -/
def Step (w : World) (T : TypeId) (g : Nat) (s : ByteArray) (v : Value) (st : St) (e : Ending) (w' : World) : Prop := e = .returned v ∧ RdrAt w' T g s st ∧ w.grownBy w' (some g)
theorem grown_drewN {a w : World} {row : Option Nat} (h : a.grownBy w row) (n : Nat) : a.grownBy (w.drewN n) row := ⟨h.os, h.tape, h.output, h.size, h.block⟩
set_option maxRecDepth 100000 in
set_option maxHeartbeats 2000000 in
theorem tnum_any (s : ByteArray) (g : Nat) (st : St) (w : World) (hsz : s.size ≤ 1000000000000000) (h : RdrAt w 107 g s st) :
    Calls Try.prog 63 #[.pointer (some ⟨g, 0, none⟩)] w (Step w 107 g s (.int .i64 (numT s st).1) (numT s st).2) := by
  obtain ⟨a, b⟩ := st
  have hget := fun W => get_any s a W hsz
  cases b
  · rcases getL_cases s.data.toList a with ⟨v, a0, m, ha, hg, hU, hm1, hle, _⟩ | ⟨e, he, hg⟩
    · clear ha hm1 hle
      generalize ((a0 + m : Nat) : Int) = j at *
      rw [hg] at hget
      dsimp only [getV] at hget
      by_cases hv : 4611686018427387904 < v
      · have HV := Lib.hid (numT_big hg hv)
        have hd : decide (4611686018427387904 < v) = true := decide_eq_true hv
        have hd2 : decide ((4611686018427387904 : Int) < (v : Int)) = true := decide_eq_true (by omega)
        clear hg
        have c0 : w.cell? ⟨g, 0, none⟩ = some (.string s) := Blk.cellAt h 0 rfl
        have c1 : w.cell? ⟨g, 1, none⟩ = some (.int .i64 a) := Blk.cellAt h 1 rfl
        have c2 : w.cell? ⟨g, 2, none⟩ = some (.bool false) := Blk.cellAt h 2 rfl
        have hf := Blk.frozen h
        have HG := Lib.hid hget
        clear hget
        go_enter Try.func63, Try.ntmps63
        go_wp2
        go_quiet ((go_at_call 80; exact quiet_same' (HG.out _)))
        go_wp2
        go_ret
        exact ⟨by rw [HV.out]; first | rfl | go_simp, by rw [HV.out]; exact (Blk.set_ h 2 _), by repeat' (first | exact World.grownBy.refl _ _ | refine Lib.grownBy_setB ?_ _ _ | refine grown_drewN ?_ _)⟩
      · have HV := Lib.hid (numT_ok hg hv)
        have hd : decide (4611686018427387904 < v) = false := decide_eq_false hv
        have hd2 : decide ((4611686018427387904 : Int) < (v : Int)) = false := decide_eq_false (by omega)
        have hw : IntKind.i64.wrap (v : Int) = (v : Int) := IntWalk.i64_in _ (by omega)
        clear hg
        have c0 : w.cell? ⟨g, 0, none⟩ = some (.string s) := Blk.cellAt h 0 rfl
        have c1 : w.cell? ⟨g, 1, none⟩ = some (.int .i64 a) := Blk.cellAt h 1 rfl
        have c2 : w.cell? ⟨g, 2, none⟩ = some (.bool false) := Blk.cellAt h 2 rfl
        have hf := Blk.frozen h
        have HG := Lib.hid hget
        clear hget
        go_enter Try.func63, Try.ntmps63
        go_wp2
        go_quiet ((go_at_call 80; exact quiet_same' (HG.out _)))
        go_wp2
        go_ret
        exact ⟨by rw [HV.out]; first | rfl | go_simp, by rw [HV.out]; exact (Blk.set_ (Blk.set_ h 2 _) 1 _), by repeat' (first | exact World.grownBy.refl _ _ | refine Lib.grownBy_setB ?_ _ _ | refine grown_drewN ?_ _)⟩
    · rw [hg] at hget
      dsimp only [getV] at hget
      have HV := Lib.hid (numT_err hg he)
      have hbe : (e != 0) = true := by simpa using he
      clear hg
      have c0 : w.cell? ⟨g, 0, none⟩ = some (.string s) := Blk.cellAt h 0 rfl
      have c1 : w.cell? ⟨g, 1, none⟩ = some (.int .i64 a) := Blk.cellAt h 1 rfl
      have c2 : w.cell? ⟨g, 2, none⟩ = some (.bool false) := Blk.cellAt h 2 rfl
      have hf := Blk.frozen h
      have HG := Lib.hid hget
      clear hget
      go_enter Try.func63, Try.ntmps63
      go_wp2
      go_quiet ((go_at_call 80; exact quiet_same' (HG.out _)))
      go_wp2
      go_ret
      exact ⟨by rw [HV.out]; first | rfl | go_simp, by rw [HV.out]; exact (Blk.set_ h 2 _), by repeat' (first | exact World.grownBy.refl _ _ | refine Lib.grownBy_setB ?_ _ _ | refine grown_drewN ?_ _)⟩
  · have HV := Lib.hid (numT_bad (s := s) (a := a))
    rcases getL_cases s.data.toList a with ⟨v, a0, m, ha, hg, hU, hm1, hle, _⟩ | ⟨e, he, hg⟩
    · clear ha hm1 hle
      generalize ((a0 + m : Nat) : Int) = j at *
      rw [hg] at hget
      dsimp only [getV] at hget
      have c0 : w.cell? ⟨g, 0, none⟩ = some (.string s) := Blk.cellAt h 0 rfl
      have c1 : w.cell? ⟨g, 1, none⟩ = some (.int .i64 a) := Blk.cellAt h 1 rfl
      have c2 : w.cell? ⟨g, 2, none⟩ = some (.bool true) := Blk.cellAt h 2 rfl
      have hf := Blk.frozen h
      have HG := Lib.hid hget
      clear hget
      go_enter Try.func63, Try.ntmps63
      go_wp2
      go_quiet ((go_at_call 80; exact quiet_same' (HG.out _)))
      go_wp2
      go_ret
      exact ⟨by rw [HV.out]; first | rfl | go_simp, by rw [HV.out]; exact (Blk.set_ h 2 _), by repeat' (first | exact World.grownBy.refl _ _ | refine Lib.grownBy_setB ?_ _ _ | refine grown_drewN ?_ _)⟩
    · rw [hg] at hget
      dsimp only [getV] at hget
      have c0 : w.cell? ⟨g, 0, none⟩ = some (.string s) := Blk.cellAt h 0 rfl
      have c1 : w.cell? ⟨g, 1, none⟩ = some (.int .i64 a) := Blk.cellAt h 1 rfl
      have c2 : w.cell? ⟨g, 2, none⟩ = some (.bool true) := Blk.cellAt h 2 rfl
      have hf := Blk.frozen h
      have HG := Lib.hid hget
      clear hget
      go_enter Try.func63, Try.ntmps63
      go_wp2
      go_quiet ((go_at_call 80; exact quiet_same' (HG.out _)))
      go_wp2
      go_ret
      exact ⟨by rw [HV.out]; first | rfl | go_simp, by rw [HV.out]; exact (Blk.set_ h 2 _), by repeat' (first | exact World.grownBy.refl _ _ | refine Lib.grownBy_setB ?_ _ _ | refine grown_drewN ?_ _)⟩

set_option maxRecDepth 100000 in
set_option maxHeartbeats 2000000 in
theorem tcnt_any (s : ByteArray) (g : Nat) (st : St) (w : World) (hsz : s.size ≤ 1000000000000000) (h : RdrAt w 107 g s st) :
    Calls Try.prog 64 #[.pointer (some ⟨g, 0, none⟩)] w (Step w 107 g s (.int .i64 (cntT s st).1) (cntT s st).2) := by
  have HN := Lib.hid (tnum_any s g st w hsz h)
  have hr := numT_rng s st
  obtain ⟨n, j, b, hn⟩ : ∃ n j b, numT s st = (n, j, b) := ⟨_, _, _, rfl⟩
  rw [hn] at HN hr
  dsimp only at HN hr
  cases b
  · by_cases hb : 256 < n
    · have HV := Lib.hid (cntT_big hn hb)
      have hd : decide (256 < n) = true := decide_eq_true hb
      clear hn
      go_enter Try.func64, Try.ntmps64
      go_wp2_with fail
      refine HN.out.mono ?_; rintro e w1 ⟨rfl, h1, hg⟩
      have c2 : w1.cell? ⟨g, 2, none⟩ = some (.bool false) := Blk.cellAt h1 2 rfl
      have hf := Blk.frozen h1
      go_wp2
      go_ret
      exact ⟨by rw [HV.out]; rfl, by rw [HV.out]; exact Blk.set_ h1 2 _, Lib.grownBy_setB hg _ _⟩
    · have HV := Lib.hid (cntT_ok hn hb)
      have hd : decide (256 < n) = false := decide_eq_false hb
      clear hn
      go_enter Try.func64, Try.ntmps64
      go_wp2_with fail
      refine HN.out.mono ?_; rintro e w1 ⟨rfl, h1, hg⟩
      have c2 : w1.cell? ⟨g, 2, none⟩ = some (.bool false) := Blk.cellAt h1 2 rfl
      have hf := Blk.frozen h1
      go_wp2
      go_ret
      exact ⟨by rw [HV.out]; rfl, by rw [HV.out]; exact Blk.set_ h1 2 _, Lib.grownBy_setB hg _ _⟩
  · have HV := Lib.hid (cntT_bad hn)
    clear hn
    go_enter Try.func64, Try.ntmps64
    go_wp2_with fail
    refine HN.out.mono ?_; rintro e w1 ⟨rfl, h1, hg⟩
    have c2 : w1.cell? ⟨g, 2, none⟩ = some (.bool true) := Blk.cellAt h1 2 rfl
    have hf := Blk.frozen h1
    go_wp2
    go_ret
    exact ⟨by rw [HV.out]; rfl, by rw [HV.out]; exact Blk.set_ h1 2 _, Lib.grownBy_setB hg _ _⟩

theorem Blk.grownBy {w w' : World} {g : Nat} {t : TypeId} {cs : List Value} {row : Option Nat} (h : Blk w g t cs) (hg : w.grownBy w' row) (hne : some g ≠ row) : Blk w' g t cs := (hg.block g h.lt hne).trans h
theorem Blk.other {w : World} {g : Nat} {t : TypeId} {cs : List Value} (h : Blk w g t cs) {b : Nat} (i : Nat) (v : Value) (hne : g ≠ b) : Blk (w.setCell ⟨b, i, none⟩ v) g t cs := h.grownBy (Lib.grownBy_setCell w b i v) (fun e => hne (Option.some.inj e))
section
variable {w a : World} {g B : Nat} {t : TypeId} {cs : List Value} {u0 u1 u2 : Value}
theorem set3 (h : Blk w g t [u0, u1, u2]) (v0 v1 v2 : Value) : Blk (((w.setCell ⟨g, 0, none⟩ v0).setCell ⟨g, 1, none⟩ v1).setCell ⟨g, 2, none⟩ v2) g t [v0, v1, v2] := ((h.set_ 0 v0).set_ 1 v1).set_ 2 v2
theorem other3 (h : Blk w g t cs) (b : Nat) (hne : g ≠ b) (v0 v1 v2 : Value) : Blk (((w.setCell ⟨b, 0, none⟩ v0).setCell ⟨b, 1, none⟩ v1).setCell ⟨b, 2, none⟩ v2) g t cs := ((h.other 0 v0 hne).other 1 v1 hne).other 2 v2 hne
theorem below3 {b : Nat} (h : Below B a w) (hB : B ≤ b) (v0 v1 v2 : Value) : Below B a (((w.setCell ⟨b, 0, none⟩ v0).setCell ⟨b, 1, none⟩ v1).setCell ⟨b, 2, none⟩ v2) :=
  ((h.setCell (p := ⟨b, 0, none⟩) hB v0).setCell (p := ⟨b, 1, none⟩) hB v1).setCell (p := ⟨b, 2, none⟩) hB v2
end

theorem grown_new {a w : World} {row : Option Nat} {b : Nat} (h : a.grownBy w row) (hb : a.heap.size ≤ b) (i : Nat) (v : Value) : a.grownBy (w.setCell ⟨b, i, none⟩ v) row :=
  ⟨h.os, h.tape, h.output, by simpa [World.setCell] using h.size, fun k hk hne => (Below.heap_setCell w _ _ k (fun e => by have : k = b := e; omega)).trans (h.block k hk hne)⟩
set_option maxRecDepth 100000 in
set_option maxHeartbeats 2000000 in
theorem trank_any (s : ByteArray) (g : Nat) (st : St) (w : World) (hsz : s.size ≤ 1000000000000000) (h : RdrAt w 107 g s st) :
    Calls Try.prog 65 #[.pointer (some ⟨g, 0, none⟩)] w (Step w 107 g s (Rv (rankT s st).1) (rankT s st).2) := by
  obtain ⟨a, b⟩ := st
  obtain ⟨⟨xn, xi, xz⟩, j, e, hv⟩ : ∃ x j e, valG s a = (x, j, e) := ⟨_, _, _, rfl⟩
  have hget := fun W => vget_any s a W hsz
  rw [hv] at hget
  dsimp only [vgetV, Vv] at hget
  have HG := Lib.hid hget
  clear hget
  have hlt := h.lt
  have hR : Blk _ _ _ [.bool false, .int .i64 0, .string ⟨#[]⟩, .int .i64 0] := Blk.new' w 38 #[.bool false, .int .i64 0, .string ⟨#[]⟩, .int .i64 0]
  have h1 : RdrAt (w.alloc (.cells #[.bool false, .int .i64 0, .string ⟨#[]⟩, .int .i64 0] 38)) 107 g s (a, b) := Blk.alloc h _
  have hg1 : w.grownBy (w.alloc (.cells #[.bool false, .int .i64 0, .string ⟨#[]⟩, .int .i64 0] 38)) (some g) := World.grownBy_alloc _ _ _
  have hwa : w.heap.size < (w.alloc (.cells #[.bool false, .int .i64 0, .string ⟨#[]⟩, .int .i64 0] 38)).heap.size := hR.lt
  cases b
  · by_cases he : e = 0
    · subst he
      have HV := Lib.hid (rankT_ok hv)
      have hn : Hid (∀ W, RdrAt W 107 g s (j, false) → Calls Try.prog 63 #[.pointer (some ⟨g, 0, none⟩)] W (Step W 107 g s (.int .i64 (numT s (j, false)).1) (numT s (j, false)).2)) := fun W h => tnum_any s g _ W hsz h
      generalize numT s (j, false) = nr at *
      obtain ⟨nv, st2⟩ := nr
      clear hv
      go_enter Try.func65, Try.ntmps65
      go_upto_region 1 with fail
      generalize w.alloc (.cells #[.bool false, .int .i64 0, .string ⟨#[]⟩, .int .i64 0] 38) = wa at *
      generalize hg0 : w.heap.size = g0 at *
      have hw0 : w.heap.size ≤ g0 := Nat.le_of_eq hg0
      refine wp_region_L (fun _ w' => RdrAt w' 107 g s (a, false)) (by kernel_rfl) ?_
      have hbx : Below wa.heap.size wa wa.drew := Below.drew (Below.refl _ _)
      replace h1 : RdrAt wa.drew 107 g s (a, false) := h1
      generalize wa.drew = wx at *
      refine wpAnyL_takeD (fun _ => True) (i := 0) (v := (.pointer (some ⟨g, 0, none⟩))) (some 7) rfl rfl (by kernel_rfl) (by kernel_rfl) (by kernel_rfl) (fun _ _ _ h => h) (fun _ _ _ _ _ _ => trivial) (fun _ _ _ => Iff.rfl) trivial (Or.inl ⟨by rfl, fun w' hw' => by obtain ⟨l, _, hl⟩ := hw'; have k0 := Blk.cellAt hl 0 rfl; have k1 := Blk.cellAt hl 1 rfl; go_simp⟩) h1 ?_
      simp only [Act.put, List.setIfInBounds_toArray, List.set_cons_zero, List.set_cons_succ]
      refine wpAnyL_takeD (fun _ => True) (i := 1) (v := (.pointer (some ⟨g, 0, none⟩))) (some 8) rfl rfl (by kernel_rfl) (by kernel_rfl) (by kernel_rfl) (fun _ _ _ h => h) (fun _ _ _ _ _ _ => trivial) (fun _ _ _ => Iff.rfl) trivial (Or.inl ⟨by rfl, fun w' hw' => by obtain ⟨l, _, hl⟩ := hw'; have k0 := Blk.cellAt hl 0 rfl; have k1 := Blk.cellAt hl 1 rfl; go_simp⟩) h1 ?_
      simp only [Act.put, List.setIfInBounds_toArray, List.set_cons_zero, List.set_cons_succ]
      refine wpAnyL_takeD (fun _ => True) (i := 2) (v := (.pointer (some ⟨g, 0, none⟩))) (some 9) rfl rfl (by kernel_rfl) (by kernel_rfl) (by kernel_rfl) (fun _ _ _ h => h) (fun _ _ _ _ _ _ => trivial) (fun _ _ _ => Iff.rfl) trivial (Or.inl ⟨by rfl, fun w' hw' => by obtain ⟨l, _, hl⟩ := hw'; have k0 := Blk.cellAt hl 0 rfl; have k1 := Blk.cellAt hl 1 rfl; go_simp⟩) h1 ?_
      simp only [Act.put, List.setIfInBounds_toArray, List.set_cons_zero, List.set_cons_succ]
      refine wpAnyL_takeD (fun _ => True) (i := 3) (v := (.string s)) (some 10) rfl rfl (by kernel_rfl) (by kernel_rfl) (by kernel_rfl) (fun _ _ _ h => h) (fun _ _ _ _ _ _ => trivial) (fun _ _ _ => Iff.rfl) trivial (Or.inl ⟨by rfl, fun w' hw' => by obtain ⟨l, _, hl⟩ := hw'; have k0 := Blk.cellAt hl 0 rfl; have k1 := Blk.cellAt hl 1 rfl; go_simp⟩) h1 ?_
      simp only [Act.put, List.setIfInBounds_toArray, List.set_cons_zero, List.set_cons_succ]
      refine wpAnyL_takeD (fun _ => True) (i := 4) (v := (.pointer (some ⟨g, 0, none⟩))) (some 11) rfl rfl (by kernel_rfl) (by kernel_rfl) (by kernel_rfl) (fun _ _ _ h => h) (fun _ _ _ _ _ _ => trivial) (fun _ _ _ => Iff.rfl) trivial (Or.inl ⟨by rfl, fun w' hw' => by obtain ⟨l, _, hl⟩ := hw'; have k0 := Blk.cellAt hl 0 rfl; have k1 := Blk.cellAt hl 1 rfl; go_simp⟩) h1 ?_
      simp only [Act.put, List.setIfInBounds_toArray, List.set_cons_zero, List.set_cons_succ]
      refine wpAnyL_takeD (fun _ => True) (i := 5) (v := (.pointer (some ⟨g, 0, none⟩))) (some 12) rfl rfl (by kernel_rfl) (by kernel_rfl) (by kernel_rfl) (fun _ _ _ h => h) (fun _ _ _ _ _ _ => trivial) (fun _ _ _ => Iff.rfl) trivial (Or.inl ⟨by rfl, fun w' hw' => by obtain ⟨l, _, hl⟩ := hw'; have k0 := Blk.cellAt hl 0 rfl; have k1 := Blk.cellAt hl 1 rfl; go_simp⟩) h1 ?_
      simp only [Act.put, List.setIfInBounds_toArray, List.set_cons_zero, List.set_cons_succ]
      refine wpAnyL_takeD (fun _ => True) (i := 6) (v := (.pointer (some ⟨g, 1, none⟩))) (some 13) rfl rfl (by kernel_rfl) (by kernel_rfl) (by kernel_rfl) (fun _ _ _ h => h) (fun _ _ _ _ _ _ => trivial) (fun _ _ _ => Iff.rfl) trivial (Or.inl ⟨by rfl, fun w' hw' => by obtain ⟨l, _, hl⟩ := hw'; have k0 := Blk.cellAt hl 0 rfl; have k1 := Blk.cellAt hl 1 rfl; go_simp⟩) h1 ?_
      simp only [Act.put, List.setIfInBounds_toArray, List.set_cons_zero, List.set_cons_succ]
      refine wpAnyL_takeD (fun _ => True) (i := 7) (v := (.int .i64 a)) (some 14) rfl rfl (by kernel_rfl) (by kernel_rfl) (by kernel_rfl) (fun _ _ _ h => h) (fun _ _ _ _ _ _ => trivial) (fun _ _ _ => Iff.rfl) trivial (Or.inl ⟨by rfl, fun w' hw' => by obtain ⟨l, _, hl⟩ := hw'; have k0 := Blk.cellAt hl 0 rfl; have k1 := Blk.cellAt hl 1 rfl; go_simp⟩) h1 ?_
      simp only [Act.put, List.setIfInBounds_toArray, List.set_cons_zero, List.set_cons_succ]
      have hRx := hR
      refine wpAnyL_lst (rs := [8, 13]) (by decide +kernel) ⟨by simp, ?_⟩
      simp only [List.forall_mem_cons, List.not_mem_nil, false_implies, implies_true, and_true]
      refine ⟨?_, ?_⟩
      · refine wpOp_go (o := _) rfl (fun K hK => ?_)
        go_simp
        go_at_call 81
        refine (HG.out _).mono ?_; rintro _ wy ⟨rfl, hby⟩
        replace hbx := bt hbx hby
        replace h1 := Blk.call h1 hby
        refine hK _ _ ⟨h1, ?_⟩
        clear hK K hby
        refine wpAnyL_takeD (fun _ => True) (i := 9) (v := (.tuple #[.agg #[.bool xn, .int .i64 xi, .string xz], .int .i64 j, .int .i64 0])) (some 6) rfl rfl (by kernel_rfl) (by kernel_rfl) (by kernel_rfl) (fun _ _ _ h => h) (fun _ _ _ _ _ _ => trivial) (fun _ _ _ => Iff.rfl) trivial (Or.inl ⟨by rfl, fun w' hw' => by obtain ⟨l, _, hl⟩ := hw'; have k0 := Blk.cellAt hl 0 rfl; have k1 := Blk.cellAt hl 1 rfl; go_simp⟩) h1 ?_
        simp only [Act.put, List.setIfInBounds_toArray, List.set_cons_zero, List.set_cons_succ]
        refine wpAnyL_takeD (fun _ => True) (i := 10) (v := (.agg #[.bool xn, .int .i64 xi, .string xz])) (some 16) rfl rfl (by kernel_rfl) (by kernel_rfl) (by kernel_rfl) (fun _ _ _ h => h) (fun _ _ _ _ _ _ => trivial) (fun _ _ _ => Iff.rfl) trivial (Or.inl ⟨by rfl, fun w' hw' => by obtain ⟨l, _, hl⟩ := hw'; have k0 := Blk.cellAt hl 0 rfl; have k1 := Blk.cellAt hl 1 rfl; go_simp⟩) h1 ?_
        simp only [Act.put, List.setIfInBounds_toArray, List.set_cons_zero, List.set_cons_succ]
        refine wpAnyL_takeD (fun _ => True) (i := 11) (v := (.int .i64 j)) (some 17) rfl rfl (by kernel_rfl) (by kernel_rfl) (by kernel_rfl) (fun _ _ _ h => h) (fun _ _ _ _ _ _ => trivial) (fun _ _ _ => Iff.rfl) trivial (Or.inl ⟨by rfl, fun w' hw' => by obtain ⟨l, _, hl⟩ := hw'; have k0 := Blk.cellAt hl 0 rfl; have k1 := Blk.cellAt hl 1 rfl; go_simp⟩) h1 ?_
        simp only [Act.put, List.setIfInBounds_toArray, List.set_cons_zero, List.set_cons_succ]
        refine wpAnyL_takeD (fun _ => True) (i := 12) (v := (.int .i64 0)) (some 18) rfl rfl (by kernel_rfl) (by kernel_rfl) (by kernel_rfl) (fun _ _ _ h => h) (fun _ _ _ _ _ _ => trivial) (fun _ _ _ => Iff.rfl) trivial (Or.inl ⟨by rfl, fun w' hw' => by obtain ⟨l, _, hl⟩ := hw'; have k0 := Blk.cellAt hl 0 rfl; have k1 := Blk.cellAt hl 1 rfl; go_simp⟩) h1 ?_
        simp only [Act.put, List.setIfInBounds_toArray, List.set_cons_zero, List.set_cons_succ]
        refine wpAnyL_one (i := 13) (by decide +kernel) ?_
        refine wpOp_go (o := _) rfl (fun K hK => ?_)
        go_simp
        have hX := Blk.new' wy 36 #[.bool false, .int .i64 0, .string ⟨#[]⟩]
        have hgx : g < wy.heap.size := h1.lt
        have hgx0 : wa.heap.size ≤ wy.heap.size := hbx.size
        replace h1 := h1.alloc (.cells #[.bool false, .int .i64 0, .string ⟨#[]⟩] 36)
        replace hbx := hbx.alloc hbx.size (.cells #[.bool false, .int .i64 0, .string ⟨#[]⟩] 36)
        refine hK _ _ ⟨h1, ?_⟩
        clear hK K
        generalize wy.heap.size = gx at *
        generalize wy.alloc (.cells #[.bool false, .int .i64 0, .string ⟨#[]⟩] 36) = wz at *
        refine wpAnyL_one (i := 14) (by decide +kernel) ?_
        refine wpOp_go (o := _) rfl (fun K hK => ?_)
        have x0 := hX.cellAt 0 rfl
        have x1 := hX.cellAt 1 rfl
        have x2 := hX.cellAt 2 rfl
        have xf := hX.frozen
        go_simp
        have hX2 := set3 hX (.bool xn) (.int .i64 xi) (.string xz)
        have hR2 := other3 (hRx.below hbx (by omega)) gx (by omega) (.bool xn) (.int .i64 xi) (.string xz)
        have hbx2 := below3 hbx hgx0 (.bool xn) (.int .i64 xi) (.string xz)
        replace h1 := other3 h1 gx (by omega) (.bool xn) (.int .i64 xi) (.string xz)
        refine hK _ _ ⟨h1, ?_⟩
        clear hK K x0 x1 x2 xf hX hbx
        generalize ((wz.setCell ⟨gx, 0, none⟩ (.bool xn)).setCell ⟨gx, 1, none⟩ (.int .i64 xi)).setCell ⟨gx, 2, none⟩ (.string xz) = wq at *
        refine wpAnyL_takeD (fun _ => True) (i := 15) (v := (.int .i64 j)) (some 4) rfl rfl (by kernel_rfl) (by kernel_rfl) (by kernel_rfl) (fun _ _ _ h => h) (fun _ _ _ _ _ _ => trivial) (fun _ _ _ => Iff.rfl) trivial (Or.inl ⟨by rfl, fun w' hw' => by obtain ⟨l, _, hl⟩ := hw'; have k0 := Blk.cellAt hl 0 rfl; have k1 := Blk.cellAt hl 1 rfl; go_simp⟩) h1 ?_
        simp only [Act.put, List.setIfInBounds_toArray, List.set_cons_zero, List.set_cons_succ]
        refine wpAnyL_takeD (fun _ => True) (i := 16) (v := (.int .i64 0)) (some 5) rfl rfl (by kernel_rfl) (by kernel_rfl) (by kernel_rfl) (fun _ _ _ h => h) (fun _ _ _ _ _ _ => trivial) (fun _ _ _ => Iff.rfl) trivial (Or.inl ⟨by rfl, fun w' hw' => by obtain ⟨l, _, hl⟩ := hw'; have k0 := Blk.cellAt hl 0 rfl; have k1 := Blk.cellAt hl 1 rfl; go_simp⟩) h1 ?_
        simp only [Act.put, List.setIfInBounds_toArray, List.set_cons_zero, List.set_cons_succ]
        refine wpAnyL_done (by decide +kernel) ?_ _
        have c0 : wq.cell? ⟨g, 0, none⟩ = some (.string s) := Blk.cellAt h1 0 rfl
        have c1 : wq.cell? ⟨g, 1, none⟩ = some (.int .i64 a) := Blk.cellAt h1 1 rfl
        have c2 : wq.cell? ⟨g, 2, none⟩ = some (.bool false) := Blk.cellAt h1 2 rfl
        have hf := Blk.frozen h1
        have r0 := hR2.cellAt 0 rfl
        have r1 := hR2.cellAt 1 rfl
        have r2 := hR2.cellAt 2 rfl
        have r3 := hR2.cellAt 3 rfl
        have rf := hR2.frozen
        replace hg1 := Lib.grownBy_below hg1 hbx2
        have x0 := hX2.cellAt 0 rfl
        have x1 := hX2.cellAt 1 rfl
        have x2 := hX2.cellAt 2 rfl
        go_upto_region 6 with fail
        have h2 : RdrAt ((wq.setCell ⟨g, 2, none⟩ (.bool false)).setCell ⟨g, 1, none⟩ (.int .i64 j)) 107 g s (j, false) := Blk.set_ (Blk.set_ h1 2 _) 1 _
        have X2 := (hX2.other (b := g) 2 (.bool false) (by omega)).other (b := g) 1 (.int .i64 j) (by omega)
        have R2 := (hR2.other (b := g) 2 (.bool false) (by omega)).other (b := g) 1 (.int .i64 j) (by omega)
        have hg2 : w.grownBy ((wq.setCell ⟨g, 2, none⟩ (.bool false)).setCell ⟨g, 1, none⟩ (.int .i64 j)) (some g) := Lib.grownBy_setB (Lib.grownBy_setB hg1 _ _) _ _
        clear h1 hX2 hR2 hg1 c0 c1 c2 hf x0 x1 x2 r0 r1 r2 r3 rf hbx2
        generalize ((wq.setCell ⟨g, 2, none⟩ (.bool false)).setCell ⟨g, 1, none⟩ (.int .i64 j)) = wr at *
        refine wp_region_L (fun _ w' => Blk w' gx 36 [.bool xn, .int .i64 xi, .string xz]) (by kernel_rfl) ?_
        replace h2 : RdrAt wr.drew 107 g s (j, false) := h2
        replace X2 : Blk wr.drew gx _ _ := X2
        replace R2 : Blk wr.drew g0 _ _ := R2
        replace hg2 : w.grownBy wr.drew (some g) := grown_drewN hg2 1
        generalize wr.drew = wv at *
        refine wpAnyL_takeD (fun _ => True) (i := 0) (v := (.agg #[.bool xn, .int .i64 xi, .string xz])) (some 39) rfl rfl (by kernel_rfl) (by kernel_rfl) (by kernel_rfl) (fun _ _ _ h => h) (fun _ _ _ _ _ _ => trivial) (fun _ _ _ => Iff.rfl) trivial (Or.inl ⟨by rfl, fun w' hw' => by obtain ⟨l, _, hl⟩ := hw'; have k0 := Blk.cellAt hl 0 rfl; have k1 := Blk.cellAt hl 1 rfl; have k2 := Blk.cellAt hl 2 rfl; go_simp⟩) X2 ?_
        simp only [Act.put, List.setIfInBounds_toArray, List.set_cons_zero, List.set_cons_succ]
        refine wpAnyL_takeD (fun _ => True) (i := 1) (v := (.pointer (some ⟨g, 0, none⟩))) (some 40) rfl rfl (by kernel_rfl) (by kernel_rfl) (by kernel_rfl) (fun _ _ _ h => h) (fun _ _ _ _ _ _ => trivial) (fun _ _ _ => Iff.rfl) trivial (Or.inl ⟨by rfl, fun w' hw' => by obtain ⟨l, _, hl⟩ := hw'; have k0 := Blk.cellAt hl 0 rfl; have k1 := Blk.cellAt hl 1 rfl; have k2 := Blk.cellAt hl 2 rfl; go_simp⟩) X2 ?_
        simp only [Act.put, List.setIfInBounds_toArray, List.set_cons_zero, List.set_cons_succ]
        refine wpAnyL_one (i := 2) (by decide +kernel) ?_
        refine wpOp_go (o := _) rfl (fun K hK => ?_)
        go_simp
        go_at_call 63
        refine (hn.out _ h2).mono ?_; rintro _ wu ⟨rfl, h3, hgv⟩
        replace X2 := X2.grownBy hgv (by simp; omega)
        replace R2 := R2.grownBy hgv (by simp; omega)
        replace hg2 := Lib.grownBy_trans hg2 hgv
        refine hK _ _ ⟨X2, ?_⟩
        clear hK K hgv h2
        refine wpAnyL_takeD (fun _ => True) (i := 3) (v := (.agg #[.bool xn, .int .i64 xi, .string xz, .int .i64 nv])) (some 42) rfl rfl (by kernel_rfl) (by kernel_rfl) (by kernel_rfl) (fun _ _ _ h => h) (fun _ _ _ _ _ _ => trivial) (fun _ _ _ => Iff.rfl) trivial (Or.inl ⟨by rfl, fun w' hw' => by obtain ⟨l, _, hl⟩ := hw'; have k0 := Blk.cellAt hl 0 rfl; have k1 := Blk.cellAt hl 1 rfl; have k2 := Blk.cellAt hl 2 rfl; go_simp⟩) X2 ?_
        simp only [Act.put, List.setIfInBounds_toArray, List.set_cons_zero, List.set_cons_succ]
        have r0 := R2.cellAt 0 rfl
        have r1 := R2.cellAt 1 rfl
        have r2 := R2.cellAt 2 rfl
        have r3 := R2.cellAt 3 rfl
        have rf := R2.frozen
        refine wpAnyL_one (i := 4) (by decide +kernel) ?_
        refine wpOp_go (o := _) rfl (fun K hK => ?_)
        go_simp
        refine hK _ _ ⟨by
          refine Blk.other ?_ _ _ (by omega)
          refine Blk.other ?_ _ _ (by omega)
          refine Blk.other ?_ _ _ (by omega)
          refine Blk.other ?_ _ _ (by omega)
          exact X2, ?_⟩
        refine wpAnyL_done (by decide +kernel) ?_ _
        go_wp2
        refine bodyPost_ret (v := .agg #[.bool xn, .int .i64 xi, .string xz, .int .i64 nv]) (by simp [results, Try.results65, go_sem, r0, r1, r2, r3]) rfl ?_
        rw [HV.out]
        refine ⟨rfl, ?_, ?_⟩
        · show Blk _ _ _ _
          refine Blk.other ?_ _ _ (by omega)
          refine Blk.other ?_ _ _ (by omega)
          refine Blk.other ?_ _ _ (by omega)
          refine Blk.other ?_ _ _ (by omega)
          exact h3
        · refine grown_new ?_ hw0 _ _
          refine grown_new ?_ hw0 _ _
          refine grown_new ?_ hw0 _ _
          refine grown_new ?_ hw0 _ _
          exact hg2
      · refine wpOp_go (o := _) rfl (fun K hK => ?_)
        go_simp
        have hX := Blk.new' wx 36 #[.bool false, .int .i64 0, .string ⟨#[]⟩]
        have hgx : g < wx.heap.size := h1.lt
        have hgx0 : wa.heap.size ≤ wx.heap.size := hbx.size
        replace h1 := h1.alloc (.cells #[.bool false, .int .i64 0, .string ⟨#[]⟩] 36)
        replace hbx := hbx.alloc hbx.size (.cells #[.bool false, .int .i64 0, .string ⟨#[]⟩] 36)
        refine hK _ _ ⟨h1, ?_⟩
        clear hK K
        generalize wx.heap.size = gx at *
        generalize wx.alloc (.cells #[.bool false, .int .i64 0, .string ⟨#[]⟩] 36) = wz at *
        refine wpAnyL_one (i := 8) (by decide +kernel) ?_
        refine wpOp_go (o := _) rfl (fun K hK => ?_)
        go_simp
        go_at_call 81
        refine (HG.out _).mono ?_; rintro _ wy ⟨rfl, hby⟩
        replace hbx := bt hbx hby
        replace hX := hX.call hby
        replace h1 := Blk.call h1 hby
        refine hK _ _ ⟨h1, ?_⟩
        clear hK K hby
        refine wpAnyL_takeD (fun _ => True) (i := 9) (v := (.tuple #[.agg #[.bool xn, .int .i64 xi, .string xz], .int .i64 j, .int .i64 0])) (some 6) rfl rfl (by kernel_rfl) (by kernel_rfl) (by kernel_rfl) (fun _ _ _ h => h) (fun _ _ _ _ _ _ => trivial) (fun _ _ _ => Iff.rfl) trivial (Or.inl ⟨by rfl, fun w' hw' => by obtain ⟨l, _, hl⟩ := hw'; have k0 := Blk.cellAt hl 0 rfl; have k1 := Blk.cellAt hl 1 rfl; go_simp⟩) h1 ?_
        simp only [Act.put, List.setIfInBounds_toArray, List.set_cons_zero, List.set_cons_succ]
        refine wpAnyL_takeD (fun _ => True) (i := 10) (v := (.agg #[.bool xn, .int .i64 xi, .string xz])) (some 16) rfl rfl (by kernel_rfl) (by kernel_rfl) (by kernel_rfl) (fun _ _ _ h => h) (fun _ _ _ _ _ _ => trivial) (fun _ _ _ => Iff.rfl) trivial (Or.inl ⟨by rfl, fun w' hw' => by obtain ⟨l, _, hl⟩ := hw'; have k0 := Blk.cellAt hl 0 rfl; have k1 := Blk.cellAt hl 1 rfl; go_simp⟩) h1 ?_
        simp only [Act.put, List.setIfInBounds_toArray, List.set_cons_zero, List.set_cons_succ]
        refine wpAnyL_takeD (fun _ => True) (i := 11) (v := (.int .i64 j)) (some 17) rfl rfl (by kernel_rfl) (by kernel_rfl) (by kernel_rfl) (fun _ _ _ h => h) (fun _ _ _ _ _ _ => trivial) (fun _ _ _ => Iff.rfl) trivial (Or.inl ⟨by rfl, fun w' hw' => by obtain ⟨l, _, hl⟩ := hw'; have k0 := Blk.cellAt hl 0 rfl; have k1 := Blk.cellAt hl 1 rfl; go_simp⟩) h1 ?_
        simp only [Act.put, List.setIfInBounds_toArray, List.set_cons_zero, List.set_cons_succ]
        refine wpAnyL_takeD (fun _ => True) (i := 12) (v := (.int .i64 0)) (some 18) rfl rfl (by kernel_rfl) (by kernel_rfl) (by kernel_rfl) (fun _ _ _ h => h) (fun _ _ _ _ _ _ => trivial) (fun _ _ _ => Iff.rfl) trivial (Or.inl ⟨by rfl, fun w' hw' => by obtain ⟨l, _, hl⟩ := hw'; have k0 := Blk.cellAt hl 0 rfl; have k1 := Blk.cellAt hl 1 rfl; go_simp⟩) h1 ?_
        simp only [Act.put, List.setIfInBounds_toArray, List.set_cons_zero, List.set_cons_succ]
        refine wpAnyL_one (i := 14) (by decide +kernel) ?_
        refine wpOp_go (o := _) rfl (fun K hK => ?_)
        have x0 := hX.cellAt 0 rfl
        have x1 := hX.cellAt 1 rfl
        have x2 := hX.cellAt 2 rfl
        have xf := hX.frozen
        go_simp
        have hX2 := set3 hX (.bool xn) (.int .i64 xi) (.string xz)
        have hR2 := other3 (hRx.below hbx (by omega)) gx (by omega) (.bool xn) (.int .i64 xi) (.string xz)
        have hbx2 := below3 hbx hgx0 (.bool xn) (.int .i64 xi) (.string xz)
        replace h1 := other3 h1 gx (by omega) (.bool xn) (.int .i64 xi) (.string xz)
        refine hK _ _ ⟨h1, ?_⟩
        clear hK K x0 x1 x2 xf hX hbx
        generalize ((wy.setCell ⟨gx, 0, none⟩ (.bool xn)).setCell ⟨gx, 1, none⟩ (.int .i64 xi)).setCell ⟨gx, 2, none⟩ (.string xz) = wq at *
        refine wpAnyL_takeD (fun _ => True) (i := 15) (v := (.int .i64 j)) (some 4) rfl rfl (by kernel_rfl) (by kernel_rfl) (by kernel_rfl) (fun _ _ _ h => h) (fun _ _ _ _ _ _ => trivial) (fun _ _ _ => Iff.rfl) trivial (Or.inl ⟨by rfl, fun w' hw' => by obtain ⟨l, _, hl⟩ := hw'; have k0 := Blk.cellAt hl 0 rfl; have k1 := Blk.cellAt hl 1 rfl; go_simp⟩) h1 ?_
        simp only [Act.put, List.setIfInBounds_toArray, List.set_cons_zero, List.set_cons_succ]
        refine wpAnyL_takeD (fun _ => True) (i := 16) (v := (.int .i64 0)) (some 5) rfl rfl (by kernel_rfl) (by kernel_rfl) (by kernel_rfl) (fun _ _ _ h => h) (fun _ _ _ _ _ _ => trivial) (fun _ _ _ => Iff.rfl) trivial (Or.inl ⟨by rfl, fun w' hw' => by obtain ⟨l, _, hl⟩ := hw'; have k0 := Blk.cellAt hl 0 rfl; have k1 := Blk.cellAt hl 1 rfl; go_simp⟩) h1 ?_
        simp only [Act.put, List.setIfInBounds_toArray, List.set_cons_zero, List.set_cons_succ]
        refine wpAnyL_done (by decide +kernel) ?_ _
        have c0 : wq.cell? ⟨g, 0, none⟩ = some (.string s) := Blk.cellAt h1 0 rfl
        have c1 : wq.cell? ⟨g, 1, none⟩ = some (.int .i64 a) := Blk.cellAt h1 1 rfl
        have c2 : wq.cell? ⟨g, 2, none⟩ = some (.bool false) := Blk.cellAt h1 2 rfl
        have hf := Blk.frozen h1
        have r0 := hR2.cellAt 0 rfl
        have r1 := hR2.cellAt 1 rfl
        have r2 := hR2.cellAt 2 rfl
        have r3 := hR2.cellAt 3 rfl
        have rf := hR2.frozen
        replace hg1 := Lib.grownBy_below hg1 hbx2
        have x0 := hX2.cellAt 0 rfl
        have x1 := hX2.cellAt 1 rfl
        have x2 := hX2.cellAt 2 rfl
        go_upto_region 6 with fail
        have h2 : RdrAt ((wq.setCell ⟨g, 2, none⟩ (.bool false)).setCell ⟨g, 1, none⟩ (.int .i64 j)) 107 g s (j, false) := Blk.set_ (Blk.set_ h1 2 _) 1 _
        have X2 := (hX2.other (b := g) 2 (.bool false) (by omega)).other (b := g) 1 (.int .i64 j) (by omega)
        have R2 := (hR2.other (b := g) 2 (.bool false) (by omega)).other (b := g) 1 (.int .i64 j) (by omega)
        have hg2 : w.grownBy ((wq.setCell ⟨g, 2, none⟩ (.bool false)).setCell ⟨g, 1, none⟩ (.int .i64 j)) (some g) := Lib.grownBy_setB (Lib.grownBy_setB hg1 _ _) _ _
        clear h1 hX2 hR2 hg1 c0 c1 c2 hf x0 x1 x2 r0 r1 r2 r3 rf hbx2
        generalize ((wq.setCell ⟨g, 2, none⟩ (.bool false)).setCell ⟨g, 1, none⟩ (.int .i64 j)) = wr at *
        refine wp_region_L (fun _ w' => Blk w' gx 36 [.bool xn, .int .i64 xi, .string xz]) (by kernel_rfl) ?_
        replace h2 : RdrAt wr.drew 107 g s (j, false) := h2
        replace X2 : Blk wr.drew gx _ _ := X2
        replace R2 : Blk wr.drew g0 _ _ := R2
        replace hg2 : w.grownBy wr.drew (some g) := grown_drewN hg2 1
        generalize wr.drew = wv at *
        refine wpAnyL_takeD (fun _ => True) (i := 0) (v := (.agg #[.bool xn, .int .i64 xi, .string xz])) (some 39) rfl rfl (by kernel_rfl) (by kernel_rfl) (by kernel_rfl) (fun _ _ _ h => h) (fun _ _ _ _ _ _ => trivial) (fun _ _ _ => Iff.rfl) trivial (Or.inl ⟨by rfl, fun w' hw' => by obtain ⟨l, _, hl⟩ := hw'; have k0 := Blk.cellAt hl 0 rfl; have k1 := Blk.cellAt hl 1 rfl; have k2 := Blk.cellAt hl 2 rfl; go_simp⟩) X2 ?_
        simp only [Act.put, List.setIfInBounds_toArray, List.set_cons_zero, List.set_cons_succ]
        refine wpAnyL_takeD (fun _ => True) (i := 1) (v := (.pointer (some ⟨g, 0, none⟩))) (some 40) rfl rfl (by kernel_rfl) (by kernel_rfl) (by kernel_rfl) (fun _ _ _ h => h) (fun _ _ _ _ _ _ => trivial) (fun _ _ _ => Iff.rfl) trivial (Or.inl ⟨by rfl, fun w' hw' => by obtain ⟨l, _, hl⟩ := hw'; have k0 := Blk.cellAt hl 0 rfl; have k1 := Blk.cellAt hl 1 rfl; have k2 := Blk.cellAt hl 2 rfl; go_simp⟩) X2 ?_
        simp only [Act.put, List.setIfInBounds_toArray, List.set_cons_zero, List.set_cons_succ]
        refine wpAnyL_one (i := 2) (by decide +kernel) ?_
        refine wpOp_go (o := _) rfl (fun K hK => ?_)
        go_simp
        go_at_call 63
        refine (hn.out _ h2).mono ?_; rintro _ wu ⟨rfl, h3, hgv⟩
        replace X2 := X2.grownBy hgv (by simp; omega)
        replace R2 := R2.grownBy hgv (by simp; omega)
        replace hg2 := Lib.grownBy_trans hg2 hgv
        refine hK _ _ ⟨X2, ?_⟩
        clear hK K hgv h2
        refine wpAnyL_takeD (fun _ => True) (i := 3) (v := (.agg #[.bool xn, .int .i64 xi, .string xz, .int .i64 nv])) (some 42) rfl rfl (by kernel_rfl) (by kernel_rfl) (by kernel_rfl) (fun _ _ _ h => h) (fun _ _ _ _ _ _ => trivial) (fun _ _ _ => Iff.rfl) trivial (Or.inl ⟨by rfl, fun w' hw' => by obtain ⟨l, _, hl⟩ := hw'; have k0 := Blk.cellAt hl 0 rfl; have k1 := Blk.cellAt hl 1 rfl; have k2 := Blk.cellAt hl 2 rfl; go_simp⟩) X2 ?_
        simp only [Act.put, List.setIfInBounds_toArray, List.set_cons_zero, List.set_cons_succ]
        have r0 := R2.cellAt 0 rfl
        have r1 := R2.cellAt 1 rfl
        have r2 := R2.cellAt 2 rfl
        have r3 := R2.cellAt 3 rfl
        have rf := R2.frozen
        refine wpAnyL_one (i := 4) (by decide +kernel) ?_
        refine wpOp_go (o := _) rfl (fun K hK => ?_)
        go_simp
        refine hK _ _ ⟨by
          refine Blk.other ?_ _ _ (by omega)
          refine Blk.other ?_ _ _ (by omega)
          refine Blk.other ?_ _ _ (by omega)
          refine Blk.other ?_ _ _ (by omega)
          exact X2, ?_⟩
        refine wpAnyL_done (by decide +kernel) ?_ _
        go_wp2
        refine bodyPost_ret (v := .agg #[.bool xn, .int .i64 xi, .string xz, .int .i64 nv]) (by simp [results, Try.results65, go_sem, r0, r1, r2, r3]) rfl ?_
        rw [HV.out]
        refine ⟨rfl, ?_, ?_⟩
        · show Blk _ _ _ _
          refine Blk.other ?_ _ _ (by omega)
          refine Blk.other ?_ _ _ (by omega)
          refine Blk.other ?_ _ _ (by omega)
          refine Blk.other ?_ _ _ (by omega)
          exact h3
        · refine grown_new ?_ hw0 _ _
          refine grown_new ?_ hw0 _ _
          refine grown_new ?_ hw0 _ _
          refine grown_new ?_ hw0 _ _
          exact hg2
    · have HV := Lib.hid (rankT_err hv he)
      have hbe : (e != 0) = true := by simpa using he
      clear hv
      go_enter Try.func65, Try.ntmps65
      go_upto_region 1 with fail
      generalize w.alloc (.cells #[.bool false, .int .i64 0, .string ⟨#[]⟩, .int .i64 0] 38) = wa at *
      generalize hg0 : w.heap.size = g0 at *
      have hw0 : w.heap.size ≤ g0 := Nat.le_of_eq hg0
      refine wp_region_L (fun _ w' => RdrAt w' 107 g s (a, false)) (by kernel_rfl) ?_
      have hbx : Below wa.heap.size wa wa.drew := Below.drew (Below.refl _ _)
      replace h1 : RdrAt wa.drew 107 g s (a, false) := h1
      generalize wa.drew = wx at *
      refine wpAnyL_takeD (fun _ => True) (i := 0) (v := (.pointer (some ⟨g, 0, none⟩))) (some 7) rfl rfl (by kernel_rfl) (by kernel_rfl) (by kernel_rfl) (fun _ _ _ h => h) (fun _ _ _ _ _ _ => trivial) (fun _ _ _ => Iff.rfl) trivial (Or.inl ⟨by rfl, fun w' hw' => by obtain ⟨l, _, hl⟩ := hw'; have k0 := Blk.cellAt hl 0 rfl; have k1 := Blk.cellAt hl 1 rfl; go_simp⟩) h1 ?_
      simp only [Act.put, List.setIfInBounds_toArray, List.set_cons_zero, List.set_cons_succ]
      refine wpAnyL_takeD (fun _ => True) (i := 1) (v := (.pointer (some ⟨g, 0, none⟩))) (some 8) rfl rfl (by kernel_rfl) (by kernel_rfl) (by kernel_rfl) (fun _ _ _ h => h) (fun _ _ _ _ _ _ => trivial) (fun _ _ _ => Iff.rfl) trivial (Or.inl ⟨by rfl, fun w' hw' => by obtain ⟨l, _, hl⟩ := hw'; have k0 := Blk.cellAt hl 0 rfl; have k1 := Blk.cellAt hl 1 rfl; go_simp⟩) h1 ?_
      simp only [Act.put, List.setIfInBounds_toArray, List.set_cons_zero, List.set_cons_succ]
      refine wpAnyL_takeD (fun _ => True) (i := 2) (v := (.pointer (some ⟨g, 0, none⟩))) (some 9) rfl rfl (by kernel_rfl) (by kernel_rfl) (by kernel_rfl) (fun _ _ _ h => h) (fun _ _ _ _ _ _ => trivial) (fun _ _ _ => Iff.rfl) trivial (Or.inl ⟨by rfl, fun w' hw' => by obtain ⟨l, _, hl⟩ := hw'; have k0 := Blk.cellAt hl 0 rfl; have k1 := Blk.cellAt hl 1 rfl; go_simp⟩) h1 ?_
      simp only [Act.put, List.setIfInBounds_toArray, List.set_cons_zero, List.set_cons_succ]
      refine wpAnyL_takeD (fun _ => True) (i := 3) (v := (.string s)) (some 10) rfl rfl (by kernel_rfl) (by kernel_rfl) (by kernel_rfl) (fun _ _ _ h => h) (fun _ _ _ _ _ _ => trivial) (fun _ _ _ => Iff.rfl) trivial (Or.inl ⟨by rfl, fun w' hw' => by obtain ⟨l, _, hl⟩ := hw'; have k0 := Blk.cellAt hl 0 rfl; have k1 := Blk.cellAt hl 1 rfl; go_simp⟩) h1 ?_
      simp only [Act.put, List.setIfInBounds_toArray, List.set_cons_zero, List.set_cons_succ]
      refine wpAnyL_takeD (fun _ => True) (i := 4) (v := (.pointer (some ⟨g, 0, none⟩))) (some 11) rfl rfl (by kernel_rfl) (by kernel_rfl) (by kernel_rfl) (fun _ _ _ h => h) (fun _ _ _ _ _ _ => trivial) (fun _ _ _ => Iff.rfl) trivial (Or.inl ⟨by rfl, fun w' hw' => by obtain ⟨l, _, hl⟩ := hw'; have k0 := Blk.cellAt hl 0 rfl; have k1 := Blk.cellAt hl 1 rfl; go_simp⟩) h1 ?_
      simp only [Act.put, List.setIfInBounds_toArray, List.set_cons_zero, List.set_cons_succ]
      refine wpAnyL_takeD (fun _ => True) (i := 5) (v := (.pointer (some ⟨g, 0, none⟩))) (some 12) rfl rfl (by kernel_rfl) (by kernel_rfl) (by kernel_rfl) (fun _ _ _ h => h) (fun _ _ _ _ _ _ => trivial) (fun _ _ _ => Iff.rfl) trivial (Or.inl ⟨by rfl, fun w' hw' => by obtain ⟨l, _, hl⟩ := hw'; have k0 := Blk.cellAt hl 0 rfl; have k1 := Blk.cellAt hl 1 rfl; go_simp⟩) h1 ?_
      simp only [Act.put, List.setIfInBounds_toArray, List.set_cons_zero, List.set_cons_succ]
      refine wpAnyL_takeD (fun _ => True) (i := 6) (v := (.pointer (some ⟨g, 1, none⟩))) (some 13) rfl rfl (by kernel_rfl) (by kernel_rfl) (by kernel_rfl) (fun _ _ _ h => h) (fun _ _ _ _ _ _ => trivial) (fun _ _ _ => Iff.rfl) trivial (Or.inl ⟨by rfl, fun w' hw' => by obtain ⟨l, _, hl⟩ := hw'; have k0 := Blk.cellAt hl 0 rfl; have k1 := Blk.cellAt hl 1 rfl; go_simp⟩) h1 ?_
      simp only [Act.put, List.setIfInBounds_toArray, List.set_cons_zero, List.set_cons_succ]
      refine wpAnyL_takeD (fun _ => True) (i := 7) (v := (.int .i64 a)) (some 14) rfl rfl (by kernel_rfl) (by kernel_rfl) (by kernel_rfl) (fun _ _ _ h => h) (fun _ _ _ _ _ _ => trivial) (fun _ _ _ => Iff.rfl) trivial (Or.inl ⟨by rfl, fun w' hw' => by obtain ⟨l, _, hl⟩ := hw'; have k0 := Blk.cellAt hl 0 rfl; have k1 := Blk.cellAt hl 1 rfl; go_simp⟩) h1 ?_
      simp only [Act.put, List.setIfInBounds_toArray, List.set_cons_zero, List.set_cons_succ]
      have hRx := hR
      refine wpAnyL_lst (rs := [8, 13]) (by decide +kernel) ⟨by simp, ?_⟩
      simp only [List.forall_mem_cons, List.not_mem_nil, false_implies, implies_true, and_true]
      refine ⟨?_, ?_⟩
      · refine wpOp_go (o := _) rfl (fun K hK => ?_)
        go_simp
        go_at_call 81
        refine (HG.out _).mono ?_; rintro _ wy ⟨rfl, hby⟩
        replace hbx := bt hbx hby
        replace h1 := Blk.call h1 hby
        refine hK _ _ ⟨h1, ?_⟩
        clear hK K hby
        refine wpAnyL_takeD (fun _ => True) (i := 9) (v := (.tuple #[.agg #[.bool xn, .int .i64 xi, .string xz], .int .i64 j, .int .i64 e])) (some 6) rfl rfl (by kernel_rfl) (by kernel_rfl) (by kernel_rfl) (fun _ _ _ h => h) (fun _ _ _ _ _ _ => trivial) (fun _ _ _ => Iff.rfl) trivial (Or.inl ⟨by rfl, fun w' hw' => by obtain ⟨l, _, hl⟩ := hw'; have k0 := Blk.cellAt hl 0 rfl; have k1 := Blk.cellAt hl 1 rfl; go_simp⟩) h1 ?_
        simp only [Act.put, List.setIfInBounds_toArray, List.set_cons_zero, List.set_cons_succ]
        refine wpAnyL_takeD (fun _ => True) (i := 10) (v := (.agg #[.bool xn, .int .i64 xi, .string xz])) (some 16) rfl rfl (by kernel_rfl) (by kernel_rfl) (by kernel_rfl) (fun _ _ _ h => h) (fun _ _ _ _ _ _ => trivial) (fun _ _ _ => Iff.rfl) trivial (Or.inl ⟨by rfl, fun w' hw' => by obtain ⟨l, _, hl⟩ := hw'; have k0 := Blk.cellAt hl 0 rfl; have k1 := Blk.cellAt hl 1 rfl; go_simp⟩) h1 ?_
        simp only [Act.put, List.setIfInBounds_toArray, List.set_cons_zero, List.set_cons_succ]
        refine wpAnyL_takeD (fun _ => True) (i := 11) (v := (.int .i64 j)) (some 17) rfl rfl (by kernel_rfl) (by kernel_rfl) (by kernel_rfl) (fun _ _ _ h => h) (fun _ _ _ _ _ _ => trivial) (fun _ _ _ => Iff.rfl) trivial (Or.inl ⟨by rfl, fun w' hw' => by obtain ⟨l, _, hl⟩ := hw'; have k0 := Blk.cellAt hl 0 rfl; have k1 := Blk.cellAt hl 1 rfl; go_simp⟩) h1 ?_
        simp only [Act.put, List.setIfInBounds_toArray, List.set_cons_zero, List.set_cons_succ]
        refine wpAnyL_takeD (fun _ => True) (i := 12) (v := (.int .i64 e)) (some 18) rfl rfl (by kernel_rfl) (by kernel_rfl) (by kernel_rfl) (fun _ _ _ h => h) (fun _ _ _ _ _ _ => trivial) (fun _ _ _ => Iff.rfl) trivial (Or.inl ⟨by rfl, fun w' hw' => by obtain ⟨l, _, hl⟩ := hw'; have k0 := Blk.cellAt hl 0 rfl; have k1 := Blk.cellAt hl 1 rfl; go_simp⟩) h1 ?_
        simp only [Act.put, List.setIfInBounds_toArray, List.set_cons_zero, List.set_cons_succ]
        refine wpAnyL_one (i := 13) (by decide +kernel) ?_
        refine wpOp_go (o := _) rfl (fun K hK => ?_)
        go_simp
        have hX := Blk.new' wy 36 #[.bool false, .int .i64 0, .string ⟨#[]⟩]
        have hgx : g < wy.heap.size := h1.lt
        have hgx0 : wa.heap.size ≤ wy.heap.size := hbx.size
        replace h1 := h1.alloc (.cells #[.bool false, .int .i64 0, .string ⟨#[]⟩] 36)
        replace hbx := hbx.alloc hbx.size (.cells #[.bool false, .int .i64 0, .string ⟨#[]⟩] 36)
        refine hK _ _ ⟨h1, ?_⟩
        clear hK K
        generalize wy.heap.size = gx at *
        generalize wy.alloc (.cells #[.bool false, .int .i64 0, .string ⟨#[]⟩] 36) = wz at *
        refine wpAnyL_one (i := 14) (by decide +kernel) ?_
        refine wpOp_go (o := _) rfl (fun K hK => ?_)
        have x0 := hX.cellAt 0 rfl
        have x1 := hX.cellAt 1 rfl
        have x2 := hX.cellAt 2 rfl
        have xf := hX.frozen
        go_simp
        have hX2 := set3 hX (.bool xn) (.int .i64 xi) (.string xz)
        have hR2 := other3 (hRx.below hbx (by omega)) gx (by omega) (.bool xn) (.int .i64 xi) (.string xz)
        have hbx2 := below3 hbx hgx0 (.bool xn) (.int .i64 xi) (.string xz)
        replace h1 := other3 h1 gx (by omega) (.bool xn) (.int .i64 xi) (.string xz)
        refine hK _ _ ⟨h1, ?_⟩
        clear hK K x0 x1 x2 xf hX hbx
        generalize ((wz.setCell ⟨gx, 0, none⟩ (.bool xn)).setCell ⟨gx, 1, none⟩ (.int .i64 xi)).setCell ⟨gx, 2, none⟩ (.string xz) = wq at *
        refine wpAnyL_takeD (fun _ => True) (i := 15) (v := (.int .i64 j)) (some 4) rfl rfl (by kernel_rfl) (by kernel_rfl) (by kernel_rfl) (fun _ _ _ h => h) (fun _ _ _ _ _ _ => trivial) (fun _ _ _ => Iff.rfl) trivial (Or.inl ⟨by rfl, fun w' hw' => by obtain ⟨l, _, hl⟩ := hw'; have k0 := Blk.cellAt hl 0 rfl; have k1 := Blk.cellAt hl 1 rfl; go_simp⟩) h1 ?_
        simp only [Act.put, List.setIfInBounds_toArray, List.set_cons_zero, List.set_cons_succ]
        refine wpAnyL_takeD (fun _ => True) (i := 16) (v := (.int .i64 e)) (some 5) rfl rfl (by kernel_rfl) (by kernel_rfl) (by kernel_rfl) (fun _ _ _ h => h) (fun _ _ _ _ _ _ => trivial) (fun _ _ _ => Iff.rfl) trivial (Or.inl ⟨by rfl, fun w' hw' => by obtain ⟨l, _, hl⟩ := hw'; have k0 := Blk.cellAt hl 0 rfl; have k1 := Blk.cellAt hl 1 rfl; go_simp⟩) h1 ?_
        simp only [Act.put, List.setIfInBounds_toArray, List.set_cons_zero, List.set_cons_succ]
        refine wpAnyL_done (by decide +kernel) ?_ _
        have c0 : wq.cell? ⟨g, 0, none⟩ = some (.string s) := Blk.cellAt h1 0 rfl
        have c1 : wq.cell? ⟨g, 1, none⟩ = some (.int .i64 a) := Blk.cellAt h1 1 rfl
        have c2 : wq.cell? ⟨g, 2, none⟩ = some (.bool false) := Blk.cellAt h1 2 rfl
        have hf := Blk.frozen h1
        have r0 := hR2.cellAt 0 rfl
        have r1 := hR2.cellAt 1 rfl
        have r2 := hR2.cellAt 2 rfl
        have r3 := hR2.cellAt 3 rfl
        have rf := hR2.frozen
        replace hg1 := Lib.grownBy_below hg1 hbx2
        go_wp2
        refine bodyPost_ret (v := .agg #[.bool false, .int .i64 0, .string ⟨#[]⟩, .int .i64 0]) (by simp [results, Try.results65, go_sem, r0, r1, r2, r3]) rfl ?_
        rw [HV.out]
        refine ⟨rfl, ?_, ?_⟩
        · show Blk _ _ _ _
          refine Blk.other ?_ _ _ (by omega)
          refine Blk.other ?_ _ _ (by omega)
          refine Blk.other ?_ _ _ (by omega)
          refine Blk.other ?_ _ _ (by omega)
          exact Blk.set_ h1 2 _
        · refine grown_new ?_ hw0 _ _
          refine grown_new ?_ hw0 _ _
          refine grown_new ?_ hw0 _ _
          refine grown_new ?_ hw0 _ _
          exact Lib.grownBy_setB hg1 _ _
      · refine wpOp_go (o := _) rfl (fun K hK => ?_)
        go_simp
        have hX := Blk.new' wx 36 #[.bool false, .int .i64 0, .string ⟨#[]⟩]
        have hgx : g < wx.heap.size := h1.lt
        have hgx0 : wa.heap.size ≤ wx.heap.size := hbx.size
        replace h1 := h1.alloc (.cells #[.bool false, .int .i64 0, .string ⟨#[]⟩] 36)
        replace hbx := hbx.alloc hbx.size (.cells #[.bool false, .int .i64 0, .string ⟨#[]⟩] 36)
        refine hK _ _ ⟨h1, ?_⟩
        clear hK K
        generalize wx.heap.size = gx at *
        generalize wx.alloc (.cells #[.bool false, .int .i64 0, .string ⟨#[]⟩] 36) = wz at *
        refine wpAnyL_one (i := 8) (by decide +kernel) ?_
        refine wpOp_go (o := _) rfl (fun K hK => ?_)
        go_simp
        go_at_call 81
        refine (HG.out _).mono ?_; rintro _ wy ⟨rfl, hby⟩
        replace hbx := bt hbx hby
        replace hX := hX.call hby
        replace h1 := Blk.call h1 hby
        refine hK _ _ ⟨h1, ?_⟩
        clear hK K hby
        refine wpAnyL_takeD (fun _ => True) (i := 9) (v := (.tuple #[.agg #[.bool xn, .int .i64 xi, .string xz], .int .i64 j, .int .i64 e])) (some 6) rfl rfl (by kernel_rfl) (by kernel_rfl) (by kernel_rfl) (fun _ _ _ h => h) (fun _ _ _ _ _ _ => trivial) (fun _ _ _ => Iff.rfl) trivial (Or.inl ⟨by rfl, fun w' hw' => by obtain ⟨l, _, hl⟩ := hw'; have k0 := Blk.cellAt hl 0 rfl; have k1 := Blk.cellAt hl 1 rfl; go_simp⟩) h1 ?_
        simp only [Act.put, List.setIfInBounds_toArray, List.set_cons_zero, List.set_cons_succ]
        refine wpAnyL_takeD (fun _ => True) (i := 10) (v := (.agg #[.bool xn, .int .i64 xi, .string xz])) (some 16) rfl rfl (by kernel_rfl) (by kernel_rfl) (by kernel_rfl) (fun _ _ _ h => h) (fun _ _ _ _ _ _ => trivial) (fun _ _ _ => Iff.rfl) trivial (Or.inl ⟨by rfl, fun w' hw' => by obtain ⟨l, _, hl⟩ := hw'; have k0 := Blk.cellAt hl 0 rfl; have k1 := Blk.cellAt hl 1 rfl; go_simp⟩) h1 ?_
        simp only [Act.put, List.setIfInBounds_toArray, List.set_cons_zero, List.set_cons_succ]
        refine wpAnyL_takeD (fun _ => True) (i := 11) (v := (.int .i64 j)) (some 17) rfl rfl (by kernel_rfl) (by kernel_rfl) (by kernel_rfl) (fun _ _ _ h => h) (fun _ _ _ _ _ _ => trivial) (fun _ _ _ => Iff.rfl) trivial (Or.inl ⟨by rfl, fun w' hw' => by obtain ⟨l, _, hl⟩ := hw'; have k0 := Blk.cellAt hl 0 rfl; have k1 := Blk.cellAt hl 1 rfl; go_simp⟩) h1 ?_
        simp only [Act.put, List.setIfInBounds_toArray, List.set_cons_zero, List.set_cons_succ]
        refine wpAnyL_takeD (fun _ => True) (i := 12) (v := (.int .i64 e)) (some 18) rfl rfl (by kernel_rfl) (by kernel_rfl) (by kernel_rfl) (fun _ _ _ h => h) (fun _ _ _ _ _ _ => trivial) (fun _ _ _ => Iff.rfl) trivial (Or.inl ⟨by rfl, fun w' hw' => by obtain ⟨l, _, hl⟩ := hw'; have k0 := Blk.cellAt hl 0 rfl; have k1 := Blk.cellAt hl 1 rfl; go_simp⟩) h1 ?_
        simp only [Act.put, List.setIfInBounds_toArray, List.set_cons_zero, List.set_cons_succ]
        refine wpAnyL_one (i := 14) (by decide +kernel) ?_
        refine wpOp_go (o := _) rfl (fun K hK => ?_)
        have x0 := hX.cellAt 0 rfl
        have x1 := hX.cellAt 1 rfl
        have x2 := hX.cellAt 2 rfl
        have xf := hX.frozen
        go_simp
        have hX2 := set3 hX (.bool xn) (.int .i64 xi) (.string xz)
        have hR2 := other3 (hRx.below hbx (by omega)) gx (by omega) (.bool xn) (.int .i64 xi) (.string xz)
        have hbx2 := below3 hbx hgx0 (.bool xn) (.int .i64 xi) (.string xz)
        replace h1 := other3 h1 gx (by omega) (.bool xn) (.int .i64 xi) (.string xz)
        refine hK _ _ ⟨h1, ?_⟩
        clear hK K x0 x1 x2 xf hX hbx
        generalize ((wy.setCell ⟨gx, 0, none⟩ (.bool xn)).setCell ⟨gx, 1, none⟩ (.int .i64 xi)).setCell ⟨gx, 2, none⟩ (.string xz) = wq at *
        refine wpAnyL_takeD (fun _ => True) (i := 15) (v := (.int .i64 j)) (some 4) rfl rfl (by kernel_rfl) (by kernel_rfl) (by kernel_rfl) (fun _ _ _ h => h) (fun _ _ _ _ _ _ => trivial) (fun _ _ _ => Iff.rfl) trivial (Or.inl ⟨by rfl, fun w' hw' => by obtain ⟨l, _, hl⟩ := hw'; have k0 := Blk.cellAt hl 0 rfl; have k1 := Blk.cellAt hl 1 rfl; go_simp⟩) h1 ?_
        simp only [Act.put, List.setIfInBounds_toArray, List.set_cons_zero, List.set_cons_succ]
        refine wpAnyL_takeD (fun _ => True) (i := 16) (v := (.int .i64 e)) (some 5) rfl rfl (by kernel_rfl) (by kernel_rfl) (by kernel_rfl) (fun _ _ _ h => h) (fun _ _ _ _ _ _ => trivial) (fun _ _ _ => Iff.rfl) trivial (Or.inl ⟨by rfl, fun w' hw' => by obtain ⟨l, _, hl⟩ := hw'; have k0 := Blk.cellAt hl 0 rfl; have k1 := Blk.cellAt hl 1 rfl; go_simp⟩) h1 ?_
        simp only [Act.put, List.setIfInBounds_toArray, List.set_cons_zero, List.set_cons_succ]
        refine wpAnyL_done (by decide +kernel) ?_ _
        have c0 : wq.cell? ⟨g, 0, none⟩ = some (.string s) := Blk.cellAt h1 0 rfl
        have c1 : wq.cell? ⟨g, 1, none⟩ = some (.int .i64 a) := Blk.cellAt h1 1 rfl
        have c2 : wq.cell? ⟨g, 2, none⟩ = some (.bool false) := Blk.cellAt h1 2 rfl
        have hf := Blk.frozen h1
        have r0 := hR2.cellAt 0 rfl
        have r1 := hR2.cellAt 1 rfl
        have r2 := hR2.cellAt 2 rfl
        have r3 := hR2.cellAt 3 rfl
        have rf := hR2.frozen
        replace hg1 := Lib.grownBy_below hg1 hbx2
        go_wp2
        refine bodyPost_ret (v := .agg #[.bool false, .int .i64 0, .string ⟨#[]⟩, .int .i64 0]) (by simp [results, Try.results65, go_sem, r0, r1, r2, r3]) rfl ?_
        rw [HV.out]
        refine ⟨rfl, ?_, ?_⟩
        · show Blk _ _ _ _
          refine Blk.other ?_ _ _ (by omega)
          refine Blk.other ?_ _ _ (by omega)
          refine Blk.other ?_ _ _ (by omega)
          refine Blk.other ?_ _ _ (by omega)
          exact Blk.set_ h1 2 _
        · refine grown_new ?_ hw0 _ _
          refine grown_new ?_ hw0 _ _
          refine grown_new ?_ hw0 _ _
          refine grown_new ?_ hw0 _ _
          exact Lib.grownBy_setB hg1 _ _
  · have HV := Lib.hid (rankT_bad (s := s) (a := a))
    clear hv
    go_enter Try.func65, Try.ntmps65
    go_upto_region 1 with fail
    generalize w.alloc (.cells #[.bool false, .int .i64 0, .string ⟨#[]⟩, .int .i64 0] 38) = wa at *
    generalize hg0 : w.heap.size = g0 at *
    have hw0 : w.heap.size ≤ g0 := Nat.le_of_eq hg0
    refine wp_region_L (fun _ w' => RdrAt w' 107 g s (a, true)) (by kernel_rfl) ?_
    have hbx : Below wa.heap.size wa wa.drew := Below.drew (Below.refl _ _)
    replace h1 : RdrAt wa.drew 107 g s (a, true) := h1
    generalize wa.drew = wx at *
    refine wpAnyL_takeD (fun _ => True) (i := 0) (v := (.pointer (some ⟨g, 0, none⟩))) (some 7) rfl rfl (by kernel_rfl) (by kernel_rfl) (by kernel_rfl) (fun _ _ _ h => h) (fun _ _ _ _ _ _ => trivial) (fun _ _ _ => Iff.rfl) trivial (Or.inl ⟨by rfl, fun w' hw' => by obtain ⟨l, _, hl⟩ := hw'; have k0 := Blk.cellAt hl 0 rfl; have k1 := Blk.cellAt hl 1 rfl; go_simp⟩) h1 ?_
    simp only [Act.put, List.setIfInBounds_toArray, List.set_cons_zero, List.set_cons_succ]
    refine wpAnyL_takeD (fun _ => True) (i := 1) (v := (.pointer (some ⟨g, 0, none⟩))) (some 8) rfl rfl (by kernel_rfl) (by kernel_rfl) (by kernel_rfl) (fun _ _ _ h => h) (fun _ _ _ _ _ _ => trivial) (fun _ _ _ => Iff.rfl) trivial (Or.inl ⟨by rfl, fun w' hw' => by obtain ⟨l, _, hl⟩ := hw'; have k0 := Blk.cellAt hl 0 rfl; have k1 := Blk.cellAt hl 1 rfl; go_simp⟩) h1 ?_
    simp only [Act.put, List.setIfInBounds_toArray, List.set_cons_zero, List.set_cons_succ]
    refine wpAnyL_takeD (fun _ => True) (i := 2) (v := (.pointer (some ⟨g, 0, none⟩))) (some 9) rfl rfl (by kernel_rfl) (by kernel_rfl) (by kernel_rfl) (fun _ _ _ h => h) (fun _ _ _ _ _ _ => trivial) (fun _ _ _ => Iff.rfl) trivial (Or.inl ⟨by rfl, fun w' hw' => by obtain ⟨l, _, hl⟩ := hw'; have k0 := Blk.cellAt hl 0 rfl; have k1 := Blk.cellAt hl 1 rfl; go_simp⟩) h1 ?_
    simp only [Act.put, List.setIfInBounds_toArray, List.set_cons_zero, List.set_cons_succ]
    refine wpAnyL_takeD (fun _ => True) (i := 3) (v := (.string s)) (some 10) rfl rfl (by kernel_rfl) (by kernel_rfl) (by kernel_rfl) (fun _ _ _ h => h) (fun _ _ _ _ _ _ => trivial) (fun _ _ _ => Iff.rfl) trivial (Or.inl ⟨by rfl, fun w' hw' => by obtain ⟨l, _, hl⟩ := hw'; have k0 := Blk.cellAt hl 0 rfl; have k1 := Blk.cellAt hl 1 rfl; go_simp⟩) h1 ?_
    simp only [Act.put, List.setIfInBounds_toArray, List.set_cons_zero, List.set_cons_succ]
    refine wpAnyL_takeD (fun _ => True) (i := 4) (v := (.pointer (some ⟨g, 0, none⟩))) (some 11) rfl rfl (by kernel_rfl) (by kernel_rfl) (by kernel_rfl) (fun _ _ _ h => h) (fun _ _ _ _ _ _ => trivial) (fun _ _ _ => Iff.rfl) trivial (Or.inl ⟨by rfl, fun w' hw' => by obtain ⟨l, _, hl⟩ := hw'; have k0 := Blk.cellAt hl 0 rfl; have k1 := Blk.cellAt hl 1 rfl; go_simp⟩) h1 ?_
    simp only [Act.put, List.setIfInBounds_toArray, List.set_cons_zero, List.set_cons_succ]
    refine wpAnyL_takeD (fun _ => True) (i := 5) (v := (.pointer (some ⟨g, 0, none⟩))) (some 12) rfl rfl (by kernel_rfl) (by kernel_rfl) (by kernel_rfl) (fun _ _ _ h => h) (fun _ _ _ _ _ _ => trivial) (fun _ _ _ => Iff.rfl) trivial (Or.inl ⟨by rfl, fun w' hw' => by obtain ⟨l, _, hl⟩ := hw'; have k0 := Blk.cellAt hl 0 rfl; have k1 := Blk.cellAt hl 1 rfl; go_simp⟩) h1 ?_
    simp only [Act.put, List.setIfInBounds_toArray, List.set_cons_zero, List.set_cons_succ]
    refine wpAnyL_takeD (fun _ => True) (i := 6) (v := (.pointer (some ⟨g, 1, none⟩))) (some 13) rfl rfl (by kernel_rfl) (by kernel_rfl) (by kernel_rfl) (fun _ _ _ h => h) (fun _ _ _ _ _ _ => trivial) (fun _ _ _ => Iff.rfl) trivial (Or.inl ⟨by rfl, fun w' hw' => by obtain ⟨l, _, hl⟩ := hw'; have k0 := Blk.cellAt hl 0 rfl; have k1 := Blk.cellAt hl 1 rfl; go_simp⟩) h1 ?_
    simp only [Act.put, List.setIfInBounds_toArray, List.set_cons_zero, List.set_cons_succ]
    refine wpAnyL_takeD (fun _ => True) (i := 7) (v := (.int .i64 a)) (some 14) rfl rfl (by kernel_rfl) (by kernel_rfl) (by kernel_rfl) (fun _ _ _ h => h) (fun _ _ _ _ _ _ => trivial) (fun _ _ _ => Iff.rfl) trivial (Or.inl ⟨by rfl, fun w' hw' => by obtain ⟨l, _, hl⟩ := hw'; have k0 := Blk.cellAt hl 0 rfl; have k1 := Blk.cellAt hl 1 rfl; go_simp⟩) h1 ?_
    simp only [Act.put, List.setIfInBounds_toArray, List.set_cons_zero, List.set_cons_succ]
    have hRx := hR
    refine wpAnyL_lst (rs := [8, 13]) (by decide +kernel) ⟨by simp, ?_⟩
    simp only [List.forall_mem_cons, List.not_mem_nil, false_implies, implies_true, and_true]
    refine ⟨?_, ?_⟩
    · refine wpOp_go (o := _) rfl (fun K hK => ?_)
      go_simp
      go_at_call 81
      refine (HG.out _).mono ?_; rintro _ wy ⟨rfl, hby⟩
      replace hbx := bt hbx hby
      replace h1 := Blk.call h1 hby
      refine hK _ _ ⟨h1, ?_⟩
      clear hK K hby
      refine wpAnyL_takeD (fun _ => True) (i := 9) (v := (.tuple #[.agg #[.bool xn, .int .i64 xi, .string xz], .int .i64 j, .int .i64 e])) (some 6) rfl rfl (by kernel_rfl) (by kernel_rfl) (by kernel_rfl) (fun _ _ _ h => h) (fun _ _ _ _ _ _ => trivial) (fun _ _ _ => Iff.rfl) trivial (Or.inl ⟨by rfl, fun w' hw' => by obtain ⟨l, _, hl⟩ := hw'; have k0 := Blk.cellAt hl 0 rfl; have k1 := Blk.cellAt hl 1 rfl; go_simp⟩) h1 ?_
      simp only [Act.put, List.setIfInBounds_toArray, List.set_cons_zero, List.set_cons_succ]
      refine wpAnyL_takeD (fun _ => True) (i := 10) (v := (.agg #[.bool xn, .int .i64 xi, .string xz])) (some 16) rfl rfl (by kernel_rfl) (by kernel_rfl) (by kernel_rfl) (fun _ _ _ h => h) (fun _ _ _ _ _ _ => trivial) (fun _ _ _ => Iff.rfl) trivial (Or.inl ⟨by rfl, fun w' hw' => by obtain ⟨l, _, hl⟩ := hw'; have k0 := Blk.cellAt hl 0 rfl; have k1 := Blk.cellAt hl 1 rfl; go_simp⟩) h1 ?_
      simp only [Act.put, List.setIfInBounds_toArray, List.set_cons_zero, List.set_cons_succ]
      refine wpAnyL_takeD (fun _ => True) (i := 11) (v := (.int .i64 j)) (some 17) rfl rfl (by kernel_rfl) (by kernel_rfl) (by kernel_rfl) (fun _ _ _ h => h) (fun _ _ _ _ _ _ => trivial) (fun _ _ _ => Iff.rfl) trivial (Or.inl ⟨by rfl, fun w' hw' => by obtain ⟨l, _, hl⟩ := hw'; have k0 := Blk.cellAt hl 0 rfl; have k1 := Blk.cellAt hl 1 rfl; go_simp⟩) h1 ?_
      simp only [Act.put, List.setIfInBounds_toArray, List.set_cons_zero, List.set_cons_succ]
      refine wpAnyL_takeD (fun _ => True) (i := 12) (v := (.int .i64 e)) (some 18) rfl rfl (by kernel_rfl) (by kernel_rfl) (by kernel_rfl) (fun _ _ _ h => h) (fun _ _ _ _ _ _ => trivial) (fun _ _ _ => Iff.rfl) trivial (Or.inl ⟨by rfl, fun w' hw' => by obtain ⟨l, _, hl⟩ := hw'; have k0 := Blk.cellAt hl 0 rfl; have k1 := Blk.cellAt hl 1 rfl; go_simp⟩) h1 ?_
      simp only [Act.put, List.setIfInBounds_toArray, List.set_cons_zero, List.set_cons_succ]
      refine wpAnyL_one (i := 13) (by decide +kernel) ?_
      refine wpOp_go (o := _) rfl (fun K hK => ?_)
      go_simp
      have hX := Blk.new' wy 36 #[.bool false, .int .i64 0, .string ⟨#[]⟩]
      have hgx : g < wy.heap.size := h1.lt
      have hgx0 : wa.heap.size ≤ wy.heap.size := hbx.size
      replace h1 := h1.alloc (.cells #[.bool false, .int .i64 0, .string ⟨#[]⟩] 36)
      replace hbx := hbx.alloc hbx.size (.cells #[.bool false, .int .i64 0, .string ⟨#[]⟩] 36)
      refine hK _ _ ⟨h1, ?_⟩
      clear hK K
      generalize wy.heap.size = gx at *
      generalize wy.alloc (.cells #[.bool false, .int .i64 0, .string ⟨#[]⟩] 36) = wz at *
      refine wpAnyL_one (i := 14) (by decide +kernel) ?_
      refine wpOp_go (o := _) rfl (fun K hK => ?_)
      have x0 := hX.cellAt 0 rfl
      have x1 := hX.cellAt 1 rfl
      have x2 := hX.cellAt 2 rfl
      have xf := hX.frozen
      go_simp
      have hX2 := set3 hX (.bool xn) (.int .i64 xi) (.string xz)
      have hR2 := other3 (hRx.below hbx (by omega)) gx (by omega) (.bool xn) (.int .i64 xi) (.string xz)
      have hbx2 := below3 hbx hgx0 (.bool xn) (.int .i64 xi) (.string xz)
      replace h1 := other3 h1 gx (by omega) (.bool xn) (.int .i64 xi) (.string xz)
      refine hK _ _ ⟨h1, ?_⟩
      clear hK K x0 x1 x2 xf hX hbx
      generalize ((wz.setCell ⟨gx, 0, none⟩ (.bool xn)).setCell ⟨gx, 1, none⟩ (.int .i64 xi)).setCell ⟨gx, 2, none⟩ (.string xz) = wq at *
      refine wpAnyL_takeD (fun _ => True) (i := 15) (v := (.int .i64 j)) (some 4) rfl rfl (by kernel_rfl) (by kernel_rfl) (by kernel_rfl) (fun _ _ _ h => h) (fun _ _ _ _ _ _ => trivial) (fun _ _ _ => Iff.rfl) trivial (Or.inl ⟨by rfl, fun w' hw' => by obtain ⟨l, _, hl⟩ := hw'; have k0 := Blk.cellAt hl 0 rfl; have k1 := Blk.cellAt hl 1 rfl; go_simp⟩) h1 ?_
      simp only [Act.put, List.setIfInBounds_toArray, List.set_cons_zero, List.set_cons_succ]
      refine wpAnyL_takeD (fun _ => True) (i := 16) (v := (.int .i64 e)) (some 5) rfl rfl (by kernel_rfl) (by kernel_rfl) (by kernel_rfl) (fun _ _ _ h => h) (fun _ _ _ _ _ _ => trivial) (fun _ _ _ => Iff.rfl) trivial (Or.inl ⟨by rfl, fun w' hw' => by obtain ⟨l, _, hl⟩ := hw'; have k0 := Blk.cellAt hl 0 rfl; have k1 := Blk.cellAt hl 1 rfl; go_simp⟩) h1 ?_
      simp only [Act.put, List.setIfInBounds_toArray, List.set_cons_zero, List.set_cons_succ]
      refine wpAnyL_done (by decide +kernel) ?_ _
      have c0 : wq.cell? ⟨g, 0, none⟩ = some (.string s) := Blk.cellAt h1 0 rfl
      have c1 : wq.cell? ⟨g, 1, none⟩ = some (.int .i64 a) := Blk.cellAt h1 1 rfl
      have c2 : wq.cell? ⟨g, 2, none⟩ = some (.bool true) := Blk.cellAt h1 2 rfl
      have hf := Blk.frozen h1
      have r0 := hR2.cellAt 0 rfl
      have r1 := hR2.cellAt 1 rfl
      have r2 := hR2.cellAt 2 rfl
      have r3 := hR2.cellAt 3 rfl
      have rf := hR2.frozen
      replace hg1 := Lib.grownBy_below hg1 hbx2
      go_wp2
      refine bodyPost_ret (v := .agg #[.bool false, .int .i64 0, .string ⟨#[]⟩, .int .i64 0]) (by simp [results, Try.results65, go_sem, r0, r1, r2, r3]) rfl ?_
      rw [HV.out]
      refine ⟨rfl, ?_, ?_⟩
      · show Blk _ _ _ _
        refine Blk.other ?_ _ _ (by omega)
        refine Blk.other ?_ _ _ (by omega)
        refine Blk.other ?_ _ _ (by omega)
        refine Blk.other ?_ _ _ (by omega)
        exact Blk.set_ h1 2 _
      · refine grown_new ?_ hw0 _ _
        refine grown_new ?_ hw0 _ _
        refine grown_new ?_ hw0 _ _
        refine grown_new ?_ hw0 _ _
        exact Lib.grownBy_setB hg1 _ _
    · refine wpOp_go (o := _) rfl (fun K hK => ?_)
      go_simp
      have hX := Blk.new' wx 36 #[.bool false, .int .i64 0, .string ⟨#[]⟩]
      have hgx : g < wx.heap.size := h1.lt
      have hgx0 : wa.heap.size ≤ wx.heap.size := hbx.size
      replace h1 := h1.alloc (.cells #[.bool false, .int .i64 0, .string ⟨#[]⟩] 36)
      replace hbx := hbx.alloc hbx.size (.cells #[.bool false, .int .i64 0, .string ⟨#[]⟩] 36)
      refine hK _ _ ⟨h1, ?_⟩
      clear hK K
      generalize wx.heap.size = gx at *
      generalize wx.alloc (.cells #[.bool false, .int .i64 0, .string ⟨#[]⟩] 36) = wz at *
      refine wpAnyL_one (i := 8) (by decide +kernel) ?_
      refine wpOp_go (o := _) rfl (fun K hK => ?_)
      go_simp
      go_at_call 81
      refine (HG.out _).mono ?_; rintro _ wy ⟨rfl, hby⟩
      replace hbx := bt hbx hby
      replace hX := hX.call hby
      replace h1 := Blk.call h1 hby
      refine hK _ _ ⟨h1, ?_⟩
      clear hK K hby
      refine wpAnyL_takeD (fun _ => True) (i := 9) (v := (.tuple #[.agg #[.bool xn, .int .i64 xi, .string xz], .int .i64 j, .int .i64 e])) (some 6) rfl rfl (by kernel_rfl) (by kernel_rfl) (by kernel_rfl) (fun _ _ _ h => h) (fun _ _ _ _ _ _ => trivial) (fun _ _ _ => Iff.rfl) trivial (Or.inl ⟨by rfl, fun w' hw' => by obtain ⟨l, _, hl⟩ := hw'; have k0 := Blk.cellAt hl 0 rfl; have k1 := Blk.cellAt hl 1 rfl; go_simp⟩) h1 ?_
      simp only [Act.put, List.setIfInBounds_toArray, List.set_cons_zero, List.set_cons_succ]
      refine wpAnyL_takeD (fun _ => True) (i := 10) (v := (.agg #[.bool xn, .int .i64 xi, .string xz])) (some 16) rfl rfl (by kernel_rfl) (by kernel_rfl) (by kernel_rfl) (fun _ _ _ h => h) (fun _ _ _ _ _ _ => trivial) (fun _ _ _ => Iff.rfl) trivial (Or.inl ⟨by rfl, fun w' hw' => by obtain ⟨l, _, hl⟩ := hw'; have k0 := Blk.cellAt hl 0 rfl; have k1 := Blk.cellAt hl 1 rfl; go_simp⟩) h1 ?_
      simp only [Act.put, List.setIfInBounds_toArray, List.set_cons_zero, List.set_cons_succ]
      refine wpAnyL_takeD (fun _ => True) (i := 11) (v := (.int .i64 j)) (some 17) rfl rfl (by kernel_rfl) (by kernel_rfl) (by kernel_rfl) (fun _ _ _ h => h) (fun _ _ _ _ _ _ => trivial) (fun _ _ _ => Iff.rfl) trivial (Or.inl ⟨by rfl, fun w' hw' => by obtain ⟨l, _, hl⟩ := hw'; have k0 := Blk.cellAt hl 0 rfl; have k1 := Blk.cellAt hl 1 rfl; go_simp⟩) h1 ?_
      simp only [Act.put, List.setIfInBounds_toArray, List.set_cons_zero, List.set_cons_succ]
      refine wpAnyL_takeD (fun _ => True) (i := 12) (v := (.int .i64 e)) (some 18) rfl rfl (by kernel_rfl) (by kernel_rfl) (by kernel_rfl) (fun _ _ _ h => h) (fun _ _ _ _ _ _ => trivial) (fun _ _ _ => Iff.rfl) trivial (Or.inl ⟨by rfl, fun w' hw' => by obtain ⟨l, _, hl⟩ := hw'; have k0 := Blk.cellAt hl 0 rfl; have k1 := Blk.cellAt hl 1 rfl; go_simp⟩) h1 ?_
      simp only [Act.put, List.setIfInBounds_toArray, List.set_cons_zero, List.set_cons_succ]
      refine wpAnyL_one (i := 14) (by decide +kernel) ?_
      refine wpOp_go (o := _) rfl (fun K hK => ?_)
      have x0 := hX.cellAt 0 rfl
      have x1 := hX.cellAt 1 rfl
      have x2 := hX.cellAt 2 rfl
      have xf := hX.frozen
      go_simp
      have hX2 := set3 hX (.bool xn) (.int .i64 xi) (.string xz)
      have hR2 := other3 (hRx.below hbx (by omega)) gx (by omega) (.bool xn) (.int .i64 xi) (.string xz)
      have hbx2 := below3 hbx hgx0 (.bool xn) (.int .i64 xi) (.string xz)
      replace h1 := other3 h1 gx (by omega) (.bool xn) (.int .i64 xi) (.string xz)
      refine hK _ _ ⟨h1, ?_⟩
      clear hK K x0 x1 x2 xf hX hbx
      generalize ((wy.setCell ⟨gx, 0, none⟩ (.bool xn)).setCell ⟨gx, 1, none⟩ (.int .i64 xi)).setCell ⟨gx, 2, none⟩ (.string xz) = wq at *
      refine wpAnyL_takeD (fun _ => True) (i := 15) (v := (.int .i64 j)) (some 4) rfl rfl (by kernel_rfl) (by kernel_rfl) (by kernel_rfl) (fun _ _ _ h => h) (fun _ _ _ _ _ _ => trivial) (fun _ _ _ => Iff.rfl) trivial (Or.inl ⟨by rfl, fun w' hw' => by obtain ⟨l, _, hl⟩ := hw'; have k0 := Blk.cellAt hl 0 rfl; have k1 := Blk.cellAt hl 1 rfl; go_simp⟩) h1 ?_
      simp only [Act.put, List.setIfInBounds_toArray, List.set_cons_zero, List.set_cons_succ]
      refine wpAnyL_takeD (fun _ => True) (i := 16) (v := (.int .i64 e)) (some 5) rfl rfl (by kernel_rfl) (by kernel_rfl) (by kernel_rfl) (fun _ _ _ h => h) (fun _ _ _ _ _ _ => trivial) (fun _ _ _ => Iff.rfl) trivial (Or.inl ⟨by rfl, fun w' hw' => by obtain ⟨l, _, hl⟩ := hw'; have k0 := Blk.cellAt hl 0 rfl; have k1 := Blk.cellAt hl 1 rfl; go_simp⟩) h1 ?_
      simp only [Act.put, List.setIfInBounds_toArray, List.set_cons_zero, List.set_cons_succ]
      refine wpAnyL_done (by decide +kernel) ?_ _
      have c0 : wq.cell? ⟨g, 0, none⟩ = some (.string s) := Blk.cellAt h1 0 rfl
      have c1 : wq.cell? ⟨g, 1, none⟩ = some (.int .i64 a) := Blk.cellAt h1 1 rfl
      have c2 : wq.cell? ⟨g, 2, none⟩ = some (.bool true) := Blk.cellAt h1 2 rfl
      have hf := Blk.frozen h1
      have r0 := hR2.cellAt 0 rfl
      have r1 := hR2.cellAt 1 rfl
      have r2 := hR2.cellAt 2 rfl
      have r3 := hR2.cellAt 3 rfl
      have rf := hR2.frozen
      replace hg1 := Lib.grownBy_below hg1 hbx2
      go_wp2
      refine bodyPost_ret (v := .agg #[.bool false, .int .i64 0, .string ⟨#[]⟩, .int .i64 0]) (by simp [results, Try.results65, go_sem, r0, r1, r2, r3]) rfl ?_
      rw [HV.out]
      refine ⟨rfl, ?_, ?_⟩
      · show Blk _ _ _ _
        refine Blk.other ?_ _ _ (by omega)
        refine Blk.other ?_ _ _ (by omega)
        refine Blk.other ?_ _ _ (by omega)
        refine Blk.other ?_ _ _ (by omega)
        exact Blk.set_ h1 2 _
      · refine grown_new ?_ hw0 _ _
        refine grown_new ?_ hw0 _ _
        refine grown_new ?_ hw0 _ _
        refine grown_new ?_ hw0 _ _
        exact Lib.grownBy_setB hg1 _ _

end Go.Proofs.Ytgacjpkgpegcdaa
