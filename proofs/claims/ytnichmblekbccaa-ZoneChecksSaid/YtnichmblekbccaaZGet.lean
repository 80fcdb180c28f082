/-
  What is read of the bytes of a zone: zone.Get and the reference's GetZone.
-/
import Derived.Test.YtnichmblekbccaaVGet
import Derived.Test.YtnichmblekbccaaZPut
namespace Go.Proofs.Ytnichmblekbccaa
open Go.RowKit

def zeroZn : Zn := ⟨0, 0, zeroVl0, zeroVl0⟩
/-- What is read at an index: the zone, the index behind it, the error. -/
def zoneG (s : ByteArray) (i : Int) : Zn × Int × Int :=
  match getL s.data.toList i with
  | (a, j, e) => if e ≠ 0 then (zeroZn, 0, e) else if 4096 < a then (zeroZn, 0, 2) else
    match getL s.data.toList j with
    | (b, k, e) => if e ≠ 0 then (zeroZn, 0, e) else if 4096 < b then (zeroZn, 0, 2) else
      match valG s k with
      | (u, l, e) => if e ≠ 0 then (zeroZn, 0, e) else
        match valG s l with
        | (v, m, e) => if e ≠ 0 then (zeroZn, 0, e) else (⟨a, b, u, v⟩, m, 0)
section
variable {s : ByteArray} {i j k l m e : Int} {a b : Nat} {u v : Vl}
theorem zG_e1 (h : getL s.data.toList i = (0, 0, e)) (he : e ≠ 0) : zoneG s i = (zeroZn, 0, e) := by
  unfold zoneG; rw [h]; dsimp only; rw [if_pos he]
theorem zG_f1 (h : getL s.data.toList i = (a, j, 0)) (ha : 4096 < a) : zoneG s i = (zeroZn, 0, 2) := by
  unfold zoneG; rw [h]; dsimp only; rw [if_neg (by simp), if_pos ha]
theorem zG_e2 (h : getL s.data.toList i = (a, j, 0)) (ha : ¬ 4096 < a) (h2 : getL s.data.toList j = (0, 0, e)) (he : e ≠ 0) : zoneG s i = (zeroZn, 0, e) := by
  unfold zoneG; rw [h]; dsimp only; rw [if_neg (by simp), if_neg ha, h2]; dsimp only; rw [if_pos he]
theorem zG_f2 (h : getL s.data.toList i = (a, j, 0)) (ha : ¬ 4096 < a) (h2 : getL s.data.toList j = (b, k, 0)) (hb : 4096 < b) : zoneG s i = (zeroZn, 0, 2) := by
  unfold zoneG; rw [h]; dsimp only; rw [if_neg (by simp), if_neg ha, h2]; dsimp only; rw [if_neg (by simp), if_pos hb]
theorem zG_e3 (h : getL s.data.toList i = (a, j, 0)) (ha : ¬ 4096 < a) (h2 : getL s.data.toList j = (b, k, 0)) (hb : ¬ 4096 < b) (h3 : valG s k = (u, l, e)) (he : e ≠ 0) : zoneG s i = (zeroZn, 0, e) := by
  unfold zoneG; rw [h]; dsimp only; rw [if_neg (by simp), if_neg ha, h2]; dsimp only; rw [if_neg (by simp), if_neg hb, h3]; dsimp only; rw [if_pos he]
theorem zG_e4 (h : getL s.data.toList i = (a, j, 0)) (ha : ¬ 4096 < a) (h2 : getL s.data.toList j = (b, k, 0)) (hb : ¬ 4096 < b) (h3 : valG s k = (u, l, 0)) (h4 : valG s l = (v, m, e)) (he : e ≠ 0) : zoneG s i = (zeroZn, 0, e) := by
  unfold zoneG; rw [h]; dsimp only; rw [if_neg (by simp), if_neg ha, h2]; dsimp only; rw [if_neg (by simp), if_neg hb, h3]; dsimp only; rw [if_neg (by simp), h4]; dsimp only; rw [if_pos he]
theorem zG_ok (h : getL s.data.toList i = (a, j, 0)) (ha : ¬ 4096 < a) (h2 : getL s.data.toList j = (b, k, 0)) (hb : ¬ 4096 < b) (h3 : valG s k = (u, l, 0)) (h4 : valG s l = (v, m, 0)) : zoneG s i = (⟨a, b, u, v⟩, m, 0) := by
  unfold zoneG; rw [h]; dsimp only; rw [if_neg (by simp), if_neg ha, h2]; dsimp only; rw [if_neg (by simp), if_neg hb, h3]; dsimp only; rw [if_neg (by simp), h4]; dsimp only; rw [if_neg (by simp)]
end
abbrev zgetV (r : Zn × Int × Int) : Value := .tuple #[Zv r.1, .int .i64 r.2.1, .int .i64 r.2.2]
/-- Where the loop over the two numbers stands. -/
def ZLoop (s : ByteArray) (i : Int) (k : Nat) (p : Int) (xs : List Value) : Prop :=
  (k = 0 ∧ p = i ∧ xs = [.int .i64 0, .int .i64 0]) ∨
  (∃ a : Nat, k = 1 ∧ getL s.data.toList i = (a, p, 0) ∧ a ≤ 4096 ∧ xs = [.int .i64 a, .int .i64 0]) ∨
  (∃ (a b : Nat) (j : Int), k = 2 ∧ getL s.data.toList i = (a, j, 0) ∧ a ≤ 4096 ∧ getL s.data.toList j = (b, p, 0) ∧ b ≤ 4096 ∧ xs = [.int .i64 a, .int .i64 b])
theorem get_two (s : List UInt8) (i : Int) : (∃ (v : Nat) (j : Nat), getL s i = (v, (j : Int), 0) ∧ U64 v) ∨ (∃ e : Int, e ≠ 0 ∧ getL s i = (0, 0, e)) := by
  rcases getL_cases s i with ⟨v, a, m, _, h, hU, _⟩ | h
  · exact .inl ⟨v, a + m, h, hU⟩
  · exact .inr h
theorem wrap_small {v : Nat} (h : v ≤ 4096) : IntKind.i64.wrap (v : Int) = (v : Int) := IntWalk.i64_in _ (by omega)

theorem below_alloc2 {B : Nat} {a w : World} (h : Below B a w) (o : Obj) (hB : B ≤ w.heap.size := by first | exact Nat.le_refl _ | omega) : Below B a (w.alloc o) := h.alloc hB o
set_option maxRecDepth 100000 in
set_option maxHeartbeats 1500000 in
theorem zget_any (s : ByteArray) (i : Int) (w : World) (hsz : s.size ≤ 1000000000000000) : Calls Try.prog 22 #[.string s, .int .i64 i] w fun e w' => e = .returned (zgetV (zoneG s i)) ∧ Below w.heap.size w w' := by
  have hR := (Blk.new' w 25 #[.int .i64 0, .int .i64 0, .bool false, .int .i64 0, .string ⟨#[]⟩, .bool false, .int .i64 0, .string ⟨#[]⟩]).alloc (.cells #[.int .i64 0, .int .i64 0] 61)
  have hN := Blk.new' (w.alloc (.cells #[.int .i64 0, .int .i64 0, .bool false, .int .i64 0, .string ⟨#[]⟩, .bool false, .int .i64 0, .string ⟨#[]⟩] 25)) 61 #[.int .i64 0, .int .i64 0]
  have s1 : (w.alloc (.cells #[.int .i64 0, .int .i64 0, .bool false, .int .i64 0, .string ⟨#[]⟩, .bool false, .int .i64 0, .string ⟨#[]⟩] 25)).heap.size = w.heap.size + 1 := by simp
  rw [s1] at hN
  clear s1
  have hbel : Below w.heap.size w ((w.alloc (.cells #[.int .i64 0, .int .i64 0, .bool false, .int .i64 0, .string ⟨#[]⟩, .bool false, .int .i64 0, .string ⟨#[]⟩] 25)).alloc (.cells #[.int .i64 0, .int .i64 0] 61)) := ((Below.refl _ _).alloc (Nat.le_refl _) _).alloc (by simp) _
  go_enter Try.func22, Try.ntmps22
  go_upto_region 2 with fail
  generalize (w.alloc (.cells #[.int .i64 0, .int .i64 0, .bool false, .int .i64 0, .string ⟨#[]⟩, .bool false, .int .i64 0, .string ⟨#[]⟩] 25)).alloc (.cells #[.int .i64 0, .int .i64 0] 61) = wa at *
  go_wp2_with fail
  go_loopw [15, 1] (fun b pv wr => ∃ (k : Nat) (p : Int) (xs : List Value), b = .int .i64 (k : Int) ∧ pv = .int .i64 p ∧ k ≤ 2 ∧ Hid (ZLoop s i k p xs) ∧ Blk wr (w.heap.size + 1) 61 xs ∧ Blk wr w.heap.size 25 [.int .i64 0, .int .i64 0, .bool false, .int .i64 0, .string ⟨#[]⟩, .bool false, .int .i64 0, .string ⟨#[]⟩] ∧ Below w.heap.size w wr) (fun b _ _ => 2 - (intOf b).toNat)
  case atStart => exact ⟨0, i, _, rfl, rfl, by omega, .inl ⟨rfl, rfl, rfl⟩, hN, hR, hbel⟩
  case round =>
    clear hN hR hbel
    obtain ⟨k, p, xs, rfl, rfl, hk, HL, hN, hR, hb⟩ := hrel
    rcases HL.out with ⟨rfl, rfl, rfl⟩ | ⟨a, rfl, hr, ha, rfl⟩ | ⟨a, b, j, rfl, hr, ha, hr2, hb2, rfl⟩
    · clear HL
      rcases get_two s.data.toList p with ⟨v, j, hr, hU⟩ | ⟨e, he, hr⟩
      · have HR := Lib.hid hr
        clear hr
        by_cases h : 4096 < v
        · have HV := Lib.hid (zG_f1 HR.out h)
          go_wp2_with fail
          refine (get_any s p _ hsz).mono ?_; rintro _ w1 ⟨rfl, rfl⟩
          rw [HR.out]
          have rf := fun j => hR.frozen j
          have r0 := hR.cellAt 0 rfl
          have r1 := hR.cellAt 1 rfl
          have r2 := hR.cellAt 2 rfl
          have r3 := hR.cellAt 3 rfl
          have r4 := hR.cellAt 4 rfl
          have r5 := hR.cellAt 5 rfl
          have r6 := hR.cellAt 6 rfl
          have r7 := hR.cellAt 7 rfl
          go_wp2
          exact bodyPost_ret (v := .tuple #[.agg #[.int .i64 0, .int .i64 0, .bool false, .int .i64 0, .string ⟨#[]⟩, .bool false, .int .i64 0, .string ⟨#[]⟩], .int .i64 (0), .int .i64 (2)]) (by simp [results, Try.results22, go_sem, r0, r1, r2, r3, r4, r5, r6, r7]) rfl ⟨by first | (rw [HV.out]; done) | (rw [HV.out]; rfl), by repeat' (first | refine below_set1 ?_ (by omega) | refine Below.drew ?_ | exact hb)⟩
        · have hws := wrap_small (v := v) (by omega)
          have nf := fun j => hN.frozen j
          have n0 := hN.cellAt 0 rfl
          have n1 := hN.cellAt 1 rfl
          go_wp2_with fail
          refine (get_any s p _ hsz).mono ?_; rintro _ w1 ⟨rfl, rfl⟩
          rw [HR.out]
          go_wp2
          go_roundw
          case rel => exact ⟨1, (j : Int), _, rfl, rfl, by omega, .inr (.inl ⟨v, rfl, HR.out, by omega, rfl⟩), hN.set_ 0 _, hR.grownB (grown_set _ _ _ _) (by omega), below_set1 hb (by omega)⟩
          case measure => simp [intOf]
      · have hq9 : (e == 0) = false := by simpa using he
        have hq8 : (e != 0) = true := by simpa using he
        have HV := Lib.hid (zG_e1 hr he)
        have HR := Lib.hid hr
        clear hr he
        go_wp2_with fail
        refine (get_any s p _ hsz).mono ?_; rintro _ w1 ⟨rfl, rfl⟩
        rw [HR.out]
        have rf := fun j => hR.frozen j
        have r0 := hR.cellAt 0 rfl
        have r1 := hR.cellAt 1 rfl
        have r2 := hR.cellAt 2 rfl
        have r3 := hR.cellAt 3 rfl
        have r4 := hR.cellAt 4 rfl
        have r5 := hR.cellAt 5 rfl
        have r6 := hR.cellAt 6 rfl
        have r7 := hR.cellAt 7 rfl
        go_wp2
        exact bodyPost_ret (v := .tuple #[.agg #[.int .i64 0, .int .i64 0, .bool false, .int .i64 0, .string ⟨#[]⟩, .bool false, .int .i64 0, .string ⟨#[]⟩], .int .i64 (0), .int .i64 (e)]) (by simp [results, Try.results22, go_sem, r0, r1, r2, r3, r4, r5, r6, r7]) rfl ⟨by first | (rw [HV.out]; done) | (rw [HV.out]; rfl), by repeat' (first | refine below_set1 ?_ (by omega) | refine Below.drew ?_ | exact hb)⟩
    · clear HL
      have HR := Lib.hid hr
      clear hr
      rcases get_two s.data.toList p with ⟨v, j, hr, hU⟩ | ⟨e, he, hr⟩
      · have HR2 := Lib.hid hr
        clear hr
        by_cases h : 4096 < v
        · have HV := Lib.hid (zG_f2 HR.out (by omega) HR2.out h)
          go_wp2_with fail
          refine (get_any s p _ hsz).mono ?_; rintro _ w1 ⟨rfl, rfl⟩
          rw [HR2.out]
          have rf := fun j => hR.frozen j
          have r0 := hR.cellAt 0 rfl
          have r1 := hR.cellAt 1 rfl
          have r2 := hR.cellAt 2 rfl
          have r3 := hR.cellAt 3 rfl
          have r4 := hR.cellAt 4 rfl
          have r5 := hR.cellAt 5 rfl
          have r6 := hR.cellAt 6 rfl
          have r7 := hR.cellAt 7 rfl
          go_wp2
          exact bodyPost_ret (v := .tuple #[.agg #[.int .i64 0, .int .i64 0, .bool false, .int .i64 0, .string ⟨#[]⟩, .bool false, .int .i64 0, .string ⟨#[]⟩], .int .i64 (0), .int .i64 (2)]) (by simp [results, Try.results22, go_sem, r0, r1, r2, r3, r4, r5, r6, r7]) rfl ⟨by first | (rw [HV.out]; done) | (rw [HV.out]; rfl), by repeat' (first | refine below_set1 ?_ (by omega) | refine Below.drew ?_ | exact hb)⟩
        · have hws := wrap_small (v := v) (by omega)
          have nf := fun j => hN.frozen j
          have n0 := hN.cellAt 0 rfl
          have n1 := hN.cellAt 1 rfl
          go_wp2_with fail
          refine (get_any s p _ hsz).mono ?_; rintro _ w1 ⟨rfl, rfl⟩
          rw [HR2.out]
          go_wp2
          go_roundw
          case rel => exact ⟨2, (j : Int), _, rfl, rfl, by omega, .inr (.inr ⟨a, v, p, rfl, HR.out, ha, HR2.out, by omega, rfl⟩), hN.set_ 1 _, hR.grownB (grown_set _ _ _ _) (by omega), below_set1 hb (by omega)⟩
          case measure => simp [intOf]
      · have hq9 : (e == 0) = false := by simpa using he
        have hq8 : (e != 0) = true := by simpa using he
        have HV := Lib.hid (zG_e2 HR.out (by omega) hr he)
        have HR2 := Lib.hid hr
        clear hr he
        go_wp2_with fail
        refine (get_any s p _ hsz).mono ?_; rintro _ w1 ⟨rfl, rfl⟩
        rw [HR2.out]
        have rf := fun j => hR.frozen j
        have r0 := hR.cellAt 0 rfl
        have r1 := hR.cellAt 1 rfl
        have r2 := hR.cellAt 2 rfl
        have r3 := hR.cellAt 3 rfl
        have r4 := hR.cellAt 4 rfl
        have r5 := hR.cellAt 5 rfl
        have r6 := hR.cellAt 6 rfl
        have r7 := hR.cellAt 7 rfl
        go_wp2
        exact bodyPost_ret (v := .tuple #[.agg #[.int .i64 0, .int .i64 0, .bool false, .int .i64 0, .string ⟨#[]⟩, .bool false, .int .i64 0, .string ⟨#[]⟩], .int .i64 (0), .int .i64 (e)]) (by simp [results, Try.results22, go_sem, r0, r1, r2, r3, r4, r5, r6, r7]) rfl ⟨by first | (rw [HV.out]; done) | (rw [HV.out]; rfl), by repeat' (first | refine below_set1 ?_ (by omega) | refine Below.drew ?_ | exact hb)⟩
    · clear HL
      have ha' : ¬ 4096 < a := by omega
      have hb' : ¬ 4096 < b := by omega
      obtain ⟨⟨un, ui, uz⟩, l, e, hu⟩ : ∃ (u : Vl) (l e : Int), valG s p = (u, l, e) := ⟨_, _, _, rfl⟩
      have HU := Lib.hid hu
      have HR := Lib.hid hr
      have HR2 := Lib.hid hr2
      clear hu hr hr2
      by_cases he : e = 0
      · subst he
        obtain ⟨⟨vn, vi, vz⟩, m, e, hv⟩ : ∃ (u : Vl) (l2 e2 : Int), valG s l = (u, l2, e2) := ⟨_, _, _, rfl⟩
        have HV2 := Lib.hid hv
        clear hv
        by_cases he : e = 0
        · subst he
          have HV := Lib.hid (zG_ok HR.out ha' HR2.out hb' HU.out HV2.out)
          clear ha' hb' ha hb2
          have hlt := hR.lt
          go_wp2_with fail
          refine (vget_any s p _ hsz).mono ?_; rintro _ w1 ⟨rfl, hb1⟩
          rw [HU.out]
          dsimp only [Vv]
          have hN1 := (hN.call hb1).alloc (.cells #[.bool un, .int .i64 ui, .string uz] 23)
          have hR1 := (hR.call hb1).alloc (.cells #[.bool un, .int .i64 ui, .string uz] 23)
          have hU1 := Blk.new' w1 23 #[.bool un, .int .i64 ui, .string uz]
          have hbb := below_alloc2 (bt hb hb1) (.cells #[.bool un, .int .i64 ui, .string uz] 23) (by have := hb1.size; omega)
          go_upto_region 15 with fail
          generalize w1.alloc (.cells #[.bool un, .int .i64 ui, .string uz] 23) = w2 at *
          generalize w1.heap.size = gu at *
          have hlt2 := hR1.lt
          go_wp2_with fail
          refine (vget_any s l _ hsz).mono ?_; rintro _ w3 ⟨rfl, hb3⟩
          rw [HV2.out]
          dsimp only [Vv]
          have hN3 := (hN1.call hb3).alloc (.cells #[.bool vn, .int .i64 vi, .string vz] 23)
          have hR3 := (hR1.call hb3).alloc (.cells #[.bool vn, .int .i64 vi, .string vz] 23)
          have hU3 := (hU1.call hb3).alloc (.cells #[.bool vn, .int .i64 vi, .string vz] 23)
          have hV3 := Blk.new' w3 23 #[.bool vn, .int .i64 vi, .string vz]
          have hbf := below_alloc2 (bt hbb hb3) (.cells #[.bool vn, .int .i64 vi, .string vz] 23) (by have := hb3.size; omega)
          go_upto_region 18 with fail
          generalize w3.alloc (.cells #[.bool vn, .int .i64 vi, .string vz] 23) = w4 at *
          generalize w3.heap.size = gv at *
          have rf := fun j => hR3.frozen j
          have r0 := hR3.cellAt 0 rfl
          have r1 := hR3.cellAt 1 rfl
          have r2 := hR3.cellAt 2 rfl
          have r3 := hR3.cellAt 3 rfl
          have r4 := hR3.cellAt 4 rfl
          have r5 := hR3.cellAt 5 rfl
          have r6 := hR3.cellAt 6 rfl
          have r7 := hR3.cellAt 7 rfl
          have n0 := hN3.cellAt 0 rfl
          have n1 := hN3.cellAt 1 rfl
          have u0 := hU3.cellAt 0 rfl
          have u1 := hU3.cellAt 1 rfl
          have u2 := hU3.cellAt 2 rfl
          have v0 := hV3.cellAt 0 rfl
          have v1 := hV3.cellAt 1 rfl
          have v2 := hV3.cellAt 2 rfl
          go_wp2
          exact bodyPost_ret (v := .tuple #[.agg #[.int .i64 a, .int .i64 b, .bool un, .int .i64 ui, .string uz, .bool vn, .int .i64 vi, .string vz], .int .i64 (m), .int .i64 (0)]) (by simp [results, Try.results22, go_sem, r0, r1, r2, r3, r4, r5, r6, r7]) rfl ⟨by first | (rw [HV.out]; done) | (rw [HV.out]; rfl), by repeat' (first | refine below_set1 ?_ (by omega) | refine Below.drew ?_ | exact hbf)⟩
        · have hq9 : (e == 0) = false := by simpa using he
          have hq8 : (e != 0) = true := by simpa using he
          have HV := Lib.hid (zG_e4 HR.out ha' HR2.out hb' HU.out HV2.out he)
          clear ha' hb' ha hb2 he
          have hlt := hR.lt
          go_wp2_with fail
          refine (vget_any s p _ hsz).mono ?_; rintro _ w1 ⟨rfl, hb1⟩
          rw [HU.out]
          dsimp only [Vv]
          have hR1 := (hR.call hb1).alloc (.cells #[.bool un, .int .i64 ui, .string uz] 23)
          have hbb := below_alloc2 (bt hb hb1) (.cells #[.bool un, .int .i64 ui, .string uz] 23) (by have := hb1.size; omega)
          go_upto_region 15 with fail
          generalize w1.alloc (.cells #[.bool un, .int .i64 ui, .string uz] 23) = w2 at *
          generalize w1.heap.size = gu at *
          have hlt2 := hR1.lt
          go_wp2_with fail
          refine (vget_any s l _ hsz).mono ?_; rintro _ w3 ⟨rfl, hb3⟩
          rw [HV2.out]
          dsimp only [Vv]
          have hR3 := (hR1.call hb3).alloc (.cells #[.bool vn, .int .i64 vi, .string vz] 23)
          have hbf := below_alloc2 (bt hbb hb3) (.cells #[.bool vn, .int .i64 vi, .string vz] 23) (by have := hb3.size; omega)
          have rf := fun j => hR3.frozen j
          have r0 := hR3.cellAt 0 rfl
          have r1 := hR3.cellAt 1 rfl
          have r2 := hR3.cellAt 2 rfl
          have r3 := hR3.cellAt 3 rfl
          have r4 := hR3.cellAt 4 rfl
          have r5 := hR3.cellAt 5 rfl
          have r6 := hR3.cellAt 6 rfl
          have r7 := hR3.cellAt 7 rfl
          go_wp2
          exact bodyPost_ret (v := .tuple #[.agg #[.int .i64 0, .int .i64 0, .bool false, .int .i64 0, .string ⟨#[]⟩, .bool false, .int .i64 0, .string ⟨#[]⟩], .int .i64 (0), .int .i64 (e)]) (by simp [results, Try.results22, go_sem, r0, r1, r2, r3, r4, r5, r6, r7]) rfl ⟨by first | (rw [HV.out]; done) | (rw [HV.out]; rfl), by repeat' (first | refine below_set1 ?_ (by omega) | refine Below.drew ?_ | exact hbf)⟩
      · have hq9 : (e == 0) = false := by simpa using he
        have hq8 : (e != 0) = true := by simpa using he
        have HV := Lib.hid (zG_e3 HR.out ha' HR2.out hb' HU.out he)
        clear ha' hb' ha hb2 he
        have hlt := hR.lt
        go_wp2_with fail
        refine (vget_any s p _ hsz).mono ?_; rintro _ w1 ⟨rfl, hb1⟩
        rw [HU.out]
        dsimp only [Vv]
        have hR1 := (hR.call hb1).alloc (.cells #[.bool un, .int .i64 ui, .string uz] 23)
        have hbb := below_alloc2 (bt hb hb1) (.cells #[.bool un, .int .i64 ui, .string uz] 23) (by have := hb1.size; omega)
        have rf := fun j => hR1.frozen j
        have r0 := hR1.cellAt 0 rfl
        have r1 := hR1.cellAt 1 rfl
        have r2 := hR1.cellAt 2 rfl
        have r3 := hR1.cellAt 3 rfl
        have r4 := hR1.cellAt 4 rfl
        have r5 := hR1.cellAt 5 rfl
        have r6 := hR1.cellAt 6 rfl
        have r7 := hR1.cellAt 7 rfl
        go_wp2
        exact bodyPost_ret (v := .tuple #[.agg #[.int .i64 0, .int .i64 0, .bool false, .int .i64 0, .string ⟨#[]⟩, .bool false, .int .i64 0, .string ⟨#[]⟩], .int .i64 (0), .int .i64 (e)]) (by simp [results, Try.results22, go_sem, r0, r1, r2, r3, r4, r5, r6, r7]) rfl ⟨by first | (rw [HV.out]; done) | (rw [HV.out]; rfl), by repeat' (first | refine below_set1 ?_ (by omega) | refine Below.drew ?_ | exact hbb)⟩

end Go.Proofs.Ytnichmblekbccaa
