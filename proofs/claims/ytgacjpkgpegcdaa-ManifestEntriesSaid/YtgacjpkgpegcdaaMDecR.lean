/-
  The reference's payload.
-/
import Derived.Test.YtgacjpkgpegcdaaMDec
import Derived.Test.YtgacjpkgpegcdaaMDecQ
import Derived.Test.YtgacjpkgpegcdaaMChk3
import Derived.Deep.CutBlock
namespace Go.Proofs.Ytgacjpkgpegcdaa
open Go.RowKit

/-- What the reference's decoder returns. -/
def PayP (w : World) (r : Rc × Bool) (e : Ending) (w' : World) : Prop :=
  ∃ v v2, e = .returned (.tuple #[.agg #[.int .i64 r.1.kind, .int .i64 r.1.version, .int .i64 r.1.nextSeq, .int .i64 r.1.nextId, v, v2], .bool r.2]) ∧ w'.ownsRow w.heap.size 40 12 v r.1.add.length (r.1.add.flatMap entC) ∧ w'.ownsRow w.heap.size 3 1 v2 r.1.rem.length (r.1.rem.map Iv) ∧ Below w.heap.size w w'
theorem payM_none {s : ByteArray} (h : s.size = 0) : payM s = (zeroRc, false) := if_pos h
set_option maxRecDepth 100000 in
set_option maxHeartbeats 1000000 in
theorem payload_none (s : ByteArray) (w : World) (h : s.size = 0) : Calls Try.prog 55 #[.string s] w (PayP w (payM s)) := by
  have hR := Blk.new w 31 zeroRcC
  have hb : Below w.heap.size w (w.alloc (.cells zeroRcC.toArray 31)) := (Below.refl _ _).alloc (Nat.le_refl _) _
  have hd : decide ((s.size : Int) < 1) = true := decide_eq_true (by omega)
  have hd2 : decide (s.size < 1) = true := decide_eq_true (by omega)
  rw [payM_none h]
  clear h
  go_enter Try.func55, Try.ntmps55
  go_upto_region 1 with fail
  change Below w.heap.size w (w.alloc (.cells #[.int .i64 0, .int .i64 0, .int .i64 0, .int .i64 0, .slice none 0 0, .slice none 0 0] 31)) at hb
  change Blk (w.alloc (.cells #[.int .i64 0, .int .i64 0, .int .i64 0, .int .i64 0, .slice none 0 0, .slice none 0 0] 31)) w.heap.size 31 zeroRcC at hR
  generalize w.alloc (.cells #[.int .i64 0, .int .i64 0, .int .i64 0, .int .i64 0, .slice none 0 0, .slice none 0 0] 31) = wa at *
  have r0 := hR.cellAt 0 rfl
  have r1 := hR.cellAt 1 rfl
  have r2 := hR.cellAt 2 rfl
  have r3 := hR.cellAt 3 rfl
  have r4 := hR.cellAt 4 rfl
  have r5 := hR.cellAt 5 rfl
  have rf := hR.frozen
  go_wp2
  have hg := grown6 wa w.heap.size (.int .i64 0) (.int .i64 0) (.int .i64 0) (.int .i64 0) (.slice none 0 0) (.slice none 0 0)
  exact bodyPost_ret (v := .tuple #[.agg #[.int .i64 0, .int .i64 0, .int .i64 0, .int .i64 0, .slice none 0 0, .slice none 0 0], .bool false]) (by simp [results, Try.results55, go_sem, r0, r1, r2, r3, r4, r5]) rfl ⟨_, _, rfl, World.ownsRow_nil _ _ _ _, World.ownsRow_nil _ _ _ _, hb.grown hg hb.size (fun j e => by injection e; omega)⟩
theorem own_len {w : World} {base : Nat} {e : TypeId} {size n q c : Nat} {A : Option Addr} {xs : List Value} (h : w.ownsRow base e size (.slice A q c) n xs) : q = n ∧ n ≤ c := by
  obtain ⟨A', c', e, hc⟩ := own_form h
  cases e
  exact ⟨rfl, hc⟩
theorem rcat {w0 w : World} {T : TypeId} {g gx B : Nat} {s : ByteArray} {st : St} {cs : List Value} {D1 D2 : Option Addr} {q1 c1 q2 c2 : Nat} {xs : List En} {ys : List Int} {k v q i : Int} (h : DS w0 w T g gx B s st cs (.slice D1 q1 c1) xs (.slice D2 q2 c2) ys) (h1 : xs.length ≤ 1000) (h2 : ys.length ≤ 1000) :
    RcAt w ⟨k, v, q, i, xs, ys⟩ D1 q1 c1 D2 q2 c2 := by
  obtain ⟨rfl, l1⟩ := own_len h.add
  obtain ⟨rfl, l2⟩ := own_len h.rem
  exact ⟨Rd.of_own h.add, Rd.of_own h.rem, rfl, rfl, l1, l2, by omega, by omega⟩
theorem done_blk {w0 w : World} {T : TypeId} {g gx B : Nat} {s : ByteArray} {st : St} {cs : List Value} {v v2 : Value} {xs : List En} {ys : List Int} (h : DS w0 w T g gx B s st cs v xs v2 ys) (u0 u1 u2 u3 u4 u5 : Value) :
    Blk ((((((w.setCell ⟨w0.heap.size, 0, none⟩ u0).setCell ⟨w0.heap.size, 1, none⟩ u1).setCell ⟨w0.heap.size, 2, none⟩ u2).setCell ⟨w0.heap.size, 3, none⟩ u3).setCell ⟨w0.heap.size, 4, none⟩ u4).setCell ⟨w0.heap.size, 5, none⟩ u5) gx 31 cs ∧
    Blk ((((((w.setCell ⟨w0.heap.size, 0, none⟩ u0).setCell ⟨w0.heap.size, 1, none⟩ u1).setCell ⟨w0.heap.size, 2, none⟩ u2).setCell ⟨w0.heap.size, 3, none⟩ u3).setCell ⟨w0.heap.size, 4, none⟩ u4).setCell ⟨w0.heap.size, 5, none⟩ u5) g T [.string s, .int .i64 st.1, .bool st.2] := by
  have hg := grown6 w w0.heap.size u0 u1 u2 u3 u4 u5
  have l1 := h.o1; have l2 := h.o2
  exact ⟨h.rc.grownBy hg (fun e => by injection e; omega), h.rdr.grownBy hg (fun e => by injection e; omega)⟩
theorem pay_eq {s : ByteArray} {vv qv iv : Int} {n m : Nat} {s1 s2 s3 s4 s5 s6 : St} {xs : List En} {ys : List Int} {ra : Int} {rb E : Bool} (h : ¬ s.size = 0)
    (hq : (((numM s 2147483647 (1, false) = (vv, s1) ∧ numM s 1099511627777 s1 = (qv, s2) ∧ numM s 2147483647 s2 = (iv, s3)) ∧ numM s 256 s3 = ((n : Int), s4)) ∧ entsM s n s4 = (xs, s5) ∧ numM s 256 s5 = ((m : Int), s6))) (hr : remsM s m s6 = (ys, (ra, rb)))
    (hE : (!rb && (ra == (s.size : Int)) && (chkR ⟨byte0 s, vv, qv, iv, xs, ys⟩ == 0)) = E) : payM s = (⟨byte0 s, vv, qv, iv, xs, ys⟩, E) := by
  obtain ⟨⟨⟨a1, a2, a3⟩, a4⟩, a5, a6⟩ := hq
  rw [payM, if_neg h]
  dsimp only
  rw [a1]; dsimp only; rw [a2]; dsimp only; rw [a3]; dsimp only; rw [a4]; dsimp only
  rw [show ((n : Int)).toNat = n from rfl, a5]; dsimp only; rw [a6]; dsimp only
  rw [show ((m : Int)).toNat = m from rfl, hr]; dsimp only; rw [hE]
set_option maxRecDepth 100000 in
set_option maxHeartbeats 8000000 in
theorem payload_some (s : ByteArray) (w : World) (hsz : s.size ≤ 1000000000000000) (h : ¬ s.size = 0) : Calls Try.prog 55 #[.string s] w (PayP w (payM s)) := by
  have hD := D0.start (w := w) 119 s
  have hfs := str_full h
  have hn : 0 < s.size := by omega
  have hd : decide ((s.size : Int) < 1) = false := decide_eq_false (by omega)
  have hd2 : decide (s.size < 1) = false := decide_eq_false (by omega)
  have hwb : Hid (IntKind.i64.wrap (s[0].toNat : Int) = byte0 s) := by
    have hl : s.data.toList[0]? = some s[0] := by rw [Array.getElem?_toList, Array.getElem?_eq_getElem (by simpa using hn)]; rfl
    have hb : byte0 s = (s[0].toNat : Int) := by
      unfold byte0
      rw [List.headD_eq_head?_getD, List.head?_eq_getElem?, hl]
      rfl
    rw [hb]
    exact IntWalk.i64_in _ (by have := s[0].toNat_lt; omega)
  have hN : Hid (∀ g st (k : Nat) W, k ≤ 4611686018427387904 → RdrAt W 119 g s st → Calls Try.prog 75 #[.pointer (some ⟨g, 0, none⟩), .int .i64 (k : Int)] W (Step W 119 g s (.int .i64 (numM s k st).1) (numM s k st).2)) := fun g st k W hk h => mnum_any s g st k _ W hsz rfl hk h
  have hRk : Hid (∀ g st W, RdrAt W 119 g s st → Calls Try.prog 76 #[.pointer (some ⟨g, 0, none⟩)] W (Step W 119 g s (Rv (rankM s st).1) (rankM s st).2)) := fun g st W h => mrank_any2 s g st W hsz h
  have hss := Lib.hid h
  obtain ⟨vv, s1, e1⟩ : ∃ vv s1, numM s 2147483647 (1, false) = (vv, s1) := ⟨_, _, rfl⟩
  obtain ⟨qv, s2, e2⟩ : ∃ vv s2, numM s 1099511627777 s1 = (vv, s2) := ⟨_, _, rfl⟩
  obtain ⟨iv, s3, e3⟩ : ∃ vv s3, numM s 2147483647 s2 = (vv, s3) := ⟨_, _, rfl⟩
  have N1 : Hid (∀ W, RdrAt W 119 (w.heap.size + 1) s (1, false) → Calls Try.prog 75 #[.pointer (some ⟨(w.heap.size + 1), 0, none⟩), .int .i64 2147483647] W (Step W 119 (w.heap.size + 1) s (.int .i64 (numM s 2147483647 (1, false)).1) (numM s 2147483647 (1, false)).2)) := fun W h => hN.out (w.heap.size + 1) (1, false) 2147483647 W (by omega) h
  have N2 : Hid (∀ W, RdrAt W 119 (w.heap.size + 1) s s1 → Calls Try.prog 75 #[.pointer (some ⟨(w.heap.size + 1), 0, none⟩), .int .i64 1099511627777] W (Step W 119 (w.heap.size + 1) s (.int .i64 (numM s 1099511627777 s1).1) (numM s 1099511627777 s1).2)) := fun W h => hN.out (w.heap.size + 1) s1 1099511627777 W (by omega) h
  have N3 : Hid (∀ W, RdrAt W 119 (w.heap.size + 1) s s2 → Calls Try.prog 75 #[.pointer (some ⟨(w.heap.size + 1), 0, none⟩), .int .i64 2147483647] W (Step W 119 (w.heap.size + 1) s (.int .i64 (numM s 2147483647 s2).1) (numM s 2147483647 s2).2)) := fun W h => hN.out (w.heap.size + 1) s2 2147483647 W (by omega) h
  rw [e1] at N1; rw [e2] at N2; rw [e3] at N3
  have HE := Lib.hid (And.intro e1 (And.intro e2 e3))
  clear e1 e2 e3
  change D0 w ((w.alloc (.cells #[.int .i64 0, .int .i64 0, .int .i64 0, .int .i64 0, .slice none 0 0, .slice none 0 0] 31)).alloc (.cells #[.string s, .int .i64 1, .bool false] 119)) _ _ _ _ at hD
  go_enter Try.func55, Try.ntmps55
  go_upto_region 4 with fail
  generalize (w.alloc (.cells #[.int .i64 0, .int .i64 0, .int .i64 0, .int .i64 0, .slice none 0 0, .slice none 0 0] 31)).alloc (.cells #[.string s, .int .i64 1, .bool false] 119) = w2 at *
  generalize w.heap.size + 1 = g at *
  go_cut [5] (fun x wy => ∃ gx B, x = .pointer (some ⟨gx, 0, none⟩) ∧ DS w wy 119 g gx B s s3 [.int .i64 (byte0 s), .int .i64 vv, .int .i64 qv, .int .i64 iv, .slice none 0 0, .slice none 0 0] (.slice none 0 0) [] (.slice none 0 0) [])
  case first =>
    refine wp_region_L (fun _ _ => True) (by kernel_rfl) ?_
    replace hD := hD.drew
    generalize w2.drew = wy at *
    refine wpAnyL_takeD (fun _ => True) (i := 0) (v := (.string s)) (some 16) rfl rfl (by kernel_rfl) (by kernel_rfl) (by kernel_rfl) (fun _ _ _ h => h) (fun _ _ _ _ _ _ => trivial) (fun _ _ _ => Iff.rfl) trivial (Or.inl ⟨by rfl, fun w' hw' => by go_simp⟩) trivial ?_
    simp only [Act.put, List.setIfInBounds_toArray, List.set_cons_zero, List.set_cons_succ]
    refine wpAnyL_takeD (fun _ => True) (i := 1) (v := (.int .u8 (s[0].toNat : Int))) (some 17) rfl rfl (by kernel_rfl) (by kernel_rfl) (by kernel_rfl) (fun _ _ _ h => h) (fun _ _ _ _ _ _ => trivial) (fun _ _ _ => Iff.rfl) trivial (Or.inl ⟨by rfl, fun w' hw' => by go_simp⟩) trivial ?_
    simp only [Act.put, List.setIfInBounds_toArray, List.set_cons_zero, List.set_cons_succ]
    refine wpAnyL_takeD (fun _ => True) (i := 2) (v := (.int .i64 (byte0 s))) (some 18) rfl rfl (by kernel_rfl) (by kernel_rfl) (by kernel_rfl) (fun _ _ _ h => h) (fun _ _ _ _ _ _ => trivial) (fun _ _ _ => Iff.rfl) trivial (Or.inl ⟨by rfl, fun w' hw' => by go_simp; exact hwb.out⟩) trivial ?_
    simp only [Act.put, List.setIfInBounds_toArray, List.set_cons_zero, List.set_cons_succ]
    refine wpAnyL_takeD (fun _ => True) (i := 3) (v := (.pointer (some ⟨g, 0, none⟩))) (some 19) rfl rfl (by kernel_rfl) (by kernel_rfl) (by kernel_rfl) (fun _ _ _ h => h) (fun _ _ _ _ _ _ => trivial) (fun _ _ _ => Iff.rfl) trivial (Or.inl ⟨by rfl, fun w' hw' => by go_simp⟩) trivial ?_
    simp only [Act.put, List.setIfInBounds_toArray, List.set_cons_zero, List.set_cons_succ]
    refine wpAnyL_takeD (fun _ => True) (i := 5) (v := (.pointer (some ⟨g, 0, none⟩))) (some 21) rfl rfl (by kernel_rfl) (by kernel_rfl) (by kernel_rfl) (fun _ _ _ h => h) (fun _ _ _ _ _ _ => trivial) (fun _ _ _ => Iff.rfl) trivial (Or.inl ⟨by rfl, fun w' hw' => by go_simp⟩) trivial ?_
    simp only [Act.put, List.setIfInBounds_toArray, List.set_cons_zero, List.set_cons_succ]
    refine wpAnyL_takeD (fun _ => True) (i := 7) (v := (.pointer (some ⟨g, 0, none⟩))) (some 23) rfl rfl (by kernel_rfl) (by kernel_rfl) (by kernel_rfl) (fun _ _ _ h => h) (fun _ _ _ _ _ _ => trivial) (fun _ _ _ => Iff.rfl) trivial (Or.inl ⟨by rfl, fun w' hw' => by go_simp⟩) trivial ?_
    simp only [Act.put, List.setIfInBounds_toArray, List.set_cons_zero, List.set_cons_succ]
    refine wpAnyL_lst (rs := [4, 10]) (by decide +kernel) ⟨by simp, ?_⟩
    simp only [List.forall_mem_cons, List.not_mem_nil, false_implies, implies_true, and_true]
    refine ⟨?_, ?_⟩
    · refine wpOp_go (o := _) rfl (fun K hK => ?_)
      go_simp
      go_at_call 75
      refine (N1.out _ hD.rdr).mono ?_; rintro _ wy ⟨rfl, hr, hg⟩
      replace hD := hD.step hr hg
      refine hK _ _ ⟨trivial, ?_⟩
      clear hK K hr hg
      refine wpAnyL_lst (rs := [6, 10]) (by decide +kernel) ⟨by simp, ?_⟩
      simp only [List.forall_mem_cons, List.not_mem_nil, false_implies, implies_true, and_true]
      refine ⟨?_, ?_⟩
      · refine wpOp_go (o := _) rfl (fun K hK => ?_)
        go_simp
        go_at_call 75
        refine (N2.out _ hD.rdr).mono ?_; rintro _ wy ⟨rfl, hr, hg⟩
        replace hD := hD.step hr hg
        refine hK _ _ ⟨trivial, ?_⟩
        clear hK K hr hg
        refine wpAnyL_lst (rs := [8, 10]) (by decide +kernel) ⟨by simp, ?_⟩
        simp only [List.forall_mem_cons, List.not_mem_nil, false_implies, implies_true, and_true]
        refine ⟨?_, ?_⟩
        · refine wpOp_go (o := _) rfl (fun K hK => ?_)
          go_simp
          go_at_call 75
          refine (N3.out _ hD.rdr).mono ?_; rintro _ wy ⟨rfl, hr, hg⟩
          replace hD := hD.step hr hg
          refine hK _ _ ⟨trivial, ?_⟩
          clear hK K hr hg
          refine wpAnyL_takeD (fun _ => True) (i := 9) (v := (.agg #[.int .i64 (byte0 s), .int .i64 vv, .int .i64 qv, .int .i64 iv, .slice none 0 0, .slice none 0 0])) (some 25) rfl rfl (by kernel_rfl) (by kernel_rfl) (by kernel_rfl) (fun _ _ _ h => h) (fun _ _ _ _ _ _ => trivial) (fun _ _ _ => Iff.rfl) trivial (Or.inl ⟨by rfl, fun w' hw' => by go_simp⟩) trivial ?_
          simp only [Act.put, List.setIfInBounds_toArray, List.set_cons_zero, List.set_cons_succ]
          refine wpAnyL_one (i := 10) (by decide +kernel) ?_
          refine wpOp_go (o := _) rfl (fun K hK => ?_)
          go_simp
          replace hD := hD.new #[.int .i64 0, .int .i64 0, .int .i64 0, .int .i64 0, .slice none 0 0, .slice none 0 0]
          refine hK _ _ ⟨trivial, ?_⟩
          clear hK K
          generalize wy.heap.size = gx at *
          generalize wy.alloc (.cells #[.int .i64 0, .int .i64 0, .int .i64 0, .int .i64 0, .slice none 0 0, .slice none 0 0] 31) = wz at *
          have x0 := hD.rc.cellAt 0 rfl
          have x1 := hD.rc.cellAt 1 rfl
          have x2 := hD.rc.cellAt 2 rfl
          have x3 := hD.rc.cellAt 3 rfl
          have x4 := hD.rc.cellAt 4 rfl
          have x5 := hD.rc.cellAt 5 rfl
          have xf := hD.rc.frozen
          refine wpAnyL_one (i := 11) (by decide +kernel) ?_
          refine wpOp_go (o := _) rfl (fun K hK => ?_)
          go_simp
          refine hK _ _ ⟨trivial, ?_⟩
          clear hK K x0 x1 x2 x3 x4 x5 xf
          have hS := hD.begin (.int .i64 (byte0 s)) (.int .i64 vv) (.int .i64 qv) (.int .i64 iv)
          refine wpAnyL_done (by decide +kernel) ?_ _
          go_wp2_with fail
          go_meet
          exact ⟨_, _, rfl, hS⟩
        · refine wpOp_go (o := _) rfl (fun K hK => ?_)
          go_simp
          replace hD := hD.new #[.int .i64 0, .int .i64 0, .int .i64 0, .int .i64 0, .slice none 0 0, .slice none 0 0]
          refine hK _ _ ⟨trivial, ?_⟩
          clear hK K
          generalize wy.heap.size = gx at *
          generalize wy.alloc (.cells #[.int .i64 0, .int .i64 0, .int .i64 0, .int .i64 0, .slice none 0 0, .slice none 0 0] 31) = wz at *
          refine wpAnyL_one (i := 8) (by decide +kernel) ?_
          refine wpOp_go (o := _) rfl (fun K hK => ?_)
          go_simp
          go_at_call 75
          refine (N3.out _ hD.rdr).mono ?_; rintro _ wy ⟨rfl, hr, hg⟩
          replace hD := hD.step hr hg
          refine hK _ _ ⟨trivial, ?_⟩
          clear hK K hr hg
          refine wpAnyL_takeD (fun _ => True) (i := 9) (v := (.agg #[.int .i64 (byte0 s), .int .i64 vv, .int .i64 qv, .int .i64 iv, .slice none 0 0, .slice none 0 0])) (some 25) rfl rfl (by kernel_rfl) (by kernel_rfl) (by kernel_rfl) (fun _ _ _ h => h) (fun _ _ _ _ _ _ => trivial) (fun _ _ _ => Iff.rfl) trivial (Or.inl ⟨by rfl, fun w' hw' => by go_simp⟩) trivial ?_
          simp only [Act.put, List.setIfInBounds_toArray, List.set_cons_zero, List.set_cons_succ]
          have x0 := hD.rc.cellAt 0 rfl
          have x1 := hD.rc.cellAt 1 rfl
          have x2 := hD.rc.cellAt 2 rfl
          have x3 := hD.rc.cellAt 3 rfl
          have x4 := hD.rc.cellAt 4 rfl
          have x5 := hD.rc.cellAt 5 rfl
          have xf := hD.rc.frozen
          refine wpAnyL_one (i := 11) (by decide +kernel) ?_
          refine wpOp_go (o := _) rfl (fun K hK => ?_)
          go_simp
          refine hK _ _ ⟨trivial, ?_⟩
          clear hK K x0 x1 x2 x3 x4 x5 xf
          have hS := hD.begin (.int .i64 (byte0 s)) (.int .i64 vv) (.int .i64 qv) (.int .i64 iv)
          refine wpAnyL_done (by decide +kernel) ?_ _
          go_wp2_with fail
          go_meet
          exact ⟨_, _, rfl, hS⟩
      · refine wpOp_go (o := _) rfl (fun K hK => ?_)
        go_simp
        replace hD := hD.new #[.int .i64 0, .int .i64 0, .int .i64 0, .int .i64 0, .slice none 0 0, .slice none 0 0]
        refine hK _ _ ⟨trivial, ?_⟩
        clear hK K
        generalize wy.heap.size = gx at *
        generalize wy.alloc (.cells #[.int .i64 0, .int .i64 0, .int .i64 0, .int .i64 0, .slice none 0 0, .slice none 0 0] 31) = wz at *
        refine wpAnyL_one (i := 6) (by decide +kernel) ?_
        refine wpOp_go (o := _) rfl (fun K hK => ?_)
        go_simp
        go_at_call 75
        refine (N2.out _ hD.rdr).mono ?_; rintro _ wy ⟨rfl, hr, hg⟩
        replace hD := hD.step hr hg
        refine hK _ _ ⟨trivial, ?_⟩
        clear hK K hr hg
        refine wpAnyL_one (i := 8) (by decide +kernel) ?_
        refine wpOp_go (o := _) rfl (fun K hK => ?_)
        go_simp
        go_at_call 75
        refine (N3.out _ hD.rdr).mono ?_; rintro _ wy ⟨rfl, hr, hg⟩
        replace hD := hD.step hr hg
        refine hK _ _ ⟨trivial, ?_⟩
        clear hK K hr hg
        refine wpAnyL_takeD (fun _ => True) (i := 9) (v := (.agg #[.int .i64 (byte0 s), .int .i64 vv, .int .i64 qv, .int .i64 iv, .slice none 0 0, .slice none 0 0])) (some 25) rfl rfl (by kernel_rfl) (by kernel_rfl) (by kernel_rfl) (fun _ _ _ h => h) (fun _ _ _ _ _ _ => trivial) (fun _ _ _ => Iff.rfl) trivial (Or.inl ⟨by rfl, fun w' hw' => by go_simp⟩) trivial ?_
        simp only [Act.put, List.setIfInBounds_toArray, List.set_cons_zero, List.set_cons_succ]
        have x0 := hD.rc.cellAt 0 rfl
        have x1 := hD.rc.cellAt 1 rfl
        have x2 := hD.rc.cellAt 2 rfl
        have x3 := hD.rc.cellAt 3 rfl
        have x4 := hD.rc.cellAt 4 rfl
        have x5 := hD.rc.cellAt 5 rfl
        have xf := hD.rc.frozen
        refine wpAnyL_one (i := 11) (by decide +kernel) ?_
        refine wpOp_go (o := _) rfl (fun K hK => ?_)
        go_simp
        refine hK _ _ ⟨trivial, ?_⟩
        clear hK K x0 x1 x2 x3 x4 x5 xf
        have hS := hD.begin (.int .i64 (byte0 s)) (.int .i64 vv) (.int .i64 qv) (.int .i64 iv)
        refine wpAnyL_done (by decide +kernel) ?_ _
        go_wp2_with fail
        go_meet
        exact ⟨_, _, rfl, hS⟩
    · refine wpOp_go (o := _) rfl (fun K hK => ?_)
      go_simp
      replace hD := hD.new #[.int .i64 0, .int .i64 0, .int .i64 0, .int .i64 0, .slice none 0 0, .slice none 0 0]
      refine hK _ _ ⟨trivial, ?_⟩
      clear hK K
      generalize wy.heap.size = gx at *
      generalize wy.alloc (.cells #[.int .i64 0, .int .i64 0, .int .i64 0, .int .i64 0, .slice none 0 0, .slice none 0 0] 31) = wz at *
      refine wpAnyL_one (i := 4) (by decide +kernel) ?_
      refine wpOp_go (o := _) rfl (fun K hK => ?_)
      go_simp
      go_at_call 75
      refine (N1.out _ hD.rdr).mono ?_; rintro _ wy ⟨rfl, hr, hg⟩
      replace hD := hD.step hr hg
      refine hK _ _ ⟨trivial, ?_⟩
      clear hK K hr hg
      refine wpAnyL_one (i := 6) (by decide +kernel) ?_
      refine wpOp_go (o := _) rfl (fun K hK => ?_)
      go_simp
      go_at_call 75
      refine (N2.out _ hD.rdr).mono ?_; rintro _ wy ⟨rfl, hr, hg⟩
      replace hD := hD.step hr hg
      refine hK _ _ ⟨trivial, ?_⟩
      clear hK K hr hg
      refine wpAnyL_one (i := 8) (by decide +kernel) ?_
      refine wpOp_go (o := _) rfl (fun K hK => ?_)
      go_simp
      go_at_call 75
      refine (N3.out _ hD.rdr).mono ?_; rintro _ wy ⟨rfl, hr, hg⟩
      replace hD := hD.step hr hg
      refine hK _ _ ⟨trivial, ?_⟩
      clear hK K hr hg
      refine wpAnyL_takeD (fun _ => True) (i := 9) (v := (.agg #[.int .i64 (byte0 s), .int .i64 vv, .int .i64 qv, .int .i64 iv, .slice none 0 0, .slice none 0 0])) (some 25) rfl rfl (by kernel_rfl) (by kernel_rfl) (by kernel_rfl) (fun _ _ _ h => h) (fun _ _ _ _ _ _ => trivial) (fun _ _ _ => Iff.rfl) trivial (Or.inl ⟨by rfl, fun w' hw' => by go_simp⟩) trivial ?_
      simp only [Act.put, List.setIfInBounds_toArray, List.set_cons_zero, List.set_cons_succ]
      have x0 := hD.rc.cellAt 0 rfl
      have x1 := hD.rc.cellAt 1 rfl
      have x2 := hD.rc.cellAt 2 rfl
      have x3 := hD.rc.cellAt 3 rfl
      have x4 := hD.rc.cellAt 4 rfl
      have x5 := hD.rc.cellAt 5 rfl
      have xf := hD.rc.frozen
      refine wpAnyL_one (i := 11) (by decide +kernel) ?_
      refine wpOp_go (o := _) rfl (fun K hK => ?_)
      go_simp
      refine hK _ _ ⟨trivial, ?_⟩
      clear hK K x0 x1 x2 x3 x4 x5 xf
      have hS := hD.begin (.int .i64 (byte0 s)) (.int .i64 vv) (.int .i64 qv) (.int .i64 iv)
      refine wpAnyL_done (by decide +kernel) ?_ _
      go_wp2_with fail
      go_meet
      exact ⟨_, _, rfl, hS⟩

  case rest =>
    clear hD N1 N2 N3
    obtain ⟨gx, B, rfl, hS⟩ := hcut
    have hcr := numM_rng (most := 256) s s3
    obtain ⟨nn, s4, e4⟩ : ∃ vv s2, numM s 256 s3 = (vv, s2) := ⟨_, _, rfl⟩
    have M1 : Hid (∀ W, RdrAt W 119 g s s3 → Calls Try.prog 75 #[.pointer (some ⟨g, 0, none⟩), .int .i64 256] W (Step W 119 g s (.int .i64 (numM s 256 s3).1) (numM s 256 s3).2)) := fun W h => hN.out g s3 256 W (by omega) h
    rw [e4] at M1 hcr
    replace HE := Lib.hid (And.intro HE.out e4)
    clear e4
    obtain ⟨n, rfl⟩ := Int.eq_ofNat_of_zero_le hcr.1
    have hn256 : n ≤ 256 := by have := hcr.2; dsimp only at this; omega
    clear hcr
    go_wp2_with fail
    refine (M1.out _ hS.rdr).mono ?_; rintro _ w3 ⟨rfl, hr, hg⟩
    replace hS := hS.step hr hg
    clear hr hg M1
    go_upto_block 0 with fail
    go_cut [6] (fun _ wy => ∃ (v : Value) (xs : List En) (sa : Int) (sb : Bool), Hid (xs.length ≤ n) ∧ Hid (entsM s n s4 = (xs, (sa, sb))) ∧ DS w wy 119 g gx B s (sa, sb) [.int .i64 (byte0 s), .int .i64 vv, .int .i64 qv, .int .i64 iv, v, .slice none 0 0] v xs (.slice none 0 0) [])
    case first =>
      go_wp2_with fail
      go_loopw [6] (fun a wr => ∃ (k : Nat) (v : Value) (xs : List En) (st : St), a = .int .i64 (k : Int) ∧ Hid (k + xs.length ≤ n) ∧ Hid (entsM s n s4 = (xs ++ (entsM s k st).1, (entsM s k st).2)) ∧ DS w wr 119 g gx B s st [.int .i64 (byte0 s), .int .i64 vv, .int .i64 qv, .int .i64 iv, v, .slice none 0 0] v xs (.slice none 0 0) []) (fun a _ => (intOf a).toNat)
      case atStart => exact ⟨n, _, [], s4, rfl, (by simp : n + ([] : List En).length ≤ n), (rfl : entsM s n s4 = ([] ++ (entsM s n s4).1, (entsM s n s4).2)), hS⟩
      case round =>
        clear hS
        obtain ⟨k, v, xs, ⟨sa, sb⟩, rfl, hi, hT, hS⟩ := hrel
        obtain ⟨D1, c1, q1, rfl⟩ := slice_form hS.add
        have hcb : wr.cell? ⟨g, 2, none⟩ = some (.bool sb) := hS.rdr.cellAt 2 rfl
        have hkb : k ≤ 256 := by have := hi.out; omega
        by_cases hk : 0 < k ∧ sb = false
        · obtain ⟨hk0, rfl⟩ := hk
          obtain ⟨k, rfl⟩ : ∃ q, k = q + 1 := ⟨k - 1, by omega⟩
          have HT := Lib.hid (hT.out.trans (by rw [entsM_next]))
          have hlx : Hid (xs.length ≤ 1000000) := by have := hi.out; show xs.length ≤ 1000000; omega
          have hi2 : Hid (k + (xs.length + 1) ≤ n) := by have := hi.out; show k + (xs.length + 1) ≤ n; omega
          clear hT hi
          obtain ⟨ai, t1, a1⟩ : ∃ vv s2, numM s 2147483647 (sa, false) = (vv, s2) := ⟨_, _, rfl⟩
          obtain ⟨ar, t2, a2⟩ : ∃ vv s2, numM s 2147483647 t1 = (vv, s2) := ⟨_, _, rfl⟩
          obtain ⟨al, t3, a3⟩ : ∃ vv s2, numM s 2147483647 t2 = (vv, s2) := ⟨_, _, rfl⟩
          obtain ⟨⟨⟨ln, li, lz⟩, lq⟩, t4, a4⟩ : ∃ vv s2, rankM s t3 = (vv, s2) := ⟨_, _, rfl⟩
          obtain ⟨⟨⟨hn, hi, hz⟩, hq⟩, t5, a5⟩ : ∃ vv s2, rankM s t4 = (vv, s2) := ⟨_, _, rfl⟩
          obtain ⟨dl, t6, a6⟩ : ∃ vv s2, numM s 2147483647 t5 = (vv, s2) := ⟨_, _, rfl⟩
          have N1 : Hid (∀ W, RdrAt W 119 g s (sa, false) → Calls Try.prog 75 #[.pointer (some ⟨g, 0, none⟩), .int .i64 2147483647] W (Step W 119 g s (.int .i64 (numM s 2147483647 (sa, false)).1) (numM s 2147483647 (sa, false)).2)) := fun W h => hN.out g (sa, false) 2147483647 W (by omega) h
          have N2 : Hid (∀ W, RdrAt W 119 g s t1 → Calls Try.prog 75 #[.pointer (some ⟨g, 0, none⟩), .int .i64 2147483647] W (Step W 119 g s (.int .i64 (numM s 2147483647 t1).1) (numM s 2147483647 t1).2)) := fun W h => hN.out g t1 2147483647 W (by omega) h
          have N3 : Hid (∀ W, RdrAt W 119 g s t2 → Calls Try.prog 75 #[.pointer (some ⟨g, 0, none⟩), .int .i64 2147483647] W (Step W 119 g s (.int .i64 (numM s 2147483647 t2).1) (numM s 2147483647 t2).2)) := fun W h => hN.out g t2 2147483647 W (by omega) h
          have N6 : Hid (∀ W, RdrAt W 119 g s t5 → Calls Try.prog 75 #[.pointer (some ⟨g, 0, none⟩), .int .i64 2147483647] W (Step W 119 g s (.int .i64 (numM s 2147483647 t5).1) (numM s 2147483647 t5).2)) := fun W h => hN.out g t5 2147483647 W (by omega) h
          have R1 := Lib.hid (hRk.out g t3); have R2 := Lib.hid (hRk.out g t4)
          rw [a1] at N1; rw [a2] at N2; rw [a3] at N3; rw [a4] at R1; rw [a5] at R2; rw [a6] at N6
          have HX : Hid (entM s (sa, false) = (⟨ai, ar, al, ⟨⟨ln, li, lz⟩, lq⟩, ⟨⟨hn, hi, hz⟩, hq⟩, dl⟩, t6)) := by
            show entM s (sa, false) = _
            unfold entM
            rw [a1]; dsimp only; rw [a2]; dsimp only; rw [a3]; dsimp only; rw [a4]; dsimp only; rw [a5]; dsimp only; rw [a6]
          have HY := Lib.hid (HT.out.trans (by rw [HX.out]))
          clear a1 a2 a3 a4 a5 a6 HT HX
          dsimp only [Rv] at R1 R2
          have hdk : decide ((0 : Int) < ((k + 1 : Nat) : Int)) = true := decide_eq_true (by omega)
          go_wp2_with fail
          refine (N1.out _ hS.rdr).mono ?_; rintro _ w4 ⟨rfl, hr, hg⟩
          replace hS := hS.step hr hg
          go_wp2_with fail
          refine (N2.out _ hS.rdr).mono ?_; rintro _ w5 ⟨rfl, hr, hg⟩
          replace hS := hS.step hr hg
          go_wp2_with fail
          refine (N3.out _ hS.rdr).mono ?_; rintro _ w6 ⟨rfl, hr, hg⟩
          replace hS := hS.step hr hg
          clear N1 N2 N3 hr hg hcb
          go_upto_region 9 with fail
          have hE : Blk _ _ _ [.int .i64 ai, .int .i64 ar, .int .i64 al, .bool false, .int .i64 0, .string ⟨#[]⟩, .int .i64 0, .bool false, .int .i64 0, .string ⟨#[]⟩, .int .i64 0, .int .i64 0] := Blk.new' w6 40 #[.int .i64 ai, .int .i64 ar, .int .i64 al, .bool false, .int .i64 0, .string ⟨#[]⟩, .int .i64 0, .bool false, .int .i64 0, .string ⟨#[]⟩, .int .i64 0, .int .i64 0]
          have hv6 : (Value.slice D1 q1 c1).ownBlock ≠ some w6.heap.size := fun e => by have := (hS.add.lt _ e).2; omega
          have hB6 := hS.o4
          have ho2 := hS.o2
          have ho3 := hS.o3
          replace hS := hS.alloc (.cells #[.int .i64 ai, .int .i64 ar, .int .i64 al, .bool false, .int .i64 0, .string ⟨#[]⟩, .int .i64 0, .bool false, .int .i64 0, .string ⟨#[]⟩, .int .i64 0, .int .i64 0] 40)
          generalize w6.alloc (.cells #[.int .i64 ai, .int .i64 ar, .int .i64 al, .bool false, .int .i64 0, .string ⟨#[]⟩, .int .i64 0, .bool false, .int .i64 0, .string ⟨#[]⟩, .int .i64 0, .int .i64 0] 40) = w7 at *
          generalize w6.heap.size = ge at *
          go_wp2_with fail
          refine (R1.out _ hS.rdr).mono ?_; rintro _ w8 ⟨rfl, hr, hg⟩
          replace hS := hS.step hr hg
          replace hE := hE.grownBy hg (by simp; omega)
          go_wp2_with fail
          refine (R2.out _ hS.rdr).mono ?_; rintro _ w9 ⟨rfl, hr, hg⟩
          replace hS := hS.step hr hg
          replace hE := hE.grownBy hg (by simp; omega)
          clear R1 R2 hr hg
          have x3 := hE.cellAt 3 rfl
          have x4 := hE.cellAt 4 rfl
          have x5 := hE.cellAt 5 rfl
          have x6 := hE.cellAt 6 rfl
          have x7 := hE.cellAt 7 rfl
          have x8 := hE.cellAt 8 rfl
          have x9 := hE.cellAt 9 rfl
          have x10 := hE.cellAt 10 rfl
          have xf := hE.frozen
          go_upto_region 10 with fail
          have hE2 := set8e hE (.bool ln) (.int .i64 li) (.string lz) (.int .i64 lq) (.bool hn) (.int .i64 hi) (.string hz) (.int .i64 hq)
          have hS2 := hS.side (grown8e w9 ge (.bool ln) (.int .i64 li) (.string lz) (.int .i64 lq) (.bool hn) (.int .i64 hi) (.string hz) (.int .i64 hq)) hB6 hv6 (by simp [Value.ownBlock])
          clear x3 x4 x5 x6 x7 x8 x9 x10 xf hE hS
          generalize ((((((((w9.setCell ⟨ge, 3, none⟩ (.bool ln)).setCell ⟨ge, 4, none⟩ (.int .i64 li)).setCell ⟨ge, 5, none⟩ (.string lz)).setCell ⟨ge, 6, none⟩ (.int .i64 lq)).setCell ⟨ge, 7, none⟩ (.bool hn)).setCell ⟨ge, 8, none⟩ (.int .i64 hi)).setCell ⟨ge, 9, none⟩ (.string hz)).setCell ⟨ge, 10, none⟩ (.int .i64 hq)) = w10 at *
          go_wp2_with fail
          refine (N6.out _ hS2.rdr).mono ?_; rintro _ w11 ⟨rfl, hr, hg⟩
          replace hS2 := hS2.step hr hg
          replace hE2 := hE2.grownBy hg (by simp; omega)
          clear N6 hr hg
          have x11 := hE2.cellAt 11 rfl
          have xf := hE2.frozen
          go_upto_region 11 with fail
          have hS3 := hS2.side (Lib.grownBy_setCell w11 ge 11 (.int .i64 dl)) hB6 hv6 (by simp [Value.ownBlock])
          have hE3 : Blk _ _ _ [.int .i64 ai, .int .i64 ar, .int .i64 al, .bool ln, .int .i64 li, .string lz, .int .i64 lq, .bool hn, .int .i64 hi, .string hz, .int .i64 hq, .int .i64 dl] := hE2.set_ 11 (.int .i64 dl)
          clear x11 xf hE2 hS2
          generalize w11.setCell ⟨ge, 11, none⟩ (.int .i64 dl) = w12 at *
          have x0 := hE3.cellAt 0 rfl
          have x1 := hE3.cellAt 1 rfl
          have x2 := hE3.cellAt 2 rfl
          have x3 := hE3.cellAt 3 rfl
          have x4 := hE3.cellAt 4 rfl
          have x5 := hE3.cellAt 5 rfl
          have x6 := hE3.cellAt 6 rfl
          have x7 := hE3.cellAt 7 rfl
          have x8 := hE3.cellAt 8 rfl
          have x9 := hE3.cellAt 9 rfl
          have x10 := hE3.cellAt 10 rfl
          have x11 := hE3.cellAt 11 rfl
          have y4 := hS3.rc.cellAt 4 rfl
          go_wp2_with (at_builtin; refine hS3.one ⟨ai, ar, al, ⟨⟨ln, li, lz⟩, lq⟩, ⟨⟨hn, hi, hz⟩, hq⟩, dl⟩ hlx.out (ds := #[.int .i64 ai, .int .i64 ar, .int .i64 al, .bool ln, .int .i64 li, .string lz, .int .i64 lq, .bool hn, .int .i64 hi, .string hz, .int .i64 hq, .int .i64 dl]) rfl ?_ rfl _ _ rfl rfl rfl)
          intro v' w13 hS4
          obtain ⟨D, cp, q, rfl⟩ := slice_form hS4.add
          have z4 := hS4.rc.cellAt 4 rfl
          have zf := hS4.rc.frozen
          have hS5 := hS4.set 4 (.slice D q cp)
          clear hS4
          go_wp2
          go_roundw
          case rel => exact ⟨k, _, _, t6, by go_num, (by rw [List.length_append]; exact hi2.out : k + (xs ++ [(⟨ai, ar, al, ⟨⟨ln, li, lz⟩, lq⟩, ⟨⟨hn, hi, hz⟩, hq⟩, dl⟩ : En)]).length ≤ n), (by rw [HY.out]; simp : entsM s n s4 = _), hS5⟩
          case measure => first | (simp [intOf]; done) | (simp [intOf]; omega)
        · have hl : Hid (xs.length ≤ n) := by have := hi.out; show xs.length ≤ n; omega
          by_cases hk0 : k = 0
          · subst hk0
            have hT : Hid (entsM s n s4 = (xs, (sa, sb))) := hT.out.trans (by simp [entsM])
            go_wp2_with fail
            go_meet
            exact ⟨_, xs, sa, sb, hl, hT, hS⟩
          · obtain rfl : sb = true := by
              cases sb
              · exact absurd ⟨by omega, rfl⟩ hk
              · rfl
            have hdk : decide ((0 : Int) < (k : Int)) = true := decide_eq_true (by omega)
            have hT : Hid (entsM s n s4 = (xs, (sa, true))) := hT.out.trans (by rw [entsM_bad]; simp)
            go_wp2_with fail
            go_meet
            exact ⟨_, xs, sa, true, hl, hT, hS⟩
    case rest =>
      clear hS
      obtain ⟨v, xs, sa, sb, hl, hT, hS⟩ := hcut
      obtain ⟨D1, c1, q1, rfl⟩ := slice_form hS.add
      have hlx : Hid (xs.length ≤ 256) := by have := hl.out; show xs.length ≤ 256; omega
      have hcr := numM_rng (most := 256) s (sa, sb)
      obtain ⟨mm, s6, e6⟩ : ∃ vv s2, numM s 256 (sa, sb) = (vv, s2) := ⟨_, _, rfl⟩
      have M1 : Hid (∀ W, RdrAt W 119 g s (sa, sb) → Calls Try.prog 75 #[.pointer (some ⟨g, 0, none⟩), .int .i64 256] W (Step W 119 g s (.int .i64 (numM s 256 (sa, sb)).1) (numM s 256 (sa, sb)).2)) := fun W h => hN.out g (sa, sb) 256 W (by omega) h
      rw [e6] at M1 hcr
      obtain ⟨m, rfl⟩ := Int.eq_ofNat_of_zero_le hcr.1
      have hm256 : m ≤ 256 := by have := hcr.2; dsimp only at this; omega
      have HQ := Lib.hid (And.intro HE.out (And.intro hT.out e6))
      clear HE e6 hcr hT hl
      go_wp2_with fail
      refine (M1.out _ hS.rdr).mono ?_; rintro _ w4 ⟨rfl, hr, hg⟩
      replace hS := hS.step hr hg
      clear hr hg M1
      go_upto_block 2 with fail
      go_cut [8] (fun _ wy => ∃ (v2 : Value) (ys : List Int) (ra : Int) (rb : Bool), Hid (ys.length ≤ m) ∧ Hid (remsM s m s6 = (ys, (ra, rb))) ∧ DS w wy 119 g gx B s (ra, rb) [.int .i64 (byte0 s), .int .i64 vv, .int .i64 qv, .int .i64 iv, .slice D1 q1 c1, v2] (.slice D1 q1 c1) xs v2 ys)
      case first =>
        go_wp2_with fail
        go_loopw [8] (fun a wr => ∃ (k : Nat) (v2 : Value) (ys : List Int) (st : St), a = .int .i64 (k : Int) ∧ Hid (k + ys.length ≤ m) ∧ Hid (remsM s m s6 = (ys ++ (remsM s k st).1, (remsM s k st).2)) ∧ DS w wr 119 g gx B s st [.int .i64 (byte0 s), .int .i64 vv, .int .i64 qv, .int .i64 iv, .slice D1 q1 c1, v2] (.slice D1 q1 c1) xs v2 ys) (fun a _ => (intOf a).toNat)
        case atStart => exact ⟨m, _, [], s6, rfl, (by simp : m + ([] : List Int).length ≤ m), (rfl : remsM s m s6 = ([] ++ (remsM s m s6).1, (remsM s m s6).2)), hS⟩
        case round =>
          clear hS
          obtain ⟨k, v2, ys, ⟨ra, rb⟩, rfl, hi, hT, hS⟩ := hrel
          obtain ⟨D2, c2, q2, rfl⟩ := slice_form hS.rem
          have hcb : wr.cell? ⟨g, 2, none⟩ = some (.bool rb) := hS.rdr.cellAt 2 rfl
          have hkb : k ≤ 256 := by have := hi.out; omega
          by_cases hk : 0 < k ∧ rb = false
          · obtain ⟨hk0, rfl⟩ := hk
            obtain ⟨k, rfl⟩ : ∃ q, k = q + 1 := ⟨k - 1, by omega⟩
            have HT := Lib.hid (hT.out.trans (by rw [remsM_next]))
            have hly : Hid (ys.length ≤ 1000000) := by have := hi.out; show ys.length ≤ 1000000; omega
            have hi2 : Hid (k + (ys.length + 1) ≤ m) := by have := hi.out; show k + (ys.length + 1) ≤ m; omega
            clear hT hi
            obtain ⟨ai, t1, a1⟩ : ∃ vv s2, numM s 2147483647 (ra, false) = (vv, s2) := ⟨_, _, rfl⟩
            have N1 : Hid (∀ W, RdrAt W 119 g s (ra, false) → Calls Try.prog 75 #[.pointer (some ⟨g, 0, none⟩), .int .i64 2147483647] W (Step W 119 g s (.int .i64 (numM s 2147483647 (ra, false)).1) (numM s 2147483647 (ra, false)).2)) := fun W h => hN.out g (ra, false) 2147483647 W (by omega) h
            rw [a1] at N1
            have HY := Lib.hid (HT.out.trans (by rw [a1]))
            clear a1 HT
            have hdk : decide ((0 : Int) < ((k + 1 : Nat) : Int)) = true := decide_eq_true (by omega)
            go_upto_region 15 with fail
            have X2 : Blk _ _ _ [.int .i64 (byte0 s), .int .i64 vv, .int .i64 qv, .int .i64 iv, .slice D1 q1 c1, .slice D2 q2 c2] := hS.rc
            refine wp_region_L (SBk 7 gx 31 [.int .i64 (byte0 s), .int .i64 vv, .int .i64 qv, .int .i64 iv, .slice D1 q1 c1, .slice D2 q2 c2]) (by kernel_rfl) ?_
            replace hS := hS.drew
            replace X2 : Blk wr.drew gx _ _ := X2
            generalize wr.drew = wy at *
            refine wpAnyL_takeD (fun l => l.getD 7 false = false) (i := 0) (v := (.pointer (some ⟨gx, 5, none⟩))) (some 74) rfl rfl (by kernel_rfl) (by kernel_rfl) (by kernel_rfl) (fun _ _ _ h => h) (fun l j hc hi hj hne => (getD_set_ne false (waits_ne (k := 7) hi hj (by kernel_rfl))).trans hc) (fun _ _ _ => SBk.set (by decide)) rfl (Or.inl ⟨by rfl, fun w' hw' => by obtain ⟨l, hc, hl⟩ := hw'; have k5 := (hl hc).cellAt 5 rfl; go_simp⟩) (fun _ => X2) ?_
            simp only [Act.put, List.setIfInBounds_toArray, List.set_cons_zero, List.set_cons_succ]
            refine wpAnyL_takeD (fun l => l.getD 7 false = false) (i := 1) (v := (.slice D2 q2 c2)) (some 75) rfl rfl (by kernel_rfl) (by kernel_rfl) (by kernel_rfl) (fun _ _ _ h => h) (fun l j hc hi hj hne => (getD_set_ne false (waits_ne (k := 7) hi hj (by kernel_rfl))).trans hc) (fun _ _ _ => SBk.set (by decide)) rfl (Or.inl ⟨by rfl, fun w' hw' => by obtain ⟨l, hc, hl⟩ := hw'; have k5 := (hl hc).cellAt 5 rfl; go_simp⟩) (fun _ => X2) ?_
            simp only [Act.put, List.setIfInBounds_toArray, List.set_cons_zero, List.set_cons_succ]
            refine wpAnyL_takeD (fun l => l.getD 7 false = false) (i := 2) (v := (.pointer (some ⟨g, 0, none⟩))) (some 76) rfl rfl (by kernel_rfl) (by kernel_rfl) (by kernel_rfl) (fun _ _ _ h => h) (fun l j hc hi hj hne => (getD_set_ne false (waits_ne (k := 7) hi hj (by kernel_rfl))).trans hc) (fun _ _ _ => SBk.set (by decide)) rfl (Or.inl ⟨by rfl, fun w' hw' => by obtain ⟨l, hc, hl⟩ := hw'; have k5 := (hl hc).cellAt 5 rfl; go_simp⟩) (fun _ => X2) ?_
            simp only [Act.put, List.setIfInBounds_toArray, List.set_cons_zero, List.set_cons_succ]
            refine wpAnyL_one (i := 3) (by decide +kernel) ?_
            refine wpOp_go (o := _) rfl (fun K hK => ?_)
            go_simp
            go_at_call 75
            refine (N1.out _ hS.rdr).mono ?_; rintro _ wz ⟨rfl, hr, hg⟩
            replace hS := hS.step hr hg
            refine hK _ _ ⟨fun _ => hS.rc, ?_⟩
            clear hK K hr hg X2
            refine wpAnyL_one (i := 4) (by decide +kernel) ?_
            refine wpOp_go (o := _) rfl (fun K hK => ?_)
            go_simp
            refine hK _ _ ⟨fun _ => hS.rc.alloc _, ?_⟩
            clear hK K
            refine wpAnyL_one (i := 5) (by decide +kernel) ?_
            refine wpOp_go (o := _) rfl (fun K hK => ?_)
            refine hS.stepR ai hly.out rfl _ _ rfl rfl rfl ?_
            intro v' w13 hS4
            obtain ⟨D, cp, q, rfl⟩ := slice_form hS4.rem
            refine hK _ _ ⟨fun _ => hS4.rc, ?_⟩
            clear hK K
            refine wpAnyL_one (i := 6) (by decide +kernel) ?_
            refine wpOp_go (o := _) rfl (fun K hK => ?_)
            go_simp
            refine hK _ _ ⟨fun _ => hS4.rc, ?_⟩
            clear hK K
            have z5 := hS4.rc.cellAt 5 rfl
            have zf := hS4.rc.frozen
            have hS5 := hS4.set 5 (.slice D q cp)
            refine wpAnyL_one (i := 7) (by decide +kernel) ?_
            refine wpOp_go (o := _) rfl (fun K hK => ?_)
            go_simp
            refine hK _ _ ⟨fun h => absurd h (by decide), ?_⟩
            clear hK K hS4 z5 zf
            refine wpAnyL_done (by decide +kernel) ?_ _
            go_wp2
            go_roundw
            case rel => exact ⟨k, _, _, t1, by go_num, (by rw [List.length_append]; exact hi2.out : k + (ys ++ [ai]).length ≤ m), (by rw [HY.out]; simp : remsM s m s6 = _), hS5⟩
            case measure => first | (simp [intOf]; done) | (simp [intOf]; omega)
          · have hl : Hid (ys.length ≤ m) := by have := hi.out; show ys.length ≤ m; omega
            by_cases hk0 : k = 0
            · subst hk0
              have HR : Hid (remsM s m s6 = (ys, (ra, rb))) := hT.out.trans (by simp [remsM])
              clear hT hi
              go_wp2_with fail
              go_meet
              exact ⟨_, ys, ra, rb, hl, HR, hS⟩
            · obtain rfl : rb = true := by
                cases rb
                · exact absurd ⟨by omega, rfl⟩ hk
                · rfl
              have hdk : decide ((0 : Int) < (k : Int)) = true := decide_eq_true (by omega)
              have HR : Hid (remsM s m s6 = (ys, (ra, true))) := hT.out.trans (by rw [remsM_bad]; simp)
              clear hT hi
              go_wp2_with fail
              go_meet
              exact ⟨_, ys, ra, true, hl, HR, hS⟩
      case rest =>
        clear hS
        obtain ⟨v2, ys, ra, rb, hl, HR, hS⟩ := hcut
        obtain ⟨D2, c2, q2, rfl⟩ := slice_form hS.rem
        have hlm : Hid (ys.length ≤ 256) := by have := hl.out; show ys.length ≤ 256; omega
        cases rb
        · by_cases he : ra = (s.size : Int)
          · have hbe : (ra == (s.size : Int)) = true := by simpa using he
            by_cases hc : chkR ⟨byte0 s, vv, qv, iv, xs, ys⟩ = 0
            · have HPAY := Lib.hid (pay_eq (E := true) h HQ.out HR.out (by rw [hbe, hc]; rfl))
              have hce : (chkR ⟨byte0 s, vv, qv, iv, xs, ys⟩ == 0) = true := by simpa using hc
              clear HR hc he
              go_upto_region 16 with fail
              refine wp_region_L (fun _ w' => Blk w' gx 31 [.int .i64 (byte0 s), .int .i64 vv, .int .i64 qv, .int .i64 iv, .slice D1 q1 c1, .slice D2 q2 c2] ∧ Blk w' g 119 [.string s, .int .i64 ra, .bool false]) (by kernel_rfl) ?_
              replace hS := hS.drew
              generalize wc.drew = wy at *
              have HB : Hid (Blk wy gx 31 [.int .i64 (byte0 s), .int .i64 vv, .int .i64 qv, .int .i64 iv, .slice D1 q1 c1, .slice D2 q2 c2] ∧ Blk wy g 119 [.string s, .int .i64 ra, .bool false]) := ⟨hS.rc, hS.rdr⟩
              refine wpAnyL_takeD (fun _ => True) (i := 0) (v := (.agg #[.int .i64 (byte0 s), .int .i64 vv, .int .i64 qv, .int .i64 iv, .slice D1 q1 c1, .slice D2 q2 c2])) (some 81) rfl rfl (by kernel_rfl) (by kernel_rfl) (by kernel_rfl) (fun _ _ _ h => h) (fun _ _ _ _ _ _ => trivial) (fun _ _ _ => Iff.rfl) trivial (Or.inl ⟨by rfl, fun w' hw' => by obtain ⟨l, _, hl, hl2⟩ := hw'; have k0 := hl.cellAt 0 rfl; have k1 := hl.cellAt 1 rfl; have k2 := hl.cellAt 2 rfl; have k3 := hl.cellAt 3 rfl; have k4 := hl.cellAt 4 rfl; have k5 := hl.cellAt 5 rfl; have m1 := hl2.cellAt 1 rfl; have m2 := hl2.cellAt 2 rfl; go_simp⟩) HB.out ?_
              simp only [Act.put, List.setIfInBounds_toArray, List.set_cons_zero, List.set_cons_succ]
              refine wpAnyL_takeD (fun _ => True) (i := 1) (v := (.pointer (some ⟨g, 0, none⟩))) (some 82) rfl rfl (by kernel_rfl) (by kernel_rfl) (by kernel_rfl) (fun _ _ _ h => h) (fun _ _ _ _ _ _ => trivial) (fun _ _ _ => Iff.rfl) trivial (Or.inl ⟨by rfl, fun w' hw' => by obtain ⟨l, _, hl, hl2⟩ := hw'; have k0 := hl.cellAt 0 rfl; have k1 := hl.cellAt 1 rfl; have k2 := hl.cellAt 2 rfl; have k3 := hl.cellAt 3 rfl; have k4 := hl.cellAt 4 rfl; have k5 := hl.cellAt 5 rfl; have m1 := hl2.cellAt 1 rfl; have m2 := hl2.cellAt 2 rfl; go_simp⟩) HB.out ?_
              simp only [Act.put, List.setIfInBounds_toArray, List.set_cons_zero, List.set_cons_succ]
              refine wpAnyL_takeD (fun _ => True) (i := 2) (v := (.pointer (some ⟨g, 0, none⟩))) (some 83) rfl rfl (by kernel_rfl) (by kernel_rfl) (by kernel_rfl) (fun _ _ _ h => h) (fun _ _ _ _ _ _ => trivial) (fun _ _ _ => Iff.rfl) trivial (Or.inl ⟨by rfl, fun w' hw' => by obtain ⟨l, _, hl, hl2⟩ := hw'; have k0 := hl.cellAt 0 rfl; have k1 := hl.cellAt 1 rfl; have k2 := hl.cellAt 2 rfl; have k3 := hl.cellAt 3 rfl; have k4 := hl.cellAt 4 rfl; have k5 := hl.cellAt 5 rfl; have m1 := hl2.cellAt 1 rfl; have m2 := hl2.cellAt 2 rfl; go_simp⟩) HB.out ?_
              simp only [Act.put, List.setIfInBounds_toArray, List.set_cons_zero, List.set_cons_succ]
              refine wpAnyL_takeD (fun _ => True) (i := 3) (v := (.pointer (some ⟨g, 2, none⟩))) (some 84) rfl rfl (by kernel_rfl) (by kernel_rfl) (by kernel_rfl) (fun _ _ _ h => h) (fun _ _ _ _ _ _ => trivial) (fun _ _ _ => Iff.rfl) trivial (Or.inl ⟨by rfl, fun w' hw' => by obtain ⟨l, _, hl, hl2⟩ := hw'; have k0 := hl.cellAt 0 rfl; have k1 := hl.cellAt 1 rfl; have k2 := hl.cellAt 2 rfl; have k3 := hl.cellAt 3 rfl; have k4 := hl.cellAt 4 rfl; have k5 := hl.cellAt 5 rfl; have m1 := hl2.cellAt 1 rfl; have m2 := hl2.cellAt 2 rfl; go_simp⟩) HB.out ?_
              simp only [Act.put, List.setIfInBounds_toArray, List.set_cons_zero, List.set_cons_succ]
              refine wpAnyL_takeD (fun _ => True) (i := 4) (v := (.bool false)) (some 85) rfl rfl (by kernel_rfl) (by kernel_rfl) (by kernel_rfl) (fun _ _ _ h => h) (fun _ _ _ _ _ _ => trivial) (fun _ _ _ => Iff.rfl) trivial (Or.inl ⟨by rfl, fun w' hw' => by obtain ⟨l, _, hl, hl2⟩ := hw'; have k0 := hl.cellAt 0 rfl; have k1 := hl.cellAt 1 rfl; have k2 := hl.cellAt 2 rfl; have k3 := hl.cellAt 3 rfl; have k4 := hl.cellAt 4 rfl; have k5 := hl.cellAt 5 rfl; have m1 := hl2.cellAt 1 rfl; have m2 := hl2.cellAt 2 rfl; go_simp⟩) HB.out ?_
              simp only [Act.put, List.setIfInBounds_toArray, List.set_cons_zero, List.set_cons_succ]
              refine wpAnyL_takeD (fun _ => True) (i := 5) (v := (.bool true)) (some 86) rfl rfl (by kernel_rfl) (by kernel_rfl) (by kernel_rfl) (fun _ _ _ h => h) (fun _ _ _ _ _ _ => trivial) (fun _ _ _ => Iff.rfl) trivial (Or.inl ⟨by rfl, fun w' hw' => by obtain ⟨l, _, hl, hl2⟩ := hw'; have k0 := hl.cellAt 0 rfl; have k1 := hl.cellAt 1 rfl; have k2 := hl.cellAt 2 rfl; have k3 := hl.cellAt 3 rfl; have k4 := hl.cellAt 4 rfl; have k5 := hl.cellAt 5 rfl; have m1 := hl2.cellAt 1 rfl; have m2 := hl2.cellAt 2 rfl; go_simp⟩) HB.out ?_
              simp only [Act.put, List.setIfInBounds_toArray, List.set_cons_zero, List.set_cons_succ]
              refine wpAnyL_takeD (fun _ => True) (i := 6) (v := (.bool true)) (some 87) rfl rfl (by kernel_rfl) (by kernel_rfl) (by kernel_rfl) (fun _ _ _ h => h) (fun _ _ _ _ _ _ => trivial) (fun _ _ _ => Iff.rfl) trivial (Or.inl ⟨by rfl, fun w' hw' => by obtain ⟨l, _, hl, hl2⟩ := hw'; have k0 := hl.cellAt 0 rfl; have k1 := hl.cellAt 1 rfl; have k2 := hl.cellAt 2 rfl; have k3 := hl.cellAt 3 rfl; have k4 := hl.cellAt 4 rfl; have k5 := hl.cellAt 5 rfl; have m1 := hl2.cellAt 1 rfl; have m2 := hl2.cellAt 2 rfl; go_simp⟩) HB.out ?_
              simp only [Act.put, List.setIfInBounds_toArray, List.set_cons_zero, List.set_cons_succ]
              refine wpAnyL_takeD (fun _ => True) (i := 7) (v := (.pointer (some ⟨g, 0, none⟩))) (some 88) rfl rfl (by kernel_rfl) (by kernel_rfl) (by kernel_rfl) (fun _ _ _ h => h) (fun _ _ _ _ _ _ => trivial) (fun _ _ _ => Iff.rfl) trivial (Or.inl ⟨by rfl, fun w' hw' => by obtain ⟨l, _, hl, hl2⟩ := hw'; have k0 := hl.cellAt 0 rfl; have k1 := hl.cellAt 1 rfl; have k2 := hl.cellAt 2 rfl; have k3 := hl.cellAt 3 rfl; have k4 := hl.cellAt 4 rfl; have k5 := hl.cellAt 5 rfl; have m1 := hl2.cellAt 1 rfl; have m2 := hl2.cellAt 2 rfl; go_simp⟩) HB.out ?_
              simp only [Act.put, List.setIfInBounds_toArray, List.set_cons_zero, List.set_cons_succ]
              refine wpAnyL_takeD (fun _ => True) (i := 8) (v := (.pointer (some ⟨g, 0, none⟩))) (some 89) rfl rfl (by kernel_rfl) (by kernel_rfl) (by kernel_rfl) (fun _ _ _ h => h) (fun _ _ _ _ _ _ => trivial) (fun _ _ _ => Iff.rfl) trivial (Or.inl ⟨by rfl, fun w' hw' => by obtain ⟨l, _, hl, hl2⟩ := hw'; have k0 := hl.cellAt 0 rfl; have k1 := hl.cellAt 1 rfl; have k2 := hl.cellAt 2 rfl; have k3 := hl.cellAt 3 rfl; have k4 := hl.cellAt 4 rfl; have k5 := hl.cellAt 5 rfl; have m1 := hl2.cellAt 1 rfl; have m2 := hl2.cellAt 2 rfl; go_simp⟩) HB.out ?_
              simp only [Act.put, List.setIfInBounds_toArray, List.set_cons_zero, List.set_cons_succ]
              refine wpAnyL_takeD (fun _ => True) (i := 9) (v := (.pointer (some ⟨g, 1, none⟩))) (some 90) rfl rfl (by kernel_rfl) (by kernel_rfl) (by kernel_rfl) (fun _ _ _ h => h) (fun _ _ _ _ _ _ => trivial) (fun _ _ _ => Iff.rfl) trivial (Or.inl ⟨by rfl, fun w' hw' => by obtain ⟨l, _, hl, hl2⟩ := hw'; have k0 := hl.cellAt 0 rfl; have k1 := hl.cellAt 1 rfl; have k2 := hl.cellAt 2 rfl; have k3 := hl.cellAt 3 rfl; have k4 := hl.cellAt 4 rfl; have k5 := hl.cellAt 5 rfl; have m1 := hl2.cellAt 1 rfl; have m2 := hl2.cellAt 2 rfl; go_simp⟩) HB.out ?_
              simp only [Act.put, List.setIfInBounds_toArray, List.set_cons_zero, List.set_cons_succ]
              refine wpAnyL_takeD (fun _ => True) (i := 10) (v := (.int .i64 ra)) (some 91) rfl rfl (by kernel_rfl) (by kernel_rfl) (by kernel_rfl) (fun _ _ _ h => h) (fun _ _ _ _ _ _ => trivial) (fun _ _ _ => Iff.rfl) trivial (Or.inl ⟨by rfl, fun w' hw' => by obtain ⟨l, _, hl, hl2⟩ := hw'; have k0 := hl.cellAt 0 rfl; have k1 := hl.cellAt 1 rfl; have k2 := hl.cellAt 2 rfl; have k3 := hl.cellAt 3 rfl; have k4 := hl.cellAt 4 rfl; have k5 := hl.cellAt 5 rfl; have m1 := hl2.cellAt 1 rfl; have m2 := hl2.cellAt 2 rfl; go_simp⟩) HB.out ?_
              simp only [Act.put, List.setIfInBounds_toArray, List.set_cons_zero, List.set_cons_succ]
              refine wpAnyL_takeD (fun _ => True) (i := 11) (v := (.string s)) (some 92) rfl rfl (by kernel_rfl) (by kernel_rfl) (by kernel_rfl) (fun _ _ _ h => h) (fun _ _ _ _ _ _ => trivial) (fun _ _ _ => Iff.rfl) trivial (Or.inl ⟨by rfl, fun w' hw' => by obtain ⟨l, _, hl, hl2⟩ := hw'; have k0 := hl.cellAt 0 rfl; have k1 := hl.cellAt 1 rfl; have k2 := hl.cellAt 2 rfl; have k3 := hl.cellAt 3 rfl; have k4 := hl.cellAt 4 rfl; have k5 := hl.cellAt 5 rfl; have m1 := hl2.cellAt 1 rfl; have m2 := hl2.cellAt 2 rfl; go_simp⟩) HB.out ?_
              simp only [Act.put, List.setIfInBounds_toArray, List.set_cons_zero, List.set_cons_succ]
              refine wpAnyL_takeD (fun _ => True) (i := 12) (v := (.int .i64 (s.size : Int))) (some 93) rfl rfl (by kernel_rfl) (by kernel_rfl) (by kernel_rfl) (fun _ _ _ h => h) (fun _ _ _ _ _ _ => trivial) (fun _ _ _ => Iff.rfl) trivial (Or.inl ⟨by rfl, fun w' hw' => by obtain ⟨l, _, hl, hl2⟩ := hw'; have k0 := hl.cellAt 0 rfl; have k1 := hl.cellAt 1 rfl; have k2 := hl.cellAt 2 rfl; have k3 := hl.cellAt 3 rfl; have k4 := hl.cellAt 4 rfl; have k5 := hl.cellAt 5 rfl; have m1 := hl2.cellAt 1 rfl; have m2 := hl2.cellAt 2 rfl; go_simp⟩) HB.out ?_
              simp only [Act.put, List.setIfInBounds_toArray, List.set_cons_zero, List.set_cons_succ]
              refine wpAnyL_takeD (fun _ => True) (i := 13) (v := (.bool true)) (some 94) rfl rfl (by kernel_rfl) (by kernel_rfl) (by kernel_rfl) (fun _ _ _ h => h) (fun _ _ _ _ _ _ => trivial) (fun _ _ _ => Iff.rfl) trivial (Or.inl ⟨by rfl, fun w' hw' => by obtain ⟨l, _, hl, hl2⟩ := hw'; have k0 := hl.cellAt 0 rfl; have k1 := hl.cellAt 1 rfl; have k2 := hl.cellAt 2 rfl; have k3 := hl.cellAt 3 rfl; have k4 := hl.cellAt 4 rfl; have k5 := hl.cellAt 5 rfl; have m1 := hl2.cellAt 1 rfl; have m2 := hl2.cellAt 2 rfl; go_simp⟩) HB.out ?_
              simp only [Act.put, List.setIfInBounds_toArray, List.set_cons_zero, List.set_cons_succ]
              refine wpAnyL_takeD (fun _ => True) (i := 14) (v := (.bool true)) (some 95) rfl rfl (by kernel_rfl) (by kernel_rfl) (by kernel_rfl) (fun _ _ _ h => h) (fun _ _ _ _ _ _ => trivial) (fun _ _ _ => Iff.rfl) trivial (Or.inl ⟨by rfl, fun w' hw' => by obtain ⟨l, _, hl, hl2⟩ := hw'; have k0 := hl.cellAt 0 rfl; have k1 := hl.cellAt 1 rfl; have k2 := hl.cellAt 2 rfl; have k3 := hl.cellAt 3 rfl; have k4 := hl.cellAt 4 rfl; have k5 := hl.cellAt 5 rfl; have m1 := hl2.cellAt 1 rfl; have m2 := hl2.cellAt 2 rfl; go_simp⟩) HB.out ?_
              simp only [Act.put, List.setIfInBounds_toArray, List.set_cons_zero, List.set_cons_succ]
              refine wpAnyL_takeD (fun _ => True) (i := 15) (v := (.bool true)) (some 96) rfl rfl (by kernel_rfl) (by kernel_rfl) (by kernel_rfl) (fun _ _ _ h => h) (fun _ _ _ _ _ _ => trivial) (fun _ _ _ => Iff.rfl) trivial (Or.inl ⟨by rfl, fun w' hw' => by obtain ⟨l, _, hl, hl2⟩ := hw'; have k0 := hl.cellAt 0 rfl; have k1 := hl.cellAt 1 rfl; have k2 := hl.cellAt 2 rfl; have k3 := hl.cellAt 3 rfl; have k4 := hl.cellAt 4 rfl; have k5 := hl.cellAt 5 rfl; have m1 := hl2.cellAt 1 rfl; have m2 := hl2.cellAt 2 rfl; go_simp⟩) HB.out ?_
              simp only [Act.put, List.setIfInBounds_toArray, List.set_cons_zero, List.set_cons_succ]
              refine wpAnyL_takeD (fun _ => True) (i := 16) (v := (.agg #[.int .i64 (byte0 s), .int .i64 vv, .int .i64 qv, .int .i64 iv, .slice D1 q1 c1, .slice D2 q2 c2])) (some 97) rfl rfl (by kernel_rfl) (by kernel_rfl) (by kernel_rfl) (fun _ _ _ h => h) (fun _ _ _ _ _ _ => trivial) (fun _ _ _ => Iff.rfl) trivial (Or.inl ⟨by rfl, fun w' hw' => by obtain ⟨l, _, hl, hl2⟩ := hw'; have k0 := hl.cellAt 0 rfl; have k1 := hl.cellAt 1 rfl; have k2 := hl.cellAt 2 rfl; have k3 := hl.cellAt 3 rfl; have k4 := hl.cellAt 4 rfl; have k5 := hl.cellAt 5 rfl; have m1 := hl2.cellAt 1 rfl; have m2 := hl2.cellAt 2 rfl; go_simp⟩) HB.out ?_
              simp only [Act.put, List.setIfInBounds_toArray, List.set_cons_zero, List.set_cons_succ]
              have HK := Lib.hid (rcheck_any ⟨byte0 s, vv, qv, iv, xs, ys⟩ D1 q1 c1 D2 q2 c2 wy (rcat hS (by have := hlx.out; omega) (by have := hlm.out; omega)))
              refine wpAnyL_one (i := 17) (by decide +kernel) ?_
              refine wpOp_go (o := _) rfl (fun K hK => ?_)
              go_simp
              go_at_call 27
              refine HK.out.mono ?_; rintro _ wz ⟨rfl, hbz⟩
              replace hS := hS.call hbz
              replace HB : Hid (Blk wz gx 31 [.int .i64 (byte0 s), .int .i64 vv, .int .i64 qv, .int .i64 iv, .slice D1 q1 c1, .slice D2 q2 c2] ∧ Blk wz g 119 [.string s, .int .i64 ra, .bool false]) := ⟨hS.rc, hS.rdr⟩
              refine hK _ _ ⟨HB.out, ?_⟩
              clear hK K hbz HK
              generalize wz = wy at *
              refine wpAnyL_takeD (fun _ => True) (i := 18) (v := (.bool true)) (some 99) rfl rfl (by kernel_rfl) (by kernel_rfl) (by kernel_rfl) (fun _ _ _ h => h) (fun _ _ _ _ _ _ => trivial) (fun _ _ _ => Iff.rfl) trivial (Or.inl ⟨by rfl, fun w' hw' => by obtain ⟨l, _, hl, hl2⟩ := hw'; have k0 := hl.cellAt 0 rfl; have k1 := hl.cellAt 1 rfl; have k2 := hl.cellAt 2 rfl; have k3 := hl.cellAt 3 rfl; have k4 := hl.cellAt 4 rfl; have k5 := hl.cellAt 5 rfl; have m1 := hl2.cellAt 1 rfl; have m2 := hl2.cellAt 2 rfl; go_simp⟩) HB.out ?_
              simp only [Act.put, List.setIfInBounds_toArray, List.set_cons_zero, List.set_cons_succ]
              refine wpAnyL_takeD (fun _ => True) (i := 19) (v := (.bool true)) (some 100) rfl rfl (by kernel_rfl) (by kernel_rfl) (by kernel_rfl) (fun _ _ _ h => h) (fun _ _ _ _ _ _ => trivial) (fun _ _ _ => Iff.rfl) trivial (Or.inl ⟨by rfl, fun w' hw' => by obtain ⟨l, _, hl, hl2⟩ := hw'; have k0 := hl.cellAt 0 rfl; have k1 := hl.cellAt 1 rfl; have k2 := hl.cellAt 2 rfl; have k3 := hl.cellAt 3 rfl; have k4 := hl.cellAt 4 rfl; have k5 := hl.cellAt 5 rfl; have m1 := hl2.cellAt 1 rfl; have m2 := hl2.cellAt 2 rfl; go_simp⟩) HB.out ?_
              simp only [Act.put, List.setIfInBounds_toArray, List.set_cons_zero, List.set_cons_succ]
              have r0 := hS.res.cellAt 0 rfl
              have r1 := hS.res.cellAt 1 rfl
              have r2 := hS.res.cellAt 2 rfl
              have r3 := hS.res.cellAt 3 rfl
              have r4 := hS.res.cellAt 4 rfl
              have r5 := hS.res.cellAt 5 rfl
              have rf := hS.res.frozen
              have hdn := DS.done (r := ⟨byte0 s, vv, qv, iv, xs, ys⟩) hS (.int .i64 (byte0 s)) (.int .i64 vv) (.int .i64 qv) (.int .i64 iv) (.slice D1 q1 c1) (.slice D2 q2 c2)
              have HB2 := done_blk hS (.int .i64 (byte0 s)) (.int .i64 vv) (.int .i64 qv) (.int .i64 iv) (.slice D1 q1 c1) (.slice D2 q2 c2)
              refine wpAnyL_one (i := 20) (by decide +kernel) ?_
              refine wpOp_go (o := _) rfl (fun K hK => ?_)
              go_simp
              refine hK _ _ ⟨HB2, ?_⟩
              replace HB := Lib.hid HB2
              clear hK K HB2
              refine wpAnyL_takeD (fun _ => True) (i := 21) (v := (.bool true)) (some 3) rfl rfl (by kernel_rfl) (by kernel_rfl) (by kernel_rfl) (fun _ _ _ h => h) (fun _ _ _ _ _ _ => trivial) (fun _ _ _ => Iff.rfl) trivial (Or.inl ⟨by rfl, fun w' hw' => by obtain ⟨l, _, hl, hl2⟩ := hw'; have k0 := hl.cellAt 0 rfl; have k1 := hl.cellAt 1 rfl; have k2 := hl.cellAt 2 rfl; have k3 := hl.cellAt 3 rfl; have k4 := hl.cellAt 4 rfl; have k5 := hl.cellAt 5 rfl; have m1 := hl2.cellAt 1 rfl; have m2 := hl2.cellAt 2 rfl; go_simp⟩) HB.out ?_
              simp only [Act.put, List.setIfInBounds_toArray, List.set_cons_zero, List.set_cons_succ]
              refine wpAnyL_done (by decide +kernel) ?_ _
              go_wp2
              refine bodyPost_ret (v := .tuple #[.agg #[.int .i64 (byte0 s), .int .i64 vv, .int .i64 qv, .int .i64 iv, .slice D1 q1 c1, .slice D2 q2 c2], .bool true]) (by simp [results, Try.results55, go_sem, r0, r1, r2, r3, r4, r5]) rfl ?_
              rw [HPAY.out]
              exact ⟨_, _, rfl, hdn.1, hdn.2.1, hdn.2.2⟩
            · have hce : (chkR ⟨byte0 s, vv, qv, iv, xs, ys⟩ == 0) = false := by simpa using hc
              have HPAY := Lib.hid (pay_eq (E := false) h HQ.out HR.out (by rw [hbe, hce]; rfl))
              clear HR hc he
              go_upto_region 16 with fail
              refine wp_region_L (fun _ w' => Blk w' gx 31 [.int .i64 (byte0 s), .int .i64 vv, .int .i64 qv, .int .i64 iv, .slice D1 q1 c1, .slice D2 q2 c2] ∧ Blk w' g 119 [.string s, .int .i64 ra, .bool false]) (by kernel_rfl) ?_
              replace hS := hS.drew
              generalize wc.drew = wy at *
              have HB : Hid (Blk wy gx 31 [.int .i64 (byte0 s), .int .i64 vv, .int .i64 qv, .int .i64 iv, .slice D1 q1 c1, .slice D2 q2 c2] ∧ Blk wy g 119 [.string s, .int .i64 ra, .bool false]) := ⟨hS.rc, hS.rdr⟩
              refine wpAnyL_takeD (fun _ => True) (i := 0) (v := (.agg #[.int .i64 (byte0 s), .int .i64 vv, .int .i64 qv, .int .i64 iv, .slice D1 q1 c1, .slice D2 q2 c2])) (some 81) rfl rfl (by kernel_rfl) (by kernel_rfl) (by kernel_rfl) (fun _ _ _ h => h) (fun _ _ _ _ _ _ => trivial) (fun _ _ _ => Iff.rfl) trivial (Or.inl ⟨by rfl, fun w' hw' => by obtain ⟨l, _, hl, hl2⟩ := hw'; have k0 := hl.cellAt 0 rfl; have k1 := hl.cellAt 1 rfl; have k2 := hl.cellAt 2 rfl; have k3 := hl.cellAt 3 rfl; have k4 := hl.cellAt 4 rfl; have k5 := hl.cellAt 5 rfl; have m1 := hl2.cellAt 1 rfl; have m2 := hl2.cellAt 2 rfl; go_simp⟩) HB.out ?_
              simp only [Act.put, List.setIfInBounds_toArray, List.set_cons_zero, List.set_cons_succ]
              refine wpAnyL_takeD (fun _ => True) (i := 1) (v := (.pointer (some ⟨g, 0, none⟩))) (some 82) rfl rfl (by kernel_rfl) (by kernel_rfl) (by kernel_rfl) (fun _ _ _ h => h) (fun _ _ _ _ _ _ => trivial) (fun _ _ _ => Iff.rfl) trivial (Or.inl ⟨by rfl, fun w' hw' => by obtain ⟨l, _, hl, hl2⟩ := hw'; have k0 := hl.cellAt 0 rfl; have k1 := hl.cellAt 1 rfl; have k2 := hl.cellAt 2 rfl; have k3 := hl.cellAt 3 rfl; have k4 := hl.cellAt 4 rfl; have k5 := hl.cellAt 5 rfl; have m1 := hl2.cellAt 1 rfl; have m2 := hl2.cellAt 2 rfl; go_simp⟩) HB.out ?_
              simp only [Act.put, List.setIfInBounds_toArray, List.set_cons_zero, List.set_cons_succ]
              refine wpAnyL_takeD (fun _ => True) (i := 2) (v := (.pointer (some ⟨g, 0, none⟩))) (some 83) rfl rfl (by kernel_rfl) (by kernel_rfl) (by kernel_rfl) (fun _ _ _ h => h) (fun _ _ _ _ _ _ => trivial) (fun _ _ _ => Iff.rfl) trivial (Or.inl ⟨by rfl, fun w' hw' => by obtain ⟨l, _, hl, hl2⟩ := hw'; have k0 := hl.cellAt 0 rfl; have k1 := hl.cellAt 1 rfl; have k2 := hl.cellAt 2 rfl; have k3 := hl.cellAt 3 rfl; have k4 := hl.cellAt 4 rfl; have k5 := hl.cellAt 5 rfl; have m1 := hl2.cellAt 1 rfl; have m2 := hl2.cellAt 2 rfl; go_simp⟩) HB.out ?_
              simp only [Act.put, List.setIfInBounds_toArray, List.set_cons_zero, List.set_cons_succ]
              refine wpAnyL_takeD (fun _ => True) (i := 3) (v := (.pointer (some ⟨g, 2, none⟩))) (some 84) rfl rfl (by kernel_rfl) (by kernel_rfl) (by kernel_rfl) (fun _ _ _ h => h) (fun _ _ _ _ _ _ => trivial) (fun _ _ _ => Iff.rfl) trivial (Or.inl ⟨by rfl, fun w' hw' => by obtain ⟨l, _, hl, hl2⟩ := hw'; have k0 := hl.cellAt 0 rfl; have k1 := hl.cellAt 1 rfl; have k2 := hl.cellAt 2 rfl; have k3 := hl.cellAt 3 rfl; have k4 := hl.cellAt 4 rfl; have k5 := hl.cellAt 5 rfl; have m1 := hl2.cellAt 1 rfl; have m2 := hl2.cellAt 2 rfl; go_simp⟩) HB.out ?_
              simp only [Act.put, List.setIfInBounds_toArray, List.set_cons_zero, List.set_cons_succ]
              refine wpAnyL_takeD (fun _ => True) (i := 4) (v := (.bool false)) (some 85) rfl rfl (by kernel_rfl) (by kernel_rfl) (by kernel_rfl) (fun _ _ _ h => h) (fun _ _ _ _ _ _ => trivial) (fun _ _ _ => Iff.rfl) trivial (Or.inl ⟨by rfl, fun w' hw' => by obtain ⟨l, _, hl, hl2⟩ := hw'; have k0 := hl.cellAt 0 rfl; have k1 := hl.cellAt 1 rfl; have k2 := hl.cellAt 2 rfl; have k3 := hl.cellAt 3 rfl; have k4 := hl.cellAt 4 rfl; have k5 := hl.cellAt 5 rfl; have m1 := hl2.cellAt 1 rfl; have m2 := hl2.cellAt 2 rfl; go_simp⟩) HB.out ?_
              simp only [Act.put, List.setIfInBounds_toArray, List.set_cons_zero, List.set_cons_succ]
              refine wpAnyL_takeD (fun _ => True) (i := 5) (v := (.bool true)) (some 86) rfl rfl (by kernel_rfl) (by kernel_rfl) (by kernel_rfl) (fun _ _ _ h => h) (fun _ _ _ _ _ _ => trivial) (fun _ _ _ => Iff.rfl) trivial (Or.inl ⟨by rfl, fun w' hw' => by obtain ⟨l, _, hl, hl2⟩ := hw'; have k0 := hl.cellAt 0 rfl; have k1 := hl.cellAt 1 rfl; have k2 := hl.cellAt 2 rfl; have k3 := hl.cellAt 3 rfl; have k4 := hl.cellAt 4 rfl; have k5 := hl.cellAt 5 rfl; have m1 := hl2.cellAt 1 rfl; have m2 := hl2.cellAt 2 rfl; go_simp⟩) HB.out ?_
              simp only [Act.put, List.setIfInBounds_toArray, List.set_cons_zero, List.set_cons_succ]
              refine wpAnyL_takeD (fun _ => True) (i := 6) (v := (.bool true)) (some 87) rfl rfl (by kernel_rfl) (by kernel_rfl) (by kernel_rfl) (fun _ _ _ h => h) (fun _ _ _ _ _ _ => trivial) (fun _ _ _ => Iff.rfl) trivial (Or.inl ⟨by rfl, fun w' hw' => by obtain ⟨l, _, hl, hl2⟩ := hw'; have k0 := hl.cellAt 0 rfl; have k1 := hl.cellAt 1 rfl; have k2 := hl.cellAt 2 rfl; have k3 := hl.cellAt 3 rfl; have k4 := hl.cellAt 4 rfl; have k5 := hl.cellAt 5 rfl; have m1 := hl2.cellAt 1 rfl; have m2 := hl2.cellAt 2 rfl; go_simp⟩) HB.out ?_
              simp only [Act.put, List.setIfInBounds_toArray, List.set_cons_zero, List.set_cons_succ]
              refine wpAnyL_takeD (fun _ => True) (i := 7) (v := (.pointer (some ⟨g, 0, none⟩))) (some 88) rfl rfl (by kernel_rfl) (by kernel_rfl) (by kernel_rfl) (fun _ _ _ h => h) (fun _ _ _ _ _ _ => trivial) (fun _ _ _ => Iff.rfl) trivial (Or.inl ⟨by rfl, fun w' hw' => by obtain ⟨l, _, hl, hl2⟩ := hw'; have k0 := hl.cellAt 0 rfl; have k1 := hl.cellAt 1 rfl; have k2 := hl.cellAt 2 rfl; have k3 := hl.cellAt 3 rfl; have k4 := hl.cellAt 4 rfl; have k5 := hl.cellAt 5 rfl; have m1 := hl2.cellAt 1 rfl; have m2 := hl2.cellAt 2 rfl; go_simp⟩) HB.out ?_
              simp only [Act.put, List.setIfInBounds_toArray, List.set_cons_zero, List.set_cons_succ]
              refine wpAnyL_takeD (fun _ => True) (i := 8) (v := (.pointer (some ⟨g, 0, none⟩))) (some 89) rfl rfl (by kernel_rfl) (by kernel_rfl) (by kernel_rfl) (fun _ _ _ h => h) (fun _ _ _ _ _ _ => trivial) (fun _ _ _ => Iff.rfl) trivial (Or.inl ⟨by rfl, fun w' hw' => by obtain ⟨l, _, hl, hl2⟩ := hw'; have k0 := hl.cellAt 0 rfl; have k1 := hl.cellAt 1 rfl; have k2 := hl.cellAt 2 rfl; have k3 := hl.cellAt 3 rfl; have k4 := hl.cellAt 4 rfl; have k5 := hl.cellAt 5 rfl; have m1 := hl2.cellAt 1 rfl; have m2 := hl2.cellAt 2 rfl; go_simp⟩) HB.out ?_
              simp only [Act.put, List.setIfInBounds_toArray, List.set_cons_zero, List.set_cons_succ]
              refine wpAnyL_takeD (fun _ => True) (i := 9) (v := (.pointer (some ⟨g, 1, none⟩))) (some 90) rfl rfl (by kernel_rfl) (by kernel_rfl) (by kernel_rfl) (fun _ _ _ h => h) (fun _ _ _ _ _ _ => trivial) (fun _ _ _ => Iff.rfl) trivial (Or.inl ⟨by rfl, fun w' hw' => by obtain ⟨l, _, hl, hl2⟩ := hw'; have k0 := hl.cellAt 0 rfl; have k1 := hl.cellAt 1 rfl; have k2 := hl.cellAt 2 rfl; have k3 := hl.cellAt 3 rfl; have k4 := hl.cellAt 4 rfl; have k5 := hl.cellAt 5 rfl; have m1 := hl2.cellAt 1 rfl; have m2 := hl2.cellAt 2 rfl; go_simp⟩) HB.out ?_
              simp only [Act.put, List.setIfInBounds_toArray, List.set_cons_zero, List.set_cons_succ]
              refine wpAnyL_takeD (fun _ => True) (i := 10) (v := (.int .i64 ra)) (some 91) rfl rfl (by kernel_rfl) (by kernel_rfl) (by kernel_rfl) (fun _ _ _ h => h) (fun _ _ _ _ _ _ => trivial) (fun _ _ _ => Iff.rfl) trivial (Or.inl ⟨by rfl, fun w' hw' => by obtain ⟨l, _, hl, hl2⟩ := hw'; have k0 := hl.cellAt 0 rfl; have k1 := hl.cellAt 1 rfl; have k2 := hl.cellAt 2 rfl; have k3 := hl.cellAt 3 rfl; have k4 := hl.cellAt 4 rfl; have k5 := hl.cellAt 5 rfl; have m1 := hl2.cellAt 1 rfl; have m2 := hl2.cellAt 2 rfl; go_simp⟩) HB.out ?_
              simp only [Act.put, List.setIfInBounds_toArray, List.set_cons_zero, List.set_cons_succ]
              refine wpAnyL_takeD (fun _ => True) (i := 11) (v := (.string s)) (some 92) rfl rfl (by kernel_rfl) (by kernel_rfl) (by kernel_rfl) (fun _ _ _ h => h) (fun _ _ _ _ _ _ => trivial) (fun _ _ _ => Iff.rfl) trivial (Or.inl ⟨by rfl, fun w' hw' => by obtain ⟨l, _, hl, hl2⟩ := hw'; have k0 := hl.cellAt 0 rfl; have k1 := hl.cellAt 1 rfl; have k2 := hl.cellAt 2 rfl; have k3 := hl.cellAt 3 rfl; have k4 := hl.cellAt 4 rfl; have k5 := hl.cellAt 5 rfl; have m1 := hl2.cellAt 1 rfl; have m2 := hl2.cellAt 2 rfl; go_simp⟩) HB.out ?_
              simp only [Act.put, List.setIfInBounds_toArray, List.set_cons_zero, List.set_cons_succ]
              refine wpAnyL_takeD (fun _ => True) (i := 12) (v := (.int .i64 (s.size : Int))) (some 93) rfl rfl (by kernel_rfl) (by kernel_rfl) (by kernel_rfl) (fun _ _ _ h => h) (fun _ _ _ _ _ _ => trivial) (fun _ _ _ => Iff.rfl) trivial (Or.inl ⟨by rfl, fun w' hw' => by obtain ⟨l, _, hl, hl2⟩ := hw'; have k0 := hl.cellAt 0 rfl; have k1 := hl.cellAt 1 rfl; have k2 := hl.cellAt 2 rfl; have k3 := hl.cellAt 3 rfl; have k4 := hl.cellAt 4 rfl; have k5 := hl.cellAt 5 rfl; have m1 := hl2.cellAt 1 rfl; have m2 := hl2.cellAt 2 rfl; go_simp⟩) HB.out ?_
              simp only [Act.put, List.setIfInBounds_toArray, List.set_cons_zero, List.set_cons_succ]
              refine wpAnyL_takeD (fun _ => True) (i := 13) (v := (.bool true)) (some 94) rfl rfl (by kernel_rfl) (by kernel_rfl) (by kernel_rfl) (fun _ _ _ h => h) (fun _ _ _ _ _ _ => trivial) (fun _ _ _ => Iff.rfl) trivial (Or.inl ⟨by rfl, fun w' hw' => by obtain ⟨l, _, hl, hl2⟩ := hw'; have k0 := hl.cellAt 0 rfl; have k1 := hl.cellAt 1 rfl; have k2 := hl.cellAt 2 rfl; have k3 := hl.cellAt 3 rfl; have k4 := hl.cellAt 4 rfl; have k5 := hl.cellAt 5 rfl; have m1 := hl2.cellAt 1 rfl; have m2 := hl2.cellAt 2 rfl; go_simp⟩) HB.out ?_
              simp only [Act.put, List.setIfInBounds_toArray, List.set_cons_zero, List.set_cons_succ]
              refine wpAnyL_takeD (fun _ => True) (i := 14) (v := (.bool true)) (some 95) rfl rfl (by kernel_rfl) (by kernel_rfl) (by kernel_rfl) (fun _ _ _ h => h) (fun _ _ _ _ _ _ => trivial) (fun _ _ _ => Iff.rfl) trivial (Or.inl ⟨by rfl, fun w' hw' => by obtain ⟨l, _, hl, hl2⟩ := hw'; have k0 := hl.cellAt 0 rfl; have k1 := hl.cellAt 1 rfl; have k2 := hl.cellAt 2 rfl; have k3 := hl.cellAt 3 rfl; have k4 := hl.cellAt 4 rfl; have k5 := hl.cellAt 5 rfl; have m1 := hl2.cellAt 1 rfl; have m2 := hl2.cellAt 2 rfl; go_simp⟩) HB.out ?_
              simp only [Act.put, List.setIfInBounds_toArray, List.set_cons_zero, List.set_cons_succ]
              refine wpAnyL_takeD (fun _ => True) (i := 15) (v := (.bool true)) (some 96) rfl rfl (by kernel_rfl) (by kernel_rfl) (by kernel_rfl) (fun _ _ _ h => h) (fun _ _ _ _ _ _ => trivial) (fun _ _ _ => Iff.rfl) trivial (Or.inl ⟨by rfl, fun w' hw' => by obtain ⟨l, _, hl, hl2⟩ := hw'; have k0 := hl.cellAt 0 rfl; have k1 := hl.cellAt 1 rfl; have k2 := hl.cellAt 2 rfl; have k3 := hl.cellAt 3 rfl; have k4 := hl.cellAt 4 rfl; have k5 := hl.cellAt 5 rfl; have m1 := hl2.cellAt 1 rfl; have m2 := hl2.cellAt 2 rfl; go_simp⟩) HB.out ?_
              simp only [Act.put, List.setIfInBounds_toArray, List.set_cons_zero, List.set_cons_succ]
              refine wpAnyL_takeD (fun _ => True) (i := 16) (v := (.agg #[.int .i64 (byte0 s), .int .i64 vv, .int .i64 qv, .int .i64 iv, .slice D1 q1 c1, .slice D2 q2 c2])) (some 97) rfl rfl (by kernel_rfl) (by kernel_rfl) (by kernel_rfl) (fun _ _ _ h => h) (fun _ _ _ _ _ _ => trivial) (fun _ _ _ => Iff.rfl) trivial (Or.inl ⟨by rfl, fun w' hw' => by obtain ⟨l, _, hl, hl2⟩ := hw'; have k0 := hl.cellAt 0 rfl; have k1 := hl.cellAt 1 rfl; have k2 := hl.cellAt 2 rfl; have k3 := hl.cellAt 3 rfl; have k4 := hl.cellAt 4 rfl; have k5 := hl.cellAt 5 rfl; have m1 := hl2.cellAt 1 rfl; have m2 := hl2.cellAt 2 rfl; go_simp⟩) HB.out ?_
              simp only [Act.put, List.setIfInBounds_toArray, List.set_cons_zero, List.set_cons_succ]
              have HK := Lib.hid (rcheck_any ⟨byte0 s, vv, qv, iv, xs, ys⟩ D1 q1 c1 D2 q2 c2 wy (rcat hS (by have := hlx.out; omega) (by have := hlm.out; omega)))
              refine wpAnyL_one (i := 17) (by decide +kernel) ?_
              refine wpOp_go (o := _) rfl (fun K hK => ?_)
              go_simp
              go_at_call 27
              refine HK.out.mono ?_; rintro _ wz ⟨rfl, hbz⟩
              replace hS := hS.call hbz
              replace HB : Hid (Blk wz gx 31 [.int .i64 (byte0 s), .int .i64 vv, .int .i64 qv, .int .i64 iv, .slice D1 q1 c1, .slice D2 q2 c2] ∧ Blk wz g 119 [.string s, .int .i64 ra, .bool false]) := ⟨hS.rc, hS.rdr⟩
              refine hK _ _ ⟨HB.out, ?_⟩
              clear hK K hbz HK
              generalize wz = wy at *
              refine wpAnyL_takeD (fun _ => True) (i := 18) (v := (.bool false)) (some 99) rfl rfl (by kernel_rfl) (by kernel_rfl) (by kernel_rfl) (fun _ _ _ h => h) (fun _ _ _ _ _ _ => trivial) (fun _ _ _ => Iff.rfl) trivial (Or.inl ⟨by rfl, fun w' hw' => by obtain ⟨l, _, hl, hl2⟩ := hw'; have k0 := hl.cellAt 0 rfl; have k1 := hl.cellAt 1 rfl; have k2 := hl.cellAt 2 rfl; have k3 := hl.cellAt 3 rfl; have k4 := hl.cellAt 4 rfl; have k5 := hl.cellAt 5 rfl; have m1 := hl2.cellAt 1 rfl; have m2 := hl2.cellAt 2 rfl; go_simp⟩) HB.out ?_
              simp only [Act.put, List.setIfInBounds_toArray, List.set_cons_zero, List.set_cons_succ]
              refine wpAnyL_takeD (fun _ => True) (i := 19) (v := (.bool false)) (some 100) rfl rfl (by kernel_rfl) (by kernel_rfl) (by kernel_rfl) (fun _ _ _ h => h) (fun _ _ _ _ _ _ => trivial) (fun _ _ _ => Iff.rfl) trivial (Or.inl ⟨by rfl, fun w' hw' => by obtain ⟨l, _, hl, hl2⟩ := hw'; have k0 := hl.cellAt 0 rfl; have k1 := hl.cellAt 1 rfl; have k2 := hl.cellAt 2 rfl; have k3 := hl.cellAt 3 rfl; have k4 := hl.cellAt 4 rfl; have k5 := hl.cellAt 5 rfl; have m1 := hl2.cellAt 1 rfl; have m2 := hl2.cellAt 2 rfl; go_simp⟩) HB.out ?_
              simp only [Act.put, List.setIfInBounds_toArray, List.set_cons_zero, List.set_cons_succ]
              have r0 := hS.res.cellAt 0 rfl
              have r1 := hS.res.cellAt 1 rfl
              have r2 := hS.res.cellAt 2 rfl
              have r3 := hS.res.cellAt 3 rfl
              have r4 := hS.res.cellAt 4 rfl
              have r5 := hS.res.cellAt 5 rfl
              have rf := hS.res.frozen
              have hdn := DS.done (r := ⟨byte0 s, vv, qv, iv, xs, ys⟩) hS (.int .i64 (byte0 s)) (.int .i64 vv) (.int .i64 qv) (.int .i64 iv) (.slice D1 q1 c1) (.slice D2 q2 c2)
              have HB2 := done_blk hS (.int .i64 (byte0 s)) (.int .i64 vv) (.int .i64 qv) (.int .i64 iv) (.slice D1 q1 c1) (.slice D2 q2 c2)
              refine wpAnyL_one (i := 20) (by decide +kernel) ?_
              refine wpOp_go (o := _) rfl (fun K hK => ?_)
              go_simp
              refine hK _ _ ⟨HB2, ?_⟩
              replace HB := Lib.hid HB2
              clear hK K HB2
              refine wpAnyL_takeD (fun _ => True) (i := 21) (v := (.bool false)) (some 3) rfl rfl (by kernel_rfl) (by kernel_rfl) (by kernel_rfl) (fun _ _ _ h => h) (fun _ _ _ _ _ _ => trivial) (fun _ _ _ => Iff.rfl) trivial (Or.inl ⟨by rfl, fun w' hw' => by obtain ⟨l, _, hl, hl2⟩ := hw'; have k0 := hl.cellAt 0 rfl; have k1 := hl.cellAt 1 rfl; have k2 := hl.cellAt 2 rfl; have k3 := hl.cellAt 3 rfl; have k4 := hl.cellAt 4 rfl; have k5 := hl.cellAt 5 rfl; have m1 := hl2.cellAt 1 rfl; have m2 := hl2.cellAt 2 rfl; go_simp⟩) HB.out ?_
              simp only [Act.put, List.setIfInBounds_toArray, List.set_cons_zero, List.set_cons_succ]
              refine wpAnyL_done (by decide +kernel) ?_ _
              go_wp2
              refine bodyPost_ret (v := .tuple #[.agg #[.int .i64 (byte0 s), .int .i64 vv, .int .i64 qv, .int .i64 iv, .slice D1 q1 c1, .slice D2 q2 c2], .bool false]) (by simp [results, Try.results55, go_sem, r0, r1, r2, r3, r4, r5]) rfl ?_
              rw [HPAY.out]
              exact ⟨_, _, rfl, hdn.1, hdn.2.1, hdn.2.2⟩
          · have hbe : (ra == (s.size : Int)) = false := by simpa using he
            have HPAY := Lib.hid (pay_eq (E := false) h HQ.out HR.out (by rw [hbe]; rfl))
            clear HR he
            go_upto_region 16 with fail
            refine wp_region_L (fun _ w' => Blk w' gx 31 [.int .i64 (byte0 s), .int .i64 vv, .int .i64 qv, .int .i64 iv, .slice D1 q1 c1, .slice D2 q2 c2] ∧ Blk w' g 119 [.string s, .int .i64 ra, .bool false]) (by kernel_rfl) ?_
            replace hS := hS.drew
            generalize wc.drew = wy at *
            have HB : Hid (Blk wy gx 31 [.int .i64 (byte0 s), .int .i64 vv, .int .i64 qv, .int .i64 iv, .slice D1 q1 c1, .slice D2 q2 c2] ∧ Blk wy g 119 [.string s, .int .i64 ra, .bool false]) := ⟨hS.rc, hS.rdr⟩
            refine wpAnyL_takeD (fun _ => True) (i := 0) (v := (.agg #[.int .i64 (byte0 s), .int .i64 vv, .int .i64 qv, .int .i64 iv, .slice D1 q1 c1, .slice D2 q2 c2])) (some 81) rfl rfl (by kernel_rfl) (by kernel_rfl) (by kernel_rfl) (fun _ _ _ h => h) (fun _ _ _ _ _ _ => trivial) (fun _ _ _ => Iff.rfl) trivial (Or.inl ⟨by rfl, fun w' hw' => by obtain ⟨l, _, hl, hl2⟩ := hw'; have k0 := hl.cellAt 0 rfl; have k1 := hl.cellAt 1 rfl; have k2 := hl.cellAt 2 rfl; have k3 := hl.cellAt 3 rfl; have k4 := hl.cellAt 4 rfl; have k5 := hl.cellAt 5 rfl; have m1 := hl2.cellAt 1 rfl; have m2 := hl2.cellAt 2 rfl; go_simp⟩) HB.out ?_
            simp only [Act.put, List.setIfInBounds_toArray, List.set_cons_zero, List.set_cons_succ]
            refine wpAnyL_takeD (fun _ => True) (i := 1) (v := (.pointer (some ⟨g, 0, none⟩))) (some 82) rfl rfl (by kernel_rfl) (by kernel_rfl) (by kernel_rfl) (fun _ _ _ h => h) (fun _ _ _ _ _ _ => trivial) (fun _ _ _ => Iff.rfl) trivial (Or.inl ⟨by rfl, fun w' hw' => by obtain ⟨l, _, hl, hl2⟩ := hw'; have k0 := hl.cellAt 0 rfl; have k1 := hl.cellAt 1 rfl; have k2 := hl.cellAt 2 rfl; have k3 := hl.cellAt 3 rfl; have k4 := hl.cellAt 4 rfl; have k5 := hl.cellAt 5 rfl; have m1 := hl2.cellAt 1 rfl; have m2 := hl2.cellAt 2 rfl; go_simp⟩) HB.out ?_
            simp only [Act.put, List.setIfInBounds_toArray, List.set_cons_zero, List.set_cons_succ]
            refine wpAnyL_takeD (fun _ => True) (i := 2) (v := (.pointer (some ⟨g, 0, none⟩))) (some 83) rfl rfl (by kernel_rfl) (by kernel_rfl) (by kernel_rfl) (fun _ _ _ h => h) (fun _ _ _ _ _ _ => trivial) (fun _ _ _ => Iff.rfl) trivial (Or.inl ⟨by rfl, fun w' hw' => by obtain ⟨l, _, hl, hl2⟩ := hw'; have k0 := hl.cellAt 0 rfl; have k1 := hl.cellAt 1 rfl; have k2 := hl.cellAt 2 rfl; have k3 := hl.cellAt 3 rfl; have k4 := hl.cellAt 4 rfl; have k5 := hl.cellAt 5 rfl; have m1 := hl2.cellAt 1 rfl; have m2 := hl2.cellAt 2 rfl; go_simp⟩) HB.out ?_
            simp only [Act.put, List.setIfInBounds_toArray, List.set_cons_zero, List.set_cons_succ]
            refine wpAnyL_takeD (fun _ => True) (i := 3) (v := (.pointer (some ⟨g, 2, none⟩))) (some 84) rfl rfl (by kernel_rfl) (by kernel_rfl) (by kernel_rfl) (fun _ _ _ h => h) (fun _ _ _ _ _ _ => trivial) (fun _ _ _ => Iff.rfl) trivial (Or.inl ⟨by rfl, fun w' hw' => by obtain ⟨l, _, hl, hl2⟩ := hw'; have k0 := hl.cellAt 0 rfl; have k1 := hl.cellAt 1 rfl; have k2 := hl.cellAt 2 rfl; have k3 := hl.cellAt 3 rfl; have k4 := hl.cellAt 4 rfl; have k5 := hl.cellAt 5 rfl; have m1 := hl2.cellAt 1 rfl; have m2 := hl2.cellAt 2 rfl; go_simp⟩) HB.out ?_
            simp only [Act.put, List.setIfInBounds_toArray, List.set_cons_zero, List.set_cons_succ]
            refine wpAnyL_takeD (fun _ => True) (i := 4) (v := (.bool false)) (some 85) rfl rfl (by kernel_rfl) (by kernel_rfl) (by kernel_rfl) (fun _ _ _ h => h) (fun _ _ _ _ _ _ => trivial) (fun _ _ _ => Iff.rfl) trivial (Or.inl ⟨by rfl, fun w' hw' => by obtain ⟨l, _, hl, hl2⟩ := hw'; have k0 := hl.cellAt 0 rfl; have k1 := hl.cellAt 1 rfl; have k2 := hl.cellAt 2 rfl; have k3 := hl.cellAt 3 rfl; have k4 := hl.cellAt 4 rfl; have k5 := hl.cellAt 5 rfl; have m1 := hl2.cellAt 1 rfl; have m2 := hl2.cellAt 2 rfl; go_simp⟩) HB.out ?_
            simp only [Act.put, List.setIfInBounds_toArray, List.set_cons_zero, List.set_cons_succ]
            refine wpAnyL_takeD (fun _ => True) (i := 5) (v := (.bool true)) (some 86) rfl rfl (by kernel_rfl) (by kernel_rfl) (by kernel_rfl) (fun _ _ _ h => h) (fun _ _ _ _ _ _ => trivial) (fun _ _ _ => Iff.rfl) trivial (Or.inl ⟨by rfl, fun w' hw' => by obtain ⟨l, _, hl, hl2⟩ := hw'; have k0 := hl.cellAt 0 rfl; have k1 := hl.cellAt 1 rfl; have k2 := hl.cellAt 2 rfl; have k3 := hl.cellAt 3 rfl; have k4 := hl.cellAt 4 rfl; have k5 := hl.cellAt 5 rfl; have m1 := hl2.cellAt 1 rfl; have m2 := hl2.cellAt 2 rfl; go_simp⟩) HB.out ?_
            simp only [Act.put, List.setIfInBounds_toArray, List.set_cons_zero, List.set_cons_succ]
            refine wpAnyL_takeD (fun _ => True) (i := 6) (v := (.bool true)) (some 87) rfl rfl (by kernel_rfl) (by kernel_rfl) (by kernel_rfl) (fun _ _ _ h => h) (fun _ _ _ _ _ _ => trivial) (fun _ _ _ => Iff.rfl) trivial (Or.inl ⟨by rfl, fun w' hw' => by obtain ⟨l, _, hl, hl2⟩ := hw'; have k0 := hl.cellAt 0 rfl; have k1 := hl.cellAt 1 rfl; have k2 := hl.cellAt 2 rfl; have k3 := hl.cellAt 3 rfl; have k4 := hl.cellAt 4 rfl; have k5 := hl.cellAt 5 rfl; have m1 := hl2.cellAt 1 rfl; have m2 := hl2.cellAt 2 rfl; go_simp⟩) HB.out ?_
            simp only [Act.put, List.setIfInBounds_toArray, List.set_cons_zero, List.set_cons_succ]
            refine wpAnyL_takeD (fun _ => True) (i := 7) (v := (.pointer (some ⟨g, 0, none⟩))) (some 88) rfl rfl (by kernel_rfl) (by kernel_rfl) (by kernel_rfl) (fun _ _ _ h => h) (fun _ _ _ _ _ _ => trivial) (fun _ _ _ => Iff.rfl) trivial (Or.inl ⟨by rfl, fun w' hw' => by obtain ⟨l, _, hl, hl2⟩ := hw'; have k0 := hl.cellAt 0 rfl; have k1 := hl.cellAt 1 rfl; have k2 := hl.cellAt 2 rfl; have k3 := hl.cellAt 3 rfl; have k4 := hl.cellAt 4 rfl; have k5 := hl.cellAt 5 rfl; have m1 := hl2.cellAt 1 rfl; have m2 := hl2.cellAt 2 rfl; go_simp⟩) HB.out ?_
            simp only [Act.put, List.setIfInBounds_toArray, List.set_cons_zero, List.set_cons_succ]
            refine wpAnyL_takeD (fun _ => True) (i := 8) (v := (.pointer (some ⟨g, 0, none⟩))) (some 89) rfl rfl (by kernel_rfl) (by kernel_rfl) (by kernel_rfl) (fun _ _ _ h => h) (fun _ _ _ _ _ _ => trivial) (fun _ _ _ => Iff.rfl) trivial (Or.inl ⟨by rfl, fun w' hw' => by obtain ⟨l, _, hl, hl2⟩ := hw'; have k0 := hl.cellAt 0 rfl; have k1 := hl.cellAt 1 rfl; have k2 := hl.cellAt 2 rfl; have k3 := hl.cellAt 3 rfl; have k4 := hl.cellAt 4 rfl; have k5 := hl.cellAt 5 rfl; have m1 := hl2.cellAt 1 rfl; have m2 := hl2.cellAt 2 rfl; go_simp⟩) HB.out ?_
            simp only [Act.put, List.setIfInBounds_toArray, List.set_cons_zero, List.set_cons_succ]
            refine wpAnyL_takeD (fun _ => True) (i := 9) (v := (.pointer (some ⟨g, 1, none⟩))) (some 90) rfl rfl (by kernel_rfl) (by kernel_rfl) (by kernel_rfl) (fun _ _ _ h => h) (fun _ _ _ _ _ _ => trivial) (fun _ _ _ => Iff.rfl) trivial (Or.inl ⟨by rfl, fun w' hw' => by obtain ⟨l, _, hl, hl2⟩ := hw'; have k0 := hl.cellAt 0 rfl; have k1 := hl.cellAt 1 rfl; have k2 := hl.cellAt 2 rfl; have k3 := hl.cellAt 3 rfl; have k4 := hl.cellAt 4 rfl; have k5 := hl.cellAt 5 rfl; have m1 := hl2.cellAt 1 rfl; have m2 := hl2.cellAt 2 rfl; go_simp⟩) HB.out ?_
            simp only [Act.put, List.setIfInBounds_toArray, List.set_cons_zero, List.set_cons_succ]
            refine wpAnyL_takeD (fun _ => True) (i := 10) (v := (.int .i64 ra)) (some 91) rfl rfl (by kernel_rfl) (by kernel_rfl) (by kernel_rfl) (fun _ _ _ h => h) (fun _ _ _ _ _ _ => trivial) (fun _ _ _ => Iff.rfl) trivial (Or.inl ⟨by rfl, fun w' hw' => by obtain ⟨l, _, hl, hl2⟩ := hw'; have k0 := hl.cellAt 0 rfl; have k1 := hl.cellAt 1 rfl; have k2 := hl.cellAt 2 rfl; have k3 := hl.cellAt 3 rfl; have k4 := hl.cellAt 4 rfl; have k5 := hl.cellAt 5 rfl; have m1 := hl2.cellAt 1 rfl; have m2 := hl2.cellAt 2 rfl; go_simp⟩) HB.out ?_
            simp only [Act.put, List.setIfInBounds_toArray, List.set_cons_zero, List.set_cons_succ]
            refine wpAnyL_takeD (fun _ => True) (i := 11) (v := (.string s)) (some 92) rfl rfl (by kernel_rfl) (by kernel_rfl) (by kernel_rfl) (fun _ _ _ h => h) (fun _ _ _ _ _ _ => trivial) (fun _ _ _ => Iff.rfl) trivial (Or.inl ⟨by rfl, fun w' hw' => by obtain ⟨l, _, hl, hl2⟩ := hw'; have k0 := hl.cellAt 0 rfl; have k1 := hl.cellAt 1 rfl; have k2 := hl.cellAt 2 rfl; have k3 := hl.cellAt 3 rfl; have k4 := hl.cellAt 4 rfl; have k5 := hl.cellAt 5 rfl; have m1 := hl2.cellAt 1 rfl; have m2 := hl2.cellAt 2 rfl; go_simp⟩) HB.out ?_
            simp only [Act.put, List.setIfInBounds_toArray, List.set_cons_zero, List.set_cons_succ]
            refine wpAnyL_takeD (fun _ => True) (i := 12) (v := (.int .i64 (s.size : Int))) (some 93) rfl rfl (by kernel_rfl) (by kernel_rfl) (by kernel_rfl) (fun _ _ _ h => h) (fun _ _ _ _ _ _ => trivial) (fun _ _ _ => Iff.rfl) trivial (Or.inl ⟨by rfl, fun w' hw' => by obtain ⟨l, _, hl, hl2⟩ := hw'; have k0 := hl.cellAt 0 rfl; have k1 := hl.cellAt 1 rfl; have k2 := hl.cellAt 2 rfl; have k3 := hl.cellAt 3 rfl; have k4 := hl.cellAt 4 rfl; have k5 := hl.cellAt 5 rfl; have m1 := hl2.cellAt 1 rfl; have m2 := hl2.cellAt 2 rfl; go_simp⟩) HB.out ?_
            simp only [Act.put, List.setIfInBounds_toArray, List.set_cons_zero, List.set_cons_succ]
            refine wpAnyL_takeD (fun _ => True) (i := 13) (v := (.bool false)) (some 94) rfl rfl (by kernel_rfl) (by kernel_rfl) (by kernel_rfl) (fun _ _ _ h => h) (fun _ _ _ _ _ _ => trivial) (fun _ _ _ => Iff.rfl) trivial (Or.inl ⟨by rfl, fun w' hw' => by obtain ⟨l, _, hl, hl2⟩ := hw'; have k0 := hl.cellAt 0 rfl; have k1 := hl.cellAt 1 rfl; have k2 := hl.cellAt 2 rfl; have k3 := hl.cellAt 3 rfl; have k4 := hl.cellAt 4 rfl; have k5 := hl.cellAt 5 rfl; have m1 := hl2.cellAt 1 rfl; have m2 := hl2.cellAt 2 rfl; go_simp⟩) HB.out ?_
            simp only [Act.put, List.setIfInBounds_toArray, List.set_cons_zero, List.set_cons_succ]
            refine wpAnyL_takeD (fun _ => True) (i := 14) (v := (.bool false)) (some 95) rfl rfl (by kernel_rfl) (by kernel_rfl) (by kernel_rfl) (fun _ _ _ h => h) (fun _ _ _ _ _ _ => trivial) (fun _ _ _ => Iff.rfl) trivial (Or.inl ⟨by rfl, fun w' hw' => by obtain ⟨l, _, hl, hl2⟩ := hw'; have k0 := hl.cellAt 0 rfl; have k1 := hl.cellAt 1 rfl; have k2 := hl.cellAt 2 rfl; have k3 := hl.cellAt 3 rfl; have k4 := hl.cellAt 4 rfl; have k5 := hl.cellAt 5 rfl; have m1 := hl2.cellAt 1 rfl; have m2 := hl2.cellAt 2 rfl; go_simp⟩) HB.out ?_
            simp only [Act.put, List.setIfInBounds_toArray, List.set_cons_zero, List.set_cons_succ]
            refine wpAnyL_takeD (fun _ => True) (i := 15) (v := (.bool false)) (some 96) rfl rfl (by kernel_rfl) (by kernel_rfl) (by kernel_rfl) (fun _ _ _ h => h) (fun _ _ _ _ _ _ => trivial) (fun _ _ _ => Iff.rfl) trivial (Or.inl ⟨by rfl, fun w' hw' => by obtain ⟨l, _, hl, hl2⟩ := hw'; have k0 := hl.cellAt 0 rfl; have k1 := hl.cellAt 1 rfl; have k2 := hl.cellAt 2 rfl; have k3 := hl.cellAt 3 rfl; have k4 := hl.cellAt 4 rfl; have k5 := hl.cellAt 5 rfl; have m1 := hl2.cellAt 1 rfl; have m2 := hl2.cellAt 2 rfl; go_simp⟩) HB.out ?_
            simp only [Act.put, List.setIfInBounds_toArray, List.set_cons_zero, List.set_cons_succ]
            refine wpAnyL_takeD (fun _ => True) (i := 16) (v := undef) (some 97) rfl rfl (by kernel_rfl) (by kernel_rfl) (by kernel_rfl) (fun _ _ _ h => h) (fun _ _ _ _ _ _ => trivial) (fun _ _ _ => Iff.rfl) trivial (Or.inr ⟨by rfl, rfl⟩) HB.out ?_
            simp only [Act.put, List.setIfInBounds_toArray, List.set_cons_zero, List.set_cons_succ]
            refine wpAnyL_takeD (fun _ => True) (i := 17) (v := undef) (some 98) rfl rfl (by kernel_rfl) (by kernel_rfl) (by kernel_rfl) (fun _ _ _ h => h) (fun _ _ _ _ _ _ => trivial) (fun _ _ _ => Iff.rfl) trivial (Or.inr ⟨by rfl, rfl⟩) HB.out ?_
            simp only [Act.put, List.setIfInBounds_toArray, List.set_cons_zero, List.set_cons_succ]
            refine wpAnyL_takeD (fun _ => True) (i := 18) (v := undef) (some 99) rfl rfl (by kernel_rfl) (by kernel_rfl) (by kernel_rfl) (fun _ _ _ h => h) (fun _ _ _ _ _ _ => trivial) (fun _ _ _ => Iff.rfl) trivial (Or.inr ⟨by rfl, rfl⟩) HB.out ?_
            simp only [Act.put, List.setIfInBounds_toArray, List.set_cons_zero, List.set_cons_succ]
            refine wpAnyL_takeD (fun _ => True) (i := 19) (v := (.bool false)) (some 100) rfl rfl (by kernel_rfl) (by kernel_rfl) (by kernel_rfl) (fun _ _ _ h => h) (fun _ _ _ _ _ _ => trivial) (fun _ _ _ => Iff.rfl) trivial (Or.inl ⟨by rfl, fun w' hw' => by obtain ⟨l, _, hl, hl2⟩ := hw'; have k0 := hl.cellAt 0 rfl; have k1 := hl.cellAt 1 rfl; have k2 := hl.cellAt 2 rfl; have k3 := hl.cellAt 3 rfl; have k4 := hl.cellAt 4 rfl; have k5 := hl.cellAt 5 rfl; have m1 := hl2.cellAt 1 rfl; have m2 := hl2.cellAt 2 rfl; go_simp⟩) HB.out ?_
            simp only [Act.put, List.setIfInBounds_toArray, List.set_cons_zero, List.set_cons_succ]
            have r0 := hS.res.cellAt 0 rfl
            have r1 := hS.res.cellAt 1 rfl
            have r2 := hS.res.cellAt 2 rfl
            have r3 := hS.res.cellAt 3 rfl
            have r4 := hS.res.cellAt 4 rfl
            have r5 := hS.res.cellAt 5 rfl
            have rf := hS.res.frozen
            have hdn := DS.done (r := ⟨byte0 s, vv, qv, iv, xs, ys⟩) hS (.int .i64 (byte0 s)) (.int .i64 vv) (.int .i64 qv) (.int .i64 iv) (.slice D1 q1 c1) (.slice D2 q2 c2)
            have HB2 := done_blk hS (.int .i64 (byte0 s)) (.int .i64 vv) (.int .i64 qv) (.int .i64 iv) (.slice D1 q1 c1) (.slice D2 q2 c2)
            refine wpAnyL_one (i := 20) (by decide +kernel) ?_
            refine wpOp_go (o := _) rfl (fun K hK => ?_)
            go_simp
            refine hK _ _ ⟨HB2, ?_⟩
            replace HB := Lib.hid HB2
            clear hK K HB2
            refine wpAnyL_takeD (fun _ => True) (i := 21) (v := (.bool false)) (some 3) rfl rfl (by kernel_rfl) (by kernel_rfl) (by kernel_rfl) (fun _ _ _ h => h) (fun _ _ _ _ _ _ => trivial) (fun _ _ _ => Iff.rfl) trivial (Or.inl ⟨by rfl, fun w' hw' => by obtain ⟨l, _, hl, hl2⟩ := hw'; have k0 := hl.cellAt 0 rfl; have k1 := hl.cellAt 1 rfl; have k2 := hl.cellAt 2 rfl; have k3 := hl.cellAt 3 rfl; have k4 := hl.cellAt 4 rfl; have k5 := hl.cellAt 5 rfl; have m1 := hl2.cellAt 1 rfl; have m2 := hl2.cellAt 2 rfl; go_simp⟩) HB.out ?_
            simp only [Act.put, List.setIfInBounds_toArray, List.set_cons_zero, List.set_cons_succ]
            refine wpAnyL_done (by decide +kernel) ?_ _
            go_wp2
            refine bodyPost_ret (v := .tuple #[.agg #[.int .i64 (byte0 s), .int .i64 vv, .int .i64 qv, .int .i64 iv, .slice D1 q1 c1, .slice D2 q2 c2], .bool false]) (by simp [results, Try.results55, go_sem, r0, r1, r2, r3, r4, r5]) rfl ?_
            rw [HPAY.out]
            exact ⟨_, _, rfl, hdn.1, hdn.2.1, hdn.2.2⟩
        · have HPAY := Lib.hid (pay_eq (E := false) h HQ.out HR.out rfl)
          clear HR
          go_upto_region 16 with fail
          refine wp_region_L (fun _ w' => Blk w' gx 31 [.int .i64 (byte0 s), .int .i64 vv, .int .i64 qv, .int .i64 iv, .slice D1 q1 c1, .slice D2 q2 c2] ∧ Blk w' g 119 [.string s, .int .i64 ra, .bool true]) (by kernel_rfl) ?_
          replace hS := hS.drew
          generalize wc.drew = wy at *
          have HB : Hid (Blk wy gx 31 [.int .i64 (byte0 s), .int .i64 vv, .int .i64 qv, .int .i64 iv, .slice D1 q1 c1, .slice D2 q2 c2] ∧ Blk wy g 119 [.string s, .int .i64 ra, .bool true]) := ⟨hS.rc, hS.rdr⟩
          refine wpAnyL_takeD (fun _ => True) (i := 0) (v := (.agg #[.int .i64 (byte0 s), .int .i64 vv, .int .i64 qv, .int .i64 iv, .slice D1 q1 c1, .slice D2 q2 c2])) (some 81) rfl rfl (by kernel_rfl) (by kernel_rfl) (by kernel_rfl) (fun _ _ _ h => h) (fun _ _ _ _ _ _ => trivial) (fun _ _ _ => Iff.rfl) trivial (Or.inl ⟨by rfl, fun w' hw' => by obtain ⟨l, _, hl, hl2⟩ := hw'; have k0 := hl.cellAt 0 rfl; have k1 := hl.cellAt 1 rfl; have k2 := hl.cellAt 2 rfl; have k3 := hl.cellAt 3 rfl; have k4 := hl.cellAt 4 rfl; have k5 := hl.cellAt 5 rfl; have m1 := hl2.cellAt 1 rfl; have m2 := hl2.cellAt 2 rfl; go_simp⟩) HB.out ?_
          simp only [Act.put, List.setIfInBounds_toArray, List.set_cons_zero, List.set_cons_succ]
          refine wpAnyL_takeD (fun _ => True) (i := 1) (v := (.pointer (some ⟨g, 0, none⟩))) (some 82) rfl rfl (by kernel_rfl) (by kernel_rfl) (by kernel_rfl) (fun _ _ _ h => h) (fun _ _ _ _ _ _ => trivial) (fun _ _ _ => Iff.rfl) trivial (Or.inl ⟨by rfl, fun w' hw' => by obtain ⟨l, _, hl, hl2⟩ := hw'; have k0 := hl.cellAt 0 rfl; have k1 := hl.cellAt 1 rfl; have k2 := hl.cellAt 2 rfl; have k3 := hl.cellAt 3 rfl; have k4 := hl.cellAt 4 rfl; have k5 := hl.cellAt 5 rfl; have m1 := hl2.cellAt 1 rfl; have m2 := hl2.cellAt 2 rfl; go_simp⟩) HB.out ?_
          simp only [Act.put, List.setIfInBounds_toArray, List.set_cons_zero, List.set_cons_succ]
          refine wpAnyL_takeD (fun _ => True) (i := 2) (v := (.pointer (some ⟨g, 0, none⟩))) (some 83) rfl rfl (by kernel_rfl) (by kernel_rfl) (by kernel_rfl) (fun _ _ _ h => h) (fun _ _ _ _ _ _ => trivial) (fun _ _ _ => Iff.rfl) trivial (Or.inl ⟨by rfl, fun w' hw' => by obtain ⟨l, _, hl, hl2⟩ := hw'; have k0 := hl.cellAt 0 rfl; have k1 := hl.cellAt 1 rfl; have k2 := hl.cellAt 2 rfl; have k3 := hl.cellAt 3 rfl; have k4 := hl.cellAt 4 rfl; have k5 := hl.cellAt 5 rfl; have m1 := hl2.cellAt 1 rfl; have m2 := hl2.cellAt 2 rfl; go_simp⟩) HB.out ?_
          simp only [Act.put, List.setIfInBounds_toArray, List.set_cons_zero, List.set_cons_succ]
          refine wpAnyL_takeD (fun _ => True) (i := 3) (v := (.pointer (some ⟨g, 2, none⟩))) (some 84) rfl rfl (by kernel_rfl) (by kernel_rfl) (by kernel_rfl) (fun _ _ _ h => h) (fun _ _ _ _ _ _ => trivial) (fun _ _ _ => Iff.rfl) trivial (Or.inl ⟨by rfl, fun w' hw' => by obtain ⟨l, _, hl, hl2⟩ := hw'; have k0 := hl.cellAt 0 rfl; have k1 := hl.cellAt 1 rfl; have k2 := hl.cellAt 2 rfl; have k3 := hl.cellAt 3 rfl; have k4 := hl.cellAt 4 rfl; have k5 := hl.cellAt 5 rfl; have m1 := hl2.cellAt 1 rfl; have m2 := hl2.cellAt 2 rfl; go_simp⟩) HB.out ?_
          simp only [Act.put, List.setIfInBounds_toArray, List.set_cons_zero, List.set_cons_succ]
          refine wpAnyL_takeD (fun _ => True) (i := 4) (v := (.bool true)) (some 85) rfl rfl (by kernel_rfl) (by kernel_rfl) (by kernel_rfl) (fun _ _ _ h => h) (fun _ _ _ _ _ _ => trivial) (fun _ _ _ => Iff.rfl) trivial (Or.inl ⟨by rfl, fun w' hw' => by obtain ⟨l, _, hl, hl2⟩ := hw'; have k0 := hl.cellAt 0 rfl; have k1 := hl.cellAt 1 rfl; have k2 := hl.cellAt 2 rfl; have k3 := hl.cellAt 3 rfl; have k4 := hl.cellAt 4 rfl; have k5 := hl.cellAt 5 rfl; have m1 := hl2.cellAt 1 rfl; have m2 := hl2.cellAt 2 rfl; go_simp⟩) HB.out ?_
          simp only [Act.put, List.setIfInBounds_toArray, List.set_cons_zero, List.set_cons_succ]
          refine wpAnyL_takeD (fun _ => True) (i := 5) (v := (.bool false)) (some 86) rfl rfl (by kernel_rfl) (by kernel_rfl) (by kernel_rfl) (fun _ _ _ h => h) (fun _ _ _ _ _ _ => trivial) (fun _ _ _ => Iff.rfl) trivial (Or.inl ⟨by rfl, fun w' hw' => by obtain ⟨l, _, hl, hl2⟩ := hw'; have k0 := hl.cellAt 0 rfl; have k1 := hl.cellAt 1 rfl; have k2 := hl.cellAt 2 rfl; have k3 := hl.cellAt 3 rfl; have k4 := hl.cellAt 4 rfl; have k5 := hl.cellAt 5 rfl; have m1 := hl2.cellAt 1 rfl; have m2 := hl2.cellAt 2 rfl; go_simp⟩) HB.out ?_
          simp only [Act.put, List.setIfInBounds_toArray, List.set_cons_zero, List.set_cons_succ]
          refine wpAnyL_takeD (fun _ => True) (i := 6) (v := (.bool false)) (some 87) rfl rfl (by kernel_rfl) (by kernel_rfl) (by kernel_rfl) (fun _ _ _ h => h) (fun _ _ _ _ _ _ => trivial) (fun _ _ _ => Iff.rfl) trivial (Or.inl ⟨by rfl, fun w' hw' => by obtain ⟨l, _, hl, hl2⟩ := hw'; have k0 := hl.cellAt 0 rfl; have k1 := hl.cellAt 1 rfl; have k2 := hl.cellAt 2 rfl; have k3 := hl.cellAt 3 rfl; have k4 := hl.cellAt 4 rfl; have k5 := hl.cellAt 5 rfl; have m1 := hl2.cellAt 1 rfl; have m2 := hl2.cellAt 2 rfl; go_simp⟩) HB.out ?_
          simp only [Act.put, List.setIfInBounds_toArray, List.set_cons_zero, List.set_cons_succ]
          refine wpAnyL_takeD (fun _ => True) (i := 7) (v := undef) (some 88) rfl rfl (by kernel_rfl) (by kernel_rfl) (by kernel_rfl) (fun _ _ _ h => h) (fun _ _ _ _ _ _ => trivial) (fun _ _ _ => Iff.rfl) trivial (Or.inr ⟨by rfl, rfl⟩) HB.out ?_
          simp only [Act.put, List.setIfInBounds_toArray, List.set_cons_zero, List.set_cons_succ]
          refine wpAnyL_takeD (fun _ => True) (i := 8) (v := undef) (some 89) rfl rfl (by kernel_rfl) (by kernel_rfl) (by kernel_rfl) (fun _ _ _ h => h) (fun _ _ _ _ _ _ => trivial) (fun _ _ _ => Iff.rfl) trivial (Or.inr ⟨by rfl, rfl⟩) HB.out ?_
          simp only [Act.put, List.setIfInBounds_toArray, List.set_cons_zero, List.set_cons_succ]
          refine wpAnyL_takeD (fun _ => True) (i := 9) (v := undef) (some 90) rfl rfl (by kernel_rfl) (by kernel_rfl) (by kernel_rfl) (fun _ _ _ h => h) (fun _ _ _ _ _ _ => trivial) (fun _ _ _ => Iff.rfl) trivial (Or.inr ⟨by rfl, rfl⟩) HB.out ?_
          simp only [Act.put, List.setIfInBounds_toArray, List.set_cons_zero, List.set_cons_succ]
          refine wpAnyL_takeD (fun _ => True) (i := 10) (v := undef) (some 91) rfl rfl (by kernel_rfl) (by kernel_rfl) (by kernel_rfl) (fun _ _ _ h => h) (fun _ _ _ _ _ _ => trivial) (fun _ _ _ => Iff.rfl) trivial (Or.inr ⟨by rfl, rfl⟩) HB.out ?_
          simp only [Act.put, List.setIfInBounds_toArray, List.set_cons_zero, List.set_cons_succ]
          refine wpAnyL_takeD (fun _ => True) (i := 11) (v := undef) (some 92) rfl rfl (by kernel_rfl) (by kernel_rfl) (by kernel_rfl) (fun _ _ _ h => h) (fun _ _ _ _ _ _ => trivial) (fun _ _ _ => Iff.rfl) trivial (Or.inr ⟨by rfl, rfl⟩) HB.out ?_
          simp only [Act.put, List.setIfInBounds_toArray, List.set_cons_zero, List.set_cons_succ]
          refine wpAnyL_takeD (fun _ => True) (i := 12) (v := undef) (some 93) rfl rfl (by kernel_rfl) (by kernel_rfl) (by kernel_rfl) (fun _ _ _ h => h) (fun _ _ _ _ _ _ => trivial) (fun _ _ _ => Iff.rfl) trivial (Or.inr ⟨by rfl, rfl⟩) HB.out ?_
          simp only [Act.put, List.setIfInBounds_toArray, List.set_cons_zero, List.set_cons_succ]
          refine wpAnyL_takeD (fun _ => True) (i := 13) (v := undef) (some 94) rfl rfl (by kernel_rfl) (by kernel_rfl) (by kernel_rfl) (fun _ _ _ h => h) (fun _ _ _ _ _ _ => trivial) (fun _ _ _ => Iff.rfl) trivial (Or.inr ⟨by rfl, rfl⟩) HB.out ?_
          simp only [Act.put, List.setIfInBounds_toArray, List.set_cons_zero, List.set_cons_succ]
          refine wpAnyL_takeD (fun _ => True) (i := 14) (v := (.bool false)) (some 95) rfl rfl (by kernel_rfl) (by kernel_rfl) (by kernel_rfl) (fun _ _ _ h => h) (fun _ _ _ _ _ _ => trivial) (fun _ _ _ => Iff.rfl) trivial (Or.inl ⟨by rfl, fun w' hw' => by obtain ⟨l, _, hl, hl2⟩ := hw'; have k0 := hl.cellAt 0 rfl; have k1 := hl.cellAt 1 rfl; have k2 := hl.cellAt 2 rfl; have k3 := hl.cellAt 3 rfl; have k4 := hl.cellAt 4 rfl; have k5 := hl.cellAt 5 rfl; have m1 := hl2.cellAt 1 rfl; have m2 := hl2.cellAt 2 rfl; go_simp⟩) HB.out ?_
          simp only [Act.put, List.setIfInBounds_toArray, List.set_cons_zero, List.set_cons_succ]
          refine wpAnyL_takeD (fun _ => True) (i := 15) (v := (.bool false)) (some 96) rfl rfl (by kernel_rfl) (by kernel_rfl) (by kernel_rfl) (fun _ _ _ h => h) (fun _ _ _ _ _ _ => trivial) (fun _ _ _ => Iff.rfl) trivial (Or.inl ⟨by rfl, fun w' hw' => by obtain ⟨l, _, hl, hl2⟩ := hw'; have k0 := hl.cellAt 0 rfl; have k1 := hl.cellAt 1 rfl; have k2 := hl.cellAt 2 rfl; have k3 := hl.cellAt 3 rfl; have k4 := hl.cellAt 4 rfl; have k5 := hl.cellAt 5 rfl; have m1 := hl2.cellAt 1 rfl; have m2 := hl2.cellAt 2 rfl; go_simp⟩) HB.out ?_
          simp only [Act.put, List.setIfInBounds_toArray, List.set_cons_zero, List.set_cons_succ]
          refine wpAnyL_takeD (fun _ => True) (i := 16) (v := undef) (some 97) rfl rfl (by kernel_rfl) (by kernel_rfl) (by kernel_rfl) (fun _ _ _ h => h) (fun _ _ _ _ _ _ => trivial) (fun _ _ _ => Iff.rfl) trivial (Or.inr ⟨by rfl, rfl⟩) HB.out ?_
          simp only [Act.put, List.setIfInBounds_toArray, List.set_cons_zero, List.set_cons_succ]
          refine wpAnyL_takeD (fun _ => True) (i := 17) (v := undef) (some 98) rfl rfl (by kernel_rfl) (by kernel_rfl) (by kernel_rfl) (fun _ _ _ h => h) (fun _ _ _ _ _ _ => trivial) (fun _ _ _ => Iff.rfl) trivial (Or.inr ⟨by rfl, rfl⟩) HB.out ?_
          simp only [Act.put, List.setIfInBounds_toArray, List.set_cons_zero, List.set_cons_succ]
          refine wpAnyL_takeD (fun _ => True) (i := 18) (v := undef) (some 99) rfl rfl (by kernel_rfl) (by kernel_rfl) (by kernel_rfl) (fun _ _ _ h => h) (fun _ _ _ _ _ _ => trivial) (fun _ _ _ => Iff.rfl) trivial (Or.inr ⟨by rfl, rfl⟩) HB.out ?_
          simp only [Act.put, List.setIfInBounds_toArray, List.set_cons_zero, List.set_cons_succ]
          refine wpAnyL_takeD (fun _ => True) (i := 19) (v := (.bool false)) (some 100) rfl rfl (by kernel_rfl) (by kernel_rfl) (by kernel_rfl) (fun _ _ _ h => h) (fun _ _ _ _ _ _ => trivial) (fun _ _ _ => Iff.rfl) trivial (Or.inl ⟨by rfl, fun w' hw' => by obtain ⟨l, _, hl, hl2⟩ := hw'; have k0 := hl.cellAt 0 rfl; have k1 := hl.cellAt 1 rfl; have k2 := hl.cellAt 2 rfl; have k3 := hl.cellAt 3 rfl; have k4 := hl.cellAt 4 rfl; have k5 := hl.cellAt 5 rfl; have m1 := hl2.cellAt 1 rfl; have m2 := hl2.cellAt 2 rfl; go_simp⟩) HB.out ?_
          simp only [Act.put, List.setIfInBounds_toArray, List.set_cons_zero, List.set_cons_succ]
          have r0 := hS.res.cellAt 0 rfl
          have r1 := hS.res.cellAt 1 rfl
          have r2 := hS.res.cellAt 2 rfl
          have r3 := hS.res.cellAt 3 rfl
          have r4 := hS.res.cellAt 4 rfl
          have r5 := hS.res.cellAt 5 rfl
          have rf := hS.res.frozen
          have hdn := DS.done (r := ⟨byte0 s, vv, qv, iv, xs, ys⟩) hS (.int .i64 (byte0 s)) (.int .i64 vv) (.int .i64 qv) (.int .i64 iv) (.slice D1 q1 c1) (.slice D2 q2 c2)
          have HB2 := done_blk hS (.int .i64 (byte0 s)) (.int .i64 vv) (.int .i64 qv) (.int .i64 iv) (.slice D1 q1 c1) (.slice D2 q2 c2)
          refine wpAnyL_one (i := 20) (by decide +kernel) ?_
          refine wpOp_go (o := _) rfl (fun K hK => ?_)
          go_simp
          refine hK _ _ ⟨HB2, ?_⟩
          replace HB := Lib.hid HB2
          clear hK K HB2
          refine wpAnyL_takeD (fun _ => True) (i := 21) (v := (.bool false)) (some 3) rfl rfl (by kernel_rfl) (by kernel_rfl) (by kernel_rfl) (fun _ _ _ h => h) (fun _ _ _ _ _ _ => trivial) (fun _ _ _ => Iff.rfl) trivial (Or.inl ⟨by rfl, fun w' hw' => by obtain ⟨l, _, hl, hl2⟩ := hw'; have k0 := hl.cellAt 0 rfl; have k1 := hl.cellAt 1 rfl; have k2 := hl.cellAt 2 rfl; have k3 := hl.cellAt 3 rfl; have k4 := hl.cellAt 4 rfl; have k5 := hl.cellAt 5 rfl; have m1 := hl2.cellAt 1 rfl; have m2 := hl2.cellAt 2 rfl; go_simp⟩) HB.out ?_
          simp only [Act.put, List.setIfInBounds_toArray, List.set_cons_zero, List.set_cons_succ]
          refine wpAnyL_done (by decide +kernel) ?_ _
          go_wp2
          refine bodyPost_ret (v := .tuple #[.agg #[.int .i64 (byte0 s), .int .i64 vv, .int .i64 qv, .int .i64 iv, .slice D1 q1 c1, .slice D2 q2 c2], .bool false]) (by simp [results, Try.results55, go_sem, r0, r1, r2, r3, r4, r5]) rfl ?_
          rw [HPAY.out]
          exact ⟨_, _, rfl, hdn.1, hdn.2.1, hdn.2.2⟩

theorem payload_any (s : ByteArray) (w : World) (hsz : s.size ≤ 1000000000000000) : Calls Try.prog 55 #[.string s] w (PayP w (payM s)) := by
  by_cases h : s.size = 0
  · exact payload_none s w h
  · exact payload_some s w hsz h

end Go.Proofs.Ytgacjpkgpegcdaa
