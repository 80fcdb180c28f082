/-
  manifest.decode.
-/
import Derived.Test.YtgacjpkgpegcdaaMDecW
namespace Go.Proofs.Ytgacjpkgpegcdaa
open Go.RowKit

/-- What a decoder returns. -/
def DecP (w : World) (r : Rc) (e : Ending) (w' : World) : Prop :=
  ∃ v v2, e = .returned (.agg #[.int .i64 r.kind, .int .i64 r.version, .int .i64 r.nextSeq, .int .i64 r.nextId, v, v2]) ∧ w'.ownsRow w.heap.size 40 12 v r.add.length (r.add.flatMap entC) ∧ w'.ownsRow w.heap.size 3 1 v2 r.rem.length (r.rem.map Iv) ∧ Below w.heap.size w w'
theorem decT_none {s : ByteArray} (h : s.size = 0) : decT s = zeroRc := if_pos h
/-- A decoder ahead of its record, and with its record. -/
structure D0 (w0 w : World) (T : TypeId) (g : Nat) (s : ByteArray) (st : St) : Prop where
  rdr : RdrAt w T g s st
  res : Blk w w0.heap.size 31 zeroRcC
  bel : Below w0.heap.size w0 w
  o1 : w0.heap.size < g
structure D1 (w0 w : World) (T : TypeId) (g gx : Nat) (s : ByteArray) (st : St) (cs : List Value) : Prop extends D0 w0 w T g s st where
  rc : Blk w gx 31 cs
  o2 : g < gx
section
variable {w0 w w' : World} {T : TypeId} {g gx : Nat} {s : ByteArray} {st st' : St} {cs : List Value}
theorem D0.start {w : World} (T : TypeId) (s : ByteArray) : D0 w ((w.alloc (.cells zeroRcC.toArray 31)).alloc (.cells #[.string s, .int .i64 1, .bool false] T)) T (w.heap.size + 1) s (1, false) := by
  have h1 := Blk.new w 31 zeroRcC
  have hb : Below w.heap.size w (w.alloc (.cells zeroRcC.toArray 31)) := (Below.refl _ _).alloc (Nat.le_refl _) _
  have h2 := Blk.new (w.alloc (.cells zeroRcC.toArray 31)) T [.string s, .int .i64 1, .bool false]
  exact ⟨(by simpa using h2 : Blk _ _ _ _), h1.alloc _, hb.alloc hb.size _, Nat.lt_succ_self _⟩
theorem D0.step (h : D0 w0 w T g s st) (hr : RdrAt w' T g s st') (hg : w.grownBy w' (some g)) : D0 w0 w' T g s st' :=
  ⟨hr, h.res.grownBy hg (fun e => by have := h.o1; injection e; omega), h.bel.grown hg h.bel.size (fun j e => by have := h.o1; injection e; omega), h.o1⟩
theorem D1.step (h : D1 w0 w T g gx s st cs) (hr : RdrAt w' T g s st') (hg : w.grownBy w' (some g)) : D1 w0 w' T g gx s st' cs :=
  ⟨h.toD0.step hr hg, h.rc.grownBy hg (fun e => by have := h.o2; injection e; omega), h.o2⟩
theorem D0.new (h : D0 w0 w T g s st) (cs : Array Value) : D1 w0 (w.alloc (.cells cs 31)) T g w.heap.size s st cs.toList :=
  ⟨⟨Blk.alloc h.rdr _, h.res.alloc _, h.bel.alloc h.bel.size _, h.o1⟩, Blk.new' w _ cs, Blk.lt h.rdr⟩
theorem D0.drew (h : D0 w0 w T g s st) : D0 w0 w.drew T g s st := ⟨h.rdr, h.res, h.bel.drew, h.o1⟩
theorem set8e {u0 u1 u2 u3 u4 u5 u6 u7 u8 u9 u10 u11 : Value} (h : Blk w g T [u0, u1, u2, u3, u4, u5, u6, u7, u8, u9, u10, u11]) (v3 v4 v5 v6 v7 v8 v9 v10 : Value) : Blk ((((((((w.setCell ⟨g, 3, none⟩ v3).setCell ⟨g, 4, none⟩ v4).setCell ⟨g, 5, none⟩ v5).setCell ⟨g, 6, none⟩ v6).setCell ⟨g, 7, none⟩ v7).setCell ⟨g, 8, none⟩ v8).setCell ⟨g, 9, none⟩ v9).setCell ⟨g, 10, none⟩ v10) g T [u0, u1, u2, v3, v4, v5, v6, v7, v8, v9, v10, u11] :=
  (((((((h.set_ 3 v3).set_ 4 v4).set_ 5 v5).set_ 6 v6).set_ 7 v7).set_ 8 v8).set_ 9 v9).set_ 10 v10
theorem grown8e (w : World) (g : Nat) (v3 v4 v5 v6 v7 v8 v9 v10 : Value) : w.grownBy ((((((((w.setCell ⟨g, 3, none⟩ v3).setCell ⟨g, 4, none⟩ v4).setCell ⟨g, 5, none⟩ v5).setCell ⟨g, 6, none⟩ v6).setCell ⟨g, 7, none⟩ v7).setCell ⟨g, 8, none⟩ v8).setCell ⟨g, 9, none⟩ v9).setCell ⟨g, 10, none⟩ v10) (some g) :=
  Lib.grownBy_setB (Lib.grownBy_setB (Lib.grownBy_setB (Lib.grownBy_setB (Lib.grownBy_setB (Lib.grownBy_setB (Lib.grownBy_setB (Lib.grownBy_setCell _ _ _ _) _ _) _ _) _ _) _ _) _ _) _ _) _ _
theorem set6 {u0 u1 u2 u3 u4 u5 : Value} (h : Blk w g T [u0, u1, u2, u3, u4, u5]) (v0 v1 v2 v3 v4 v5 : Value) : Blk ((((((w.setCell ⟨g, 0, none⟩ v0).setCell ⟨g, 1, none⟩ v1).setCell ⟨g, 2, none⟩ v2).setCell ⟨g, 3, none⟩ v3).setCell ⟨g, 4, none⟩ v4).setCell ⟨g, 5, none⟩ v5) g T [v0, v1, v2, v3, v4, v5] :=
  (((((h.set_ 0 v0).set_ 1 v1).set_ 2 v2).set_ 3 v3).set_ 4 v4).set_ 5 v5
theorem grown6 (w : World) (g : Nat) (v0 v1 v2 v3 v4 v5 : Value) : w.grownBy ((((((w.setCell ⟨g, 0, none⟩ v0).setCell ⟨g, 1, none⟩ v1).setCell ⟨g, 2, none⟩ v2).setCell ⟨g, 3, none⟩ v3).setCell ⟨g, 4, none⟩ v4).setCell ⟨g, 5, none⟩ v5) (some g) :=
  Lib.grownBy_setB (Lib.grownBy_setB (Lib.grownBy_setB (Lib.grownBy_setB (Lib.grownBy_setB (Lib.grownBy_setCell _ _ _ _) _ _) _ _) _ _) _ _) _ _
/-- The record stored: the lists begin. -/
theorem D1.begin {u0 u1 u2 u3 u4 u5 : Value} (h : D1 w0 w T g gx s st [u0, u1, u2, u3, u4, u5]) (v0 v1 v2 v3 : Value) :
    DS w0 ((((((w.setCell ⟨gx, 0, none⟩ v0).setCell ⟨gx, 1, none⟩ v1).setCell ⟨gx, 2, none⟩ v2).setCell ⟨gx, 3, none⟩ v3).setCell ⟨gx, 4, none⟩ (.slice none 0 0)).setCell ⟨gx, 5, none⟩ (.slice none 0 0)) T g gx w.heap.size s st [v0, v1, v2, v3, .slice none 0 0, .slice none 0 0] (.slice none 0 0) [] (.slice none 0 0) [] := by
  have hg := grown6 w gx v0 v1 v2 v3 (.slice none 0 0) (.slice none 0 0)
  exact ⟨h.rdr.grownBy hg (fun e => by have := h.o2; injection e; omega), set6 h.rc _ _ _ _ _ _, h.res.grownBy hg (fun e => by have := h.o1; have := h.o2; injection e; omega), World.ownsRow_nil _ _ _ _, World.ownsRow_nil _ _ _ _, (fun k h => by simp [Value.ownBlock] at h),
    h.bel.grown hg h.bel.size (fun j e => by have := h.o1; have := h.o2; injection e; omega), h.o1, h.o2, h.rc.lt, hg.size⟩
end
/-- The end: the result is stored and handed out. -/
theorem DS.done {w0 w : World} {T : TypeId} {g gx B : Nat} {s : ByteArray} {st : St} {cs : List Value} {v v2 : Value} {r : Rc} (h : DS w0 w T g gx B s st cs v r.add v2 r.rem) (u0 u1 u2 u3 u4 u5 : Value) :
    ((((((w.setCell ⟨w0.heap.size, 0, none⟩ u0).setCell ⟨w0.heap.size, 1, none⟩ u1).setCell ⟨w0.heap.size, 2, none⟩ u2).setCell ⟨w0.heap.size, 3, none⟩ u3).setCell ⟨w0.heap.size, 4, none⟩ u4).setCell ⟨w0.heap.size, 5, none⟩ u5).ownsRow w0.heap.size 40 12 v r.add.length (r.add.flatMap entC) ∧
    ((((((w.setCell ⟨w0.heap.size, 0, none⟩ u0).setCell ⟨w0.heap.size, 1, none⟩ u1).setCell ⟨w0.heap.size, 2, none⟩ u2).setCell ⟨w0.heap.size, 3, none⟩ u3).setCell ⟨w0.heap.size, 4, none⟩ u4).setCell ⟨w0.heap.size, 5, none⟩ u5).ownsRow w0.heap.size 3 1 v2 r.rem.length (r.rem.map Iv) ∧
    Below w0.heap.size w0 ((((((w.setCell ⟨w0.heap.size, 0, none⟩ u0).setCell ⟨w0.heap.size, 1, none⟩ u1).setCell ⟨w0.heap.size, 2, none⟩ u2).setCell ⟨w0.heap.size, 3, none⟩ u3).setCell ⟨w0.heap.size, 4, none⟩ u4).setCell ⟨w0.heap.size, 5, none⟩ u5) := by
  have hg := grown6 w w0.heap.size u0 u1 u2 u3 u4 u5
  have l1 := h.o1; have l2 := h.o2; have l3 := h.o3
  exact ⟨(kept_ne h.add hg (fresh_of h.add (by omega))).mono (by omega), (kept_ne h.rem hg (fresh_of h.rem (by omega))).mono (by omega), h.bel.grown hg h.bel.size (fun j e => by injection e; omega)⟩
theorem slice_form {w : World} {base : Nat} {e : TypeId} {size n : Nat} {v : Value} {xs : List Value} (h : w.ownsRow base e size v n xs) : ∃ A c q, v = .slice A q c := by
  obtain ⟨A, c, e, _⟩ := own_form h
  exact ⟨A, c, n, e⟩
theorem str_full {s : ByteArray} (h : ¬ s.size = 0) : s.toList.isEmpty = false := str_empty h
set_option maxRecDepth 100000 in
set_option maxHeartbeats 1000000 in
theorem decode_none (s : ByteArray) (w : World) (h : s.size = 0) : Calls Try.prog 31 #[.string s] w (DecP w (decT s)) := by
  have hR := Blk.new w 31 zeroRcC
  have hb : Below w.heap.size w (w.alloc (.cells zeroRcC.toArray 31)) := (Below.refl _ _).alloc (Nat.le_refl _) _
  rw [decT_none h]
  rw [size_zero h]
  go_enter Try.func31, Try.ntmps31
  go_upto_region 1 with fail
  change Below w.heap.size w (w.alloc (.cells #[.int .i64 0, .int .i64 0, .int .i64 0, .int .i64 0, .slice none 0 0, .slice none 0 0] 31)) at hb
  change Blk (w.alloc (.cells #[.int .i64 0, .int .i64 0, .int .i64 0, .int .i64 0, .slice none 0 0, .slice none 0 0] 31)) w.heap.size 31 zeroRcC at hR
  generalize w.alloc (.cells #[.int .i64 0, .int .i64 0, .int .i64 0, .int .i64 0, .slice none 0 0, .slice none 0 0] 31) = wa at *
  have r0 := hR.cellAt 0 rfl
  have r1 := hR.cellAt 1 rfl
  have r2 := hR.cellAt 2 rfl
  have r3 := hR.cellAt 3 rfl
  have r4 := hR.cellAt 4 rfl
  have r5 := hR.cellAt 5 rfl
  have rf := hR.frozen
  go_wp2
  have hg := grown6 wa w.heap.size (.int .i64 0) (.int .i64 0) (.int .i64 0) (.int .i64 0) (.slice none 0 0) (.slice none 0 0)
  exact bodyPost_ret (v := .agg #[.int .i64 0, .int .i64 0, .int .i64 0, .int .i64 0, .slice none 0 0, .slice none 0 0]) (by simp [results, Try.results31, go_sem, r0, r1, r2, r3, r4, r5]) rfl ⟨_, _, rfl, World.ownsRow_nil _ _ _ _, World.ownsRow_nil _ _ _ _, hb.grown hg hb.size (fun j e => by injection e; omega)⟩
/-- As long as number k has not come up, the block is as it was. -/
def SBk (k g : Nat) (T : TypeId) (cs : List Value) (l : Array Bool) (w' : World) : Prop := l.getD k false = false → Blk w' g T cs
theorem SBk.set {k g : Nat} {T : TypeId} {cs : List Value} {l : Array Bool} {w' : World} {j : Nat} (h : j ≠ k) : SBk k g T cs (l.setIfInBounds j true) w' ↔ SBk k g T cs l w' := by
  unfold SBk; rw [getD_set_ne false h]
set_option maxRecDepth 100000 in
set_option maxHeartbeats 2000000 in
theorem decode_some (s : ByteArray) (w : World) (hsz : s.size ≤ 1000000000000000) (h : ¬ s.size = 0) : Calls Try.prog 31 #[.string s] w (DecP w (decT s)) := by
  have hD := D0.start (w := w) 107 s
  have hfs := str_full h
  have hn : 0 < s.size := by omega
  have hwb : Hid (IntKind.i64.wrap (s[0].toNat : Int) = byte0 s) := by
    have hl : s.data.toList[0]? = some s[0] := by rw [Array.getElem?_toList, Array.getElem?_eq_getElem (by simpa using hn)]; rfl
    have hb : byte0 s = (s[0].toNat : Int) := by
      unfold byte0
      rw [List.headD_eq_head?_getD, List.head?_eq_getElem?, hl]
      rfl
    rw [hb]
    exact IntWalk.i64_in _ (by have := s[0].toNat_lt; omega)
  have hN : Hid (∀ g st W, RdrAt W 107 g s st → Calls Try.prog 63 #[.pointer (some ⟨g, 0, none⟩)] W (Step W 107 g s (.int .i64 (numT s st).1) (numT s st).2)) := fun g st W h => tnum_any s g st W hsz h
  have hRk : Hid (∀ g st W, RdrAt W 107 g s st → Calls Try.prog 65 #[.pointer (some ⟨g, 0, none⟩)] W (Step W 107 g s (Rv (rankT s st).1) (rankT s st).2)) := fun g st W h => trank_any s g st W hsz h
  have hss := Lib.hid h
  obtain ⟨vv, s1, e1⟩ : ∃ vv s1, numT s (1, false) = (vv, s1) := ⟨_, _, rfl⟩
  obtain ⟨qv, s2, e2⟩ : ∃ vv s2, numT s s1 = (vv, s2) := ⟨_, _, rfl⟩
  obtain ⟨iv, s3, e3⟩ : ∃ vv s3, numT s s2 = (vv, s3) := ⟨_, _, rfl⟩
  have N1 := Lib.hid (hN.out (w.heap.size + 1) (1, false)); have N2 := Lib.hid (hN.out (w.heap.size + 1) s1); have N3 := Lib.hid (hN.out (w.heap.size + 1) s2)
  rw [e1] at N1; rw [e2] at N2; rw [e3] at N3
  have HE := Lib.hid (And.intro e1 (And.intro e2 e3))
  clear e1 e2 e3
  change D0 w ((w.alloc (.cells #[.int .i64 0, .int .i64 0, .int .i64 0, .int .i64 0, .slice none 0 0, .slice none 0 0] 31)).alloc (.cells #[.string s, .int .i64 1, .bool false] 107)) _ _ _ _ at hD
  go_enter Try.func31, Try.ntmps31
  go_upto_region 4 with fail
  generalize (w.alloc (.cells #[.int .i64 0, .int .i64 0, .int .i64 0, .int .i64 0, .slice none 0 0, .slice none 0 0] 31)).alloc (.cells #[.string s, .int .i64 1, .bool false] 107) = w2 at *
  generalize w.heap.size + 1 = g at *
  go_cut [4] (fun x wy => ∃ gx B, x = .pointer (some ⟨gx, 0, none⟩) ∧ DS w wy 107 g gx B s s3 [.int .i64 (byte0 s), .int .i64 vv, .int .i64 qv, .int .i64 iv, .slice none 0 0, .slice none 0 0] (.slice none 0 0) [] (.slice none 0 0) [])
  case first =>
    refine wp_region_L (fun _ _ => True) (by kernel_rfl) ?_
    replace hD := hD.drew
    generalize w2.drew = wy at *
    refine wpAnyL_takeD (fun _ => True) (i := 0) (v := (.string s)) (some 12) rfl rfl (by kernel_rfl) (by kernel_rfl) (by kernel_rfl) (fun _ _ _ h => h) (fun _ _ _ _ _ _ => trivial) (fun _ _ _ => Iff.rfl) trivial (Or.inl ⟨by rfl, fun w' hw' => by go_simp⟩) trivial ?_
    simp only [Act.put, List.setIfInBounds_toArray, List.set_cons_zero, List.set_cons_succ]
    refine wpAnyL_takeD (fun _ => True) (i := 1) (v := (.int .u8 (s[0].toNat : Int))) (some 13) rfl rfl (by kernel_rfl) (by kernel_rfl) (by kernel_rfl) (fun _ _ _ h => h) (fun _ _ _ _ _ _ => trivial) (fun _ _ _ => Iff.rfl) trivial (Or.inl ⟨by rfl, fun w' hw' => by go_simp⟩) trivial ?_
    simp only [Act.put, List.setIfInBounds_toArray, List.set_cons_zero, List.set_cons_succ]
    refine wpAnyL_takeD (fun _ => True) (i := 2) (v := (.int .i64 (byte0 s))) (some 14) rfl rfl (by kernel_rfl) (by kernel_rfl) (by kernel_rfl) (fun _ _ _ h => h) (fun _ _ _ _ _ _ => trivial) (fun _ _ _ => Iff.rfl) trivial (Or.inl ⟨by rfl, fun w' hw' => by go_simp; exact hwb.out⟩) trivial ?_
    simp only [Act.put, List.setIfInBounds_toArray, List.set_cons_zero, List.set_cons_succ]
    refine wpAnyL_takeD (fun _ => True) (i := 3) (v := (.pointer (some ⟨g, 0, none⟩))) (some 15) rfl rfl (by kernel_rfl) (by kernel_rfl) (by kernel_rfl) (fun _ _ _ h => h) (fun _ _ _ _ _ _ => trivial) (fun _ _ _ => Iff.rfl) trivial (Or.inl ⟨by rfl, fun w' hw' => by go_simp⟩) trivial ?_
    simp only [Act.put, List.setIfInBounds_toArray, List.set_cons_zero, List.set_cons_succ]
    refine wpAnyL_takeD (fun _ => True) (i := 5) (v := (.pointer (some ⟨g, 0, none⟩))) (some 17) rfl rfl (by kernel_rfl) (by kernel_rfl) (by kernel_rfl) (fun _ _ _ h => h) (fun _ _ _ _ _ _ => trivial) (fun _ _ _ => Iff.rfl) trivial (Or.inl ⟨by rfl, fun w' hw' => by go_simp⟩) trivial ?_
    simp only [Act.put, List.setIfInBounds_toArray, List.set_cons_zero, List.set_cons_succ]
    refine wpAnyL_takeD (fun _ => True) (i := 7) (v := (.pointer (some ⟨g, 0, none⟩))) (some 19) rfl rfl (by kernel_rfl) (by kernel_rfl) (by kernel_rfl) (fun _ _ _ h => h) (fun _ _ _ _ _ _ => trivial) (fun _ _ _ => Iff.rfl) trivial (Or.inl ⟨by rfl, fun w' hw' => by go_simp⟩) trivial ?_
    simp only [Act.put, List.setIfInBounds_toArray, List.set_cons_zero, List.set_cons_succ]
    refine wpAnyL_lst (rs := [4, 10]) (by decide +kernel) ⟨by simp, ?_⟩
    simp only [List.forall_mem_cons, List.not_mem_nil, false_implies, implies_true, and_true]
    refine ⟨?_, ?_⟩
    · refine wpOp_go (o := _) rfl (fun K hK => ?_)
      go_simp
      go_at_call 63
      refine (N1.out _ hD.rdr).mono ?_; rintro _ wy ⟨rfl, hr, hg⟩
      replace hD := hD.step hr hg
      refine hK _ _ ⟨trivial, ?_⟩
      clear hK K hr hg
      refine wpAnyL_lst (rs := [6, 10]) (by decide +kernel) ⟨by simp, ?_⟩
      simp only [List.forall_mem_cons, List.not_mem_nil, false_implies, implies_true, and_true]
      refine ⟨?_, ?_⟩
      · refine wpOp_go (o := _) rfl (fun K hK => ?_)
        go_simp
        go_at_call 63
        refine (N2.out _ hD.rdr).mono ?_; rintro _ wy ⟨rfl, hr, hg⟩
        replace hD := hD.step hr hg
        refine hK _ _ ⟨trivial, ?_⟩
        clear hK K hr hg
        refine wpAnyL_lst (rs := [8, 10]) (by decide +kernel) ⟨by simp, ?_⟩
        simp only [List.forall_mem_cons, List.not_mem_nil, false_implies, implies_true, and_true]
        refine ⟨?_, ?_⟩
        · refine wpOp_go (o := _) rfl (fun K hK => ?_)
          go_simp
          go_at_call 63
          refine (N3.out _ hD.rdr).mono ?_; rintro _ wy ⟨rfl, hr, hg⟩
          replace hD := hD.step hr hg
          refine hK _ _ ⟨trivial, ?_⟩
          clear hK K hr hg
          refine wpAnyL_takeD (fun _ => True) (i := 9) (v := (.agg #[.int .i64 (byte0 s), .int .i64 vv, .int .i64 qv, .int .i64 iv, .slice none 0 0, .slice none 0 0])) (some 21) rfl rfl (by kernel_rfl) (by kernel_rfl) (by kernel_rfl) (fun _ _ _ h => h) (fun _ _ _ _ _ _ => trivial) (fun _ _ _ => Iff.rfl) trivial (Or.inl ⟨by rfl, fun w' hw' => by go_simp⟩) trivial ?_
          simp only [Act.put, List.setIfInBounds_toArray, List.set_cons_zero, List.set_cons_succ]
          refine wpAnyL_one (i := 10) (by decide +kernel) ?_
          refine wpOp_go (o := _) rfl (fun K hK => ?_)
          go_simp
          replace hD := hD.new #[.int .i64 0, .int .i64 0, .int .i64 0, .int .i64 0, .slice none 0 0, .slice none 0 0]
          refine hK _ _ ⟨trivial, ?_⟩
          clear hK K
          generalize wy.heap.size = gx at *
          generalize wy.alloc (.cells #[.int .i64 0, .int .i64 0, .int .i64 0, .int .i64 0, .slice none 0 0, .slice none 0 0] 31) = wz at *
          have x0 := hD.rc.cellAt 0 rfl
          have x1 := hD.rc.cellAt 1 rfl
          have x2 := hD.rc.cellAt 2 rfl
          have x3 := hD.rc.cellAt 3 rfl
          have x4 := hD.rc.cellAt 4 rfl
          have x5 := hD.rc.cellAt 5 rfl
          have xf := hD.rc.frozen
          refine wpAnyL_one (i := 11) (by decide +kernel) ?_
          refine wpOp_go (o := _) rfl (fun K hK => ?_)
          go_simp
          refine hK _ _ ⟨trivial, ?_⟩
          clear hK K x0 x1 x2 x3 x4 x5 xf
          have hS := hD.begin (.int .i64 (byte0 s)) (.int .i64 vv) (.int .i64 qv) (.int .i64 iv)
          refine wpAnyL_done (by decide +kernel) ?_ _
          go_wp2_with fail
          go_meet
          exact ⟨_, _, rfl, hS⟩
        · refine wpOp_go (o := _) rfl (fun K hK => ?_)
          go_simp
          replace hD := hD.new #[.int .i64 0, .int .i64 0, .int .i64 0, .int .i64 0, .slice none 0 0, .slice none 0 0]
          refine hK _ _ ⟨trivial, ?_⟩
          clear hK K
          generalize wy.heap.size = gx at *
          generalize wy.alloc (.cells #[.int .i64 0, .int .i64 0, .int .i64 0, .int .i64 0, .slice none 0 0, .slice none 0 0] 31) = wz at *
          refine wpAnyL_one (i := 8) (by decide +kernel) ?_
          refine wpOp_go (o := _) rfl (fun K hK => ?_)
          go_simp
          go_at_call 63
          refine (N3.out _ hD.rdr).mono ?_; rintro _ wy ⟨rfl, hr, hg⟩
          replace hD := hD.step hr hg
          refine hK _ _ ⟨trivial, ?_⟩
          clear hK K hr hg
          refine wpAnyL_takeD (fun _ => True) (i := 9) (v := (.agg #[.int .i64 (byte0 s), .int .i64 vv, .int .i64 qv, .int .i64 iv, .slice none 0 0, .slice none 0 0])) (some 21) rfl rfl (by kernel_rfl) (by kernel_rfl) (by kernel_rfl) (fun _ _ _ h => h) (fun _ _ _ _ _ _ => trivial) (fun _ _ _ => Iff.rfl) trivial (Or.inl ⟨by rfl, fun w' hw' => by go_simp⟩) trivial ?_
          simp only [Act.put, List.setIfInBounds_toArray, List.set_cons_zero, List.set_cons_succ]
          have x0 := hD.rc.cellAt 0 rfl
          have x1 := hD.rc.cellAt 1 rfl
          have x2 := hD.rc.cellAt 2 rfl
          have x3 := hD.rc.cellAt 3 rfl
          have x4 := hD.rc.cellAt 4 rfl
          have x5 := hD.rc.cellAt 5 rfl
          have xf := hD.rc.frozen
          refine wpAnyL_one (i := 11) (by decide +kernel) ?_
          refine wpOp_go (o := _) rfl (fun K hK => ?_)
          go_simp
          refine hK _ _ ⟨trivial, ?_⟩
          clear hK K x0 x1 x2 x3 x4 x5 xf
          have hS := hD.begin (.int .i64 (byte0 s)) (.int .i64 vv) (.int .i64 qv) (.int .i64 iv)
          refine wpAnyL_done (by decide +kernel) ?_ _
          go_wp2_with fail
          go_meet
          exact ⟨_, _, rfl, hS⟩
      · refine wpOp_go (o := _) rfl (fun K hK => ?_)
        go_simp
        replace hD := hD.new #[.int .i64 0, .int .i64 0, .int .i64 0, .int .i64 0, .slice none 0 0, .slice none 0 0]
        refine hK _ _ ⟨trivial, ?_⟩
        clear hK K
        generalize wy.heap.size = gx at *
        generalize wy.alloc (.cells #[.int .i64 0, .int .i64 0, .int .i64 0, .int .i64 0, .slice none 0 0, .slice none 0 0] 31) = wz at *
        refine wpAnyL_one (i := 6) (by decide +kernel) ?_
        refine wpOp_go (o := _) rfl (fun K hK => ?_)
        go_simp
        go_at_call 63
        refine (N2.out _ hD.rdr).mono ?_; rintro _ wy ⟨rfl, hr, hg⟩
        replace hD := hD.step hr hg
        refine hK _ _ ⟨trivial, ?_⟩
        clear hK K hr hg
        refine wpAnyL_one (i := 8) (by decide +kernel) ?_
        refine wpOp_go (o := _) rfl (fun K hK => ?_)
        go_simp
        go_at_call 63
        refine (N3.out _ hD.rdr).mono ?_; rintro _ wy ⟨rfl, hr, hg⟩
        replace hD := hD.step hr hg
        refine hK _ _ ⟨trivial, ?_⟩
        clear hK K hr hg
        refine wpAnyL_takeD (fun _ => True) (i := 9) (v := (.agg #[.int .i64 (byte0 s), .int .i64 vv, .int .i64 qv, .int .i64 iv, .slice none 0 0, .slice none 0 0])) (some 21) rfl rfl (by kernel_rfl) (by kernel_rfl) (by kernel_rfl) (fun _ _ _ h => h) (fun _ _ _ _ _ _ => trivial) (fun _ _ _ => Iff.rfl) trivial (Or.inl ⟨by rfl, fun w' hw' => by go_simp⟩) trivial ?_
        simp only [Act.put, List.setIfInBounds_toArray, List.set_cons_zero, List.set_cons_succ]
        have x0 := hD.rc.cellAt 0 rfl
        have x1 := hD.rc.cellAt 1 rfl
        have x2 := hD.rc.cellAt 2 rfl
        have x3 := hD.rc.cellAt 3 rfl
        have x4 := hD.rc.cellAt 4 rfl
        have x5 := hD.rc.cellAt 5 rfl
        have xf := hD.rc.frozen
        refine wpAnyL_one (i := 11) (by decide +kernel) ?_
        refine wpOp_go (o := _) rfl (fun K hK => ?_)
        go_simp
        refine hK _ _ ⟨trivial, ?_⟩
        clear hK K x0 x1 x2 x3 x4 x5 xf
        have hS := hD.begin (.int .i64 (byte0 s)) (.int .i64 vv) (.int .i64 qv) (.int .i64 iv)
        refine wpAnyL_done (by decide +kernel) ?_ _
        go_wp2_with fail
        go_meet
        exact ⟨_, _, rfl, hS⟩
    · refine wpOp_go (o := _) rfl (fun K hK => ?_)
      go_simp
      replace hD := hD.new #[.int .i64 0, .int .i64 0, .int .i64 0, .int .i64 0, .slice none 0 0, .slice none 0 0]
      refine hK _ _ ⟨trivial, ?_⟩
      clear hK K
      generalize wy.heap.size = gx at *
      generalize wy.alloc (.cells #[.int .i64 0, .int .i64 0, .int .i64 0, .int .i64 0, .slice none 0 0, .slice none 0 0] 31) = wz at *
      refine wpAnyL_one (i := 4) (by decide +kernel) ?_
      refine wpOp_go (o := _) rfl (fun K hK => ?_)
      go_simp
      go_at_call 63
      refine (N1.out _ hD.rdr).mono ?_; rintro _ wy ⟨rfl, hr, hg⟩
      replace hD := hD.step hr hg
      refine hK _ _ ⟨trivial, ?_⟩
      clear hK K hr hg
      refine wpAnyL_one (i := 6) (by decide +kernel) ?_
      refine wpOp_go (o := _) rfl (fun K hK => ?_)
      go_simp
      go_at_call 63
      refine (N2.out _ hD.rdr).mono ?_; rintro _ wy ⟨rfl, hr, hg⟩
      replace hD := hD.step hr hg
      refine hK _ _ ⟨trivial, ?_⟩
      clear hK K hr hg
      refine wpAnyL_one (i := 8) (by decide +kernel) ?_
      refine wpOp_go (o := _) rfl (fun K hK => ?_)
      go_simp
      go_at_call 63
      refine (N3.out _ hD.rdr).mono ?_; rintro _ wy ⟨rfl, hr, hg⟩
      replace hD := hD.step hr hg
      refine hK _ _ ⟨trivial, ?_⟩
      clear hK K hr hg
      refine wpAnyL_takeD (fun _ => True) (i := 9) (v := (.agg #[.int .i64 (byte0 s), .int .i64 vv, .int .i64 qv, .int .i64 iv, .slice none 0 0, .slice none 0 0])) (some 21) rfl rfl (by kernel_rfl) (by kernel_rfl) (by kernel_rfl) (fun _ _ _ h => h) (fun _ _ _ _ _ _ => trivial) (fun _ _ _ => Iff.rfl) trivial (Or.inl ⟨by rfl, fun w' hw' => by go_simp⟩) trivial ?_
      simp only [Act.put, List.setIfInBounds_toArray, List.set_cons_zero, List.set_cons_succ]
      have x0 := hD.rc.cellAt 0 rfl
      have x1 := hD.rc.cellAt 1 rfl
      have x2 := hD.rc.cellAt 2 rfl
      have x3 := hD.rc.cellAt 3 rfl
      have x4 := hD.rc.cellAt 4 rfl
      have x5 := hD.rc.cellAt 5 rfl
      have xf := hD.rc.frozen
      refine wpAnyL_one (i := 11) (by decide +kernel) ?_
      refine wpOp_go (o := _) rfl (fun K hK => ?_)
      go_simp
      refine hK _ _ ⟨trivial, ?_⟩
      clear hK K x0 x1 x2 x3 x4 x5 xf
      have hS := hD.begin (.int .i64 (byte0 s)) (.int .i64 vv) (.int .i64 qv) (.int .i64 iv)
      refine wpAnyL_done (by decide +kernel) ?_ _
      go_wp2_with fail
      go_meet
      exact ⟨_, _, rfl, hS⟩

  case rest =>
    clear hD N1 N2 N3
    obtain ⟨gx, B, rfl, hS⟩ := hcut
    have hcr := cntT_rng s s3
    obtain ⟨nn, s4, e4⟩ : ∃ vv s2, cntT s s3 = (vv, s2) := ⟨_, _, rfl⟩
    have M1 := Lib.hid (fun (W : World) (h : RdrAt W 107 g s s3) => tcnt_any s g s3 W hsz h)
    rw [e4] at M1 hcr
    replace HE := Lib.hid (And.intro HE.out e4)
    clear e4
    obtain ⟨n, rfl⟩ := Int.eq_ofNat_of_zero_le hcr.1
    have hn256 : n ≤ 256 := by have := hcr.2; dsimp only at this; omega
    clear hcr
    go_wp2_with fail
    refine (M1.out _ hS.rdr).mono ?_; rintro _ w3 ⟨rfl, hr, hg⟩
    replace hS := hS.step hr hg
    clear hr hg M1
    go_wp2_with fail
    go_loopw [24] (fun a wr => ∃ (i : Nat) (v : Value), a = .int .i64 (i : Int) ∧ i ≤ n ∧ DS w wr 107 g gx B s (entsT s i s4).2 [.int .i64 (byte0 s), .int .i64 vv, .int .i64 qv, .int .i64 iv, v, .slice none 0 0] v (entsT s i s4).1 (.slice none 0 0) []) (fun a _ => n - (intOf a).toNat)
    case atStart => exact ⟨0, _, rfl, by omega, hS⟩
    case round =>
      clear hS
      obtain ⟨i, v, rfl, hi, hS⟩ := hrel
      by_cases hin : i < n
      · obtain ⟨xs, st, he⟩ : ∃ xs st, entsT s i s4 = (xs, st) := ⟨_, _, rfl⟩
        have hlx : Hid (xs.length = i) := by have := entsT_len s s4 i; rw [he] at this; exact this
        rw [he] at hS
        obtain ⟨ai, t1, a1⟩ : ∃ vv s2, numT s st = (vv, s2) := ⟨_, _, rfl⟩
        obtain ⟨ar, t2, a2⟩ : ∃ vv s2, numT s t1 = (vv, s2) := ⟨_, _, rfl⟩
        obtain ⟨al, t3, a3⟩ : ∃ vv s2, numT s t2 = (vv, s2) := ⟨_, _, rfl⟩
        obtain ⟨⟨⟨ln, li, lz⟩, lq⟩, t4, a4⟩ : ∃ vv s2, rankT s t3 = (vv, s2) := ⟨_, _, rfl⟩
        obtain ⟨⟨⟨hn, hi, hz⟩, hq⟩, t5, a5⟩ : ∃ vv s2, rankT s t4 = (vv, s2) := ⟨_, _, rfl⟩
        obtain ⟨dl, t6, a6⟩ : ∃ vv s2, numT s t5 = (vv, s2) := ⟨_, _, rfl⟩
        have N1 := Lib.hid (hN.out g st); have N2 := Lib.hid (hN.out g t1); have N3 := Lib.hid (hN.out g t2); have N6 := Lib.hid (hN.out g t5)
        have R1 := Lib.hid (hRk.out g t3); have R2 := Lib.hid (hRk.out g t4)
        rw [a1] at N1; rw [a2] at N2; rw [a3] at N3; rw [a4] at R1; rw [a5] at R2; rw [a6] at N6
        have HX : Hid (entsT s (i + 1) s4 = (xs ++ [⟨ai, ar, al, ⟨⟨ln, li, lz⟩, lq⟩, ⟨⟨hn, hi, hz⟩, hq⟩, dl⟩], t6)) := by
          show entsT s (i + 1) s4 = _
          rw [entsT, he]
          dsimp only [entT]
          rw [a1]; dsimp only; rw [a2]; dsimp only; rw [a3]; dsimp only; rw [a4]; dsimp only; rw [a5]; dsimp only; rw [a6]
        clear he a1 a2 a3 a4 a5 a6
        dsimp only [Rv] at R1 R2
        go_wp2_with fail
        refine (N1.out _ hS.rdr).mono ?_; rintro _ w4 ⟨rfl, hr, hg⟩
        replace hS := hS.step hr hg
        go_wp2_with fail
        refine (N2.out _ hS.rdr).mono ?_; rintro _ w5 ⟨rfl, hr, hg⟩
        replace hS := hS.step hr hg
        go_wp2_with fail
        refine (N3.out _ hS.rdr).mono ?_; rintro _ w6 ⟨rfl, hr, hg⟩
        replace hS := hS.step hr hg
        clear N1 N2 N3 hr hg
        go_upto_region 8 with fail
        have hE : Blk _ _ _ [.int .i64 ai, .int .i64 ar, .int .i64 al, .bool false, .int .i64 0, .string ⟨#[]⟩, .int .i64 0, .bool false, .int .i64 0, .string ⟨#[]⟩, .int .i64 0, .int .i64 0] := Blk.new' w6 40 #[.int .i64 ai, .int .i64 ar, .int .i64 al, .bool false, .int .i64 0, .string ⟨#[]⟩, .int .i64 0, .bool false, .int .i64 0, .string ⟨#[]⟩, .int .i64 0, .int .i64 0]
        have hv6 : v.ownBlock ≠ some w6.heap.size := fun e => by have := (hS.add.lt _ e).2; omega
        have hB6 := hS.o4
        have ho2 := hS.o2
        have ho3 := hS.o3
        replace hS := hS.alloc (.cells #[.int .i64 ai, .int .i64 ar, .int .i64 al, .bool false, .int .i64 0, .string ⟨#[]⟩, .int .i64 0, .bool false, .int .i64 0, .string ⟨#[]⟩, .int .i64 0, .int .i64 0] 40)
        generalize w6.alloc (.cells #[.int .i64 ai, .int .i64 ar, .int .i64 al, .bool false, .int .i64 0, .string ⟨#[]⟩, .int .i64 0, .bool false, .int .i64 0, .string ⟨#[]⟩, .int .i64 0, .int .i64 0] 40) = w7 at *
        generalize w6.heap.size = ge at *
        go_wp2_with fail
        refine (R1.out _ hS.rdr).mono ?_; rintro _ w8 ⟨rfl, hr, hg⟩
        replace hS := hS.step hr hg
        replace hE := hE.grownBy hg (by simp; omega)
        go_wp2_with fail
        refine (R2.out _ hS.rdr).mono ?_; rintro _ w9 ⟨rfl, hr, hg⟩
        replace hS := hS.step hr hg
        replace hE := hE.grownBy hg (by simp; omega)
        clear R1 R2 hr hg
        have x3 := hE.cellAt 3 rfl
        have x4 := hE.cellAt 4 rfl
        have x5 := hE.cellAt 5 rfl
        have x6 := hE.cellAt 6 rfl
        have x7 := hE.cellAt 7 rfl
        have x8 := hE.cellAt 8 rfl
        have x9 := hE.cellAt 9 rfl
        have x10 := hE.cellAt 10 rfl
        have xf := hE.frozen
        go_upto_region 9 with fail
        have hE2 := set8e hE (.bool ln) (.int .i64 li) (.string lz) (.int .i64 lq) (.bool hn) (.int .i64 hi) (.string hz) (.int .i64 hq)
        have hS2 := hS.side (grown8e w9 ge (.bool ln) (.int .i64 li) (.string lz) (.int .i64 lq) (.bool hn) (.int .i64 hi) (.string hz) (.int .i64 hq)) hB6 hv6 (by simp [Value.ownBlock])
        clear x3 x4 x5 x6 x7 x8 x9 x10 xf hE hS
        generalize ((((((((w9.setCell ⟨ge, 3, none⟩ (.bool ln)).setCell ⟨ge, 4, none⟩ (.int .i64 li)).setCell ⟨ge, 5, none⟩ (.string lz)).setCell ⟨ge, 6, none⟩ (.int .i64 lq)).setCell ⟨ge, 7, none⟩ (.bool hn)).setCell ⟨ge, 8, none⟩ (.int .i64 hi)).setCell ⟨ge, 9, none⟩ (.string hz)).setCell ⟨ge, 10, none⟩ (.int .i64 hq)) = w10 at *
        go_wp2_with fail
        refine (N6.out _ hS2.rdr).mono ?_; rintro _ w11 ⟨rfl, hr, hg⟩
        replace hS2 := hS2.step hr hg
        replace hE2 := hE2.grownBy hg (by simp; omega)
        clear N6 hr hg
        have x11 := hE2.cellAt 11 rfl
        have xf := hE2.frozen
        go_upto_region 10 with fail
        have hS3 := hS2.side (Lib.grownBy_setCell w11 ge 11 (.int .i64 dl)) hB6 hv6 (by simp [Value.ownBlock])
        have hE3 : Blk _ _ _ [.int .i64 ai, .int .i64 ar, .int .i64 al, .bool ln, .int .i64 li, .string lz, .int .i64 lq, .bool hn, .int .i64 hi, .string hz, .int .i64 hq, .int .i64 dl] := hE2.set_ 11 (.int .i64 dl)
        clear x11 xf hE2 hS2
        generalize w11.setCell ⟨ge, 11, none⟩ (.int .i64 dl) = w12 at *
        have x0 := hE3.cellAt 0 rfl
        have x1 := hE3.cellAt 1 rfl
        have x2 := hE3.cellAt 2 rfl
        have x3 := hE3.cellAt 3 rfl
        have x4 := hE3.cellAt 4 rfl
        have x5 := hE3.cellAt 5 rfl
        have x6 := hE3.cellAt 6 rfl
        have x7 := hE3.cellAt 7 rfl
        have x8 := hE3.cellAt 8 rfl
        have x9 := hE3.cellAt 9 rfl
        have x10 := hE3.cellAt 10 rfl
        have x11 := hE3.cellAt 11 rfl
        have y4 := hS3.rc.cellAt 4 rfl
        go_wp2_with (at_builtin; refine hS3.one ⟨ai, ar, al, ⟨⟨ln, li, lz⟩, lq⟩, ⟨⟨hn, hi, hz⟩, hq⟩, dl⟩ (by rw [hlx.out]; omega) (ds := #[.int .i64 ai, .int .i64 ar, .int .i64 al, .bool ln, .int .i64 li, .string lz, .int .i64 lq, .bool hn, .int .i64 hi, .string hz, .int .i64 hq, .int .i64 dl]) rfl ?_ rfl _ _ rfl rfl rfl)
        intro v' w13 hS4
        obtain ⟨D, cp, q, rfl⟩ := slice_form hS4.add
        have z4 := hS4.rc.cellAt 4 rfl
        have zf := hS4.rc.frozen
        have hS5 := hS4.set 4 (.slice D q cp)
        clear hS4
        go_wp2
        go_roundw
        case rel => exact ⟨i + 1, _, by go_num, by omega, by rw [HX.out]; exact hS5⟩
        case measure => simp [intOf]; omega
      · have hie : i = n := by omega
        subst hie
        have hcr := cntT_rng s (entsT s i s4).2
        obtain ⟨es, s5, e5⟩ : ∃ vv s2, entsT s i s4 = (vv, s2) := ⟨_, _, rfl⟩
        rw [e5] at hS hcr
        dsimp only at hS hcr
        obtain ⟨mm, s6, e6⟩ : ∃ vv s2, cntT s s5 = (vv, s2) := ⟨_, _, rfl⟩
        have M1 := Lib.hid (fun (W : World) (h : RdrAt W 107 g s s5) => tcnt_any s g s5 W hsz h)
        rw [e6] at M1 hcr
        obtain ⟨m, rfl⟩ := Int.eq_ofNat_of_zero_le hcr.1
        have hm256 : m ≤ 256 := by have := hcr.2; dsimp only at this; omega
        have HD : Hid (decT s = ⟨byte0 s, vv, qv, iv, es, (remsT s m s6).1⟩) := by
          show decT s = _
          obtain ⟨⟨a1, a2, a3⟩, a4⟩ := HE.out
          rw [decT, if_neg h]
          dsimp only
          rw [a1]; dsimp only; rw [a2]; dsimp only; rw [a3]; dsimp only; rw [a4]; dsimp only
          rw [show ((i : Int)).toNat = i from rfl, e5]; dsimp only; rw [e6]; rfl
        clear HE e5 e6 hcr
        go_wp2_with fail
        refine (M1.out _ hS.rdr).mono ?_; rintro _ w4 ⟨rfl, hr, hg⟩
        replace hS := hS.step hr hg
        clear hr hg M1
        go_wp2_with fail
        go_loopw [51] (fun a wr => ∃ (j : Nat) (v2 : Value), a = .int .i64 (j : Int) ∧ j ≤ m ∧ DS w wr 107 g gx B s (remsT s j s6).2 [.int .i64 (byte0 s), .int .i64 vv, .int .i64 qv, .int .i64 iv, v, v2] v es v2 (remsT s j s6).1) (fun a _ => m - (intOf a).toNat)
        case atStart => exact ⟨0, _, rfl, by omega, hS⟩
        case round =>
          clear hS
          obtain ⟨j, v2, rfl, hj, hS⟩ := hrel
          obtain ⟨ys, st, he⟩ : ∃ xs st, remsT s j s6 = (xs, st) := ⟨_, _, rfl⟩
          have hly : Hid (ys.length = j) := by have := remsT_len s s6 j; rw [he] at this; exact this
          rw [he] at hS
          dsimp only at hS
          obtain ⟨D1, c1, rfl, _⟩ := own_form hS.add
          obtain ⟨D2, c2, rfl, _⟩ := own_form hS.rem
          by_cases hjm : j < m
          · obtain ⟨ai, t1, a1⟩ : ∃ vv s2, numT s st = (vv, s2) := ⟨_, _, rfl⟩
            have N1 := Lib.hid (hN.out g st)
            rw [a1] at N1
            have HX : Hid (remsT s (j + 1) s6 = (ys ++ [ai], t1)) := by
              show remsT s (j + 1) s6 = _
              rw [remsT, he]
              dsimp only
              rw [a1]
            clear he a1
            go_upto_region 14 with fail
            have X2 : Blk _ _ _ [.int .i64 (byte0 s), .int .i64 vv, .int .i64 qv, .int .i64 iv, .slice D1 es.length c1, .slice D2 ys.length c2] := hS.rc
            refine wp_region_L (SBk 7 gx 31 [.int .i64 (byte0 s), .int .i64 vv, .int .i64 qv, .int .i64 iv, .slice D1 es.length c1, .slice D2 ys.length c2]) (by kernel_rfl) ?_
            replace hS := hS.drew
            replace X2 : Blk wr.drew gx _ _ := X2
            generalize wr.drew = wy at *
            refine wpAnyL_takeD (fun l => l.getD 7 false = false) (i := 0) (v := (.pointer (some ⟨gx, 5, none⟩))) (some 53) rfl rfl (by kernel_rfl) (by kernel_rfl) (by kernel_rfl) (fun _ _ _ h => h) (fun l j hc hi hj hne => (getD_set_ne false (waits_ne (k := 7) hi hj (by kernel_rfl))).trans hc) (fun _ _ _ => SBk.set (by decide)) rfl (Or.inl ⟨by rfl, fun w' hw' => by obtain ⟨l, hc, hl⟩ := hw'; have k5 := (hl hc).cellAt 5 rfl; go_simp⟩) (fun _ => X2) ?_
            simp only [Act.put, List.setIfInBounds_toArray, List.set_cons_zero, List.set_cons_succ]
            refine wpAnyL_takeD (fun l => l.getD 7 false = false) (i := 1) (v := (.slice D2 ys.length c2)) (some 54) rfl rfl (by kernel_rfl) (by kernel_rfl) (by kernel_rfl) (fun _ _ _ h => h) (fun l j hc hi hj hne => (getD_set_ne false (waits_ne (k := 7) hi hj (by kernel_rfl))).trans hc) (fun _ _ _ => SBk.set (by decide)) rfl (Or.inl ⟨by rfl, fun w' hw' => by obtain ⟨l, hc, hl⟩ := hw'; have k5 := (hl hc).cellAt 5 rfl; go_simp⟩) (fun _ => X2) ?_
            simp only [Act.put, List.setIfInBounds_toArray, List.set_cons_zero, List.set_cons_succ]
            refine wpAnyL_takeD (fun l => l.getD 7 false = false) (i := 2) (v := (.pointer (some ⟨g, 0, none⟩))) (some 55) rfl rfl (by kernel_rfl) (by kernel_rfl) (by kernel_rfl) (fun _ _ _ h => h) (fun l j hc hi hj hne => (getD_set_ne false (waits_ne (k := 7) hi hj (by kernel_rfl))).trans hc) (fun _ _ _ => SBk.set (by decide)) rfl (Or.inl ⟨by rfl, fun w' hw' => by obtain ⟨l, hc, hl⟩ := hw'; have k5 := (hl hc).cellAt 5 rfl; go_simp⟩) (fun _ => X2) ?_
            simp only [Act.put, List.setIfInBounds_toArray, List.set_cons_zero, List.set_cons_succ]
            refine wpAnyL_one (i := 3) (by decide +kernel) ?_
            refine wpOp_go (o := _) rfl (fun K hK => ?_)
            go_simp
            go_at_call 63
            refine (N1.out _ hS.rdr).mono ?_; rintro _ wz ⟨rfl, hr, hg⟩
            replace hS := hS.step hr hg
            refine hK _ _ ⟨fun _ => hS.rc, ?_⟩
            clear hK K hr hg X2
            refine wpAnyL_one (i := 4) (by decide +kernel) ?_
            refine wpOp_go (o := _) rfl (fun K hK => ?_)
            go_simp
            refine hK _ _ ⟨fun _ => hS.rc.alloc _, ?_⟩
            clear hK K
            refine wpAnyL_one (i := 5) (by decide +kernel) ?_
            refine wpOp_go (o := _) rfl (fun K hK => ?_)
            refine hS.stepR ai (by rw [hly.out]; omega) rfl _ _ rfl rfl rfl ?_
            intro v' w13 hS4
            obtain ⟨D, cp, q, rfl⟩ := slice_form hS4.rem
            refine hK _ _ ⟨fun _ => hS4.rc, ?_⟩
            clear hK K
            refine wpAnyL_one (i := 6) (by decide +kernel) ?_
            refine wpOp_go (o := _) rfl (fun K hK => ?_)
            go_simp
            refine hK _ _ ⟨fun _ => hS4.rc, ?_⟩
            clear hK K
            have z5 := hS4.rc.cellAt 5 rfl
            have zf := hS4.rc.frozen
            have hS5 := hS4.set 5 (.slice D q cp)
            refine wpAnyL_one (i := 7) (by decide +kernel) ?_
            refine wpOp_go (o := _) rfl (fun K hK => ?_)
            go_simp
            refine hK _ _ ⟨fun h => absurd h (by decide), ?_⟩
            clear hK K hS4 z5 zf
            refine wpAnyL_done (by decide +kernel) ?_ _
            go_wp2
            go_roundw
            case rel => exact ⟨j + 1, _, by go_num, by omega, by rw [HX.out]; exact hS5⟩
            case measure => simp [intOf]; omega
          · have hje : j = m := by omega
            subst hje
            have x0 := hS.rc.cellAt 0 rfl
            have x1 := hS.rc.cellAt 1 rfl
            have x2 := hS.rc.cellAt 2 rfl
            have x3 := hS.rc.cellAt 3 rfl
            have x4 := hS.rc.cellAt 4 rfl
            have x5 := hS.rc.cellAt 5 rfl
            have r0 := hS.res.cellAt 0 rfl
            have r1 := hS.res.cellAt 1 rfl
            have r2 := hS.res.cellAt 2 rfl
            have r3 := hS.res.cellAt 3 rfl
            have r4 := hS.res.cellAt 4 rfl
            have r5 := hS.res.cellAt 5 rfl
            have rf := hS.res.frozen
            have hdn := DS.done (r := ⟨byte0 s, vv, qv, iv, es, ys⟩) hS (.int .i64 (byte0 s)) (.int .i64 vv) (.int .i64 qv) (.int .i64 iv) (.slice D1 es.length c1) (.slice D2 ys.length c2)
            have HD2 : Hid (decT s = ⟨byte0 s, vv, qv, iv, es, ys⟩) := HD.out.trans (by rw [he])
            clear he HD
            go_wp2
            refine bodyPost_ret (v := .agg #[.int .i64 (byte0 s), .int .i64 vv, .int .i64 qv, .int .i64 iv, .slice D1 es.length c1, .slice D2 ys.length c2]) (by simp [results, Try.results31, go_sem, r0, r1, r2, r3, r4, r5]) rfl ?_
            rw [HD2.out]
            exact ⟨_, _, rfl, hdn.1, hdn.2.1, hdn.2.2⟩

theorem decode_any (s : ByteArray) (w : World) (hsz : s.size ≤ 1000000000000000) : Calls Try.prog 31 #[.string s] w (DecP w (decT s)) := by
  by_cases h : s.size = 0
  · exact decode_none s w h
  · exact decode_some s w hsz h

end Go.Proofs.Ytgacjpkgpegcdaa
