/-
  delta.Encode.
-/
import Derived.Test.YtodegmphcjgipaaGreatDoorEPlain
import Derived.Test.YtodegmphcjgipaaGreatDoorEChunk
import Derived.Test.YtodegmphcjgipaaGreatDoorKeep
import Derived.Lib.BufStepsIn
import Derived.Test.YtodegmphcjgipaaGreatDoorERow
import Derived.Test.YtodegmphcjgipaaGreatDoorEFence
namespace Go.Proofs.YtodegmphcjgipaaGreatDoor
open Go.RowKit Go.Shelf

attribute [local go_sem] Oper.semAt_some

theorem infoI64 : (Tryz.prog.info? 2).map (fun i => (i.zero, i.size, i.bytes)) = some (some (.int .i64 0), 1, 8) := by kernel_rfl
theorem i64s : SlTy Tryz.prog 33 2 (.int .i64 0) 1 8 := ⟨Tryz.underlying33, info_parts infoI64⟩
theorem one_i64 (z : Int) : ∀ u ∈ (#[Value.int .i64 z] : Array Value).toList, u.oneCell' = true := by
  intro u hu; simp at hu; subst hu; rfl

/-- The chunks come one after another. -/
theorem chunk_stops (n : Nat) (hn : 1 ≤ n) (Bs Bn b len cap : Nat) (A : Option Addr) (hA : (A = none ∧ len = 0 ∧ cap = 0) ∨ A = some ⟨b, 0, none⟩) (hreach : len * 8 ≤ 140737488351232) (hlc : len ≤ cap) (w : World)
    (hBs : w.cell? ⟨Bs, 0, none⟩ = some (.slice A len cap)) (hBn : w.cell? ⟨Bn, 0, none⟩ = some (.int .i64 32)) (hs : Bs < w.heap.size) (hm : Bn < w.heap.size) :
    SeqStopsK Fence.wide n Tryz.prog 379 #[.pointer (some ⟨Bs, 0, none⟩), .pointer (some ⟨Bn, 0, none⟩)] (fun k : Chk len => #[chunkV b len k.1]) (Keeps3 b Bs Bn) (fun ys => ys.map Subtype.val = List.range ((len + 31) / 32)) (fun _ => True) ((len + 31) / 32) w :=
  fun l J Jx W hW hJ _ hY h0 => by
    have hs' := (hW.cell (p := ⟨Bs, 0, none⟩) hs).trans hBs
    have hm' := (hW.cell (p := ⟨Bn, 0, none⟩) hm).trans hBn
    have hJd : ∀ pre A, J pre A → J pre A.drew := fun pre A h => hJ pre A A.drew none h ⟨rfl, rfl, rfl, Nat.le_refl _, fun _ _ _ => rfl⟩ (fun r e => by cases e)
    rcases hA with ⟨rfl, rfl, rfl⟩ | rfl
    · exact (chunk1_nil_in n l Bs Bn J W hs' h0).mono fun e W' ⟨he, hj⟩ => ⟨he, .inl ⟨[], rfl, hj⟩⟩
    · exact chunk1_in n hn l Bs Bn b len cap hreach hlc J Jx hY W hs' hm' hJd h0
theorem Blk.grownR2 {w w' : World} {g' : Nat} {row : Option Nat} {t : TypeId} {cs : List Value} (h : Blk w g' t cs) (hg : w.grownBy w' row) (hne : ∀ k, row = some k → k ≠ g') : Blk w' g' t cs :=
  (hg.block g' h.lt (fun e => hne g' e.symm rfl)).trans h
theorem grown_set1 (w : World) (g : Nat) (v : Value) : w.grownBy (w.setCell ⟨g, 0, none⟩ v) (some g) :=
  ⟨rfl, rfl, rfl, by simp [World.setCell], fun k _ hne => Below.heap_setCell w ⟨g, 0, none⟩ v k (fun e => hne (by rw [e]))⟩
theorem below_alloc3 {a w : World} (h : Below a.heap.size a w) (o : Obj) : Below a.heap.size a (w.alloc o) := h.alloc h.size o
theorem own_blk {w : World} {base size n c : Nat} {e : TypeId} {A : Option Addr} {xs : List Value} (h : w.ownsRow base e size (.slice A n c) n xs) : (A = none ∧ n = 0 ∧ c = 0) ∨ ∃ g, A = some ⟨g, 0, none⟩ ∧ base ≤ g ∧ g < w.heap.size := by
  rcases h.2 with ⟨h1, h2⟩ | ⟨g, cap, cur, hv, hb, hg, _⟩
  · cases h1; exact .inl ⟨rfl, h2, rfl⟩
  · cases hv; exact .inr ⟨g, rfl, hb, (Array.getElem?_eq_some_iff.1 hg).1⟩
theorem step_text {P : Program} {w : World} {base : Nat} {e : TypeId} {v : Value} {n : Nat} {xs : List Value} (h : RowB w base e v n xs) (hbase : base ≤ w.heap.size) {t u : TypeId} (hT : SlTy P t e (.int .u8 0) 1 1) (hu : P.underlying u = some .string)
    (s : ByteArray) (hsz : n + s.size ≤ 140737488355328) {ops : Array Oper} {o : Oper} {a : Act} {K : Act → World → Prop} {Q : Exit → Act → World → Prop} {E : Prop}
    (hgd : o.guard = none) (y x : Operand) (ho : o.op = .call { callee := .builtin .append, args := #[y, x], argTypes := #[t, u] }) (hs : a.eval y = v) (hx : a.eval x = .string s)
    (hK : ∀ v' w', RowB w' base e v' (n + s.size) (xs ++ Lib.strCells s) → w.grownBy w' v.ownBlock → (v'.ownBlock = v.ownBlock ∨ v'.ownBlock = some w.heap.size) → K (a.put o.dst v') w') :
    if Region.wanted o (yielded ops a.tmps) = true then Oper.wp P o a w K Q else E := by
  rw [if_pos (by simp [Region.wanted, hgd])]
  obtain ⟨v', w', hr, h1, h2, h3⟩ := h.append (P := P) hbase hT hu s o.type hsz
  unfold Oper.wp execOp
  simp only [ho, resolve, invoke, builtin, Sem.run_bind, Sem.run_pure, Result.andThen_ok, List.map_toArray, List.map_cons, List.map_nil, hs, hx, hr]
  exact hK _ _ h1 h2 h3
theorem keeps3_t {b s m : Nat} {A B C : World} : Keeps3 b s m A B → Keeps3 b s m B C → Keeps3 b s m A C := fun h k => h.trans k
theorem cell_of_heap {w w' : World} {p : Addr} (h : w'.heap[p.block]? = w.heap[p.block]?) : w'.cell? p = w.cell? p := by
  unfold World.cell?; rw [h]
theorem keeps3_b {b s m B : Nat} (hb : b < B) (hs : s < B) (hm : m < B) (W : World) (l : Nat) (o o' : Obj) (hl : B ≤ l) (ho : W.heap[l]? = some o) : Keeps3 b s m W (W.putObj l o') := fun p hp => by
  have hlt : p.block < l := by rcases hp with h | h | h <;> omega
  have hlW := (Array.getElem?_eq_some_iff.1 ho).1
  have hne : p.block ≠ l := by omega
  exact cell_of_heap ((grownBy_putObj' W l o').block p.block (by omega) (fun e => hne (by cases e; rfl)))
/-- The bytes when so many chunks have come. -/
def bsE (zg : Nat) (d : List Int) {len : Nat} (pre : List (Chk len)) : List UInt8 := putL zg ++ pre.flatMap (fun k => blockL (part d k.1))
theorem bsE_snoc {zg len : Nat} {d : List Int} (pre : List (Chk len)) (x : Chk len) : bsE zg d (pre ++ [x]) = bsE zg d pre ++ blockL (part d x.1) := by
  unfold bsE; rw [List.flatMap_append, List.append_assoc]; simp
theorem bsE_len {zg len : Nat} {d : List Int} (hU : U64 zg) (hd : ∀ z ∈ d, I64 z) (hl : d.length = len) (pre : List (Chk len)) : (bsE zg d pre).length ≤ 10 + 300 * pre.length := by
  have h1 := putL_len hU
  have h2 : ∀ pre : List (Chk len), (pre.flatMap (fun k => blockL (part d k.1))).length ≤ 300 * pre.length := by
    intro pre
    induction pre with
    | nil => simp
    | cons k pre ih =>
      rw [List.flatMap_cons, List.length_append, List.length_cons]
      have hp := part_len d k.1
      have hk := k.2
      have h3 := blockL_len (part_I64 hd k.1) (by intro e; rw [e] at hp; simp at hp; omega)
      omega
  have := h2 pre
  unfold bsE
  rw [List.length_append]
  omega
/-- What holds between two chunks. -/
def EncI (w wl : World) (gb gd Bs Bn : Nat) (zg : Nat) (d : List Int) (len : Nat) (pre : List (Chk len)) (W : World) : Prop :=
  ∃ v, Blk W gb 127 [v] ∧ RowB W w.heap.size 5 v (bsE zg d pre).length ((bsE zg d pre).map Bv) ∧ (∀ k, v.ownBlock = some k → k ≠ gb ∧ k ≠ gd ∧ k ≠ Bs ∧ k ≠ Bn) ∧ Keeps3 gd Bs Bn wl W ∧ wl.heap.size ≤ W.heap.size ∧ Below w.heap.size w W
theorem encI_step {w wl W W2 w' : World} {gb gd Bs Bn zg len n n' : Nat} {d : List Int} {pre : List (Chk len)} {x : Chk len} {v v' : Value} {xs xs' : List Value}
    (h2 : Below W.heap.size W W2) (hbx : Blk W gb 127 [v]) (hrw : RowB W w.heap.size 5 v n xs) (hne : ∀ k, v.ownBlock = some k → k ≠ gb ∧ k ≠ gd ∧ k ≠ Bs ∧ k ≠ Bn) (hk3 : Keeps3 gd Bs Bn wl W)
    (hsz : wl.heap.size ≤ W.heap.size) (hB : Below w.heap.size w W) (hg : W2.grownBy w' v.ownBlock) (hrw' : RowB w' w.heap.size 5 v' n' xs') (how : v'.ownBlock = v.ownBlock ∨ v'.ownBlock = some W2.heap.size)
    (hgb : w.heap.size ≤ gb) (hd : gd < wl.heap.size ∧ gd ≠ gb) (hs : Bs < wl.heap.size ∧ Bs ≠ gb) (hm : Bn < wl.heap.size ∧ Bn ≠ gb) (hn' : n' = (bsE zg d (pre ++ [x])).length) (hx' : xs' = (bsE zg d (pre ++ [x])).map Bv) :
    KeepsOthers W (w'.setCell ⟨gb, 0, none⟩ v') ∧ Keeps3 gd Bs Bn W (w'.setCell ⟨gb, 0, none⟩ v') ∧ EncI w wl gb gd Bs Bn zg d len (pre ++ [x]) (w'.setCell ⟨gb, 0, none⟩ v') := by
  have hbl := hbx.lt
  have hs2 := h2.size
  have hs3 := hg.size
  have hset : (w'.setCell ⟨gb, 0, none⟩ v').heap.size = w'.heap.size := by simp [World.setCell]
  have key : ∀ j, j < W.heap.size → some j ≠ v.ownBlock → j ≠ gb → (w'.setCell ⟨gb, 0, none⟩ v').heap[j]? = W.heap[j]? := fun j hj h3 h4 =>
    ((Below.heap_setCell w' ⟨gb, 0, none⟩ v' j h4).trans (hg.block j (by omega) h3)).trans (h2.block j hj)
  have hK3 : Keeps3 gd Bs Bn W (w'.setCell ⟨gb, 0, none⟩ v') := fun p hp => by
    refine cell_of_heap (key p.block ?_ (fun e => ?_) ?_)
    · rcases hp with h | h | h <;> omega
    · have := hne p.block e.symm
      rcases hp with h | h | h <;> simp [h] at this
    · rcases hp with h | h | h <;> omega
  obtain ⟨g, hgv, hgw, hgl⟩ := hrw.own
  refine ⟨⟨by omega, fun j o ho hc => ?_⟩, hK3, v', ?_, ?_, fun k hk => ?_, hk3.trans hK3, by omega, ?_⟩
  · have hj : j < W.heap.size := (Array.getElem?_eq_some_iff.1 ho).1
    refine (key j hj (fun e => ?_) (fun e => ?_)).trans ho
    · obtain ⟨_, g2, _, cur, fz, rfl, _, hc2, _⟩ := hrw
      cases e
      rw [hc2] at ho
      cases ho; cases hc
    · subst e
      rw [show W.heap[j]? = _ from hbx] at ho
      cases ho; cases hc
  · have h5 : Blk w' gb 127 [v] := (hg.block gb (by omega) (fun e => (hne gb e.symm).1 rfl)).trans (hbx.call h2)
    exact h5.set_ 0 v'
  · rw [← hn', ← hx']
    refine hrw'.kept (row := some gb) (grown_set1 w' gb v') (fun k hk => ?_)
    cases hk
    intro e
    rcases how with h | h
    · rw [h] at e; exact (hne gb e).1 rfl
    · rw [h] at e; cases e; omega
  · rcases how with h | h
    · rw [h] at hk; exact hne k hk
    · rw [h] at hk
      cases hk
      omega
  · refine (hB.trans ?_).setCell (p := ⟨gb, 0, none⟩) hgb v'
    exact (h2.mono hB.size).grown hg (by have := hB.size; omega) (fun k hk => by rw [hgv] at hk; cases hk; exact hgw)
theorem encI_own {w wl : World} {gb gd Bs Bn zg len : Nat} {d : List Int} (hw : w.heap.size ≤ wl.heap.size) (hd : gd < wl.heap.size) (hs : Bs < wl.heap.size) (hm : Bn < wl.heap.size) : OwnFrom wl.heap.size (EncI w wl gb gd Bs Bn zg d len) := by
  rintro pre W W' row ⟨v, hbx, hrw, hne, hk3, hsz, hB⟩ hg hr
  refine ⟨v, ?_, ?_, hne, hk3.trans fun p hp => ?_, Nat.le_trans hsz hg.size, hB.grown hg (Nat.le_trans hw hsz) (fun k e => Nat.le_trans hw (hr k e).1)⟩
  · refine (hg.block gb hbx.lt (fun e => ?_)).trans hbx
    obtain ⟨_, o, ho, hc⟩ := hr gb e.symm
    rw [show W.heap[gb]? = _ from hbx] at ho
    cases ho; cases hc
  · refine hrw.kept hg (fun k e e' => ?_)
    obtain ⟨_, o, ho, hc⟩ := hr k e
    obtain ⟨_, g2, _, cur, fz, rfl, _, hc2, _⟩ := hrw
    cases e'
    rw [hc2] at ho
    cases ho; cases hc
  · have hlt : p.block < wl.heap.size := by rcases hp with h | h | h <;> omega
    exact cell_of_heap (hg.block p.block (by omega) (fun e => by have := (hr _ e.symm).1; omega))
theorem encI_nil {w wl : World} {gb gd Bs Bn zg len n : Nat} {d : List Int} {v : Value} (h1 : Blk wl gb 127 [v]) (h2 : RowB wl w.heap.size 5 v n ((putL zg).map Bv)) (hne : ∀ k, v.ownBlock = some k → k ≠ gb ∧ k ≠ gd ∧ k ≠ Bs ∧ k ≠ Bn) (hB : Below w.heap.size w wl) : EncI w wl gb gd Bs Bn zg d len [] wl := by
  have e : bsE zg d ([] : List (Chk len)) = putL zg := by simp [bsE]
  refine ⟨v, h1, ?_, hne, fun _ _ => rfl, Nat.le_refl _, hB⟩
  have hl : n = (putL zg).length := by have := h2.1; simpa using this.symm
  subst hl
  rw [e]; exact h2
set_option maxRecDepth 100000 in
set_option maxHeartbeats 2000000 in
theorem encode_in (A : Option Addr) (n c : Nat) (L : List Int) (w : World) (hr : Rd w w.heap.size A (L.map Iv)) (hn : L.length = n) (h0 : 0 < n) (hm : n ≤ 4096) (hc : n ≤ c) (hz : ∀ z ∈ L, I64 z) :
    Calls Tryz.prog 277 #[.slice A n c] w fun e w' => e = .returned (Sv (encD L)) ∧ Below w.heap.size w w' := by
  have HN := Lib.hid hn
  have HZ := Lib.hid hz
  obtain ⟨x0, hx0⟩ : ∃ x, L[0]? = some x := ⟨_, List.getElem?_eq_getElem (by omega)⟩
  obtain ⟨ad, rfl, hadb, c0⟩ := hr.at_ (j := 0) (u := Iv x0) (by rw [List.getElem?_map, hx0]; rfl)
  have c00 : w.cell? ad = some (Iv x0) := by simpa [Addr.add] using c0
  have hx64 : I64 x0 := hz _ (List.mem_of_getElem? hx0)
  have HX := Lib.hid hx0
  have q1 : (1 : Int) ≤ (n : Int) := by omega
  have q2 : (n : Int) ≤ (c : Int) := by omega
  have hd0 : ((n : Int) == 0) = false := by simp; omega
  have hd1 : decide ((4096 : Int) < (n : Int)) = false := by simp; omega
  clear hn hz hx0
  have hcv := fun W : World => Lib.run_convert_string_bytes (P := Tryz.prog) W 9 127 5 ⟨(putL (zigN x0)).toArray⟩ Tryz.underlying9 Tryz.underlying127 Tryz.underlying5
  refine (callsIn_wide (n := 6)).1 ?_
  refine callsIn_of_wp_marks Tryz.func277 rfl trivial ?_ rfl
  simp only [Tryz.ntmps277, List.size_toArray, List.length_cons, List.length_nil, Nat.reduceAdd, Nat.reduceSub, Array.replicate_succ, Array.replicate_zero, List.push_toArray, List.append_toArray, List.nil_append, List.cons_append]
  refine wpIn_wide.2 ?_
  go_wp2_with fail
  refine (zig_any x0 _ hx64).mono ?_; rintro e w1 ⟨rfl, rfl⟩
  have hU := zigN_U64 hx64
  have l1 := putL_len hU
  generalize hzg : zigN x0 = zg at *
  have HZG := Lib.hid hzg
  clear hzg
  go_wp2_with fail
  refine (put_any zg _ hU).mono ?_; rintro e w1 ⟨rfl, hb1⟩
  have hrow := RowB.new w1 w.heap.size 5 ⟨(putL zg).toArray⟩ hb1.size (by rw [size_mk]; omega)
  have hbw := bt hb1 (Lib.bytesWorld_below w1 5 ⟨(putL zg).toArray⟩)
  rw [size_mk] at hrow
  by_cases hc1 : c = 1
  · have hc2 : (c : Int) = 1 := by omega
    have HN1 := Lib.hid (show n = 1 by omega)
    go_wp2_with fail
    clear hcv hc1 hc2
    generalize Lib.bytesWorld w1 5 ⟨(putL zg).toArray⟩ = w2 at *
    generalize w1.heap.size = gr at *
    generalize grownCap w1 (putL zg).length 0 5 = cb at *
    have hbox := Blk.new' w2 127 #[.slice (some ⟨gr, 0, none⟩) (putL zg).length cb]
    have hrow3 := hrow.call ((Below.refl w2.heap.size w2).alloc (Nat.le_refl _) (.cells #[.slice (some ⟨gr, 0, none⟩) (putL zg).length cb] 127))
    have hb3 := bt hbw ((Below.refl w2.heap.size w2).alloc (Nat.le_refl _) (.cells #[.slice (some ⟨gr, 0, none⟩) (putL zg).length cb] 127))
    generalize w2.alloc (.cells #[.slice (some ⟨gr, 0, none⟩) (putL zg).length cb] 127) = w3 at *
    have hgr3 : gr < w3.heap.size := by obtain ⟨g, h1, _, h2⟩ := hrow3.own; cases h1; exact h2
    have hgb : w.heap.size ≤ w2.heap.size := hbw.size
    generalize w2.heap.size = gb at *
    clear hrow hbw hb1
    go_loopw [4, 25] (fun d b wr => ∃ i : Nat, b = .int .i64 (i : Int) ∧ i ≤ n - 1 ∧ Own w3 wr 2 1 d i ((List.range i).map (fun j => Iv (diffA L j)))) (fun _ b _ => n - (intOf b).toNat)
    case atStart => exact ⟨0, rfl, by omega, Own.nil _ _ _⟩
    case round =>
      obtain ⟨i, rfl, hi, hO⟩ := hrel
      obtain ⟨B, cp, rfl, hcp⟩ := own_form hO.1
      by_cases hin : i < n - 1
      · exact absurd hin (by have := HN1.out; omega)
      · have hin2 : i = n - 1 := by omega
        subst hin2
        have hxd := Rd.of_own hO.1
        have hbw := bt hb3 hO.2
        have hown := hO.1
        have hrow4 := hrow3.call hO.2
        have hbox4 := hbox.call hO.2
        have hw34 := hO.2.size
        have hgbl := hbox.lt
        have hgl : ∃ gd, ((B = none ∧ n - 1 = 0 ∧ cp = 0) ∨ B = some ⟨gd, 0, none⟩) ∧ w3.heap.size ≤ gd ∧ gd ≤ wr.heap.size := by
          rcases own_blk hown with ⟨h1, h2, h3⟩ | ⟨g, h1, h2, h3⟩
          · exact ⟨w3.heap.size, .inl ⟨h1, h2, h3⟩, Nat.le_refl _, hw34⟩
          · exact ⟨g, .inr h1, h2, Nat.le_of_lt h3⟩
        obtain ⟨gd, hgB, hgd1, hgd2⟩ := hgl
        have HDL : Hid ((List.range (n - 1)).map (fun j => Iv (diffA L j)) = (diffs L).map Iv) := by show _ = _; simp [diffs, HN.out, List.map_map]
        rw [HDL.out] at hxd
        have hdl : (diffs L).length = n - 1 := by rw [diffs_len, HN.out]
        have hdI := diffs_I64 L
        have HE := Lib.hid (show encD L = putL zg ++ encB (diffs L) ((n - 1 + 31) / 32) by
          rw [← HZG.out]
          unfold encD
          rw [if_neg (by rintro (h | h); subst h; exact absurd HN.out (by simp; omega); rw [HN.out] at h; omega), hdl]
          rw [show L.getD 0 0 = x0 by simp [List.getD, HX.out]])
        generalize diffs L = d at *
        clear hO hrow3 hbox hown HDL c0 c00 q1 q2 hd0 hd1 hr
        go_wp2_with fail
        refine (chunk_any B (n - 1) cp _).mono ?_; rintro e w4 ⟨rfl, rfl⟩
        go_wp2_with fail
        have hs1 : (wr.alloc (.cells #[.slice B (n - 1) cp] 33)).heap.size = wr.heap.size + 1 := by simp
        have hBs := ((Blk.new' wr 33 #[.slice B (n - 1) cp]).alloc (.cells #[.int .i64 32] 3)).cellAt 0 rfl
        have hBn := (Blk.new' (wr.alloc (.cells #[.slice B (n - 1) cp] 33)) 3 #[.int .i64 32]).cellAt 0 rfl
        rw [hs1] at hBn
        have hgdw : gd ≤ wr.heap.size := hgd2
        have hwl : ((wr.alloc (.cells #[.slice B (n - 1) cp] 33)).alloc (.cells #[.int .i64 32] 3)).heap.size = wr.heap.size + 2 := by simp
        have hbl := below_alloc3 (below_alloc3 (Below.refl wr.heap.size wr) (.cells #[.slice B (n - 1) cp] 33)) (.cells #[.int .i64 32] 3)
        have hrow5 := hrow4.call hbl
        have hbox5 := hbox4.call hbl
        have hxl := hxd.call hbl
        have hbwl := bt hbw hbl
        have hgb5 := hbox4.lt
        generalize (wr.alloc (.cells #[.slice B (n - 1) cp] 33)).alloc (.cells #[.int .i64 32] 3) = wl at *
        refine (wpIn_wide (n := 6)).1 ?_
        refine wpIn_rangeFunc_ownF rfl (by omega) (gf := 379) (lb := #[.pointer (some ⟨wr.heap.size, 0, none⟩), .pointer (some ⟨wr.heap.size + 1, 0, none⟩)]) rfl trivial (enters_of Tryz.func379 (by kernel_rfl) rfl)
          (chunk_stops 5 (by omega) wr.heap.size (wr.heap.size + 1) gd (n - 1) cp B hgB (by omega) hcp wl hBs hBn (by omega) (by omega)) keeps3_t (fun W l o o' hl ho _ _ => keeps3_b (by omega) (by omega) (by omega) W l o o' hl ho) (Below.refl _ _) (fun _ => rfl)
          (EncI w wl gb gd wr.heap.size (wr.heap.size + 1) zg d (n - 1)) (fun _ _ _ => False) ?hI (fun _ _ _ _ _ hs _ _ => hs) ?h0 ?a1 ?assign ?body ?done ?stop
        case assign =>
          intro l x W K hK
          gi_wp2
          exact hK
        case body =>
          rintro l pre ⟨k, hkx⟩ W ⟨v, hbx, hrw, hne, hk3, hsz, hB⟩ hpre
          have hgs : B = some ⟨gd, 0, none⟩ := by
            rcases hgB with ⟨_, h2, _⟩ | h
            · omega
            · exact h
          subst hgs
          have hm1 : 0 < min 32 (n - 1 - 32 * k) := by omega
          have hm2 : min 32 (n - 1 - 32 * k) ≤ 32 := by omega
          have hpl : (part d k).length = min 32 (n - 1 - 32 * k) := by rw [part_len, hdl]
          have hgdl : gd < W.heap.size := by omega
          have hrd : Rd W W.heap.size (some ⟨gd, 32 * k, none⟩) ((part d k).map Iv) := by
            refine .inr ⟨_, rfl, hgdl, fun j u hj => ?_⟩
            have hjl : j < min 32 (n - 1 - 32 * k) := by rw [← hpl]; have := (List.getElem?_eq_some_iff.1 hj).1; simpa using this
            have e0 : (⟨gd, 32 * k, none⟩ : Addr).add j = (⟨gd, 0, none⟩ : Addr).add (32 * k + j) := by unfold Addr.add; split <;> split <;> simp_all <;> omega
            rw [e0]
            obtain ⟨_, e1, _, hc⟩ := hxl.at_ (j := 32 * k + j) (u := u) (by
              rw [List.getElem?_map] at hj ⊢
              rw [← hj, part, List.getElem?_take, if_pos (by omega), List.getElem?_drop])
            cases e1
            rw [hk3 _ (.inl (by rw [block_of_add]))]
            exact hc
          have HBK : Hid (∀ ws : World, Below W.heap.size W ws → Calls Tryz.prog 340 #[.slice (some ⟨gd, 32 * k, none⟩) (min 32 (n - 1 - 32 * k)) (min 32 (n - 1 - 32 * k))] ws fun e w' => e = .returned (Sv (blockL (part d k))) ∧ Below ws.heap.size ws w') := fun ws h =>
            block_any (some ⟨gd, 32 * k, none⟩) _ _ (part d k) ws (hrd.call h) hpl hm1 (by omega) (part_I64 hdI k)
          have hbll := blockL_len (part_I64 hdI k) (by intro e; rw [e] at hpl; simp at hpl; omega)
          rw [hpl] at hbll
          dsimp only [chunkV]
          generalize min 32 (n - 1 - 32 * k) = m at *
          have hc0 := hbx.cellAt 0 rfl
          have hf0 := hbx.frozen 0
          have q1 : 1 ≤ 4 - 1 := by omega
          have hmx : Tryz.prog.follows .mixedOrders = true := by kernel_rfl
          have hbsl : (bsE zg d pre).length ≤ 2000000 := by have := bsE_len (zg := zg) hU hdI hdl pre; omega
          refine wpIn_block ?_
          refine wpIn_region_L (fun l w' => l.getD 4 false = false → w'.cell? ⟨gb, 0, none⟩ = some v) hmx (by kernel_rfl) ?_ ?_
          · rintro ⟨a, w', h⟩
            exact h
          have hBd : Below W.heap.size W W.drew := Below.drew (Below.refl _ _)
          have MK : Hid (∀ w', Below W.heap.size W w' → (w'.cell? ⟨gb, 0, none⟩ = some v)) := fun w' h => (hbx.call h).cellAt 0 rfl
          generalize W.drew = wx at *
          refine wpAnyL_takeD (fun l => l.getD 4 false = false) (i := 0) (v := v) (some 43) rfl rfl (by kernel_rfl) (by kernel_rfl) (by kernel_rfl) (fun _ _ _ h => h) (fun l j hc hi hj hne => (getD_set_ne false (waits_ne (k := 4) hi hj (by kernel_rfl))).trans hc) (fun l w' _ => by rw [getD_set_ne false (by decide)]) rfl (Or.inl ⟨by rfl, fun w' hw' => by obtain ⟨l, hc, hl⟩ := hw'; have k0 := hl hc; go_simp⟩) (fun _ => MK.out _ hBd) ?_
          simp only [Act.put, List.setIfInBounds_toArray, List.set_cons_zero, List.set_cons_succ]
          refine wpAnyL_takeD (fun l => l.getD 4 false = false) (i := 1) (v := .slice (some ⟨gd, 32 * k, none⟩) m m) (some 44) rfl rfl (by kernel_rfl) (by kernel_rfl) (by kernel_rfl) (fun _ _ _ h => h) (fun l j hc hi hj hne => (getD_set_ne false (waits_ne (k := 4) hi hj (by kernel_rfl))).trans hc) (fun l w' _ => by rw [getD_set_ne false (by decide)]) rfl (Or.inl ⟨by rfl, fun w' hw' => by go_simp⟩) (fun _ => MK.out _ hBd) ?_
          simp only [Act.put, List.setIfInBounds_toArray, List.set_cons_zero, List.set_cons_succ]
          refine wpAnyL_one (i := 2) (by decide +kernel) ?_
          refine wpOp_go (o := _) rfl (fun K hK => ?_)
          go_simp
          go_at_call 340
          refine (HBK.out wx hBd).mono ?_; rintro e W2 ⟨rfl, hb2⟩
          have hb22 := bt hBd hb2
          refine hK _ _ ⟨fun _ => MK.out _ hb22, ?_⟩
          clear hK K
          refine wpAnyL_one (i := 3) (by decide +kernel) ?_
          have hrw2 := hrw.call hb22
          have hbx2 := hbx.call hb22
          refine wpOp_go (o := _) rfl (fun K hK => ?_)
          refine step_text hrw2 (by have := hB.size; have := hb22.size; omega) bytes8 Tryz.underlying9 ⟨(blockL (part d k)).toArray⟩ (by rw [size_mk]; omega) rfl _ _ rfl rfl rfl ?_
          intro v' w' hrw' hg' how'
          have hbx3 := Blk.grownR2 hbx2 hg' (fun j e => (hne j e).1)
          refine hK _ _ ⟨fun _ => hbx3.cellAt 0 rfl, ?_⟩
          clear hK K
          have hfin := encI_step hb22 hbx hrw hne hk3 hsz hB hg' hrw' how' (zg := zg) (d := d) (pre := pre) (x := ⟨k, hkx⟩) (by omega) ⟨by omega, by omega⟩ ⟨by omega, by omega⟩ ⟨by omega, by omega⟩ (by rw [bsE_snoc, List.length_append, size_mk]) (by rw [bsE_snoc, List.map_append]; rfl)
          have hrw3 := hrw'
          obtain ⟨_, g', cap', _, _, rfl, _⟩ := hrw3
          refine wpAnyL_one (i := 4) (by decide +kernel) ?_
          have hc3 := hbx3.cellAt 0 rfl
          have hf3 := hbx3.frozen 0
          refine wpOp_go (o := _) rfl (fun K hK => ?_)
          go_simp
          refine hK _ _ ⟨fun h => (by cases h), ?_⟩
          clear hK K
          exact wpAnyL_done (by decide +kernel) hfin _
        case hI => exact encI_own (by omega) (by omega) (by omega) (by omega)
        case h0 =>
          refine encI_nil hbox5 hrow5 (fun k hk => ?_) hbwl
          have hk' : gr = k := by cases hk; rfl
          subst hk'
          refine ⟨fun e => ?_, by omega, by omega, by omega⟩
          obtain ⟨_, g2, _, cur, fz, hv, _, hc2, _⟩ := hrow5
          cases hv
          rw [e, show wl.heap[gb]? = _ from hbox5] at hc2
          cases hc2
        case stop =>
          rintro D c pre W _ _ h _
          exact h.elim
        case done =>
          rintro D xs W hD hxs ⟨v, hbx, hrw, hne, hk3, hsz, hB⟩ hK
          have hbs : bsE zg d xs = putL zg ++ encB d ((n - 1 + 31) / 32) := by
            unfold bsE encB; rw [← hxs, List.flatMap_map]
          rw [hbs, ← HE.out] at hrw
          have hc0 := hbx.cellAt 0 rfl
          obtain ⟨g', hv', _, _⟩ := hrw.own
          have hrw3 := hrw
          obtain ⟨_, g2, cap', _, _, rfl, _⟩ := hrw3
          obtain ⟨ad2, hadE, hcell⟩ := hrw.cells
          cases hadE
          have hcvb := run_convert_bytes_back (P := Tryz.prog) W 127 9 5 ⟨g2, 0, none⟩ cap' (encD L) Tryz.underlying127 Tryz.underlying5 Tryz.underlying9 (fun j hj => hcell j _ (by simp [Bv, List.getElem?_eq_getElem hj]))
          gi_wp2
          go_wp2_with fail
          have hBf : Below w.heap.size w (W.putObj D (.deferred none)) := hB.grown (grownBy_putObj' W D _) (by have := hB.size; omega) (fun k e => by cases e; have := hbwl.size; omega)
          exact ⟨by simp, .inl ⟨_, _, rfl, run_takeDeferred hK, ⟨_, by first | exact results_tmp rfl _ _ _ | simp [results, Tryz.results277, go_sem], rfl, hBf⟩⟩⟩
  · have hc2 : ¬ ((c : Int) = 1) := by omega
    go_wp2_with fail
    clear hcv hc1 hc2
    generalize Lib.bytesWorld w1 5 ⟨(putL zg).toArray⟩ = w2 at *
    generalize w1.heap.size = gr at *
    generalize grownCap w1 (putL zg).length 0 5 = cb at *
    have hbox := Blk.new' w2 127 #[.slice (some ⟨gr, 0, none⟩) (putL zg).length cb]
    have hrow3 := hrow.call ((Below.refl w2.heap.size w2).alloc (Nat.le_refl _) (.cells #[.slice (some ⟨gr, 0, none⟩) (putL zg).length cb] 127))
    have hb3 := bt hbw ((Below.refl w2.heap.size w2).alloc (Nat.le_refl _) (.cells #[.slice (some ⟨gr, 0, none⟩) (putL zg).length cb] 127))
    generalize w2.alloc (.cells #[.slice (some ⟨gr, 0, none⟩) (putL zg).length cb] 127) = w3 at *
    have hgr3 : gr < w3.heap.size := by obtain ⟨g, h1, _, h2⟩ := hrow3.own; cases h1; exact h2
    have hgb : w.heap.size ≤ w2.heap.size := hbw.size
    generalize w2.heap.size = gb at *
    clear hrow hbw hb1
    go_loopw [4, 25] (fun d b wr => ∃ i : Nat, b = .int .i64 (i : Int) ∧ i ≤ n - 1 ∧ Own w3 wr 2 1 d i ((List.range i).map (fun j => Iv (diffA L j)))) (fun _ b _ => n - (intOf b).toNat)
    case atStart => exact ⟨0, rfl, by omega, Own.nil _ _ _⟩
    case round =>
      obtain ⟨i, rfl, hi, hO⟩ := hrel
      obtain ⟨B, cp, rfl, hcp⟩ := own_form hO.1
      by_cases hin : i < n - 1
      · obtain ⟨v1, hv1⟩ : ∃ v, L[i]? = some v := ⟨_, List.getElem?_eq_getElem (by rw [HN.out]; omega)⟩
        obtain ⟨v2, hv2⟩ : ∃ v, L[i + 1]? = some v := ⟨_, List.getElem?_eq_getElem (by rw [HN.out]; omega)⟩
        have hrw := hr.below (bt hb3 hO.2)
        obtain ⟨_, e1, _, c1⟩ := hrw.at_ (j := i) (u := Iv v1) (by rw [List.getElem?_map, hv1]; rfl)
        cases e1
        obtain ⟨_, e2, _, c2⟩ := hrw.at_ (j := i + 1) (u := Iv v2) (by rw [List.getElem?_map, hv2]; rfl)
        cases e2
        have c3 : wr.cell? ⟨ad.block, ad.off + 1 + i, none⟩ = some (Iv v2) := by
          rw [show (⟨ad.block, ad.off + 1 + i, none⟩ : Addr) = ad.add (i + 1) by simp [Addr.add]; omega]; exact c2
        have HD : Hid (diffA L i = wrap64 (v2 - v1)) := by show _ = _; simp [diffA, List.getD, hv1, hv2]
        clear hv1 hv2 c2 hrw
        go_wp2_with (at_builtin; refine own_one hO i64s rfl (by decide) rfl (one_i64 _) (by omega) (by unfold maxLen; omega) ?_ rfl _ _ rfl rfl rfl)
        intro v' w' hO'
        go_wp2
        go_roundw
        case rel => exact ⟨i + 1, by go_num, by omega, by rw [List.range_succ, List.map_append, List.map_singleton, HD.out]; exact hO'⟩
        case measure => simp [intOf]; omega
      · have hin2 : i = n - 1 := by omega
        subst hin2
        have hxd := Rd.of_own hO.1
        have hbw := bt hb3 hO.2
        have hown := hO.1
        have hrow4 := hrow3.call hO.2
        have hbox4 := hbox.call hO.2
        have hw34 := hO.2.size
        have hgbl := hbox.lt
        have hgl : ∃ gd, ((B = none ∧ n - 1 = 0 ∧ cp = 0) ∨ B = some ⟨gd, 0, none⟩) ∧ w3.heap.size ≤ gd ∧ gd ≤ wr.heap.size := by
          rcases own_blk hown with ⟨h1, h2, h3⟩ | ⟨g, h1, h2, h3⟩
          · exact ⟨w3.heap.size, .inl ⟨h1, h2, h3⟩, Nat.le_refl _, hw34⟩
          · exact ⟨g, .inr h1, h2, Nat.le_of_lt h3⟩
        obtain ⟨gd, hgB, hgd1, hgd2⟩ := hgl
        have HDL : Hid ((List.range (n - 1)).map (fun j => Iv (diffA L j)) = (diffs L).map Iv) := by show _ = _; simp [diffs, HN.out, List.map_map]
        rw [HDL.out] at hxd
        have hdl : (diffs L).length = n - 1 := by rw [diffs_len, HN.out]
        have hdI := diffs_I64 L
        have HE := Lib.hid (show encD L = putL zg ++ encB (diffs L) ((n - 1 + 31) / 32) by
          rw [← HZG.out]
          unfold encD
          rw [if_neg (by rintro (h | h); subst h; exact absurd HN.out (by simp; omega); rw [HN.out] at h; omega), hdl]
          rw [show L.getD 0 0 = x0 by simp [List.getD, HX.out]])
        generalize diffs L = d at *
        clear hO hrow3 hbox hown HDL c0 c00 q1 q2 hd0 hd1 hr
        go_wp2_with fail
        refine (chunk_any B (n - 1) cp _).mono ?_; rintro e w4 ⟨rfl, rfl⟩
        go_wp2_with fail
        have hs1 : (wr.alloc (.cells #[.slice B (n - 1) cp] 33)).heap.size = wr.heap.size + 1 := by simp
        have hBs := ((Blk.new' wr 33 #[.slice B (n - 1) cp]).alloc (.cells #[.int .i64 32] 3)).cellAt 0 rfl
        have hBn := (Blk.new' (wr.alloc (.cells #[.slice B (n - 1) cp] 33)) 3 #[.int .i64 32]).cellAt 0 rfl
        rw [hs1] at hBn
        have hgdw : gd ≤ wr.heap.size := hgd2
        have hwl : ((wr.alloc (.cells #[.slice B (n - 1) cp] 33)).alloc (.cells #[.int .i64 32] 3)).heap.size = wr.heap.size + 2 := by simp
        have hbl := below_alloc3 (below_alloc3 (Below.refl wr.heap.size wr) (.cells #[.slice B (n - 1) cp] 33)) (.cells #[.int .i64 32] 3)
        have hrow5 := hrow4.call hbl
        have hbox5 := hbox4.call hbl
        have hxl := hxd.call hbl
        have hbwl := bt hbw hbl
        have hgb5 := hbox4.lt
        generalize (wr.alloc (.cells #[.slice B (n - 1) cp] 33)).alloc (.cells #[.int .i64 32] 3) = wl at *
        refine (wpIn_wide (n := 6)).1 ?_
        refine wpIn_rangeFunc_ownF rfl (by omega) (gf := 379) (lb := #[.pointer (some ⟨wr.heap.size, 0, none⟩), .pointer (some ⟨wr.heap.size + 1, 0, none⟩)]) rfl trivial (enters_of Tryz.func379 (by kernel_rfl) rfl)
          (chunk_stops 5 (by omega) wr.heap.size (wr.heap.size + 1) gd (n - 1) cp B hgB (by omega) hcp wl hBs hBn (by omega) (by omega)) keeps3_t (fun W l o o' hl ho _ _ => keeps3_b (by omega) (by omega) (by omega) W l o o' hl ho) (Below.refl _ _) (fun _ => rfl)
          (EncI w wl gb gd wr.heap.size (wr.heap.size + 1) zg d (n - 1)) (fun _ _ _ => False) ?hI2 (fun _ _ _ _ _ hs _ _ => hs) ?h02 ?a12 ?assign2 ?body2 ?done2 ?stop2
        case assign2 =>
          intro l x W K hK
          gi_wp2
          exact hK
        case body2 =>
          rintro l pre ⟨k, hkx⟩ W ⟨v, hbx, hrw, hne, hk3, hsz, hB⟩ hpre
          have hgs : B = some ⟨gd, 0, none⟩ := by
            rcases hgB with ⟨_, h2, _⟩ | h
            · omega
            · exact h
          subst hgs
          have hm1 : 0 < min 32 (n - 1 - 32 * k) := by omega
          have hm2 : min 32 (n - 1 - 32 * k) ≤ 32 := by omega
          have hpl : (part d k).length = min 32 (n - 1 - 32 * k) := by rw [part_len, hdl]
          have hgdl : gd < W.heap.size := by omega
          have hrd : Rd W W.heap.size (some ⟨gd, 32 * k, none⟩) ((part d k).map Iv) := by
            refine .inr ⟨_, rfl, hgdl, fun j u hj => ?_⟩
            have hjl : j < min 32 (n - 1 - 32 * k) := by rw [← hpl]; have := (List.getElem?_eq_some_iff.1 hj).1; simpa using this
            have e0 : (⟨gd, 32 * k, none⟩ : Addr).add j = (⟨gd, 0, none⟩ : Addr).add (32 * k + j) := by unfold Addr.add; split <;> split <;> simp_all <;> omega
            rw [e0]
            obtain ⟨_, e1, _, hc⟩ := hxl.at_ (j := 32 * k + j) (u := u) (by
              rw [List.getElem?_map] at hj ⊢
              rw [← hj, part, List.getElem?_take, if_pos (by omega), List.getElem?_drop])
            cases e1
            rw [hk3 _ (.inl (by rw [block_of_add]))]
            exact hc
          have HBK : Hid (∀ ws : World, Below W.heap.size W ws → Calls Tryz.prog 340 #[.slice (some ⟨gd, 32 * k, none⟩) (min 32 (n - 1 - 32 * k)) (min 32 (n - 1 - 32 * k))] ws fun e w' => e = .returned (Sv (blockL (part d k))) ∧ Below ws.heap.size ws w') := fun ws h =>
            block_any (some ⟨gd, 32 * k, none⟩) _ _ (part d k) ws (hrd.call h) hpl hm1 (by omega) (part_I64 hdI k)
          have hbll := blockL_len (part_I64 hdI k) (by intro e; rw [e] at hpl; simp at hpl; omega)
          rw [hpl] at hbll
          dsimp only [chunkV]
          generalize min 32 (n - 1 - 32 * k) = m at *
          have hc0 := hbx.cellAt 0 rfl
          have hf0 := hbx.frozen 0
          have q1 : 1 ≤ 4 - 1 := by omega
          have hmx : Tryz.prog.follows .mixedOrders = true := by kernel_rfl
          have hbsl : (bsE zg d pre).length ≤ 2000000 := by have := bsE_len (zg := zg) hU hdI hdl pre; omega
          refine wpIn_block ?_
          refine wpIn_region_L (fun l w' => l.getD 4 false = false → w'.cell? ⟨gb, 0, none⟩ = some v) hmx (by kernel_rfl) ?_ ?_
          · rintro ⟨a, w', h⟩
            exact h
          have hBd : Below W.heap.size W W.drew := Below.drew (Below.refl _ _)
          have MK : Hid (∀ w', Below W.heap.size W w' → (w'.cell? ⟨gb, 0, none⟩ = some v)) := fun w' h => (hbx.call h).cellAt 0 rfl
          generalize W.drew = wx at *
          refine wpAnyL_takeD (fun l => l.getD 4 false = false) (i := 0) (v := v) (some 43) rfl rfl (by kernel_rfl) (by kernel_rfl) (by kernel_rfl) (fun _ _ _ h => h) (fun l j hc hi hj hne => (getD_set_ne false (waits_ne (k := 4) hi hj (by kernel_rfl))).trans hc) (fun l w' _ => by rw [getD_set_ne false (by decide)]) rfl (Or.inl ⟨by rfl, fun w' hw' => by obtain ⟨l, hc, hl⟩ := hw'; have k0 := hl hc; go_simp⟩) (fun _ => MK.out _ hBd) ?_
          simp only [Act.put, List.setIfInBounds_toArray, List.set_cons_zero, List.set_cons_succ]
          refine wpAnyL_takeD (fun l => l.getD 4 false = false) (i := 1) (v := .slice (some ⟨gd, 32 * k, none⟩) m m) (some 44) rfl rfl (by kernel_rfl) (by kernel_rfl) (by kernel_rfl) (fun _ _ _ h => h) (fun l j hc hi hj hne => (getD_set_ne false (waits_ne (k := 4) hi hj (by kernel_rfl))).trans hc) (fun l w' _ => by rw [getD_set_ne false (by decide)]) rfl (Or.inl ⟨by rfl, fun w' hw' => by go_simp⟩) (fun _ => MK.out _ hBd) ?_
          simp only [Act.put, List.setIfInBounds_toArray, List.set_cons_zero, List.set_cons_succ]
          refine wpAnyL_one (i := 2) (by decide +kernel) ?_
          refine wpOp_go (o := _) rfl (fun K hK => ?_)
          go_simp
          go_at_call 340
          refine (HBK.out wx hBd).mono ?_; rintro e W2 ⟨rfl, hb2⟩
          have hb22 := bt hBd hb2
          refine hK _ _ ⟨fun _ => MK.out _ hb22, ?_⟩
          clear hK K
          refine wpAnyL_one (i := 3) (by decide +kernel) ?_
          have hrw2 := hrw.call hb22
          have hbx2 := hbx.call hb22
          refine wpOp_go (o := _) rfl (fun K hK => ?_)
          refine step_text hrw2 (by have := hB.size; have := hb22.size; omega) bytes8 Tryz.underlying9 ⟨(blockL (part d k)).toArray⟩ (by rw [size_mk]; omega) rfl _ _ rfl rfl rfl ?_
          intro v' w' hrw' hg' how'
          have hbx3 := Blk.grownR2 hbx2 hg' (fun j e => (hne j e).1)
          refine hK _ _ ⟨fun _ => hbx3.cellAt 0 rfl, ?_⟩
          clear hK K
          have hfin := encI_step hb22 hbx hrw hne hk3 hsz hB hg' hrw' how' (zg := zg) (d := d) (pre := pre) (x := ⟨k, hkx⟩) (by omega) ⟨by omega, by omega⟩ ⟨by omega, by omega⟩ ⟨by omega, by omega⟩ (by rw [bsE_snoc, List.length_append, size_mk]) (by rw [bsE_snoc, List.map_append]; rfl)
          have hrw3 := hrw'
          obtain ⟨_, g', cap', _, _, rfl, _⟩ := hrw3
          refine wpAnyL_one (i := 4) (by decide +kernel) ?_
          have hc3 := hbx3.cellAt 0 rfl
          have hf3 := hbx3.frozen 0
          refine wpOp_go (o := _) rfl (fun K hK => ?_)
          go_simp
          refine hK _ _ ⟨fun h => (by cases h), ?_⟩
          clear hK K
          exact wpAnyL_done (by decide +kernel) hfin _
        case hI2 => exact encI_own (by omega) (by omega) (by omega) (by omega)
        case h02 =>
          refine encI_nil hbox5 hrow5 (fun k hk => ?_) hbwl
          have hk' : gr = k := by cases hk; rfl
          subst hk'
          refine ⟨fun e => ?_, by omega, by omega, by omega⟩
          obtain ⟨_, g2, _, cur, fz, hv, _, hc2, _⟩ := hrow5
          cases hv
          rw [e, show wl.heap[gb]? = _ from hbox5] at hc2
          cases hc2
        case stop2 =>
          rintro D c pre W _ _ h _
          exact h.elim
        case done2 =>
          rintro D xs W hD hxs ⟨v, hbx, hrw, hne, hk3, hsz, hB⟩ hK
          have hbs : bsE zg d xs = putL zg ++ encB d ((n - 1 + 31) / 32) := by
            unfold bsE encB; rw [← hxs, List.flatMap_map]
          rw [hbs, ← HE.out] at hrw
          have hc0 := hbx.cellAt 0 rfl
          obtain ⟨g', hv', _, _⟩ := hrw.own
          have hrw3 := hrw
          obtain ⟨_, g2, cap', _, _, rfl, _⟩ := hrw3
          obtain ⟨ad2, hadE, hcell⟩ := hrw.cells
          cases hadE
          have hcvb := run_convert_bytes_back (P := Tryz.prog) W 127 9 5 ⟨g2, 0, none⟩ cap' (encD L) Tryz.underlying127 Tryz.underlying5 Tryz.underlying9 (fun j hj => hcell j _ (by simp [Bv, List.getElem?_eq_getElem hj]))
          gi_wp2
          go_wp2_with fail
          have hBf : Below w.heap.size w (W.putObj D (.deferred none)) := hB.grown (grownBy_putObj' W D _) (by have := hB.size; omega) (fun k e => by cases e; have := hbwl.size; omega)
          exact ⟨by simp, .inl ⟨_, _, rfl, run_takeDeferred hK, ⟨_, by first | exact results_tmp rfl _ _ _ | simp [results, Tryz.results277, go_sem], rfl, hBf⟩⟩⟩

end Go.Proofs.YtodegmphcjgipaaGreatDoor
