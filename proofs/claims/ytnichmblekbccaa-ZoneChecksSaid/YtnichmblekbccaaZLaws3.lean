/-
  The walk of ZoneJoins.
-/
import Derived.Test.YtnichmblekbccaaZJoin
namespace Go.Proofs.Ytnichmblekbccaa
open Go.RowKit

/-- 'append(l, m...)' as one step of a region that draws its order. -/
theorem step_list2 {P : Program} {w0 w1 : World} {e : TypeId} {size bytes : Nat} {v : Value} {n : Nat} {xs : List Value} (hb : Own w0 w1 e size v n xs)
    {t : TypeId} {z : Value} (hT : SlTy P t e z size bytes) (hzs : z.cells.size = size) (hsz : 0 < size) {A : Option Addr} {m c : Nat} {news : List Value}
    (hr : Rd w1 w1.heap.size A news) (hl : news.length = m * size) (h1 : ∀ u ∈ news, u.oneCell' = true)
    (hfit : (n + m + (n + m) / 4 + 192) * bytes ≤ 281474976710656) (h63 : n + m ≤ maxLen)
    {ops : Array Oper} {o : Oper} {a : Act} {K : Act → World → Prop} {Q : Exit → Act → World → Prop} {E : Prop}
    (hgd : o.guard = none) (s x : Operand) (ho : o.op = .call { callee := .builtin .append, args := #[s, x], argTypes := #[t, t] })
    (hs : a.eval s = v) (hx : a.eval x = .slice A m c) (h : ∀ v' w', Own w0 w' e size v' (n + m) (xs ++ news) → w1.grownBy w' v.ownBlock → K (a.put o.dst v') w') :
    if Region.wanted o (yielded ops a.tmps) = true then Oper.wp P o a w1 K Q else E := by
  have hw : Region.wanted o (yielded ops a.tmps) = true := by simp [Region.wanted, hgd]
  rw [if_pos hw]
  obtain ⟨ht, i, hi, hz, hs1, hs2⟩ := hT
  cases A with
  | some ad =>
    refine wp_append_own_wide w1 s x t ho w0.heap.size e i z size bytes ht hi hz hs1 hs2 hzs hsz v n xs hs hb.1 ad m c news hx hl ?_ h1 h63 hfit hb.2.size ?_
    · rcases hr with rfl | ⟨ad', e', _, hc⟩
      · intro j u hj; simp at hj
      · cases e'; exact hc
    · intro v' w' ho' hg _
      exact h v' w' (hb.grown ho' hg) hg
  | none =>
    have hn : news = [] := by
      rcases hr with hr | ⟨_, e', _⟩
      · exact hr
      · cases e'
    subst hn
    have hm : m = 0 := by
      have h0 : m * size = 0 := hl.symm
      rcases Nat.mul_eq_zero.1 h0 with h0 | h0
      · exact h0
      · omega
    subst hm
    obtain ⟨B, d, rfl, hd⟩ := own_form hb.1
    have hr := run_append_nothing (P := P) w1 t t o.type e i ht hi B n d hd (.slice none 0 c) (_root_.Go.Src.ofNil w1 ht c)
    unfold Oper.wp execOp
    simp only [ho, resolve, invoke, builtin, Sem.run_bind, Sem.run_pure, Result.andThen_ok, List.map_toArray, List.map_cons, List.map_nil, hs, hx, hr]
    exact h _ _ (by simpa using hb) ⟨rfl, rfl, rfl, Nat.le_refl _, fun _ _ _ => rfl⟩
theorem Blk.grownR {w w' : World} {g' : Nat} {row : Option Nat} {t : TypeId} {cs : List Value} (h : Blk w g' t cs) (hg : w.grownBy w' row) (hne : ∀ k, row = some k → k ≠ g') : Blk w' g' t cs :=
  (hg.block g' h.lt (fun e => hne g' e.symm rfl)).trans h
theorem ne_own {w0 w : World} {e t : TypeId} {size n g : Nat} {v : Value} {xs cs : List Value} (hO : Own w0 w e size v n xs) (hG : Blk w0 g t cs) : ∀ k, v.ownBlock = some k → k ≠ g := fun k hk h => by
  have h1 := (hO.1.lt k hk).1
  have h2 := hG.lt
  omega
theorem ne_own2 {w0 w : World} {e : TypeId} {size n : Nat} {v : Value} {xs : List Value} (hO : Own w0 w e size v n xs) : ∀ k, v.ownBlock = some k → k ≠ w.heap.size := fun k hk h => by
  have h1 := (hO.1.lt k hk).2
  omega
theorem below_alloc {a w : World} {o : Obj} (h : Below a.heap.size a w) : Below a.heap.size a (w.alloc o) := h.alloc h.size o
theorem le_of_below {a w : World} (h : Below a.heap.size a w) : a.heap.size ≤ w.heap.size := h.size
section
variable {w a : World} {g g' B : Nat} {t : TypeId} {c0 c1 c2 c3 c4 c5 c6 c7 : Value} {cs : List Value}
theorem st8 (h : Blk w g t [c0, c1, c2, c3, c4, c5, c6, c7]) (u0 u1 u2 u3 u4 u5 u6 u7 : Value) :
    Blk ((((((((w.setCell ⟨g, 0, none⟩ u0).setCell ⟨g, 1, none⟩ u1).setCell ⟨g, 2, none⟩ u2).setCell ⟨g, 3, none⟩ u3).setCell ⟨g, 4, none⟩ u4).setCell ⟨g, 5, none⟩ u5).setCell ⟨g, 6, none⟩ u6).setCell ⟨g, 7, none⟩ u7) g t [u0, u1, u2, u3, u4, u5, u6, u7] :=
  (((((((h.set_ 0 u0).set_ 1 u1).set_ 2 u2).set_ 3 u3).set_ 4 u4).set_ 5 u5).set_ 6 u6).set_ 7 u7
theorem st8_ne (h : Blk w g' t cs) (hne : g' ≠ g) (u0 u1 u2 u3 u4 u5 u6 u7 : Value) :
    Blk ((((((((w.setCell ⟨g, 0, none⟩ u0).setCell ⟨g, 1, none⟩ u1).setCell ⟨g, 2, none⟩ u2).setCell ⟨g, 3, none⟩ u3).setCell ⟨g, 4, none⟩ u4).setCell ⟨g, 5, none⟩ u5).setCell ⟨g, 6, none⟩ u6).setCell ⟨g, 7, none⟩ u7) g' t cs :=
  (((((((h.grownB (grown_set _ g 0 u0) hne).grownB (grown_set _ g 1 u1) hne).grownB (grown_set _ g 2 u2) hne).grownB (grown_set _ g 3 u3) hne).grownB (grown_set _ g 4 u4) hne).grownB (grown_set _ g 5 u5) hne).grownB (grown_set _ g 6 u6) hne).grownB (grown_set _ g 7 u7) hne
theorem st8_below (h : Below B a w) (hg : B ≤ g) (u0 u1 u2 u3 u4 u5 u6 u7 : Value) :
    Below B a ((((((((w.setCell ⟨g, 0, none⟩ u0).setCell ⟨g, 1, none⟩ u1).setCell ⟨g, 2, none⟩ u2).setCell ⟨g, 3, none⟩ u3).setCell ⟨g, 4, none⟩ u4).setCell ⟨g, 5, none⟩ u5).setCell ⟨g, 6, none⟩ u6).setCell ⟨g, 7, none⟩ u7) :=
  below_set (below_set (below_set (below_set (below_set (below_set (below_set (below_set h hg) hg) hg) hg) hg) hg) hg) hg
end
theorem flat3 (L : List Vl) : (L.flatMap valC).length = L.length * 3 := by
  induction L with
  | nil => rfl
  | cons a L ih => rw [List.flatMap_cons, List.length_append, ih, List.length_cons, Nat.succ_mul]; simp [valC]; omega
theorem one_vls (L : List Vl) : ∀ u ∈ L.flatMap valC, u.oneCell' = true := by
  intro u hu
  obtain ⟨v, _, hv⟩ := List.mem_flatMap.1 hu
  simp [valC] at hv
  rcases hv with rfl | rfl | rfl <;> rfl

set_option maxRecDepth 100000 in
set_option maxHeartbeats 4000000 in
theorem walk_ZoneJoins (t : Int) (A : Option Addr) (n c : Nat) (zs : List Int) (A2 : Option Addr) (n2 c2 : Nat) (zs2 : List Int) (w : World) (_wt : (Lit.int .i64 t).wf = true)
    (hr : Rd w w.heap.size A (zs.map Iv)) (hn : zs.length = n) (hz : ∀ z ∈ zs, (Lit.int .i64 z).wf = true) (_hc : n ≤ c) (hb : n * 8 ≤ 140737488351232)
    (hr2 : Rd w w.heap.size A2 (zs2.map Iv)) (hn2 : zs2.length = n2) (hz2 : ∀ z ∈ zs2, (Lit.int .i64 z).wf = true) (_hc2 : n2 ≤ c2) (hb2 : n2 * 8 ≤ 140737488351232) :
    Calls Try.prog 7 #[.int .i64 t, .slice A n c, .slice A2 n2 c2] w fun e w' => e = .returned (.bool true) ∧ Below w.heap.size w w' := by
  have HZ := Lib.hid (wf_i64s hz)
  have HN := Lib.hid hn
  have HZ2 := Lib.hid (wf_i64s hz2)
  have HN2 := Lib.hid hn2
  clear hz hn _hc _wt hz2 hn2 _hc2
  go_enter Try.func7, Try.ntmps7
  go_wp2_with fail
  refine (column_any t true _).mono ?_; rintro e w1 ⟨k, hk, rfl, hb1⟩
  dsimp only [colV]
  have hC1 := Blk.new' w1 32 #[.string ⟨#[120]⟩, .int .i64 (1 + (k : Int)), .int .i64 0, .bool true]
  have hbc := (Below.refl w1.heap.size w1).alloc (Nat.le_refl _) (.cells #[.string ⟨#[120]⟩, .int .i64 (1 + (k : Int)), .int .i64 0, .bool true] 32)
  have hrA := (hr.call hb1).call hbc
  have hrB := (hr2.call hb1).call hbc
  have hbb := bt hb1 hbc
  clear hr hb1 hbc hr2
  go_upto_region 2 with fail
  generalize w1.alloc (.cells #[.string ⟨#[120]⟩, .int .i64 (1 + (k : Int)), .int .i64 0, .bool true] 32) = w2 at *
  generalize w1.heap.size = gc at *
  have MK : Hid (∀ w', Below w2.heap.size w2 w' → (Below w2.heap.size w2 w' ∧ w'.cell? ⟨gc, 0, none⟩ = some (.string ⟨#[120]⟩) ∧ w'.cell? ⟨gc, 1, none⟩ = some (.int .i64 (1 + (k : Int))) ∧ w'.cell? ⟨gc, 2, none⟩ = some (.int .i64 0) ∧ w'.cell? ⟨gc, 3, none⟩ = some (.bool true))) := fun w' h => ⟨h, (hC1.call h).cellAt 0 rfl, (hC1.call h).cellAt 1 rfl, (hC1.call h).cellAt 2 rfl, (hC1.call h).cellAt 3 rfl⟩
  have HCA : Hid (∀ ws : World, Below w2.heap.size w2 ws → Calls Try.prog 13 #[colV (1 + (k : Int)) true, .slice A n c] ws (ValuesPost ws (1 + (k : Int)) true)) := fun ws h => values_any k hk true A n c zs ws (hrA.call h) HN.out HZ.out (by omega)
  have HCB : Hid (∀ ws : World, Below w2.heap.size w2 ws → Calls Try.prog 13 #[colV (1 + (k : Int)) true, .slice A2 n2 c2] ws (ValuesPost ws (1 + (k : Int)) true)) := fun ws h => values_any k hk true A2 n2 c2 zs2 ws (hrB.call h) HN2.out HZ2.out (by omega)
  go_region_held3 (fun w' => Below w2.heap.size w2 w' ∧ w'.cell? ⟨gc, 0, none⟩ = some (.string ⟨#[120]⟩) ∧ w'.cell? ⟨gc, 1, none⟩ = some (.int .i64 (1 + (k : Int))) ∧ w'.cell? ⟨gc, 2, none⟩ = some (.int .i64 0) ∧ w'.cell? ⟨gc, 3, none⟩ = some (.bool true)) (first | with_reducible assumption | with_reducible exact MK.out _ hby | with_reducible exact MK.out _ hbx | exact MK.out _ (Below.refl _ _) | exact MK.out _ ⟨rfl, rfl, rfl, Nat.le_refl _, fun _ _ => rfl⟩) (first | (go_at_call 13; have hby0 := hbx; refine (HCB.out _ (‹Below w2.heap.size w2 _ ∧ _›).1).mono ?_; rintro e w4 ⟨v4, ys, rfl, ho4, hk4, hl4, hb4⟩; have hby := bt hby0 hb4) | (go_at_call 13; refine (HCA.out _ (‹Below w2.heap.size w2 _ ∧ _›).1).mono ?_; rintro e w3 ⟨v3, xs, rfl, ho3, hk3, hl3, hb3⟩; have hbx := bt (‹Below w2.heap.size w2 _ ∧ _›).1 hb3))
  clear MK HCA HCB
  obtain ⟨B3, d3, rfl, hd3⟩ := own_form ho3
  obtain ⟨B4, d4, rfl, hd4⟩ := own_form ho4
  have hx3 := (Rd.of_own ho3).call hb4
  have hx4 := Rd.of_own ho4
  have HK3 := Lib.hid hk3
  have HK4 := Lib.hid hk4
  have hC4 := hC1.call hby
  have hbb4 := bt hbb hby
  clear ho3 ho4 hk3 hk4 hrA hrB hby hby0 hbx hb3 hb4 hC1 hbb
  rename_i HH
  clear HH
  have c1 := hC4.cellAt 1 rfl
  have MK : Hid (∀ w', Below w4.heap.size w4 w' → (Below w4.heap.size w4 w' ∧ w'.cell? ⟨gc, 1, none⟩ = some (.int .i64 (1 + (k : Int))))) := fun w' h => ⟨h, (hC4.call h).cellAt 1 rfl⟩
  have HCA : Hid (∀ ws : World, Below w4.heap.size w4 ws → Calls Try.prog 10 #[.int .i64 (1 + (k : Int)), .slice B3 xs.length d3] ws fun e w' => e = .returned (Zv (zoneL (1 + (k : Int)) xs.length xs)) ∧ Below ws.heap.size ws w') := fun ws h => of_any (1 + (k : Int)) B3 _ d3 xs _ (hx3.call h) rfl (by omega)
  have HCB : Hid (∀ ws : World, Below w4.heap.size w4 ws → Calls Try.prog 10 #[.int .i64 (1 + (k : Int)), .slice B4 ys.length d4] ws fun e w' => e = .returned (Zv (zoneL (1 + (k : Int)) ys.length ys)) ∧ Below ws.heap.size ws w') := fun ws h => of_any (1 + (k : Int)) B4 _ d4 ys _ (hx4.call h) rfl (by omega)
  have HX := Lib.hid (show ∀ v ∈ xs, okV (1 + (k : Int)) v from fun v hv => (HK3.out v hv).1)
  have HY := Lib.hid (show ∀ v ∈ ys, okV (1 + (k : Int)) v from fun v hv => (HK4.out v hv).1)
  have HJ1 := Lib.hid (zone_join HX.out HY.out)
  have HJ2 := Lib.hid (zone_join_comm HX.out HY.out)
  have HRW := Lib.hid (zone_law (1 + (k : Int)) xs.length xs)
  have HRW2 := Lib.hid (zone_law (1 + (k : Int)) ys.length ys)
  clear HK3 HK4
  generalize zoneL (1 + (k : Int)) xs.length xs = za at *
  generalize zoneL (1 + (k : Int)) ys.length ys = zb at *
  obtain ⟨ar, an, ⟨amn, ami, amz⟩, ⟨axn, axi, axz⟩⟩ := za
  obtain ⟨br, bn, ⟨bmn, bmi, bmz⟩, ⟨bxn, bxi, bxz⟩⟩ := zb
  dsimp only [Zv] at HCA HCB
  go_upto_region 3 with fail
  go_cut [10, 11] (fun p q wx => ∃ g1 g2, p = .pointer (some ⟨g1, 0, none⟩) ∧ q = .pointer (some ⟨g2, 0, none⟩) ∧ Blk wx g1 25 [.int .i64 ar, .int .i64 an, .bool amn, .int .i64 ami, .string amz, .bool axn, .int .i64 axi, .string axz] ∧ Blk wx g2 25 [.int .i64 br, .int .i64 bn, .bool bmn, .int .i64 bmi, .string bmz, .bool bxn, .int .i64 bxi, .string bxz] ∧ Below w4.heap.size w4 wx)
  case first =>
    clear c1 hx3 hx4 HJ1 HJ2 HRW HRW2 HX HY
    have hB : Below w4.heap.size w4 w4.drew := Below.drew (Below.refl _ _)
    refine wp_region_L (fun _ w' => Below w4.heap.size w4 w' ∧ w'.cell? ⟨gc, 1, none⟩ = some (.int .i64 (1 + (k : Int)))) (by kernel_rfl) ?_
    generalize w4.drew = wx at *
    have HS := Lib.hid (MK.out _ hB)
    refine wpAnyL_takeD (fun _ => True) (i := 0) (v := (.pointer (some ⟨gc, 1, none⟩))) (some 21) rfl rfl (by kernel_rfl) (by kernel_rfl) (by kernel_rfl) (fun _ _ _ h => h) (fun _ _ _ _ _ _ => trivial) (fun _ _ _ => Iff.rfl) trivial (Or.inl ⟨by rfl, fun w' hw' => by obtain ⟨l, _, hl⟩ := hw'; obtain ⟨_, hv0⟩ := hl; go_simp⟩) HS.out ?_
    simp only [Act.put, List.setIfInBounds_toArray, List.set_cons_zero, List.set_cons_succ]
    refine wpAnyL_takeD (fun _ => True) (i := 1) (v := (.int .i64 (1 + (k : Int)))) (some 22) rfl rfl (by kernel_rfl) (by kernel_rfl) (by kernel_rfl) (fun _ _ _ h => h) (fun _ _ _ _ _ _ => trivial) (fun _ _ _ => Iff.rfl) trivial (Or.inl ⟨by rfl, fun w' hw' => by obtain ⟨l, _, hl⟩ := hw'; obtain ⟨_, hv0⟩ := hl; go_simp⟩) HS.out ?_
    simp only [Act.put, List.setIfInBounds_toArray, List.set_cons_zero, List.set_cons_succ]
    refine wpAnyL_takeD (fun _ => True) (i := 2) (v := (.slice B3 xs.length d3)) (some 23) rfl rfl (by kernel_rfl) (by kernel_rfl) (by kernel_rfl) (fun _ _ _ h => h) (fun _ _ _ _ _ _ => trivial) (fun _ _ _ => Iff.rfl) trivial (Or.inl ⟨by rfl, fun w' hw' => by obtain ⟨l, _, hl⟩ := hw'; obtain ⟨_, hv0⟩ := hl; go_simp⟩) HS.out ?_
    simp only [Act.put, List.setIfInBounds_toArray, List.set_cons_zero, List.set_cons_succ]
    refine wpAnyL_takeD (fun _ => True) (i := 4) (v := (.pointer (some ⟨gc, 1, none⟩))) (some 25) rfl rfl (by kernel_rfl) (by kernel_rfl) (by kernel_rfl) (fun _ _ _ h => h) (fun _ _ _ _ _ _ => trivial) (fun _ _ _ => Iff.rfl) trivial (Or.inl ⟨by rfl, fun w' hw' => by obtain ⟨l, _, hl⟩ := hw'; obtain ⟨_, hv0⟩ := hl; go_simp⟩) HS.out ?_
    simp only [Act.put, List.setIfInBounds_toArray, List.set_cons_zero, List.set_cons_succ]
    refine wpAnyL_takeD (fun _ => True) (i := 5) (v := (.int .i64 (1 + (k : Int)))) (some 26) rfl rfl (by kernel_rfl) (by kernel_rfl) (by kernel_rfl) (fun _ _ _ h => h) (fun _ _ _ _ _ _ => trivial) (fun _ _ _ => Iff.rfl) trivial (Or.inl ⟨by rfl, fun w' hw' => by obtain ⟨l, _, hl⟩ := hw'; obtain ⟨_, hv0⟩ := hl; go_simp⟩) HS.out ?_
    simp only [Act.put, List.setIfInBounds_toArray, List.set_cons_zero, List.set_cons_succ]
    refine wpAnyL_takeD (fun _ => True) (i := 6) (v := (.slice B4 ys.length d4)) (some 27) rfl rfl (by kernel_rfl) (by kernel_rfl) (by kernel_rfl) (fun _ _ _ h => h) (fun _ _ _ _ _ _ => trivial) (fun _ _ _ => Iff.rfl) trivial (Or.inl ⟨by rfl, fun w' hw' => by obtain ⟨l, _, hl⟩ := hw'; obtain ⟨_, hv0⟩ := hl; go_simp⟩) HS.out ?_
    simp only [Act.put, List.setIfInBounds_toArray, List.set_cons_zero, List.set_cons_succ]
    clear HS
    refine wpAnyL_lst (rs := [3, 8, 9]) (by decide +kernel) ⟨List.cons_ne_nil _ _, ?_⟩
    refine List.forall_mem_cons.2 ⟨?_, List.forall_mem_cons.2 ⟨?_, List.forall_mem_cons.2 ⟨?_, (fun _ h => absurd h List.not_mem_nil)⟩⟩⟩
    · skip
      refine wpOp_go (o := _) rfl (fun K hK => ?_)
      go_simp
      go_at_call 10
      refine (HCA.out _ hB).mono ?_; rintro e wx ⟨rfl, hbx⟩
      try replace hG1 := hG1.call hbx
      try replace hG2 := hG2.call hbx
      replace hB := bt hB hbx
      refine hK _ _ ⟨MK.out _ hB, ?_⟩
      clear hK K hbx
      refine wpAnyL_lst (rs := [7, 8, 9]) (by decide +kernel) ⟨List.cons_ne_nil _ _, ?_⟩
      refine List.forall_mem_cons.2 ⟨?_, List.forall_mem_cons.2 ⟨?_, List.forall_mem_cons.2 ⟨?_, (fun _ h => absurd h List.not_mem_nil)⟩⟩⟩
      · skip
        refine wpOp_go (o := _) rfl (fun K hK => ?_)
        go_simp
        go_at_call 10
        refine (HCB.out _ hB).mono ?_; rintro e wx ⟨rfl, hbx⟩
        try replace hG1 := hG1.call hbx
        try replace hG2 := hG2.call hbx
        replace hB := bt hB hbx
        refine hK _ _ ⟨MK.out _ hB, ?_⟩
        clear hK K hbx
        refine wpAnyL_lst (rs := [8, 9]) (by decide +kernel) ⟨List.cons_ne_nil _ _, ?_⟩
        refine List.forall_mem_cons.2 ⟨?_, List.forall_mem_cons.2 ⟨?_, (fun _ h => absurd h List.not_mem_nil)⟩⟩
        · skip
          refine wpOp_go (o := _) rfl (fun K hK => ?_)
          go_simp
          have hG1 := Blk.new' wx 25 #[.int .i64 0, .int .i64 0, .bool false, .int .i64 0, .string ⟨#[]⟩, .bool false, .int .i64 0, .string ⟨#[]⟩]
          have hl1 : w4.heap.size ≤ wx.heap.size := hB.size
          try have hne := Ne.symm (Nat.ne_of_lt hG2.lt)
          try replace hG2 := hG2.alloc (.cells #[.int .i64 0, .int .i64 0, .bool false, .int .i64 0, .string ⟨#[]⟩, .bool false, .int .i64 0, .string ⟨#[]⟩] 25)
          replace hB := below_alloc (o := .cells #[.int .i64 0, .int .i64 0, .bool false, .int .i64 0, .string ⟨#[]⟩, .bool false, .int .i64 0, .string ⟨#[]⟩] 25) hB
          refine hK _ _ ⟨MK.out _ hB, ?_⟩
          clear hK K
          generalize wx.alloc (.cells #[.int .i64 0, .int .i64 0, .bool false, .int .i64 0, .string ⟨#[]⟩, .bool false, .int .i64 0, .string ⟨#[]⟩] 25) = wx at *
          refine wpAnyL_one (i := 9) (by decide +kernel) ?_
          refine wpOp_go (o := _) rfl (fun K hK => ?_)
          go_simp
          have hG2 := Blk.new' wx 25 #[.int .i64 0, .int .i64 0, .bool false, .int .i64 0, .string ⟨#[]⟩, .bool false, .int .i64 0, .string ⟨#[]⟩]
          have hl2 : w4.heap.size ≤ wx.heap.size := hB.size
          try have hne := Nat.ne_of_lt hG1.lt
          try replace hG1 := hG1.alloc (.cells #[.int .i64 0, .int .i64 0, .bool false, .int .i64 0, .string ⟨#[]⟩, .bool false, .int .i64 0, .string ⟨#[]⟩] 25)
          replace hB := below_alloc (o := .cells #[.int .i64 0, .int .i64 0, .bool false, .int .i64 0, .string ⟨#[]⟩, .bool false, .int .i64 0, .string ⟨#[]⟩] 25) hB
          refine hK _ _ ⟨MK.out _ hB, ?_⟩
          clear hK K
          generalize wx.alloc (.cells #[.int .i64 0, .int .i64 0, .bool false, .int .i64 0, .string ⟨#[]⟩, .bool false, .int .i64 0, .string ⟨#[]⟩] 25) = wx at *
          refine wpAnyL_one (i := 10) (by decide +kernel) ?_
          have of := fun j => hG1.frozen j
          have o0 := hG1.cellAt 0 rfl
          have o1 := hG1.cellAt 1 rfl
          have o2 := hG1.cellAt 2 rfl
          have o3 := hG1.cellAt 3 rfl
          have o4 := hG1.cellAt 4 rfl
          have o5 := hG1.cellAt 5 rfl
          have o6 := hG1.cellAt 6 rfl
          have o7 := hG1.cellAt 7 rfl
          refine wpOp_go (o := _) rfl (fun K hK => ?_)
          go_simp
          clear of o0 o1 o2 o3 o4 o5 o6 o7
          replace hG1 := st8 hG1 (.int .i64 ar) (.int .i64 an) (.bool amn) (.int .i64 ami) (.string amz) (.bool axn) (.int .i64 axi) (.string axz)
          replace hG2 := st8_ne hG2 (Ne.symm hne) (.int .i64 ar) (.int .i64 an) (.bool amn) (.int .i64 ami) (.string amz) (.bool axn) (.int .i64 axi) (.string axz)
          replace hB := st8_below hB hl1 (.int .i64 ar) (.int .i64 an) (.bool amn) (.int .i64 ami) (.string amz) (.bool axn) (.int .i64 axi) (.string axz)
          refine hK _ _ ⟨MK.out _ hB, ?_⟩
          clear hK K
          refine wpAnyL_one (i := 11) (by decide +kernel) ?_
          have of := fun j => hG2.frozen j
          have o0 := hG2.cellAt 0 rfl
          have o1 := hG2.cellAt 1 rfl
          have o2 := hG2.cellAt 2 rfl
          have o3 := hG2.cellAt 3 rfl
          have o4 := hG2.cellAt 4 rfl
          have o5 := hG2.cellAt 5 rfl
          have o6 := hG2.cellAt 6 rfl
          have o7 := hG2.cellAt 7 rfl
          refine wpOp_go (o := _) rfl (fun K hK => ?_)
          go_simp
          clear of o0 o1 o2 o3 o4 o5 o6 o7
          replace hG2 := st8 hG2 (.int .i64 br) (.int .i64 bn) (.bool bmn) (.int .i64 bmi) (.string bmz) (.bool bxn) (.int .i64 bxi) (.string bxz)
          replace hG1 := st8_ne hG1 hne (.int .i64 br) (.int .i64 bn) (.bool bmn) (.int .i64 bmi) (.string bmz) (.bool bxn) (.int .i64 bxi) (.string bxz)
          replace hB := st8_below hB hl2 (.int .i64 br) (.int .i64 bn) (.bool bmn) (.int .i64 bmi) (.string bmz) (.bool bxn) (.int .i64 bxi) (.string bxz)
          refine hK _ _ ⟨MK.out _ hB, ?_⟩
          clear hK K
          refine wpAnyL_done (by decide +kernel) ?_ _
          go_wp2_with fail
          go_meet
          exact ⟨_, _, rfl, rfl, hG1, hG2, hB⟩
        · skip
          refine wpOp_go (o := _) rfl (fun K hK => ?_)
          go_simp
          have hG2 := Blk.new' wx 25 #[.int .i64 0, .int .i64 0, .bool false, .int .i64 0, .string ⟨#[]⟩, .bool false, .int .i64 0, .string ⟨#[]⟩]
          have hl2 : w4.heap.size ≤ wx.heap.size := hB.size
          try have hne := Nat.ne_of_lt hG1.lt
          try replace hG1 := hG1.alloc (.cells #[.int .i64 0, .int .i64 0, .bool false, .int .i64 0, .string ⟨#[]⟩, .bool false, .int .i64 0, .string ⟨#[]⟩] 25)
          replace hB := below_alloc (o := .cells #[.int .i64 0, .int .i64 0, .bool false, .int .i64 0, .string ⟨#[]⟩, .bool false, .int .i64 0, .string ⟨#[]⟩] 25) hB
          refine hK _ _ ⟨MK.out _ hB, ?_⟩
          clear hK K
          generalize wx.alloc (.cells #[.int .i64 0, .int .i64 0, .bool false, .int .i64 0, .string ⟨#[]⟩, .bool false, .int .i64 0, .string ⟨#[]⟩] 25) = wx at *
          refine wpAnyL_one (i := 8) (by decide +kernel) ?_
          refine wpOp_go (o := _) rfl (fun K hK => ?_)
          go_simp
          have hG1 := Blk.new' wx 25 #[.int .i64 0, .int .i64 0, .bool false, .int .i64 0, .string ⟨#[]⟩, .bool false, .int .i64 0, .string ⟨#[]⟩]
          have hl1 : w4.heap.size ≤ wx.heap.size := hB.size
          try have hne := Ne.symm (Nat.ne_of_lt hG2.lt)
          try replace hG2 := hG2.alloc (.cells #[.int .i64 0, .int .i64 0, .bool false, .int .i64 0, .string ⟨#[]⟩, .bool false, .int .i64 0, .string ⟨#[]⟩] 25)
          replace hB := below_alloc (o := .cells #[.int .i64 0, .int .i64 0, .bool false, .int .i64 0, .string ⟨#[]⟩, .bool false, .int .i64 0, .string ⟨#[]⟩] 25) hB
          refine hK _ _ ⟨MK.out _ hB, ?_⟩
          clear hK K
          generalize wx.alloc (.cells #[.int .i64 0, .int .i64 0, .bool false, .int .i64 0, .string ⟨#[]⟩, .bool false, .int .i64 0, .string ⟨#[]⟩] 25) = wx at *
          refine wpAnyL_one (i := 10) (by decide +kernel) ?_
          have of := fun j => hG1.frozen j
          have o0 := hG1.cellAt 0 rfl
          have o1 := hG1.cellAt 1 rfl
          have o2 := hG1.cellAt 2 rfl
          have o3 := hG1.cellAt 3 rfl
          have o4 := hG1.cellAt 4 rfl
          have o5 := hG1.cellAt 5 rfl
          have o6 := hG1.cellAt 6 rfl
          have o7 := hG1.cellAt 7 rfl
          refine wpOp_go (o := _) rfl (fun K hK => ?_)
          go_simp
          clear of o0 o1 o2 o3 o4 o5 o6 o7
          replace hG1 := st8 hG1 (.int .i64 ar) (.int .i64 an) (.bool amn) (.int .i64 ami) (.string amz) (.bool axn) (.int .i64 axi) (.string axz)
          replace hG2 := st8_ne hG2 (Ne.symm hne) (.int .i64 ar) (.int .i64 an) (.bool amn) (.int .i64 ami) (.string amz) (.bool axn) (.int .i64 axi) (.string axz)
          replace hB := st8_below hB hl1 (.int .i64 ar) (.int .i64 an) (.bool amn) (.int .i64 ami) (.string amz) (.bool axn) (.int .i64 axi) (.string axz)
          refine hK _ _ ⟨MK.out _ hB, ?_⟩
          clear hK K
          refine wpAnyL_one (i := 11) (by decide +kernel) ?_
          have of := fun j => hG2.frozen j
          have o0 := hG2.cellAt 0 rfl
          have o1 := hG2.cellAt 1 rfl
          have o2 := hG2.cellAt 2 rfl
          have o3 := hG2.cellAt 3 rfl
          have o4 := hG2.cellAt 4 rfl
          have o5 := hG2.cellAt 5 rfl
          have o6 := hG2.cellAt 6 rfl
          have o7 := hG2.cellAt 7 rfl
          refine wpOp_go (o := _) rfl (fun K hK => ?_)
          go_simp
          clear of o0 o1 o2 o3 o4 o5 o6 o7
          replace hG2 := st8 hG2 (.int .i64 br) (.int .i64 bn) (.bool bmn) (.int .i64 bmi) (.string bmz) (.bool bxn) (.int .i64 bxi) (.string bxz)
          replace hG1 := st8_ne hG1 hne (.int .i64 br) (.int .i64 bn) (.bool bmn) (.int .i64 bmi) (.string bmz) (.bool bxn) (.int .i64 bxi) (.string bxz)
          replace hB := st8_below hB hl2 (.int .i64 br) (.int .i64 bn) (.bool bmn) (.int .i64 bmi) (.string bmz) (.bool bxn) (.int .i64 bxi) (.string bxz)
          refine hK _ _ ⟨MK.out _ hB, ?_⟩
          clear hK K
          refine wpAnyL_done (by decide +kernel) ?_ _
          go_wp2_with fail
          go_meet
          exact ⟨_, _, rfl, rfl, hG1, hG2, hB⟩
      · skip
        refine wpOp_go (o := _) rfl (fun K hK => ?_)
        go_simp
        have hG1 := Blk.new' wx 25 #[.int .i64 0, .int .i64 0, .bool false, .int .i64 0, .string ⟨#[]⟩, .bool false, .int .i64 0, .string ⟨#[]⟩]
        have hl1 : w4.heap.size ≤ wx.heap.size := hB.size
        try have hne := Ne.symm (Nat.ne_of_lt hG2.lt)
        try replace hG2 := hG2.alloc (.cells #[.int .i64 0, .int .i64 0, .bool false, .int .i64 0, .string ⟨#[]⟩, .bool false, .int .i64 0, .string ⟨#[]⟩] 25)
        replace hB := below_alloc (o := .cells #[.int .i64 0, .int .i64 0, .bool false, .int .i64 0, .string ⟨#[]⟩, .bool false, .int .i64 0, .string ⟨#[]⟩] 25) hB
        refine hK _ _ ⟨MK.out _ hB, ?_⟩
        clear hK K
        generalize wx.alloc (.cells #[.int .i64 0, .int .i64 0, .bool false, .int .i64 0, .string ⟨#[]⟩, .bool false, .int .i64 0, .string ⟨#[]⟩] 25) = wx at *
        refine wpAnyL_lst (rs := [7, 9]) (by decide +kernel) ⟨List.cons_ne_nil _ _, ?_⟩
        refine List.forall_mem_cons.2 ⟨?_, List.forall_mem_cons.2 ⟨?_, (fun _ h => absurd h List.not_mem_nil)⟩⟩
        · skip
          refine wpOp_go (o := _) rfl (fun K hK => ?_)
          go_simp
          go_at_call 10
          refine (HCB.out _ hB).mono ?_; rintro e wx ⟨rfl, hbx⟩
          try replace hG1 := hG1.call hbx
          try replace hG2 := hG2.call hbx
          replace hB := bt hB hbx
          refine hK _ _ ⟨MK.out _ hB, ?_⟩
          clear hK K hbx
          refine wpAnyL_one (i := 9) (by decide +kernel) ?_
          refine wpOp_go (o := _) rfl (fun K hK => ?_)
          go_simp
          have hG2 := Blk.new' wx 25 #[.int .i64 0, .int .i64 0, .bool false, .int .i64 0, .string ⟨#[]⟩, .bool false, .int .i64 0, .string ⟨#[]⟩]
          have hl2 : w4.heap.size ≤ wx.heap.size := hB.size
          try have hne := Nat.ne_of_lt hG1.lt
          try replace hG1 := hG1.alloc (.cells #[.int .i64 0, .int .i64 0, .bool false, .int .i64 0, .string ⟨#[]⟩, .bool false, .int .i64 0, .string ⟨#[]⟩] 25)
          replace hB := below_alloc (o := .cells #[.int .i64 0, .int .i64 0, .bool false, .int .i64 0, .string ⟨#[]⟩, .bool false, .int .i64 0, .string ⟨#[]⟩] 25) hB
          refine hK _ _ ⟨MK.out _ hB, ?_⟩
          clear hK K
          generalize wx.alloc (.cells #[.int .i64 0, .int .i64 0, .bool false, .int .i64 0, .string ⟨#[]⟩, .bool false, .int .i64 0, .string ⟨#[]⟩] 25) = wx at *
          refine wpAnyL_one (i := 10) (by decide +kernel) ?_
          have of := fun j => hG1.frozen j
          have o0 := hG1.cellAt 0 rfl
          have o1 := hG1.cellAt 1 rfl
          have o2 := hG1.cellAt 2 rfl
          have o3 := hG1.cellAt 3 rfl
          have o4 := hG1.cellAt 4 rfl
          have o5 := hG1.cellAt 5 rfl
          have o6 := hG1.cellAt 6 rfl
          have o7 := hG1.cellAt 7 rfl
          refine wpOp_go (o := _) rfl (fun K hK => ?_)
          go_simp
          clear of o0 o1 o2 o3 o4 o5 o6 o7
          replace hG1 := st8 hG1 (.int .i64 ar) (.int .i64 an) (.bool amn) (.int .i64 ami) (.string amz) (.bool axn) (.int .i64 axi) (.string axz)
          replace hG2 := st8_ne hG2 (Ne.symm hne) (.int .i64 ar) (.int .i64 an) (.bool amn) (.int .i64 ami) (.string amz) (.bool axn) (.int .i64 axi) (.string axz)
          replace hB := st8_below hB hl1 (.int .i64 ar) (.int .i64 an) (.bool amn) (.int .i64 ami) (.string amz) (.bool axn) (.int .i64 axi) (.string axz)
          refine hK _ _ ⟨MK.out _ hB, ?_⟩
          clear hK K
          refine wpAnyL_one (i := 11) (by decide +kernel) ?_
          have of := fun j => hG2.frozen j
          have o0 := hG2.cellAt 0 rfl
          have o1 := hG2.cellAt 1 rfl
          have o2 := hG2.cellAt 2 rfl
          have o3 := hG2.cellAt 3 rfl
          have o4 := hG2.cellAt 4 rfl
          have o5 := hG2.cellAt 5 rfl
          have o6 := hG2.cellAt 6 rfl
          have o7 := hG2.cellAt 7 rfl
          refine wpOp_go (o := _) rfl (fun K hK => ?_)
          go_simp
          clear of o0 o1 o2 o3 o4 o5 o6 o7
          replace hG2 := st8 hG2 (.int .i64 br) (.int .i64 bn) (.bool bmn) (.int .i64 bmi) (.string bmz) (.bool bxn) (.int .i64 bxi) (.string bxz)
          replace hG1 := st8_ne hG1 hne (.int .i64 br) (.int .i64 bn) (.bool bmn) (.int .i64 bmi) (.string bmz) (.bool bxn) (.int .i64 bxi) (.string bxz)
          replace hB := st8_below hB hl2 (.int .i64 br) (.int .i64 bn) (.bool bmn) (.int .i64 bmi) (.string bmz) (.bool bxn) (.int .i64 bxi) (.string bxz)
          refine hK _ _ ⟨MK.out _ hB, ?_⟩
          clear hK K
          refine wpAnyL_done (by decide +kernel) ?_ _
          go_wp2_with fail
          go_meet
          exact ⟨_, _, rfl, rfl, hG1, hG2, hB⟩
        · skip
          refine wpOp_go (o := _) rfl (fun K hK => ?_)
          go_simp
          have hG2 := Blk.new' wx 25 #[.int .i64 0, .int .i64 0, .bool false, .int .i64 0, .string ⟨#[]⟩, .bool false, .int .i64 0, .string ⟨#[]⟩]
          have hl2 : w4.heap.size ≤ wx.heap.size := hB.size
          try have hne := Nat.ne_of_lt hG1.lt
          try replace hG1 := hG1.alloc (.cells #[.int .i64 0, .int .i64 0, .bool false, .int .i64 0, .string ⟨#[]⟩, .bool false, .int .i64 0, .string ⟨#[]⟩] 25)
          replace hB := below_alloc (o := .cells #[.int .i64 0, .int .i64 0, .bool false, .int .i64 0, .string ⟨#[]⟩, .bool false, .int .i64 0, .string ⟨#[]⟩] 25) hB
          refine hK _ _ ⟨MK.out _ hB, ?_⟩
          clear hK K
          generalize wx.alloc (.cells #[.int .i64 0, .int .i64 0, .bool false, .int .i64 0, .string ⟨#[]⟩, .bool false, .int .i64 0, .string ⟨#[]⟩] 25) = wx at *
          refine wpAnyL_one (i := 7) (by decide +kernel) ?_
          refine wpOp_go (o := _) rfl (fun K hK => ?_)
          go_simp
          go_at_call 10
          refine (HCB.out _ hB).mono ?_; rintro e wx ⟨rfl, hbx⟩
          try replace hG1 := hG1.call hbx
          try replace hG2 := hG2.call hbx
          replace hB := bt hB hbx
          refine hK _ _ ⟨MK.out _ hB, ?_⟩
          clear hK K hbx
          refine wpAnyL_one (i := 10) (by decide +kernel) ?_
          have of := fun j => hG1.frozen j
          have o0 := hG1.cellAt 0 rfl
          have o1 := hG1.cellAt 1 rfl
          have o2 := hG1.cellAt 2 rfl
          have o3 := hG1.cellAt 3 rfl
          have o4 := hG1.cellAt 4 rfl
          have o5 := hG1.cellAt 5 rfl
          have o6 := hG1.cellAt 6 rfl
          have o7 := hG1.cellAt 7 rfl
          refine wpOp_go (o := _) rfl (fun K hK => ?_)
          go_simp
          clear of o0 o1 o2 o3 o4 o5 o6 o7
          replace hG1 := st8 hG1 (.int .i64 ar) (.int .i64 an) (.bool amn) (.int .i64 ami) (.string amz) (.bool axn) (.int .i64 axi) (.string axz)
          replace hG2 := st8_ne hG2 (Ne.symm hne) (.int .i64 ar) (.int .i64 an) (.bool amn) (.int .i64 ami) (.string amz) (.bool axn) (.int .i64 axi) (.string axz)
          replace hB := st8_below hB hl1 (.int .i64 ar) (.int .i64 an) (.bool amn) (.int .i64 ami) (.string amz) (.bool axn) (.int .i64 axi) (.string axz)
          refine hK _ _ ⟨MK.out _ hB, ?_⟩
          clear hK K
          refine wpAnyL_one (i := 11) (by decide +kernel) ?_
          have of := fun j => hG2.frozen j
          have o0 := hG2.cellAt 0 rfl
          have o1 := hG2.cellAt 1 rfl
          have o2 := hG2.cellAt 2 rfl
          have o3 := hG2.cellAt 3 rfl
          have o4 := hG2.cellAt 4 rfl
          have o5 := hG2.cellAt 5 rfl
          have o6 := hG2.cellAt 6 rfl
          have o7 := hG2.cellAt 7 rfl
          refine wpOp_go (o := _) rfl (fun K hK => ?_)
          go_simp
          clear of o0 o1 o2 o3 o4 o5 o6 o7
          replace hG2 := st8 hG2 (.int .i64 br) (.int .i64 bn) (.bool bmn) (.int .i64 bmi) (.string bmz) (.bool bxn) (.int .i64 bxi) (.string bxz)
          replace hG1 := st8_ne hG1 hne (.int .i64 br) (.int .i64 bn) (.bool bmn) (.int .i64 bmi) (.string bmz) (.bool bxn) (.int .i64 bxi) (.string bxz)
          replace hB := st8_below hB hl2 (.int .i64 br) (.int .i64 bn) (.bool bmn) (.int .i64 bmi) (.string bmz) (.bool bxn) (.int .i64 bxi) (.string bxz)
          refine hK _ _ ⟨MK.out _ hB, ?_⟩
          clear hK K
          refine wpAnyL_done (by decide +kernel) ?_ _
          go_wp2_with fail
          go_meet
          exact ⟨_, _, rfl, rfl, hG1, hG2, hB⟩
      · skip
        refine wpOp_go (o := _) rfl (fun K hK => ?_)
        go_simp
        have hG2 := Blk.new' wx 25 #[.int .i64 0, .int .i64 0, .bool false, .int .i64 0, .string ⟨#[]⟩, .bool false, .int .i64 0, .string ⟨#[]⟩]
        have hl2 : w4.heap.size ≤ wx.heap.size := hB.size
        try have hne := Nat.ne_of_lt hG1.lt
        try replace hG1 := hG1.alloc (.cells #[.int .i64 0, .int .i64 0, .bool false, .int .i64 0, .string ⟨#[]⟩, .bool false, .int .i64 0, .string ⟨#[]⟩] 25)
        replace hB := below_alloc (o := .cells #[.int .i64 0, .int .i64 0, .bool false, .int .i64 0, .string ⟨#[]⟩, .bool false, .int .i64 0, .string ⟨#[]⟩] 25) hB
        refine hK _ _ ⟨MK.out _ hB, ?_⟩
        clear hK K
        generalize wx.alloc (.cells #[.int .i64 0, .int .i64 0, .bool false, .int .i64 0, .string ⟨#[]⟩, .bool false, .int .i64 0, .string ⟨#[]⟩] 25) = wx at *
        refine wpAnyL_lst (rs := [7, 8]) (by decide +kernel) ⟨List.cons_ne_nil _ _, ?_⟩
        refine List.forall_mem_cons.2 ⟨?_, List.forall_mem_cons.2 ⟨?_, (fun _ h => absurd h List.not_mem_nil)⟩⟩
        · skip
          refine wpOp_go (o := _) rfl (fun K hK => ?_)
          go_simp
          go_at_call 10
          refine (HCB.out _ hB).mono ?_; rintro e wx ⟨rfl, hbx⟩
          try replace hG1 := hG1.call hbx
          try replace hG2 := hG2.call hbx
          replace hB := bt hB hbx
          refine hK _ _ ⟨MK.out _ hB, ?_⟩
          clear hK K hbx
          refine wpAnyL_one (i := 8) (by decide +kernel) ?_
          refine wpOp_go (o := _) rfl (fun K hK => ?_)
          go_simp
          have hG1 := Blk.new' wx 25 #[.int .i64 0, .int .i64 0, .bool false, .int .i64 0, .string ⟨#[]⟩, .bool false, .int .i64 0, .string ⟨#[]⟩]
          have hl1 : w4.heap.size ≤ wx.heap.size := hB.size
          try have hne := Ne.symm (Nat.ne_of_lt hG2.lt)
          try replace hG2 := hG2.alloc (.cells #[.int .i64 0, .int .i64 0, .bool false, .int .i64 0, .string ⟨#[]⟩, .bool false, .int .i64 0, .string ⟨#[]⟩] 25)
          replace hB := below_alloc (o := .cells #[.int .i64 0, .int .i64 0, .bool false, .int .i64 0, .string ⟨#[]⟩, .bool false, .int .i64 0, .string ⟨#[]⟩] 25) hB
          refine hK _ _ ⟨MK.out _ hB, ?_⟩
          clear hK K
          generalize wx.alloc (.cells #[.int .i64 0, .int .i64 0, .bool false, .int .i64 0, .string ⟨#[]⟩, .bool false, .int .i64 0, .string ⟨#[]⟩] 25) = wx at *
          refine wpAnyL_one (i := 10) (by decide +kernel) ?_
          have of := fun j => hG1.frozen j
          have o0 := hG1.cellAt 0 rfl
          have o1 := hG1.cellAt 1 rfl
          have o2 := hG1.cellAt 2 rfl
          have o3 := hG1.cellAt 3 rfl
          have o4 := hG1.cellAt 4 rfl
          have o5 := hG1.cellAt 5 rfl
          have o6 := hG1.cellAt 6 rfl
          have o7 := hG1.cellAt 7 rfl
          refine wpOp_go (o := _) rfl (fun K hK => ?_)
          go_simp
          clear of o0 o1 o2 o3 o4 o5 o6 o7
          replace hG1 := st8 hG1 (.int .i64 ar) (.int .i64 an) (.bool amn) (.int .i64 ami) (.string amz) (.bool axn) (.int .i64 axi) (.string axz)
          replace hG2 := st8_ne hG2 (Ne.symm hne) (.int .i64 ar) (.int .i64 an) (.bool amn) (.int .i64 ami) (.string amz) (.bool axn) (.int .i64 axi) (.string axz)
          replace hB := st8_below hB hl1 (.int .i64 ar) (.int .i64 an) (.bool amn) (.int .i64 ami) (.string amz) (.bool axn) (.int .i64 axi) (.string axz)
          refine hK _ _ ⟨MK.out _ hB, ?_⟩
          clear hK K
          refine wpAnyL_one (i := 11) (by decide +kernel) ?_
          have of := fun j => hG2.frozen j
          have o0 := hG2.cellAt 0 rfl
          have o1 := hG2.cellAt 1 rfl
          have o2 := hG2.cellAt 2 rfl
          have o3 := hG2.cellAt 3 rfl
          have o4 := hG2.cellAt 4 rfl
          have o5 := hG2.cellAt 5 rfl
          have o6 := hG2.cellAt 6 rfl
          have o7 := hG2.cellAt 7 rfl
          refine wpOp_go (o := _) rfl (fun K hK => ?_)
          go_simp
          clear of o0 o1 o2 o3 o4 o5 o6 o7
          replace hG2 := st8 hG2 (.int .i64 br) (.int .i64 bn) (.bool bmn) (.int .i64 bmi) (.string bmz) (.bool bxn) (.int .i64 bxi) (.string bxz)
          replace hG1 := st8_ne hG1 hne (.int .i64 br) (.int .i64 bn) (.bool bmn) (.int .i64 bmi) (.string bmz) (.bool bxn) (.int .i64 bxi) (.string bxz)
          replace hB := st8_below hB hl2 (.int .i64 br) (.int .i64 bn) (.bool bmn) (.int .i64 bmi) (.string bmz) (.bool bxn) (.int .i64 bxi) (.string bxz)
          refine hK _ _ ⟨MK.out _ hB, ?_⟩
          clear hK K
          refine wpAnyL_done (by decide +kernel) ?_ _
          go_wp2_with fail
          go_meet
          exact ⟨_, _, rfl, rfl, hG1, hG2, hB⟩
        · skip
          refine wpOp_go (o := _) rfl (fun K hK => ?_)
          go_simp
          have hG1 := Blk.new' wx 25 #[.int .i64 0, .int .i64 0, .bool false, .int .i64 0, .string ⟨#[]⟩, .bool false, .int .i64 0, .string ⟨#[]⟩]
          have hl1 : w4.heap.size ≤ wx.heap.size := hB.size
          try have hne := Ne.symm (Nat.ne_of_lt hG2.lt)
          try replace hG2 := hG2.alloc (.cells #[.int .i64 0, .int .i64 0, .bool false, .int .i64 0, .string ⟨#[]⟩, .bool false, .int .i64 0, .string ⟨#[]⟩] 25)
          replace hB := below_alloc (o := .cells #[.int .i64 0, .int .i64 0, .bool false, .int .i64 0, .string ⟨#[]⟩, .bool false, .int .i64 0, .string ⟨#[]⟩] 25) hB
          refine hK _ _ ⟨MK.out _ hB, ?_⟩
          clear hK K
          generalize wx.alloc (.cells #[.int .i64 0, .int .i64 0, .bool false, .int .i64 0, .string ⟨#[]⟩, .bool false, .int .i64 0, .string ⟨#[]⟩] 25) = wx at *
          refine wpAnyL_one (i := 7) (by decide +kernel) ?_
          refine wpOp_go (o := _) rfl (fun K hK => ?_)
          go_simp
          go_at_call 10
          refine (HCB.out _ hB).mono ?_; rintro e wx ⟨rfl, hbx⟩
          try replace hG1 := hG1.call hbx
          try replace hG2 := hG2.call hbx
          replace hB := bt hB hbx
          refine hK _ _ ⟨MK.out _ hB, ?_⟩
          clear hK K hbx
          refine wpAnyL_one (i := 10) (by decide +kernel) ?_
          have of := fun j => hG1.frozen j
          have o0 := hG1.cellAt 0 rfl
          have o1 := hG1.cellAt 1 rfl
          have o2 := hG1.cellAt 2 rfl
          have o3 := hG1.cellAt 3 rfl
          have o4 := hG1.cellAt 4 rfl
          have o5 := hG1.cellAt 5 rfl
          have o6 := hG1.cellAt 6 rfl
          have o7 := hG1.cellAt 7 rfl
          refine wpOp_go (o := _) rfl (fun K hK => ?_)
          go_simp
          clear of o0 o1 o2 o3 o4 o5 o6 o7
          replace hG1 := st8 hG1 (.int .i64 ar) (.int .i64 an) (.bool amn) (.int .i64 ami) (.string amz) (.bool axn) (.int .i64 axi) (.string axz)
          replace hG2 := st8_ne hG2 (Ne.symm hne) (.int .i64 ar) (.int .i64 an) (.bool amn) (.int .i64 ami) (.string amz) (.bool axn) (.int .i64 axi) (.string axz)
          replace hB := st8_below hB hl1 (.int .i64 ar) (.int .i64 an) (.bool amn) (.int .i64 ami) (.string amz) (.bool axn) (.int .i64 axi) (.string axz)
          refine hK _ _ ⟨MK.out _ hB, ?_⟩
          clear hK K
          refine wpAnyL_one (i := 11) (by decide +kernel) ?_
          have of := fun j => hG2.frozen j
          have o0 := hG2.cellAt 0 rfl
          have o1 := hG2.cellAt 1 rfl
          have o2 := hG2.cellAt 2 rfl
          have o3 := hG2.cellAt 3 rfl
          have o4 := hG2.cellAt 4 rfl
          have o5 := hG2.cellAt 5 rfl
          have o6 := hG2.cellAt 6 rfl
          have o7 := hG2.cellAt 7 rfl
          refine wpOp_go (o := _) rfl (fun K hK => ?_)
          go_simp
          clear of o0 o1 o2 o3 o4 o5 o6 o7
          replace hG2 := st8 hG2 (.int .i64 br) (.int .i64 bn) (.bool bmn) (.int .i64 bmi) (.string bmz) (.bool bxn) (.int .i64 bxi) (.string bxz)
          replace hG1 := st8_ne hG1 hne (.int .i64 br) (.int .i64 bn) (.bool bmn) (.int .i64 bmi) (.string bmz) (.bool bxn) (.int .i64 bxi) (.string bxz)
          replace hB := st8_below hB hl2 (.int .i64 br) (.int .i64 bn) (.bool bmn) (.int .i64 bmi) (.string bmz) (.bool bxn) (.int .i64 bxi) (.string bxz)
          refine hK _ _ ⟨MK.out _ hB, ?_⟩
          clear hK K
          refine wpAnyL_done (by decide +kernel) ?_ _
          go_wp2_with fail
          go_meet
          exact ⟨_, _, rfl, rfl, hG1, hG2, hB⟩
    · skip
      refine wpOp_go (o := _) rfl (fun K hK => ?_)
      go_simp
      have hG1 := Blk.new' wx 25 #[.int .i64 0, .int .i64 0, .bool false, .int .i64 0, .string ⟨#[]⟩, .bool false, .int .i64 0, .string ⟨#[]⟩]
      have hl1 : w4.heap.size ≤ wx.heap.size := hB.size
      try have hne := Ne.symm (Nat.ne_of_lt hG2.lt)
      try replace hG2 := hG2.alloc (.cells #[.int .i64 0, .int .i64 0, .bool false, .int .i64 0, .string ⟨#[]⟩, .bool false, .int .i64 0, .string ⟨#[]⟩] 25)
      replace hB := below_alloc (o := .cells #[.int .i64 0, .int .i64 0, .bool false, .int .i64 0, .string ⟨#[]⟩, .bool false, .int .i64 0, .string ⟨#[]⟩] 25) hB
      refine hK _ _ ⟨MK.out _ hB, ?_⟩
      clear hK K
      generalize wx.alloc (.cells #[.int .i64 0, .int .i64 0, .bool false, .int .i64 0, .string ⟨#[]⟩, .bool false, .int .i64 0, .string ⟨#[]⟩] 25) = wx at *
      refine wpAnyL_lst (rs := [3, 9]) (by decide +kernel) ⟨List.cons_ne_nil _ _, ?_⟩
      refine List.forall_mem_cons.2 ⟨?_, List.forall_mem_cons.2 ⟨?_, (fun _ h => absurd h List.not_mem_nil)⟩⟩
      · skip
        refine wpOp_go (o := _) rfl (fun K hK => ?_)
        go_simp
        go_at_call 10
        refine (HCA.out _ hB).mono ?_; rintro e wx ⟨rfl, hbx⟩
        try replace hG1 := hG1.call hbx
        try replace hG2 := hG2.call hbx
        replace hB := bt hB hbx
        refine hK _ _ ⟨MK.out _ hB, ?_⟩
        clear hK K hbx
        refine wpAnyL_lst (rs := [7, 9]) (by decide +kernel) ⟨List.cons_ne_nil _ _, ?_⟩
        refine List.forall_mem_cons.2 ⟨?_, List.forall_mem_cons.2 ⟨?_, (fun _ h => absurd h List.not_mem_nil)⟩⟩
        · skip
          refine wpOp_go (o := _) rfl (fun K hK => ?_)
          go_simp
          go_at_call 10
          refine (HCB.out _ hB).mono ?_; rintro e wx ⟨rfl, hbx⟩
          try replace hG1 := hG1.call hbx
          try replace hG2 := hG2.call hbx
          replace hB := bt hB hbx
          refine hK _ _ ⟨MK.out _ hB, ?_⟩
          clear hK K hbx
          refine wpAnyL_one (i := 9) (by decide +kernel) ?_
          refine wpOp_go (o := _) rfl (fun K hK => ?_)
          go_simp
          have hG2 := Blk.new' wx 25 #[.int .i64 0, .int .i64 0, .bool false, .int .i64 0, .string ⟨#[]⟩, .bool false, .int .i64 0, .string ⟨#[]⟩]
          have hl2 : w4.heap.size ≤ wx.heap.size := hB.size
          try have hne := Nat.ne_of_lt hG1.lt
          try replace hG1 := hG1.alloc (.cells #[.int .i64 0, .int .i64 0, .bool false, .int .i64 0, .string ⟨#[]⟩, .bool false, .int .i64 0, .string ⟨#[]⟩] 25)
          replace hB := below_alloc (o := .cells #[.int .i64 0, .int .i64 0, .bool false, .int .i64 0, .string ⟨#[]⟩, .bool false, .int .i64 0, .string ⟨#[]⟩] 25) hB
          refine hK _ _ ⟨MK.out _ hB, ?_⟩
          clear hK K
          generalize wx.alloc (.cells #[.int .i64 0, .int .i64 0, .bool false, .int .i64 0, .string ⟨#[]⟩, .bool false, .int .i64 0, .string ⟨#[]⟩] 25) = wx at *
          refine wpAnyL_one (i := 10) (by decide +kernel) ?_
          have of := fun j => hG1.frozen j
          have o0 := hG1.cellAt 0 rfl
          have o1 := hG1.cellAt 1 rfl
          have o2 := hG1.cellAt 2 rfl
          have o3 := hG1.cellAt 3 rfl
          have o4 := hG1.cellAt 4 rfl
          have o5 := hG1.cellAt 5 rfl
          have o6 := hG1.cellAt 6 rfl
          have o7 := hG1.cellAt 7 rfl
          refine wpOp_go (o := _) rfl (fun K hK => ?_)
          go_simp
          clear of o0 o1 o2 o3 o4 o5 o6 o7
          replace hG1 := st8 hG1 (.int .i64 ar) (.int .i64 an) (.bool amn) (.int .i64 ami) (.string amz) (.bool axn) (.int .i64 axi) (.string axz)
          replace hG2 := st8_ne hG2 (Ne.symm hne) (.int .i64 ar) (.int .i64 an) (.bool amn) (.int .i64 ami) (.string amz) (.bool axn) (.int .i64 axi) (.string axz)
          replace hB := st8_below hB hl1 (.int .i64 ar) (.int .i64 an) (.bool amn) (.int .i64 ami) (.string amz) (.bool axn) (.int .i64 axi) (.string axz)
          refine hK _ _ ⟨MK.out _ hB, ?_⟩
          clear hK K
          refine wpAnyL_one (i := 11) (by decide +kernel) ?_
          have of := fun j => hG2.frozen j
          have o0 := hG2.cellAt 0 rfl
          have o1 := hG2.cellAt 1 rfl
          have o2 := hG2.cellAt 2 rfl
          have o3 := hG2.cellAt 3 rfl
          have o4 := hG2.cellAt 4 rfl
          have o5 := hG2.cellAt 5 rfl
          have o6 := hG2.cellAt 6 rfl
          have o7 := hG2.cellAt 7 rfl
          refine wpOp_go (o := _) rfl (fun K hK => ?_)
          go_simp
          clear of o0 o1 o2 o3 o4 o5 o6 o7
          replace hG2 := st8 hG2 (.int .i64 br) (.int .i64 bn) (.bool bmn) (.int .i64 bmi) (.string bmz) (.bool bxn) (.int .i64 bxi) (.string bxz)
          replace hG1 := st8_ne hG1 hne (.int .i64 br) (.int .i64 bn) (.bool bmn) (.int .i64 bmi) (.string bmz) (.bool bxn) (.int .i64 bxi) (.string bxz)
          replace hB := st8_below hB hl2 (.int .i64 br) (.int .i64 bn) (.bool bmn) (.int .i64 bmi) (.string bmz) (.bool bxn) (.int .i64 bxi) (.string bxz)
          refine hK _ _ ⟨MK.out _ hB, ?_⟩
          clear hK K
          refine wpAnyL_done (by decide +kernel) ?_ _
          go_wp2_with fail
          go_meet
          exact ⟨_, _, rfl, rfl, hG1, hG2, hB⟩
        · skip
          refine wpOp_go (o := _) rfl (fun K hK => ?_)
          go_simp
          have hG2 := Blk.new' wx 25 #[.int .i64 0, .int .i64 0, .bool false, .int .i64 0, .string ⟨#[]⟩, .bool false, .int .i64 0, .string ⟨#[]⟩]
          have hl2 : w4.heap.size ≤ wx.heap.size := hB.size
          try have hne := Nat.ne_of_lt hG1.lt
          try replace hG1 := hG1.alloc (.cells #[.int .i64 0, .int .i64 0, .bool false, .int .i64 0, .string ⟨#[]⟩, .bool false, .int .i64 0, .string ⟨#[]⟩] 25)
          replace hB := below_alloc (o := .cells #[.int .i64 0, .int .i64 0, .bool false, .int .i64 0, .string ⟨#[]⟩, .bool false, .int .i64 0, .string ⟨#[]⟩] 25) hB
          refine hK _ _ ⟨MK.out _ hB, ?_⟩
          clear hK K
          generalize wx.alloc (.cells #[.int .i64 0, .int .i64 0, .bool false, .int .i64 0, .string ⟨#[]⟩, .bool false, .int .i64 0, .string ⟨#[]⟩] 25) = wx at *
          refine wpAnyL_one (i := 7) (by decide +kernel) ?_
          refine wpOp_go (o := _) rfl (fun K hK => ?_)
          go_simp
          go_at_call 10
          refine (HCB.out _ hB).mono ?_; rintro e wx ⟨rfl, hbx⟩
          try replace hG1 := hG1.call hbx
          try replace hG2 := hG2.call hbx
          replace hB := bt hB hbx
          refine hK _ _ ⟨MK.out _ hB, ?_⟩
          clear hK K hbx
          refine wpAnyL_one (i := 10) (by decide +kernel) ?_
          have of := fun j => hG1.frozen j
          have o0 := hG1.cellAt 0 rfl
          have o1 := hG1.cellAt 1 rfl
          have o2 := hG1.cellAt 2 rfl
          have o3 := hG1.cellAt 3 rfl
          have o4 := hG1.cellAt 4 rfl
          have o5 := hG1.cellAt 5 rfl
          have o6 := hG1.cellAt 6 rfl
          have o7 := hG1.cellAt 7 rfl
          refine wpOp_go (o := _) rfl (fun K hK => ?_)
          go_simp
          clear of o0 o1 o2 o3 o4 o5 o6 o7
          replace hG1 := st8 hG1 (.int .i64 ar) (.int .i64 an) (.bool amn) (.int .i64 ami) (.string amz) (.bool axn) (.int .i64 axi) (.string axz)
          replace hG2 := st8_ne hG2 (Ne.symm hne) (.int .i64 ar) (.int .i64 an) (.bool amn) (.int .i64 ami) (.string amz) (.bool axn) (.int .i64 axi) (.string axz)
          replace hB := st8_below hB hl1 (.int .i64 ar) (.int .i64 an) (.bool amn) (.int .i64 ami) (.string amz) (.bool axn) (.int .i64 axi) (.string axz)
          refine hK _ _ ⟨MK.out _ hB, ?_⟩
          clear hK K
          refine wpAnyL_one (i := 11) (by decide +kernel) ?_
          have of := fun j => hG2.frozen j
          have o0 := hG2.cellAt 0 rfl
          have o1 := hG2.cellAt 1 rfl
          have o2 := hG2.cellAt 2 rfl
          have o3 := hG2.cellAt 3 rfl
          have o4 := hG2.cellAt 4 rfl
          have o5 := hG2.cellAt 5 rfl
          have o6 := hG2.cellAt 6 rfl
          have o7 := hG2.cellAt 7 rfl
          refine wpOp_go (o := _) rfl (fun K hK => ?_)
          go_simp
          clear of o0 o1 o2 o3 o4 o5 o6 o7
          replace hG2 := st8 hG2 (.int .i64 br) (.int .i64 bn) (.bool bmn) (.int .i64 bmi) (.string bmz) (.bool bxn) (.int .i64 bxi) (.string bxz)
          replace hG1 := st8_ne hG1 hne (.int .i64 br) (.int .i64 bn) (.bool bmn) (.int .i64 bmi) (.string bmz) (.bool bxn) (.int .i64 bxi) (.string bxz)
          replace hB := st8_below hB hl2 (.int .i64 br) (.int .i64 bn) (.bool bmn) (.int .i64 bmi) (.string bmz) (.bool bxn) (.int .i64 bxi) (.string bxz)
          refine hK _ _ ⟨MK.out _ hB, ?_⟩
          clear hK K
          refine wpAnyL_done (by decide +kernel) ?_ _
          go_wp2_with fail
          go_meet
          exact ⟨_, _, rfl, rfl, hG1, hG2, hB⟩
      · skip
        refine wpOp_go (o := _) rfl (fun K hK => ?_)
        go_simp
        have hG2 := Blk.new' wx 25 #[.int .i64 0, .int .i64 0, .bool false, .int .i64 0, .string ⟨#[]⟩, .bool false, .int .i64 0, .string ⟨#[]⟩]
        have hl2 : w4.heap.size ≤ wx.heap.size := hB.size
        try have hne := Nat.ne_of_lt hG1.lt
        try replace hG1 := hG1.alloc (.cells #[.int .i64 0, .int .i64 0, .bool false, .int .i64 0, .string ⟨#[]⟩, .bool false, .int .i64 0, .string ⟨#[]⟩] 25)
        replace hB := below_alloc (o := .cells #[.int .i64 0, .int .i64 0, .bool false, .int .i64 0, .string ⟨#[]⟩, .bool false, .int .i64 0, .string ⟨#[]⟩] 25) hB
        refine hK _ _ ⟨MK.out _ hB, ?_⟩
        clear hK K
        generalize wx.alloc (.cells #[.int .i64 0, .int .i64 0, .bool false, .int .i64 0, .string ⟨#[]⟩, .bool false, .int .i64 0, .string ⟨#[]⟩] 25) = wx at *
        refine wpAnyL_one (i := 3) (by decide +kernel) ?_
        refine wpOp_go (o := _) rfl (fun K hK => ?_)
        go_simp
        go_at_call 10
        refine (HCA.out _ hB).mono ?_; rintro e wx ⟨rfl, hbx⟩
        try replace hG1 := hG1.call hbx
        try replace hG2 := hG2.call hbx
        replace hB := bt hB hbx
        refine hK _ _ ⟨MK.out _ hB, ?_⟩
        clear hK K hbx
        refine wpAnyL_one (i := 7) (by decide +kernel) ?_
        refine wpOp_go (o := _) rfl (fun K hK => ?_)
        go_simp
        go_at_call 10
        refine (HCB.out _ hB).mono ?_; rintro e wx ⟨rfl, hbx⟩
        try replace hG1 := hG1.call hbx
        try replace hG2 := hG2.call hbx
        replace hB := bt hB hbx
        refine hK _ _ ⟨MK.out _ hB, ?_⟩
        clear hK K hbx
        refine wpAnyL_one (i := 10) (by decide +kernel) ?_
        have of := fun j => hG1.frozen j
        have o0 := hG1.cellAt 0 rfl
        have o1 := hG1.cellAt 1 rfl
        have o2 := hG1.cellAt 2 rfl
        have o3 := hG1.cellAt 3 rfl
        have o4 := hG1.cellAt 4 rfl
        have o5 := hG1.cellAt 5 rfl
        have o6 := hG1.cellAt 6 rfl
        have o7 := hG1.cellAt 7 rfl
        refine wpOp_go (o := _) rfl (fun K hK => ?_)
        go_simp
        clear of o0 o1 o2 o3 o4 o5 o6 o7
        replace hG1 := st8 hG1 (.int .i64 ar) (.int .i64 an) (.bool amn) (.int .i64 ami) (.string amz) (.bool axn) (.int .i64 axi) (.string axz)
        replace hG2 := st8_ne hG2 (Ne.symm hne) (.int .i64 ar) (.int .i64 an) (.bool amn) (.int .i64 ami) (.string amz) (.bool axn) (.int .i64 axi) (.string axz)
        replace hB := st8_below hB hl1 (.int .i64 ar) (.int .i64 an) (.bool amn) (.int .i64 ami) (.string amz) (.bool axn) (.int .i64 axi) (.string axz)
        refine hK _ _ ⟨MK.out _ hB, ?_⟩
        clear hK K
        refine wpAnyL_one (i := 11) (by decide +kernel) ?_
        have of := fun j => hG2.frozen j
        have o0 := hG2.cellAt 0 rfl
        have o1 := hG2.cellAt 1 rfl
        have o2 := hG2.cellAt 2 rfl
        have o3 := hG2.cellAt 3 rfl
        have o4 := hG2.cellAt 4 rfl
        have o5 := hG2.cellAt 5 rfl
        have o6 := hG2.cellAt 6 rfl
        have o7 := hG2.cellAt 7 rfl
        refine wpOp_go (o := _) rfl (fun K hK => ?_)
        go_simp
        clear of o0 o1 o2 o3 o4 o5 o6 o7
        replace hG2 := st8 hG2 (.int .i64 br) (.int .i64 bn) (.bool bmn) (.int .i64 bmi) (.string bmz) (.bool bxn) (.int .i64 bxi) (.string bxz)
        replace hG1 := st8_ne hG1 hne (.int .i64 br) (.int .i64 bn) (.bool bmn) (.int .i64 bmi) (.string bmz) (.bool bxn) (.int .i64 bxi) (.string bxz)
        replace hB := st8_below hB hl2 (.int .i64 br) (.int .i64 bn) (.bool bmn) (.int .i64 bmi) (.string bmz) (.bool bxn) (.int .i64 bxi) (.string bxz)
        refine hK _ _ ⟨MK.out _ hB, ?_⟩
        clear hK K
        refine wpAnyL_done (by decide +kernel) ?_ _
        go_wp2_with fail
        go_meet
        exact ⟨_, _, rfl, rfl, hG1, hG2, hB⟩
    · skip
      refine wpOp_go (o := _) rfl (fun K hK => ?_)
      go_simp
      have hG2 := Blk.new' wx 25 #[.int .i64 0, .int .i64 0, .bool false, .int .i64 0, .string ⟨#[]⟩, .bool false, .int .i64 0, .string ⟨#[]⟩]
      have hl2 : w4.heap.size ≤ wx.heap.size := hB.size
      try have hne := Nat.ne_of_lt hG1.lt
      try replace hG1 := hG1.alloc (.cells #[.int .i64 0, .int .i64 0, .bool false, .int .i64 0, .string ⟨#[]⟩, .bool false, .int .i64 0, .string ⟨#[]⟩] 25)
      replace hB := below_alloc (o := .cells #[.int .i64 0, .int .i64 0, .bool false, .int .i64 0, .string ⟨#[]⟩, .bool false, .int .i64 0, .string ⟨#[]⟩] 25) hB
      refine hK _ _ ⟨MK.out _ hB, ?_⟩
      clear hK K
      generalize wx.alloc (.cells #[.int .i64 0, .int .i64 0, .bool false, .int .i64 0, .string ⟨#[]⟩, .bool false, .int .i64 0, .string ⟨#[]⟩] 25) = wx at *
      refine wpAnyL_lst (rs := [3, 8]) (by decide +kernel) ⟨List.cons_ne_nil _ _, ?_⟩
      refine List.forall_mem_cons.2 ⟨?_, List.forall_mem_cons.2 ⟨?_, (fun _ h => absurd h List.not_mem_nil)⟩⟩
      · skip
        refine wpOp_go (o := _) rfl (fun K hK => ?_)
        go_simp
        go_at_call 10
        refine (HCA.out _ hB).mono ?_; rintro e wx ⟨rfl, hbx⟩
        try replace hG1 := hG1.call hbx
        try replace hG2 := hG2.call hbx
        replace hB := bt hB hbx
        refine hK _ _ ⟨MK.out _ hB, ?_⟩
        clear hK K hbx
        refine wpAnyL_lst (rs := [7, 8]) (by decide +kernel) ⟨List.cons_ne_nil _ _, ?_⟩
        refine List.forall_mem_cons.2 ⟨?_, List.forall_mem_cons.2 ⟨?_, (fun _ h => absurd h List.not_mem_nil)⟩⟩
        · skip
          refine wpOp_go (o := _) rfl (fun K hK => ?_)
          go_simp
          go_at_call 10
          refine (HCB.out _ hB).mono ?_; rintro e wx ⟨rfl, hbx⟩
          try replace hG1 := hG1.call hbx
          try replace hG2 := hG2.call hbx
          replace hB := bt hB hbx
          refine hK _ _ ⟨MK.out _ hB, ?_⟩
          clear hK K hbx
          refine wpAnyL_one (i := 8) (by decide +kernel) ?_
          refine wpOp_go (o := _) rfl (fun K hK => ?_)
          go_simp
          have hG1 := Blk.new' wx 25 #[.int .i64 0, .int .i64 0, .bool false, .int .i64 0, .string ⟨#[]⟩, .bool false, .int .i64 0, .string ⟨#[]⟩]
          have hl1 : w4.heap.size ≤ wx.heap.size := hB.size
          try have hne := Ne.symm (Nat.ne_of_lt hG2.lt)
          try replace hG2 := hG2.alloc (.cells #[.int .i64 0, .int .i64 0, .bool false, .int .i64 0, .string ⟨#[]⟩, .bool false, .int .i64 0, .string ⟨#[]⟩] 25)
          replace hB := below_alloc (o := .cells #[.int .i64 0, .int .i64 0, .bool false, .int .i64 0, .string ⟨#[]⟩, .bool false, .int .i64 0, .string ⟨#[]⟩] 25) hB
          refine hK _ _ ⟨MK.out _ hB, ?_⟩
          clear hK K
          generalize wx.alloc (.cells #[.int .i64 0, .int .i64 0, .bool false, .int .i64 0, .string ⟨#[]⟩, .bool false, .int .i64 0, .string ⟨#[]⟩] 25) = wx at *
          refine wpAnyL_one (i := 10) (by decide +kernel) ?_
          have of := fun j => hG1.frozen j
          have o0 := hG1.cellAt 0 rfl
          have o1 := hG1.cellAt 1 rfl
          have o2 := hG1.cellAt 2 rfl
          have o3 := hG1.cellAt 3 rfl
          have o4 := hG1.cellAt 4 rfl
          have o5 := hG1.cellAt 5 rfl
          have o6 := hG1.cellAt 6 rfl
          have o7 := hG1.cellAt 7 rfl
          refine wpOp_go (o := _) rfl (fun K hK => ?_)
          go_simp
          clear of o0 o1 o2 o3 o4 o5 o6 o7
          replace hG1 := st8 hG1 (.int .i64 ar) (.int .i64 an) (.bool amn) (.int .i64 ami) (.string amz) (.bool axn) (.int .i64 axi) (.string axz)
          replace hG2 := st8_ne hG2 (Ne.symm hne) (.int .i64 ar) (.int .i64 an) (.bool amn) (.int .i64 ami) (.string amz) (.bool axn) (.int .i64 axi) (.string axz)
          replace hB := st8_below hB hl1 (.int .i64 ar) (.int .i64 an) (.bool amn) (.int .i64 ami) (.string amz) (.bool axn) (.int .i64 axi) (.string axz)
          refine hK _ _ ⟨MK.out _ hB, ?_⟩
          clear hK K
          refine wpAnyL_one (i := 11) (by decide +kernel) ?_
          have of := fun j => hG2.frozen j
          have o0 := hG2.cellAt 0 rfl
          have o1 := hG2.cellAt 1 rfl
          have o2 := hG2.cellAt 2 rfl
          have o3 := hG2.cellAt 3 rfl
          have o4 := hG2.cellAt 4 rfl
          have o5 := hG2.cellAt 5 rfl
          have o6 := hG2.cellAt 6 rfl
          have o7 := hG2.cellAt 7 rfl
          refine wpOp_go (o := _) rfl (fun K hK => ?_)
          go_simp
          clear of o0 o1 o2 o3 o4 o5 o6 o7
          replace hG2 := st8 hG2 (.int .i64 br) (.int .i64 bn) (.bool bmn) (.int .i64 bmi) (.string bmz) (.bool bxn) (.int .i64 bxi) (.string bxz)
          replace hG1 := st8_ne hG1 hne (.int .i64 br) (.int .i64 bn) (.bool bmn) (.int .i64 bmi) (.string bmz) (.bool bxn) (.int .i64 bxi) (.string bxz)
          replace hB := st8_below hB hl2 (.int .i64 br) (.int .i64 bn) (.bool bmn) (.int .i64 bmi) (.string bmz) (.bool bxn) (.int .i64 bxi) (.string bxz)
          refine hK _ _ ⟨MK.out _ hB, ?_⟩
          clear hK K
          refine wpAnyL_done (by decide +kernel) ?_ _
          go_wp2_with fail
          go_meet
          exact ⟨_, _, rfl, rfl, hG1, hG2, hB⟩
        · skip
          refine wpOp_go (o := _) rfl (fun K hK => ?_)
          go_simp
          have hG1 := Blk.new' wx 25 #[.int .i64 0, .int .i64 0, .bool false, .int .i64 0, .string ⟨#[]⟩, .bool false, .int .i64 0, .string ⟨#[]⟩]
          have hl1 : w4.heap.size ≤ wx.heap.size := hB.size
          try have hne := Ne.symm (Nat.ne_of_lt hG2.lt)
          try replace hG2 := hG2.alloc (.cells #[.int .i64 0, .int .i64 0, .bool false, .int .i64 0, .string ⟨#[]⟩, .bool false, .int .i64 0, .string ⟨#[]⟩] 25)
          replace hB := below_alloc (o := .cells #[.int .i64 0, .int .i64 0, .bool false, .int .i64 0, .string ⟨#[]⟩, .bool false, .int .i64 0, .string ⟨#[]⟩] 25) hB
          refine hK _ _ ⟨MK.out _ hB, ?_⟩
          clear hK K
          generalize wx.alloc (.cells #[.int .i64 0, .int .i64 0, .bool false, .int .i64 0, .string ⟨#[]⟩, .bool false, .int .i64 0, .string ⟨#[]⟩] 25) = wx at *
          refine wpAnyL_one (i := 7) (by decide +kernel) ?_
          refine wpOp_go (o := _) rfl (fun K hK => ?_)
          go_simp
          go_at_call 10
          refine (HCB.out _ hB).mono ?_; rintro e wx ⟨rfl, hbx⟩
          try replace hG1 := hG1.call hbx
          try replace hG2 := hG2.call hbx
          replace hB := bt hB hbx
          refine hK _ _ ⟨MK.out _ hB, ?_⟩
          clear hK K hbx
          refine wpAnyL_one (i := 10) (by decide +kernel) ?_
          have of := fun j => hG1.frozen j
          have o0 := hG1.cellAt 0 rfl
          have o1 := hG1.cellAt 1 rfl
          have o2 := hG1.cellAt 2 rfl
          have o3 := hG1.cellAt 3 rfl
          have o4 := hG1.cellAt 4 rfl
          have o5 := hG1.cellAt 5 rfl
          have o6 := hG1.cellAt 6 rfl
          have o7 := hG1.cellAt 7 rfl
          refine wpOp_go (o := _) rfl (fun K hK => ?_)
          go_simp
          clear of o0 o1 o2 o3 o4 o5 o6 o7
          replace hG1 := st8 hG1 (.int .i64 ar) (.int .i64 an) (.bool amn) (.int .i64 ami) (.string amz) (.bool axn) (.int .i64 axi) (.string axz)
          replace hG2 := st8_ne hG2 (Ne.symm hne) (.int .i64 ar) (.int .i64 an) (.bool amn) (.int .i64 ami) (.string amz) (.bool axn) (.int .i64 axi) (.string axz)
          replace hB := st8_below hB hl1 (.int .i64 ar) (.int .i64 an) (.bool amn) (.int .i64 ami) (.string amz) (.bool axn) (.int .i64 axi) (.string axz)
          refine hK _ _ ⟨MK.out _ hB, ?_⟩
          clear hK K
          refine wpAnyL_one (i := 11) (by decide +kernel) ?_
          have of := fun j => hG2.frozen j
          have o0 := hG2.cellAt 0 rfl
          have o1 := hG2.cellAt 1 rfl
          have o2 := hG2.cellAt 2 rfl
          have o3 := hG2.cellAt 3 rfl
          have o4 := hG2.cellAt 4 rfl
          have o5 := hG2.cellAt 5 rfl
          have o6 := hG2.cellAt 6 rfl
          have o7 := hG2.cellAt 7 rfl
          refine wpOp_go (o := _) rfl (fun K hK => ?_)
          go_simp
          clear of o0 o1 o2 o3 o4 o5 o6 o7
          replace hG2 := st8 hG2 (.int .i64 br) (.int .i64 bn) (.bool bmn) (.int .i64 bmi) (.string bmz) (.bool bxn) (.int .i64 bxi) (.string bxz)
          replace hG1 := st8_ne hG1 hne (.int .i64 br) (.int .i64 bn) (.bool bmn) (.int .i64 bmi) (.string bmz) (.bool bxn) (.int .i64 bxi) (.string bxz)
          replace hB := st8_below hB hl2 (.int .i64 br) (.int .i64 bn) (.bool bmn) (.int .i64 bmi) (.string bmz) (.bool bxn) (.int .i64 bxi) (.string bxz)
          refine hK _ _ ⟨MK.out _ hB, ?_⟩
          clear hK K
          refine wpAnyL_done (by decide +kernel) ?_ _
          go_wp2_with fail
          go_meet
          exact ⟨_, _, rfl, rfl, hG1, hG2, hB⟩
      · skip
        refine wpOp_go (o := _) rfl (fun K hK => ?_)
        go_simp
        have hG1 := Blk.new' wx 25 #[.int .i64 0, .int .i64 0, .bool false, .int .i64 0, .string ⟨#[]⟩, .bool false, .int .i64 0, .string ⟨#[]⟩]
        have hl1 : w4.heap.size ≤ wx.heap.size := hB.size
        try have hne := Ne.symm (Nat.ne_of_lt hG2.lt)
        try replace hG2 := hG2.alloc (.cells #[.int .i64 0, .int .i64 0, .bool false, .int .i64 0, .string ⟨#[]⟩, .bool false, .int .i64 0, .string ⟨#[]⟩] 25)
        replace hB := below_alloc (o := .cells #[.int .i64 0, .int .i64 0, .bool false, .int .i64 0, .string ⟨#[]⟩, .bool false, .int .i64 0, .string ⟨#[]⟩] 25) hB
        refine hK _ _ ⟨MK.out _ hB, ?_⟩
        clear hK K
        generalize wx.alloc (.cells #[.int .i64 0, .int .i64 0, .bool false, .int .i64 0, .string ⟨#[]⟩, .bool false, .int .i64 0, .string ⟨#[]⟩] 25) = wx at *
        refine wpAnyL_one (i := 3) (by decide +kernel) ?_
        refine wpOp_go (o := _) rfl (fun K hK => ?_)
        go_simp
        go_at_call 10
        refine (HCA.out _ hB).mono ?_; rintro e wx ⟨rfl, hbx⟩
        try replace hG1 := hG1.call hbx
        try replace hG2 := hG2.call hbx
        replace hB := bt hB hbx
        refine hK _ _ ⟨MK.out _ hB, ?_⟩
        clear hK K hbx
        refine wpAnyL_one (i := 7) (by decide +kernel) ?_
        refine wpOp_go (o := _) rfl (fun K hK => ?_)
        go_simp
        go_at_call 10
        refine (HCB.out _ hB).mono ?_; rintro e wx ⟨rfl, hbx⟩
        try replace hG1 := hG1.call hbx
        try replace hG2 := hG2.call hbx
        replace hB := bt hB hbx
        refine hK _ _ ⟨MK.out _ hB, ?_⟩
        clear hK K hbx
        refine wpAnyL_one (i := 10) (by decide +kernel) ?_
        have of := fun j => hG1.frozen j
        have o0 := hG1.cellAt 0 rfl
        have o1 := hG1.cellAt 1 rfl
        have o2 := hG1.cellAt 2 rfl
        have o3 := hG1.cellAt 3 rfl
        have o4 := hG1.cellAt 4 rfl
        have o5 := hG1.cellAt 5 rfl
        have o6 := hG1.cellAt 6 rfl
        have o7 := hG1.cellAt 7 rfl
        refine wpOp_go (o := _) rfl (fun K hK => ?_)
        go_simp
        clear of o0 o1 o2 o3 o4 o5 o6 o7
        replace hG1 := st8 hG1 (.int .i64 ar) (.int .i64 an) (.bool amn) (.int .i64 ami) (.string amz) (.bool axn) (.int .i64 axi) (.string axz)
        replace hG2 := st8_ne hG2 (Ne.symm hne) (.int .i64 ar) (.int .i64 an) (.bool amn) (.int .i64 ami) (.string amz) (.bool axn) (.int .i64 axi) (.string axz)
        replace hB := st8_below hB hl1 (.int .i64 ar) (.int .i64 an) (.bool amn) (.int .i64 ami) (.string amz) (.bool axn) (.int .i64 axi) (.string axz)
        refine hK _ _ ⟨MK.out _ hB, ?_⟩
        clear hK K
        refine wpAnyL_one (i := 11) (by decide +kernel) ?_
        have of := fun j => hG2.frozen j
        have o0 := hG2.cellAt 0 rfl
        have o1 := hG2.cellAt 1 rfl
        have o2 := hG2.cellAt 2 rfl
        have o3 := hG2.cellAt 3 rfl
        have o4 := hG2.cellAt 4 rfl
        have o5 := hG2.cellAt 5 rfl
        have o6 := hG2.cellAt 6 rfl
        have o7 := hG2.cellAt 7 rfl
        refine wpOp_go (o := _) rfl (fun K hK => ?_)
        go_simp
        clear of o0 o1 o2 o3 o4 o5 o6 o7
        replace hG2 := st8 hG2 (.int .i64 br) (.int .i64 bn) (.bool bmn) (.int .i64 bmi) (.string bmz) (.bool bxn) (.int .i64 bxi) (.string bxz)
        replace hG1 := st8_ne hG1 hne (.int .i64 br) (.int .i64 bn) (.bool bmn) (.int .i64 bmi) (.string bmz) (.bool bxn) (.int .i64 bxi) (.string bxz)
        replace hB := st8_below hB hl2 (.int .i64 br) (.int .i64 bn) (.bool bmn) (.int .i64 bmi) (.string bmz) (.bool bxn) (.int .i64 bxi) (.string bxz)
        refine hK _ _ ⟨MK.out _ hB, ?_⟩
        clear hK K
        refine wpAnyL_done (by decide +kernel) ?_ _
        go_wp2_with fail
        go_meet
        exact ⟨_, _, rfl, rfl, hG1, hG2, hB⟩
  case rest =>
    obtain ⟨g1, g2, rfl, rfl, hG1, hG2, hB⟩ := hcut
    clear HCA HCB MK c1
    have hx3c := hx3.call hB
    have hx4c := hx4.call hB
    have hCc := hC4.call hB
    have hbc := bt hbb4 hB
    clear hx3 hx4 hC4 hB hbb4
    have hnn : 0 + xs.length + ys.length = (xs ++ ys).length := by simp
    have HJ3 := Lib.hid (zone_join_nil (X := xs ++ ys) (t := 1 + (k : Int)) (fun v hv => by rcases List.mem_append.1 hv with h | h; exact HX.out v h; exact HY.out v h))
    have HRW3 := Lib.hid (zone_law (1 + (k : Int)) (xs ++ ys).length (xs ++ ys))
    have HCD : Hid (∀ (ws : World) (B : Option Addr) (d m : Nat), m = (xs ++ ys).length → Rd ws ws.heap.size B ((xs ++ ys).flatMap valC) → Calls Try.prog 10 #[.int .i64 (1 + (k : Int)), .slice B (m : Nat) d] ws fun e w' => e = .returned (Zv (zoneL (1 + (k : Int)) (xs ++ ys).length (xs ++ ys))) ∧ Below ws.heap.size ws w') := fun ws B d m hm h => by subst hm; exact of_any (1 + (k : Int)) B _ d (xs ++ ys) _ h rfl (by omega)
    have r1 := HRW.out.rows
    have r2 := HRW2.out.rows
    have r3 := HRW3.out.rows
    have n1 := HRW.out.nulls
    have n2 := HRW2.out.nulls
    have n3 := HRW3.out.nulls
    have k1 : xs.countP (fun v => v.null) ≤ xs.length := List.countP_le_length
    have k2 : ys.countP (fun v => v.null) ≤ ys.length := List.countP_le_length
    have k3 : (xs ++ ys).countP (fun v => v.null) ≤ (xs ++ ys).length := List.countP_le_length
    generalize zoneL (1 + (k : Int)) (xs ++ ys).length (xs ++ ys) = zc at *
    obtain ⟨cr, cn, ⟨cmn, cmi, cmz⟩, ⟨cxn, cxi, cxz⟩⟩ := zc
    dsimp only [Zv] at HCD r1 r2 r3 n1 n2 n3
    have HC1 : Hid (∀ ws : World, Calls Try.prog 21 #[.int .i64 (1 + (k : Int)), .agg #[.int .i64 ar, .int .i64 an, .bool amn, .int .i64 ami, .string amz, .bool axn, .int .i64 axi, .string axz], .agg #[.int .i64 br, .int .i64 bn, .bool bmn, .int .i64 bmi, .string bmz, .bool bxn, .int .i64 bxi, .string bxz]] ws fun e w' => e = .returned (.agg #[.int .i64 cr, .int .i64 cn, .bool cmn, .int .i64 cmi, .string cmz, .bool cxn, .int .i64 cxi, .string cxz]) ∧ Below ws.heap.size ws w') := fun ws => by have := join_any (1 + (k : Int)) ⟨ar, an, ⟨amn, ami, amz⟩, ⟨axn, axi, axz⟩⟩ ⟨br, bn, ⟨bmn, bmi, bmz⟩, ⟨bxn, bxi, bxz⟩⟩ ws (by dsimp only; omega) (by dsimp only; omega) (by dsimp only; omega) (by dsimp only; omega); rw [HJ1.out] at this; exact this
    have HC2 : Hid (∀ ws : World, Calls Try.prog 21 #[.int .i64 (1 + (k : Int)), .agg #[.int .i64 br, .int .i64 bn, .bool bmn, .int .i64 bmi, .string bmz, .bool bxn, .int .i64 bxi, .string bxz], .agg #[.int .i64 ar, .int .i64 an, .bool amn, .int .i64 ami, .string amz, .bool axn, .int .i64 axi, .string axz]] ws fun e w' => e = .returned (.agg #[.int .i64 cr, .int .i64 cn, .bool cmn, .int .i64 cmi, .string cmz, .bool cxn, .int .i64 cxi, .string cxz]) ∧ Below ws.heap.size ws w') := fun ws => by have := join_any (1 + (k : Int)) ⟨br, bn, ⟨bmn, bmi, bmz⟩, ⟨bxn, bxi, bxz⟩⟩ ⟨ar, an, ⟨amn, ami, amz⟩, ⟨axn, axi, axz⟩⟩ ws (by dsimp only; omega) (by dsimp only; omega) (by dsimp only; omega) (by dsimp only; omega); rw [HJ2.out] at this; exact this
    have HC3 : Hid (∀ ws : World, Calls Try.prog 21 #[.int .i64 (1 + (k : Int)), .agg #[.int .i64 cr, .int .i64 cn, .bool cmn, .int .i64 cmi, .string cmz, .bool cxn, .int .i64 cxi, .string cxz], .agg #[.int .i64 0, .int .i64 0, .bool true, .int .i64 0, .string ⟨#[]⟩, .bool true, .int .i64 0, .string ⟨#[]⟩]] ws fun e w' => e = .returned (.agg #[.int .i64 cr, .int .i64 cn, .bool cmn, .int .i64 cmi, .string cmz, .bool cxn, .int .i64 cxi, .string cxz]) ∧ Below ws.heap.size ws w') := fun ws => by have := join_any (1 + (k : Int)) ⟨cr, cn, ⟨cmn, cmi, cmz⟩, ⟨cxn, cxi, cxz⟩⟩ (zoneL (1 + (k : Int)) (0 : Nat) []) ws (by dsimp only; simp at r3 k3; omega) ⟨Int.le_refl 0, by show (0 : Int) ≤ 1000000; omega⟩ (by dsimp only; simp at n3 k3; omega) ⟨Int.le_refl 0, by show (0 : Int) ≤ 1000000; omega⟩; rw [HJ3.out] at this; exact this
    have HC4 : Hid (∀ ws : World, Calls Try.prog 15 #[.int .i64 (1 + (k : Int)), .slice none 0 0] ws fun e w' => e = .returned (.agg #[.int .i64 0, .int .i64 0, .bool true, .int .i64 0, .string ⟨#[]⟩, .bool true, .int .i64 0, .string ⟨#[]⟩]) ∧ Below ws.heap.size ws w') := fun ws => rzone_any (1 + (k : Int)) none 0 0 [] ws (.inl rfl) rfl (by omega)
    clear HJ1 HJ2 HJ3 HRW HRW2 HRW3 HX HY r1 r2 r3 n1 n2 n3 k1 k2 k3 hnn
    have c1 := hCc.cellAt 1 rfl
    go_upto_region 4 with fail
    go_cut [12] (fun p wy => ∃ g3, p = .pointer (some ⟨g3, 0, none⟩) ∧ Blk wy g3 25 [.int .i64 cr, .int .i64 cn, .bool cmn, .int .i64 cmi, .string cmz, .bool cxn, .int .i64 cxi, .string cxz] ∧ Below wc.heap.size wc wy)
    case first =>
      clear c1 HC1 HC2 HC3 HC4
      have MK : Hid (∀ w', Below wc.heap.size wc w' → (Below wc.heap.size wc w' ∧ w'.cell? ⟨gc, 1, none⟩ = some (.int .i64 (1 + (k : Int))))) := fun w' h => ⟨h, (hCc.call h).cellAt 1 rfl⟩
      have hB : Below wc.heap.size wc wc.drew := Below.drew (Below.refl _ _)
      refine wp_region_L (fun _ w' => Below wc.heap.size wc w' ∧ w'.cell? ⟨gc, 1, none⟩ = some (.int .i64 (1 + (k : Int)))) (by kernel_rfl) ?_
      generalize wc.drew = wx at *
      have HS := Lib.hid (MK.out _ hB)
      refine wpAnyL_takeD (fun _ => True) (i := 0) (v := (.pointer (some ⟨gc, 1, none⟩))) (some 29) rfl rfl (by kernel_rfl) (by kernel_rfl) (by kernel_rfl) (fun _ _ _ h => h) (fun _ _ _ _ _ _ => trivial) (fun _ _ _ => Iff.rfl) trivial (Or.inl ⟨by rfl, fun w' hw' => by obtain ⟨l, _, hl⟩ := hw'; obtain ⟨_, hv0⟩ := hl; go_simp⟩) HS.out ?_
      simp only [Act.put, List.setIfInBounds_toArray, List.set_cons_zero, List.set_cons_succ]
      refine wpAnyL_takeD (fun _ => True) (i := 1) (v := (.int .i64 (1 + (k : Int)))) (some 30) rfl rfl (by kernel_rfl) (by kernel_rfl) (by kernel_rfl) (fun _ _ _ h => h) (fun _ _ _ _ _ _ => trivial) (fun _ _ _ => Iff.rfl) trivial (Or.inl ⟨by rfl, fun w' hw' => by obtain ⟨l, _, hl⟩ := hw'; obtain ⟨_, hv0⟩ := hl; go_simp⟩) HS.out ?_
      simp only [Act.put, List.setIfInBounds_toArray, List.set_cons_zero, List.set_cons_succ]
      refine wpAnyL_takeD (fun _ => True) (i := 2) (v := (.slice B3 xs.length d3)) (some 31) rfl rfl (by kernel_rfl) (by kernel_rfl) (by kernel_rfl) (fun _ _ _ h => h) (fun _ _ _ _ _ _ => trivial) (fun _ _ _ => Iff.rfl) trivial (Or.inl ⟨by rfl, fun w' hw' => by obtain ⟨l, _, hl⟩ := hw'; obtain ⟨_, hv0⟩ := hl; go_simp⟩) HS.out ?_
      simp only [Act.put, List.setIfInBounds_toArray, List.set_cons_zero, List.set_cons_succ]
      refine wpAnyL_takeD (fun _ => True) (i := 4) (v := (.slice B4 ys.length d4)) (some 33) rfl rfl (by kernel_rfl) (by kernel_rfl) (by kernel_rfl) (fun _ _ _ h => h) (fun _ _ _ _ _ _ => trivial) (fun _ _ _ => Iff.rfl) trivial (Or.inl ⟨by rfl, fun w' hw' => by obtain ⟨l, _, hl⟩ := hw'; obtain ⟨_, hv0⟩ := hl; go_simp⟩) HS.out ?_
      simp only [Act.put, List.setIfInBounds_toArray, List.set_cons_zero, List.set_cons_succ]
      clear HS
      refine wpAnyL_lst (rs := [3, 7]) (by decide +kernel) ⟨List.cons_ne_nil _ _, ?_⟩
      refine List.forall_mem_cons.2 ⟨?_, List.forall_mem_cons.2 ⟨?_, (fun _ h => absurd h List.not_mem_nil)⟩⟩
      · skip
        refine wpOp_go (o := _) rfl (fun K hK => ?_)
        try have hG30 := hG3
        refine step_list2 (Own.nil wx 23 3) vls rfl (by decide) (A := B3) (m := xs.length) (c := d3) (news := xs.flatMap valC) (hx3c.call hB) (flat3 xs) (one_vls xs) (by omega) (by unfold maxLen; omega) rfl _ _ rfl rfl rfl ?_
        intro v5 wx hO hg
        try replace hG3 := Blk.grownR hG3 hg (fun k h => by cases h)
        try have hne5 := ne_own hO hG30
        have hB0 := hB
        replace hB := bt hB hO.2
        refine hK _ _ ⟨MK.out _ hB, ?_⟩
        clear hK K hg
        refine wpAnyL_lst (rs := [5, 7]) (by decide +kernel) ⟨List.cons_ne_nil _ _, ?_⟩
        refine List.forall_mem_cons.2 ⟨?_, List.forall_mem_cons.2 ⟨?_, (fun _ h => absurd h List.not_mem_nil)⟩⟩
        · skip
          refine wpOp_go (o := _) rfl (fun K hK => ?_)
          refine step_list2 hO vls rfl (by decide) (A := B4) (m := ys.length) (c := d4) (news := ys.flatMap valC) (hx4c.call hB) (flat3 ys) (one_vls ys) (by omega) (by unfold maxLen; omega) rfl _ _ rfl rfl rfl ?_
          clear hO
          intro v6 wx hO hg
          try replace hG3 := Blk.grownR hG3 hg hne5
          replace hB := bt hB0 hO.2
          refine hK _ _ ⟨MK.out _ hB, ?_⟩
          clear hK K hg
          refine wpAnyL_lst (rs := [6, 7]) (by decide +kernel) ⟨List.cons_ne_nil _ _, ?_⟩
          refine List.forall_mem_cons.2 ⟨?_, List.forall_mem_cons.2 ⟨?_, (fun _ h => absurd h List.not_mem_nil)⟩⟩
          · skip
            obtain ⟨B6, d6, rfl, hd6⟩ := own_form hO.1
            have hx6 : Rd wx wx.heap.size B6 ((xs ++ ys).flatMap valC) := by have := Rd.of_own hO.1; rw [List.flatMap_append]; simpa using this
            refine wpOp_go (o := _) rfl (fun K hK => ?_)
            go_simp
            go_at_call 10
            refine (HCD.out _ _ _ _ (by simp) hx6).mono ?_; rintro e wx ⟨rfl, hbx⟩
            try replace hG3 := hG3.call hbx
            replace hB := bt hB hbx
            clear hO hx6
            refine hK _ _ ⟨MK.out _ hB, ?_⟩
            clear hK K hbx
            refine wpAnyL_one (i := 7) (by decide +kernel) ?_
            refine wpOp_go (o := _) rfl (fun K hK => ?_)
            go_simp
            have hG3 := Blk.new' wx 25 #[.int .i64 0, .int .i64 0, .bool false, .int .i64 0, .string ⟨#[]⟩, .bool false, .int .i64 0, .string ⟨#[]⟩]
            have hl3 : wc.heap.size ≤ wx.heap.size := hB.size
            try have hne5 := ne_own2 hO
            try replace hO := hO.alloc (.cells #[.int .i64 0, .int .i64 0, .bool false, .int .i64 0, .string ⟨#[]⟩, .bool false, .int .i64 0, .string ⟨#[]⟩] 25)
            replace hB := below_alloc (o := .cells #[.int .i64 0, .int .i64 0, .bool false, .int .i64 0, .string ⟨#[]⟩, .bool false, .int .i64 0, .string ⟨#[]⟩] 25) hB
            refine hK _ _ ⟨MK.out _ hB, ?_⟩
            clear hK K
            generalize wx.alloc (.cells #[.int .i64 0, .int .i64 0, .bool false, .int .i64 0, .string ⟨#[]⟩, .bool false, .int .i64 0, .string ⟨#[]⟩] 25) = wx at *
            refine wpAnyL_one (i := 8) (by decide +kernel) ?_
            have of := fun j => hG3.frozen j
            have o0 := hG3.cellAt 0 rfl
            have o1 := hG3.cellAt 1 rfl
            have o2 := hG3.cellAt 2 rfl
            have o3 := hG3.cellAt 3 rfl
            have o4 := hG3.cellAt 4 rfl
            have o5 := hG3.cellAt 5 rfl
            have o6 := hG3.cellAt 6 rfl
            have o7 := hG3.cellAt 7 rfl
            refine wpOp_go (o := _) rfl (fun K hK => ?_)
            go_simp
            clear of o0 o1 o2 o3 o4 o5 o6 o7
            replace hG3 := st8 hG3 (.int .i64 cr) (.int .i64 cn) (.bool cmn) (.int .i64 cmi) (.string cmz) (.bool cxn) (.int .i64 cxi) (.string cxz)
            replace hB := st8_below hB hl3 (.int .i64 cr) (.int .i64 cn) (.bool cmn) (.int .i64 cmi) (.string cmz) (.bool cxn) (.int .i64 cxi) (.string cxz)
            refine hK _ _ ⟨MK.out _ hB, ?_⟩
            clear hK K
            refine wpAnyL_done (by decide +kernel) ?_ _
            go_wp2_with fail
            go_meet
            exact ⟨_, rfl, hG3, hB⟩
          · skip
            refine wpOp_go (o := _) rfl (fun K hK => ?_)
            go_simp
            have hG3 := Blk.new' wx 25 #[.int .i64 0, .int .i64 0, .bool false, .int .i64 0, .string ⟨#[]⟩, .bool false, .int .i64 0, .string ⟨#[]⟩]
            have hl3 : wc.heap.size ≤ wx.heap.size := hB.size
            try have hne5 := ne_own2 hO
            try replace hO := hO.alloc (.cells #[.int .i64 0, .int .i64 0, .bool false, .int .i64 0, .string ⟨#[]⟩, .bool false, .int .i64 0, .string ⟨#[]⟩] 25)
            replace hB := below_alloc (o := .cells #[.int .i64 0, .int .i64 0, .bool false, .int .i64 0, .string ⟨#[]⟩, .bool false, .int .i64 0, .string ⟨#[]⟩] 25) hB
            refine hK _ _ ⟨MK.out _ hB, ?_⟩
            clear hK K
            generalize wx.alloc (.cells #[.int .i64 0, .int .i64 0, .bool false, .int .i64 0, .string ⟨#[]⟩, .bool false, .int .i64 0, .string ⟨#[]⟩] 25) = wx at *
            refine wpAnyL_one (i := 6) (by decide +kernel) ?_
            obtain ⟨B6, d6, rfl, hd6⟩ := own_form hO.1
            have hx6 : Rd wx wx.heap.size B6 ((xs ++ ys).flatMap valC) := by have := Rd.of_own hO.1; rw [List.flatMap_append]; simpa using this
            refine wpOp_go (o := _) rfl (fun K hK => ?_)
            go_simp
            go_at_call 10
            refine (HCD.out _ _ _ _ (by simp) hx6).mono ?_; rintro e wx ⟨rfl, hbx⟩
            try replace hG3 := hG3.call hbx
            replace hB := bt hB hbx
            clear hO hx6
            refine hK _ _ ⟨MK.out _ hB, ?_⟩
            clear hK K hbx
            refine wpAnyL_one (i := 8) (by decide +kernel) ?_
            have of := fun j => hG3.frozen j
            have o0 := hG3.cellAt 0 rfl
            have o1 := hG3.cellAt 1 rfl
            have o2 := hG3.cellAt 2 rfl
            have o3 := hG3.cellAt 3 rfl
            have o4 := hG3.cellAt 4 rfl
            have o5 := hG3.cellAt 5 rfl
            have o6 := hG3.cellAt 6 rfl
            have o7 := hG3.cellAt 7 rfl
            refine wpOp_go (o := _) rfl (fun K hK => ?_)
            go_simp
            clear of o0 o1 o2 o3 o4 o5 o6 o7
            replace hG3 := st8 hG3 (.int .i64 cr) (.int .i64 cn) (.bool cmn) (.int .i64 cmi) (.string cmz) (.bool cxn) (.int .i64 cxi) (.string cxz)
            replace hB := st8_below hB hl3 (.int .i64 cr) (.int .i64 cn) (.bool cmn) (.int .i64 cmi) (.string cmz) (.bool cxn) (.int .i64 cxi) (.string cxz)
            refine hK _ _ ⟨MK.out _ hB, ?_⟩
            clear hK K
            refine wpAnyL_done (by decide +kernel) ?_ _
            go_wp2_with fail
            go_meet
            exact ⟨_, rfl, hG3, hB⟩
        · skip
          refine wpOp_go (o := _) rfl (fun K hK => ?_)
          go_simp
          have hG3 := Blk.new' wx 25 #[.int .i64 0, .int .i64 0, .bool false, .int .i64 0, .string ⟨#[]⟩, .bool false, .int .i64 0, .string ⟨#[]⟩]
          have hl3 : wc.heap.size ≤ wx.heap.size := hB.size
          try have hne5 := ne_own2 hO
          try replace hO := hO.alloc (.cells #[.int .i64 0, .int .i64 0, .bool false, .int .i64 0, .string ⟨#[]⟩, .bool false, .int .i64 0, .string ⟨#[]⟩] 25)
          replace hB := below_alloc (o := .cells #[.int .i64 0, .int .i64 0, .bool false, .int .i64 0, .string ⟨#[]⟩, .bool false, .int .i64 0, .string ⟨#[]⟩] 25) hB
          refine hK _ _ ⟨MK.out _ hB, ?_⟩
          clear hK K
          generalize wx.alloc (.cells #[.int .i64 0, .int .i64 0, .bool false, .int .i64 0, .string ⟨#[]⟩, .bool false, .int .i64 0, .string ⟨#[]⟩] 25) = wx at *
          refine wpAnyL_one (i := 5) (by decide +kernel) ?_
          refine wpOp_go (o := _) rfl (fun K hK => ?_)
          refine step_list2 hO vls rfl (by decide) (A := B4) (m := ys.length) (c := d4) (news := ys.flatMap valC) (hx4c.call hB) (flat3 ys) (one_vls ys) (by omega) (by unfold maxLen; omega) rfl _ _ rfl rfl rfl ?_
          clear hO
          intro v6 wx hO hg
          try replace hG3 := Blk.grownR hG3 hg hne5
          replace hB := bt hB0 hO.2
          refine hK _ _ ⟨MK.out _ hB, ?_⟩
          clear hK K hg
          refine wpAnyL_one (i := 6) (by decide +kernel) ?_
          obtain ⟨B6, d6, rfl, hd6⟩ := own_form hO.1
          have hx6 : Rd wx wx.heap.size B6 ((xs ++ ys).flatMap valC) := by have := Rd.of_own hO.1; rw [List.flatMap_append]; simpa using this
          refine wpOp_go (o := _) rfl (fun K hK => ?_)
          go_simp
          go_at_call 10
          refine (HCD.out _ _ _ _ (by simp) hx6).mono ?_; rintro e wx ⟨rfl, hbx⟩
          try replace hG3 := hG3.call hbx
          replace hB := bt hB hbx
          clear hO hx6
          refine hK _ _ ⟨MK.out _ hB, ?_⟩
          clear hK K hbx
          refine wpAnyL_one (i := 8) (by decide +kernel) ?_
          have of := fun j => hG3.frozen j
          have o0 := hG3.cellAt 0 rfl
          have o1 := hG3.cellAt 1 rfl
          have o2 := hG3.cellAt 2 rfl
          have o3 := hG3.cellAt 3 rfl
          have o4 := hG3.cellAt 4 rfl
          have o5 := hG3.cellAt 5 rfl
          have o6 := hG3.cellAt 6 rfl
          have o7 := hG3.cellAt 7 rfl
          refine wpOp_go (o := _) rfl (fun K hK => ?_)
          go_simp
          clear of o0 o1 o2 o3 o4 o5 o6 o7
          replace hG3 := st8 hG3 (.int .i64 cr) (.int .i64 cn) (.bool cmn) (.int .i64 cmi) (.string cmz) (.bool cxn) (.int .i64 cxi) (.string cxz)
          replace hB := st8_below hB hl3 (.int .i64 cr) (.int .i64 cn) (.bool cmn) (.int .i64 cmi) (.string cmz) (.bool cxn) (.int .i64 cxi) (.string cxz)
          refine hK _ _ ⟨MK.out _ hB, ?_⟩
          clear hK K
          refine wpAnyL_done (by decide +kernel) ?_ _
          go_wp2_with fail
          go_meet
          exact ⟨_, rfl, hG3, hB⟩
      · skip
        refine wpOp_go (o := _) rfl (fun K hK => ?_)
        go_simp
        have hG3 := Blk.new' wx 25 #[.int .i64 0, .int .i64 0, .bool false, .int .i64 0, .string ⟨#[]⟩, .bool false, .int .i64 0, .string ⟨#[]⟩]
        have hl3 : wc.heap.size ≤ wx.heap.size := hB.size
        try have hne5 := ne_own2 hO
        try replace hO := hO.alloc (.cells #[.int .i64 0, .int .i64 0, .bool false, .int .i64 0, .string ⟨#[]⟩, .bool false, .int .i64 0, .string ⟨#[]⟩] 25)
        replace hB := below_alloc (o := .cells #[.int .i64 0, .int .i64 0, .bool false, .int .i64 0, .string ⟨#[]⟩, .bool false, .int .i64 0, .string ⟨#[]⟩] 25) hB
        refine hK _ _ ⟨MK.out _ hB, ?_⟩
        clear hK K
        generalize wx.alloc (.cells #[.int .i64 0, .int .i64 0, .bool false, .int .i64 0, .string ⟨#[]⟩, .bool false, .int .i64 0, .string ⟨#[]⟩] 25) = wx at *
        refine wpAnyL_one (i := 3) (by decide +kernel) ?_
        refine wpOp_go (o := _) rfl (fun K hK => ?_)
        try have hG30 := hG3
        refine step_list2 (Own.nil wx 23 3) vls rfl (by decide) (A := B3) (m := xs.length) (c := d3) (news := xs.flatMap valC) (hx3c.call hB) (flat3 xs) (one_vls xs) (by omega) (by unfold maxLen; omega) rfl _ _ rfl rfl rfl ?_
        intro v5 wx hO hg
        try replace hG3 := Blk.grownR hG3 hg (fun k h => by cases h)
        try have hne5 := ne_own hO hG30
        have hB0 := hB
        replace hB := bt hB hO.2
        refine hK _ _ ⟨MK.out _ hB, ?_⟩
        clear hK K hg
        refine wpAnyL_one (i := 5) (by decide +kernel) ?_
        refine wpOp_go (o := _) rfl (fun K hK => ?_)
        refine step_list2 hO vls rfl (by decide) (A := B4) (m := ys.length) (c := d4) (news := ys.flatMap valC) (hx4c.call hB) (flat3 ys) (one_vls ys) (by omega) (by unfold maxLen; omega) rfl _ _ rfl rfl rfl ?_
        clear hO
        intro v6 wx hO hg
        try replace hG3 := Blk.grownR hG3 hg hne5
        replace hB := bt hB0 hO.2
        refine hK _ _ ⟨MK.out _ hB, ?_⟩
        clear hK K hg
        refine wpAnyL_one (i := 6) (by decide +kernel) ?_
        obtain ⟨B6, d6, rfl, hd6⟩ := own_form hO.1
        have hx6 : Rd wx wx.heap.size B6 ((xs ++ ys).flatMap valC) := by have := Rd.of_own hO.1; rw [List.flatMap_append]; simpa using this
        refine wpOp_go (o := _) rfl (fun K hK => ?_)
        go_simp
        go_at_call 10
        refine (HCD.out _ _ _ _ (by simp) hx6).mono ?_; rintro e wx ⟨rfl, hbx⟩
        try replace hG3 := hG3.call hbx
        replace hB := bt hB hbx
        clear hO hx6
        refine hK _ _ ⟨MK.out _ hB, ?_⟩
        clear hK K hbx
        refine wpAnyL_one (i := 8) (by decide +kernel) ?_
        have of := fun j => hG3.frozen j
        have o0 := hG3.cellAt 0 rfl
        have o1 := hG3.cellAt 1 rfl
        have o2 := hG3.cellAt 2 rfl
        have o3 := hG3.cellAt 3 rfl
        have o4 := hG3.cellAt 4 rfl
        have o5 := hG3.cellAt 5 rfl
        have o6 := hG3.cellAt 6 rfl
        have o7 := hG3.cellAt 7 rfl
        refine wpOp_go (o := _) rfl (fun K hK => ?_)
        go_simp
        clear of o0 o1 o2 o3 o4 o5 o6 o7
        replace hG3 := st8 hG3 (.int .i64 cr) (.int .i64 cn) (.bool cmn) (.int .i64 cmi) (.string cmz) (.bool cxn) (.int .i64 cxi) (.string cxz)
        replace hB := st8_below hB hl3 (.int .i64 cr) (.int .i64 cn) (.bool cmn) (.int .i64 cmi) (.string cmz) (.bool cxn) (.int .i64 cxi) (.string cxz)
        refine hK _ _ ⟨MK.out _ hB, ?_⟩
        clear hK K
        refine wpAnyL_done (by decide +kernel) ?_ _
        go_wp2_with fail
        go_meet
        exact ⟨_, rfl, hG3, hB⟩
    case rest =>
      obtain ⟨g3, rfl, hG3, hB⟩ := hcut
      clear HCD
      have hG1d := hG1.call hB
      have hG2d := hG2.call hB
      have hCd := hCc.call hB
      have hbd := bt hbc hB
      clear hG1 hG2 hCc hB hbc hx3c hx4c c1
      go_upto_region 5 with fail
      have MK : Hid (∀ w', Below wc.heap.size wc w' → (Below wc.heap.size wc w' ∧ w'.cell? ⟨gc, 1, none⟩ = some (.int .i64 (1 + (k : Int))) ∧ w'.cell? ⟨g1, 0, none⟩ = some (.int .i64 ar) ∧ w'.cell? ⟨g1, 1, none⟩ = some (.int .i64 an) ∧ w'.cell? ⟨g1, 2, none⟩ = some (.bool amn) ∧ w'.cell? ⟨g1, 3, none⟩ = some (.int .i64 ami) ∧ w'.cell? ⟨g1, 4, none⟩ = some (.string amz) ∧ w'.cell? ⟨g1, 5, none⟩ = some (.bool axn) ∧ w'.cell? ⟨g1, 6, none⟩ = some (.int .i64 axi) ∧ w'.cell? ⟨g1, 7, none⟩ = some (.string axz) ∧ w'.cell? ⟨g2, 0, none⟩ = some (.int .i64 br) ∧ w'.cell? ⟨g2, 1, none⟩ = some (.int .i64 bn) ∧ w'.cell? ⟨g2, 2, none⟩ = some (.bool bmn) ∧ w'.cell? ⟨g2, 3, none⟩ = some (.int .i64 bmi) ∧ w'.cell? ⟨g2, 4, none⟩ = some (.string bmz) ∧ w'.cell? ⟨g2, 5, none⟩ = some (.bool bxn) ∧ w'.cell? ⟨g2, 6, none⟩ = some (.int .i64 bxi) ∧ w'.cell? ⟨g2, 7, none⟩ = some (.string bxz) ∧ w'.cell? ⟨g3, 0, none⟩ = some (.int .i64 cr) ∧ w'.cell? ⟨g3, 1, none⟩ = some (.int .i64 cn) ∧ w'.cell? ⟨g3, 2, none⟩ = some (.bool cmn) ∧ w'.cell? ⟨g3, 3, none⟩ = some (.int .i64 cmi) ∧ w'.cell? ⟨g3, 4, none⟩ = some (.string cmz) ∧ w'.cell? ⟨g3, 5, none⟩ = some (.bool cxn) ∧ w'.cell? ⟨g3, 6, none⟩ = some (.int .i64 cxi) ∧ w'.cell? ⟨g3, 7, none⟩ = some (.string cxz))) := fun w' h => ⟨h, (hCd.call h).cellAt 1 rfl, (hG1d.call h).cellAt 0 rfl, (hG1d.call h).cellAt 1 rfl, (hG1d.call h).cellAt 2 rfl, (hG1d.call h).cellAt 3 rfl, (hG1d.call h).cellAt 4 rfl, (hG1d.call h).cellAt 5 rfl, (hG1d.call h).cellAt 6 rfl, (hG1d.call h).cellAt 7 rfl, (hG2d.call h).cellAt 0 rfl, (hG2d.call h).cellAt 1 rfl, (hG2d.call h).cellAt 2 rfl, (hG2d.call h).cellAt 3 rfl, (hG2d.call h).cellAt 4 rfl, (hG2d.call h).cellAt 5 rfl, (hG2d.call h).cellAt 6 rfl, (hG2d.call h).cellAt 7 rfl, (hG3.call h).cellAt 0 rfl, (hG3.call h).cellAt 1 rfl, (hG3.call h).cellAt 2 rfl, (hG3.call h).cellAt 3 rfl, (hG3.call h).cellAt 4 rfl, (hG3.call h).cellAt 5 rfl, (hG3.call h).cellAt 6 rfl, (hG3.call h).cellAt 7 rfl⟩
      go_region_held3 (fun w' => Below wc.heap.size wc w' ∧ w'.cell? ⟨gc, 1, none⟩ = some (.int .i64 (1 + (k : Int))) ∧ w'.cell? ⟨g1, 0, none⟩ = some (.int .i64 ar) ∧ w'.cell? ⟨g1, 1, none⟩ = some (.int .i64 an) ∧ w'.cell? ⟨g1, 2, none⟩ = some (.bool amn) ∧ w'.cell? ⟨g1, 3, none⟩ = some (.int .i64 ami) ∧ w'.cell? ⟨g1, 4, none⟩ = some (.string amz) ∧ w'.cell? ⟨g1, 5, none⟩ = some (.bool axn) ∧ w'.cell? ⟨g1, 6, none⟩ = some (.int .i64 axi) ∧ w'.cell? ⟨g1, 7, none⟩ = some (.string axz) ∧ w'.cell? ⟨g2, 0, none⟩ = some (.int .i64 br) ∧ w'.cell? ⟨g2, 1, none⟩ = some (.int .i64 bn) ∧ w'.cell? ⟨g2, 2, none⟩ = some (.bool bmn) ∧ w'.cell? ⟨g2, 3, none⟩ = some (.int .i64 bmi) ∧ w'.cell? ⟨g2, 4, none⟩ = some (.string bmz) ∧ w'.cell? ⟨g2, 5, none⟩ = some (.bool bxn) ∧ w'.cell? ⟨g2, 6, none⟩ = some (.int .i64 bxi) ∧ w'.cell? ⟨g2, 7, none⟩ = some (.string bxz) ∧ w'.cell? ⟨g3, 0, none⟩ = some (.int .i64 cr) ∧ w'.cell? ⟨g3, 1, none⟩ = some (.int .i64 cn) ∧ w'.cell? ⟨g3, 2, none⟩ = some (.bool cmn) ∧ w'.cell? ⟨g3, 3, none⟩ = some (.int .i64 cmi) ∧ w'.cell? ⟨g3, 4, none⟩ = some (.string cmz) ∧ w'.cell? ⟨g3, 5, none⟩ = some (.bool cxn) ∧ w'.cell? ⟨g3, 6, none⟩ = some (.int .i64 cxi) ∧ w'.cell? ⟨g3, 7, none⟩ = some (.string cxz)) (first | with_reducible assumption | with_reducible exact MK.out _ hbx | exact MK.out _ (Below.refl _ _) | exact MK.out _ ⟨rfl, rfl, rfl, Nat.le_refl _, fun _ _ => rfl⟩) (first | (go_at_call 14; refine (awake14 _).mono ?_; rintro e w5 ⟨rfl, hb5⟩; have hbx := bt (‹Below wc.heap.size wc _ ∧ _›).1 hb5) | (go_at_call 15; refine (HC4.out _).mono ?_; rintro e w5 ⟨rfl, hb5⟩; have hbx := bt (‹Below wc.heap.size wc _ ∧ _›).1 hb5; have hZ := hbx) | (go_at_call 21; have hq := hZ; refine (HC3.out _).mono ?_; rintro e w5 ⟨rfl, hb5⟩; have hbx := bt (‹Below wc.heap.size wc _ ∧ _›).1 hb5) | (go_at_call 21; have hq := hJ; refine (HC2.out _).mono ?_; rintro e w5 ⟨rfl, hb5⟩; have hbx := bt (‹Below wc.heap.size wc _ ∧ _›).1 hb5) | (go_at_call 21; refine (HC1.out _).mono ?_; rintro e w5 ⟨rfl, hb5⟩; have hbx := bt (‹Below wc.heap.size wc _ ∧ _›).1 hb5; have hJ := hbx))
      have hbz := bt hbd hbx
      clear MK HC1 HC2 HC3 HC4
      go_wp2
      go_ret
      exact ⟨ret_bool (by first | rfl | (simp; done)), hbz⟩

end Go.Proofs.Ytnichmblekbccaa
